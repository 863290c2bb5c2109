/- Whether any day is a date, and how many days any month has, is what the document's answer tells: the law DateMays returns true for every input; no condition of its own. -/
import Derived.Test.YtbechikaaiinlaaPDateMaysx4
namespace Go.Proofs.Ytbechikaaiinlaa.Pure
open Go.RowKit Go.Proofs.Ytbechikaaiinlaa.PDateMays Go.Proofs.YtbechikaaiinlaaW.PrintWords Go.Proofs.YtbechikaaiinlaaW.PrintLast Go.Proofs.YtbechikaaiinlaaW.PrintMore
set_option linter.unusedVariables false
set_option linter.unusedSimpArgs false

theorem w64 (x : Int) (h0 : -9223372036854775808 ≤ x) (h1 : x ≤ 9223372036854775807) : wrap64 x = x := by
  unfold wrap64
  omega
def lp (y : Int) : Prop := y % 4 = 0 ∧ y % 100 ≠ 0 ∨ y % 400 = 0
instance (y : Int) : Decidable (lp y) := by unfold lp; infer_instance
/-- How many days a month has. -/
def dim (y m : Int) : Int := if y < 1900 ∨ 2199 < y ∨ m < 1 ∨ 12 < m then 0 else if m = 2 then (if lp y then 29 else 28) else if m = 4 ∨ m = 6 ∨ m = 9 ∨ m = 11 then 30 else 31
theorem dim_out (y m : Int) (h : y < 1900 ∨ 2199 < y ∨ m < 1 ∨ 12 < m) : dim y m = 0 := by unfold dim; rw [if_pos h]
theorem dim_in (y m : Int) (h : ¬ (y < 1900 ∨ 2199 < y ∨ m < 1 ∨ 12 < m)) : dim y m = if m = 2 then (if lp y then 29 else 28) else if m = 4 ∨ m = 6 ∨ m = 9 ∨ m = 11 then 30 else 31 := by unfold dim; rw [if_neg h]
theorem leap_f (y : Int) (h : 0 ≤ y) : date_leap.f y = some (decide (lp y)) := by
  unfold date_leap.f lp
  rw [Int.tmod_eq_emod_of_nonneg h, Int.tmod_eq_emod_of_nonneg h, Int.tmod_eq_emod_of_nonneg h]
  by_cases h1 : y % 4 = 0
  · rw [if_pos h1]
    by_cases h2 : y % 100 = 0
    · rw [if_pos h2]; simp [h1, h2]; rw [Bool.eq_iff_iff]; simp
    · rw [if_neg h2]; simp [h1, h2]
  · rw [if_neg h1]; simp [h1]; rw [Bool.eq_iff_iff]; simp
theorem days_f (y m : Int) : date_Days.f y m = some (dim y m) := by
  unfold date_Days.f
  by_cases h1 : y < 1900
  · rw [if_pos h1, dim_out y m (.inl h1)]
  rw [if_neg h1]
  by_cases h2 : y > 2199
  · rw [if_pos h2, dim_out y m (by omega)]
  rw [if_neg h2]
  by_cases h3 : m < 1
  · rw [if_pos h3, dim_out y m (by omega)]
  rw [if_neg h3]
  by_cases h4 : m > 12
  · rw [if_pos h4, dim_out y m (by omega)]
  rw [if_neg h4, dim_in y m (by omega)]
  by_cases h5 : m = 2
  · rw [if_pos h5, if_pos h5, leap_f y (by omega)]
    simp
  · rw [if_neg h5, if_neg h5]
    unfold date_tab
    rw [if_neg h5]
theorem may_f (y m d : Int) : date_May.f y m d = some (decide (1 ≤ d ∧ d ≤ dim y m)) := by
  unfold date_May.f
  rw [days_f]
  by_cases h : d ≥ 1
  · rw [if_pos h]
    simp; intro; omega
  · rw [if_neg h, decide_eq_false (by omega)]

theorem ref_days (y m : Int) (k : Nat) (hk : 5 ≤ k) : trivetref04_Days.f k y m = some (dim y m) := by
  obtain ⟨k, rfl⟩ : ∃ n, k = n + 2 := ⟨k - 2, by omega⟩
  have j1 : ∀ b, trivetref04_Days.j1 (k + 1) b = some (if b = true then 29 else 28) := by
    intro b
    cases b <;> simp [trivetref04_Days.j1]
  have no : (y < 1900 ∨ 2199 < y ∨ m < 1 ∨ 12 < m) → trivetref04_Days.j0 (k + 2) y m true = some (dim y m) := by
    intro h
    rw [dim_out y m h]
    simp [trivetref04_Days.j0]
  unfold trivetref04_Days.f
  by_cases h1 : y < 1900
  · rw [if_pos h1]; exact no (.inl h1)
  rw [if_neg h1]
  by_cases h2 : y > 2199
  · rw [if_pos h2]; exact no (by omega)
  rw [if_neg h2]
  by_cases h3 : m < 1
  · rw [if_pos h3]; exact no (by omega)
  rw [if_neg h3]
  by_cases h4 : m > 12
  · rw [decide_eq_true h4]; exact no (by omega)
  rw [decide_eq_false h4]
  rw [dim_in y m (by omega), trivetref04_Days.j0, if_neg (by simp)]
  by_cases h5 : m = 2
  · rw [if_pos h5, if_pos h5]
    rw [Int.tmod_eq_emod_of_nonneg (by omega), Int.tmod_eq_emod_of_nonneg (by omega), Int.tmod_eq_emod_of_nonneg (by omega)]
    by_cases g1 : y % 400 = 0
    · have : lp y := .inr g1
      simp [g1, j1, this]
    by_cases g2 : y % 4 = 0
    · by_cases g3 : y % 100 = 0
      · have : ¬ lp y := by unfold lp; omega
        simp [g1, g2, g3, j1, this]
      · have : lp y := .inl ⟨g2, g3⟩
        simp [g1, g2, g3, j1, this]
    · have : ¬ lp y := by unfold lp; omega
      simp [g1, g2, j1, this]
  · rw [if_neg h5, if_neg h5]
    by_cases g1 : m = 4
    · simp [g1]
    by_cases g2 : m = 6
    · simp [g2]
    by_cases g3 : m = 9
    · simp [g3]
    by_cases g4 : m = 11
    · simp [g4]
    simp [g1, g2, g3, g4]
theorem ref_may (y m d : Int) (k : Nat) (hk : 5 ≤ k) : trivetref04_May.f k y m d = some (decide (1 ≤ d ∧ d ≤ dim y m)) := by
  unfold trivetref04_May.f
  rw [ref_days y m k hk]
  by_cases h : d ≥ 1
  · rw [if_pos h]
    simp; intro; omega
  · rw [if_neg h, decide_eq_false (by omega)]

theorem up_f (k : Nat) (hk : 20 ≤ k) : trivetlaw04_up.f k = some true :=
  at_rounds (g := fun k => trivetlaw04_up.f k) (fun k => trivetlaw04_up.mono k) hk (by decide +kernel)

theorem DateMays : trivetlaw04_DateMays.Pure := by
  intro x hx
  refine ⟨30, ?_⟩
  unfold trivetlaw04_DateMays.f
  rw [up_f 30 (by omega), may_f, ref_may _ _ _ 30 (by omega), days_f, ref_days _ _ 30 (by omega)]
  simp

end Go.Proofs.Ytbechikaaiinlaa.Pure
