/- Months one by one come to the same as all at once, of days up to the 28th: the law DateSteps returns true for every input; no condition of its own. -/
import Derived.Test.YtbechikaaiinlaaPDateStepsx3
namespace Go.Proofs.Ytbechikaaiinlaa.Pure
open Go.RowKit Go.Proofs.Ytbechikaaiinlaa.PDateSteps Go.Proofs.YtbechikaaiinlaaW.PrintWords Go.Proofs.YtbechikaaiinlaaW.PrintLast Go.Proofs.YtbechikaaiinlaaW.PrintMore
set_option linter.unusedVariables false
set_option linter.unusedSimpArgs false

theorem w64 (x : Int) (h0 : -9223372036854775808 ≤ x) (h1 : x ≤ 9223372036854775807) : wrap64 x = x := by
  unfold wrap64
  omega
def lp (y : Int) : Prop := y % 4 = 0 ∧ y % 100 ≠ 0 ∨ y % 400 = 0
instance (y : Int) : Decidable (lp y) := by unfold lp; infer_instance
/-- How many days a month has. -/
def dim (y m : Int) : Int := if y < 1900 ∨ 2199 < y ∨ m < 1 ∨ 12 < m then 0 else if m = 2 then (if lp y then 29 else 28) else if m = 4 ∨ m = 6 ∨ m = 9 ∨ m = 11 then 30 else 31
theorem dim_out (y m : Int) (h : y < 1900 ∨ 2199 < y ∨ m < 1 ∨ 12 < m) : dim y m = 0 := by unfold dim; rw [if_pos h]
theorem dim_in (y m : Int) (h : ¬ (y < 1900 ∨ 2199 < y ∨ m < 1 ∨ 12 < m)) : dim y m = if m = 2 then (if lp y then 29 else 28) else if m = 4 ∨ m = 6 ∨ m = 9 ∨ m = 11 then 30 else 31 := by unfold dim; rw [if_neg h]
theorem leap_f (y : Int) (h : 0 ≤ y) : date_leap.f y = some (decide (lp y)) := by
  unfold date_leap.f lp
  rw [Int.tmod_eq_emod_of_nonneg h, Int.tmod_eq_emod_of_nonneg h, Int.tmod_eq_emod_of_nonneg h]
  by_cases h1 : y % 4 = 0
  · rw [if_pos h1]
    by_cases h2 : y % 100 = 0
    · rw [if_pos h2]; simp [h1, h2]; rw [Bool.eq_iff_iff]; simp
    · rw [if_neg h2]; simp [h1, h2]
  · rw [if_neg h1]; simp [h1]; rw [Bool.eq_iff_iff]; simp
theorem days_f (y m : Int) : date_Days.f y m = some (dim y m) := by
  unfold date_Days.f
  by_cases h1 : y < 1900
  · rw [if_pos h1, dim_out y m (.inl h1)]
  rw [if_neg h1]
  by_cases h2 : y > 2199
  · rw [if_pos h2, dim_out y m (by omega)]
  rw [if_neg h2]
  by_cases h3 : m < 1
  · rw [if_pos h3, dim_out y m (by omega)]
  rw [if_neg h3]
  by_cases h4 : m > 12
  · rw [if_pos h4, dim_out y m (by omega)]
  rw [if_neg h4, dim_in y m (by omega)]
  by_cases h5 : m = 2
  · rw [if_pos h5, if_pos h5, leap_f y (by omega)]
    simp
  · rw [if_neg h5, if_neg h5]
    unfold date_tab
    rw [if_neg h5]
theorem may_f (y m d : Int) : date_May.f y m d = some (decide (1 ≤ d ∧ d ≤ dim y m)) := by
  unfold date_May.f
  rw [days_f]
  by_cases h : d ≥ 1
  · rw [if_pos h]
    simp; intro; omega
  · rw [if_neg h, decide_eq_false (by omega)]

theorem up_f (k : Nat) (hk : 20 ≤ k) : trivetlaw04_up.f k = some true :=
  at_rounds (g := fun k => trivetlaw04_up.f k) (fun k => trivetlaw04_up.mono k) hk (by decide +kernel)

/-- A day's number, in one formula. -/
def numP (y m d : Int) : Int := 365 * y + y / 4 - y / 100 + y / 400 + (153 * (m - 3) + 2) / 5 + d - 719469
def num (y m d : Int) : Int := if m ≤ 2 then numP (y - 1) (m + 12) d else numP y m d
theorem civil_f (y m d : Int) (hy0 : 1800 ≤ y) (hy1 : y ≤ 2300) (hm0 : 1 ≤ m) (hm1 : m ≤ 12) (hd0 : 0 ≤ d) (hd1 : d ≤ 1000) : date_civil.f y m d = some (num y m d) := by
  have key : ∀ a b : Int, 1799 ≤ a → a ≤ 2300 → 3 ≤ b → b ≤ 14 → (wrap64 ((wrap64 ((wrap64 ((wrap64 ((wrap64 ((wrap64 ((wrap64 ((wrap64 ((wrap64 (Int.tdiv a 400)) * 146097)) + (wrap64 ((Int.tmod a 400) * 365)))) + (wrap64 (Int.tdiv (Int.tmod a 400) 4)))) - (wrap64 (Int.tdiv (Int.tmod a 400) 100)))) + (wrap64 (Int.tdiv (wrap64 ((wrap64 (153 * (wrap64 (b - 3)))) + 2)) 5)))) + d)) - 1)) - 719468)) = numP a b d := by
    intro a b ha0 ha1 hb0 hb1
    rw [Int.tdiv_eq_ediv_of_nonneg (show 0 ≤ a by omega), Int.tmod_eq_emod_of_nonneg (show 0 ≤ a by omega), Int.tdiv_eq_ediv_of_nonneg (show 0 ≤ a % 400 by omega), Int.tdiv_eq_ediv_of_nonneg (show 0 ≤ a % 400 by omega)]
    rw [w64 (b - 3) (by omega) (by omega), w64 (153 * (b - 3)) (by omega) (by omega), w64 (153 * (b - 3) + 2) (by omega) (by omega), Int.tdiv_eq_ediv_of_nonneg (show 0 ≤ 153 * (b - 3) + 2 by omega)]
    have c0 : 0 ≤ (153 * (b - 3) + 2) / 5 ∧ (153 * (b - 3) + 2) / 5 ≤ 400 := by omega
    rw [w64 ((153 * (b - 3) + 2) / 5) (by omega) (by omega)]
    have g : 0 ≤ a / 400 ∧ a / 400 ≤ 6 := by omega
    have r : 0 ≤ a % 400 ∧ a % 400 ≤ 399 := by omega
    have r4 : 0 ≤ a % 400 / 4 ∧ a % 400 / 4 ≤ 99 := by omega
    have r100 : 0 ≤ a % 400 / 100 ∧ a % 400 / 100 ≤ 3 := by omega
    unfold numP
    generalize hc : (153 * (b - 3) + 2) / 5 = c at *
    generalize hg : a / 400 = q at *
    generalize hr : a % 400 = s at *
    rw [w64 q (by omega) (by omega), w64 (q * 146097) (by omega) (by omega), w64 (s * 365) (by omega) (by omega), w64 (q * 146097 + s * 365) (by omega) (by omega), w64 (s / 4) (by omega) (by omega), w64 (s / 100) (by omega) (by omega)]
    rw [w64 (q * 146097 + s * 365 + s / 4) (by omega) (by omega), w64 (q * 146097 + s * 365 + s / 4 - s / 100) (by omega) (by omega), w64 (q * 146097 + s * 365 + s / 4 - s / 100 + c) (by omega) (by omega), w64 (q * 146097 + s * 365 + s / 4 - s / 100 + c + d) (by omega) (by omega), w64 (q * 146097 + s * 365 + s / 4 - s / 100 + c + d - 1) (by omega) (by omega), w64 (q * 146097 + s * 365 + s / 4 - s / 100 + c + d - 1 - 719468) (by omega) (by omega)]
    have e1 : a = 400 * q + s := by omega
    subst e1
    omega
  unfold date_civil.f num
  by_cases h : m ≤ 2
  · rw [if_pos h, if_pos h, w64 (y - 1) (by omega) (by omega), w64 (m + 12) (by omega) (by omega), key (y - 1) (m + 12) (by omega) (by omega) (by omega) (by omega)]
  · rw [if_neg h, if_neg h, key y m (by omega) (by omega) (by omega) (by omega)]
theorem num_month (y m : Int) (hy0 : 1900 ≤ y) (hy1 : y ≤ 2199) (hm0 : 1 ≤ m) (hm1 : m ≤ 11) : num y (m + 1) 1 = num y m 1 + dim y m := by
  rw [dim_in y m (by omega)]
  have hm : m = 1 ∨ m = 2 ∨ m = 3 ∨ m = 4 ∨ m = 5 ∨ m = 6 ∨ m = 7 ∨ m = 8 ∨ m = 9 ∨ m = 10 ∨ m = 11 := by omega
  rcases hm with rfl | rfl | rfl | rfl | rfl | rfl | rfl | rfl | rfl | rfl | rfl
  · simp [num, numP]; omega
  · by_cases h : lp y
    · simp only [if_pos h, if_true]; unfold lp at h; simp [num, numP]; omega
    · simp only [if_neg h, if_true]; unfold lp at h; simp [num, numP]; omega
  all_goals (simp [num, numP]; try omega)
theorem num_year (y : Int) (hy0 : 1900 ≤ y) (hy1 : y ≤ 2199) : num (y + 1) 1 1 = num y 1 1 + (337 + dim y 2) := by
  rw [dim_in y 2 (by omega)]
  by_cases h : lp y
  · simp only [if_pos h, if_true]; unfold lp at h; simp [num, numP]; omega
  · simp only [if_neg h, if_true]; unfold lp at h; simp [num, numP]; omega
theorem num_december (y : Int) (hy0 : 1900 ≤ y) (hy1 : y ≤ 2199) : num (y + 1) 1 1 = num y 12 1 + dim y 12 := by
  rw [dim_in y 12 (by omega)]
  simp [num, numP]
  omega
theorem num_day (y m d : Int) : num y m d = num y m 1 + (d - 1) := by
  unfold num numP
  split <;> omega
theorem num_mono (a b : Int) (h0 : 1900 ≤ a) (h : a ≤ b) (h1 : b ≤ 2200) : num a 1 1 ≤ num b 1 1 := by
  simp [num, numP]
  omega
theorem dim_bounds (y m : Int) (h : ¬ (y < 1900 ∨ 2199 < y ∨ m < 1 ∨ 12 < m)) : 28 ≤ dim y m ∧ dim y m ≤ 31 := by
  rw [dim_in y m h]
  split
  · split <;> omega
  · split <;> omega
theorem num_bounds (y m d : Int) (h : ¬ (y < 1900 ∨ 2199 < y ∨ m < 1 ∨ 12 < m)) (hd0 : 0 ≤ d) (hd1 : d ≤ 1000) : -30000 ≤ num y m d ∧ num y m d ≤ 90000 := by
  unfold num numP
  split <;> omega
def Valid (y m d : Int) : Prop := ¬ (y < 1900 ∨ 2199 < y ∨ m < 1 ∨ 12 < m) ∧ 1 ≤ d ∧ d ≤ dim y m
theorem valid_of (y m d : Int) (h : 1 ≤ d ∧ d ≤ dim y m) : Valid y m d := by
  refine ⟨fun g => ?_, h⟩
  rw [dim_out y m g] at h
  omega
theorem number_f (y m d : Int) : date_Number.f y m d = some (if 1 ≤ d ∧ d ≤ dim y m then (num y m d, none) else (0, some 2)) := by
  unfold date_Number.f
  rw [may_f]
  by_cases h : 1 ≤ d ∧ d ≤ dim y m
  · have v := (valid_of y m d h).1
    have := dim_bounds y m v
    rw [decide_eq_true h, if_pos h]
    simp only [Option.bind_some, if_true]
    rw [civil_f y m d (by omega) (by omega) (by omega) (by omega) (by omega) (by omega)]
    rfl
  · rw [decide_eq_false h, if_neg h]
    simp

def mat (y m n : Int) : Int := y * 12 + m - 1 + n
def moved (y m d n : Int) : Int × Int × Int × Option Int :=
  if n < -3600 ∨ 3600 < n then (0, 0, 0, some 1) else if dim (mat y m n / 12) (mat y m n % 12 + 1) = 0 then (0, 0, 0, some 1) else (mat y m n / 12, mat y m n % 12 + 1, mn d (dim (mat y m n / 12) (mat y m n % 12 + 1)), none)
theorem months_no (y m d n : Int) (h : ¬ (1 ≤ d ∧ d ≤ dim y m)) (k : Nat) : date_Months.f k y m d n = some (0, 0, 0, some 2) := by
  unfold date_Months.f
  rw [may_f, decide_eq_false h]
  simp
theorem months_f (y m d n : Int) (h : 1 ≤ d ∧ d ≤ dim y m) (k : Nat) (hk : 2 ≤ k) : date_Months.f k y m d n = some (moved y m d n) := by
  obtain ⟨k, rfl⟩ : ∃ j, k = j + 1 := ⟨k - 1, by omega⟩
  have v := (valid_of y m d h).1
  unfold date_Months.f moved
  rw [may_f, decide_eq_true h]
  simp only [Option.bind_some, if_true]
  by_cases c1 : n < -3600
  · rw [if_pos c1, if_pos (.inl c1)]
    simp [date_Months.j0]
  rw [if_neg c1]
  by_cases c2 : n > 3600
  · rw [if_pos (.inr c2), decide_eq_true c2]
    simp [date_Months.j0]
  have e : wrap64 ((wrap64 ((wrap64 ((wrap64 (y * 12)) + m)) - 1)) + n) = mat y m n := by
    unfold mat
    rw [w64 (y * 12) (by omega) (by omega), w64 (y * 12 + m) (by omega) (by omega), w64 (y * 12 + m - 1) (by omega) (by omega), w64 (y * 12 + m - 1 + n) (by omega) (by omega)]
  have hm : 0 ≤ mat y m n ∧ mat y m n ≤ 40000 := by unfold mat; omega
  rw [decide_eq_false c2, if_neg (by omega), date_Months.j0, if_neg (by simp), e, Int.tdiv_eq_ediv_of_nonneg hm.1, Int.tmod_eq_emod_of_nonneg hm.1, w64 (mat y m n / 12) (by omega) (by omega), w64 (mat y m n % 12 + 1) (by omega) (by omega), days_f]
  simp only [Option.bind_some]
  by_cases c3 : dim (mat y m n / 12) (mat y m n % 12 + 1) = 0
  · rw [if_pos c3, if_pos c3]
  · rw [if_neg c3, if_neg c3]
theorem moved_yes (y m d n : Int) (h : 1 ≤ d ∧ d ≤ 28) (hn : -3600 ≤ n ∧ n ≤ 3600) (hm : 22800 ≤ mat y m n ∧ mat y m n ≤ 26399) : moved y m d n = (mat y m n / 12, mat y m n % 12 + 1, d, none) ∧ Valid (mat y m n / 12) (mat y m n % 12 + 1) d := by
  have hv : ¬ (mat y m n / 12 < 1900 ∨ 2199 < mat y m n / 12 ∨ mat y m n % 12 + 1 < 1 ∨ 12 < mat y m n % 12 + 1) := by omega
  have hb := dim_bounds _ _ hv
  constructor
  · unfold moved
    rw [if_neg (by omega), if_neg (by omega)]
    have : mn d (dim (mat y m n / 12) (mat y m n % 12 + 1)) = d := by unfold mn; split <;> omega
    rw [this]
  · exact ⟨hv, by omega, by omega⟩
theorem moved_no (y m d n : Int) (h : n < -3600 ∨ 3600 < n ∨ mat y m n < 22800 ∨ 26399 < mat y m n) : moved y m d n = (0, 0, 0, some 1) := by
  unfold moved
  by_cases c : n < -3600 ∨ 3600 < n
  · rw [if_pos c]
  · rw [if_neg c, if_pos (dim_out _ _ (by omega))]

theorem DateSteps : trivetlaw04_DateSteps.Pure := by
  intro x a b hx ha hb
  obtain ⟨y, m, d⟩ := x
  refine ⟨60, ?_⟩
  show trivetlaw04_DateSteps.f 60 y m d a b = some true
  unfold trivetlaw04_DateSteps.f
  rw [up_f 60 (by omega), Option.bind_some]
  have stop : trivetlaw04_DateSteps.j0 60 a b true true y m d = some true := by rw [trivetlaw04_DateSteps.j0]; rfl
  by_cases h1 : d > 28
  · rw [if_pos h1]; exact stop
  rw [if_neg h1]
  by_cases h2 : a < -3600
  · rw [if_pos h2]; exact stop
  rw [if_neg h2]
  by_cases h3 : a > 3600
  · rw [if_pos h3]; exact stop
  rw [if_neg h3]
  by_cases h4 : b < -3600
  · rw [if_pos h4]; exact stop
  rw [if_neg h4]
  by_cases h5 : b > 3600
  · rw [decide_eq_true h5]; exact stop
  rw [decide_eq_false h5, trivetlaw04_DateSteps.j0, if_neg (by simp)]
  by_cases hv : 1 ≤ d ∧ d ≤ dim y m
  · have v := (valid_of y m d hv).1
    rw [months_f y m d a hv 59 (by omega), w64 (a + b) (by omega) (by omega), months_f y m d (a + b) hv 59 (by omega)]
    by_cases c : 22800 ≤ mat y m a ∧ mat y m a ≤ 26399
    · obtain ⟨e, ve⟩ := moved_yes y m d a (by omega) (by omega) c
      rw [e]
      simp only [Option.bind_some]
      rw [months_f _ _ d b ve.2 59 (by omega)]
      have em : mat (mat y m a / 12) (mat y m a % 12 + 1) b = mat y m (a + b) := by unfold mat; omega
      by_cases c2 : 22800 ≤ mat y m (a + b) ∧ mat y m (a + b) ≤ 26399
      · have e2 := (moved_yes (mat y m a / 12) (mat y m a % 12 + 1) d b (by omega) (by omega) (by rw [em]; exact c2)).1
        have e3 := (moved_yes y m d (a + b) (by omega) (by unfold mat at c2; omega) c2).1
        rw [e2, e3, em]
        simp
      · rw [moved_no _ _ d b (by rw [em]; omega), moved_no y m d (a + b) (by omega)]
        simp
    · rw [moved_no y m d a (by omega)]
      simp
  · rw [months_no y m d a hv 59]
    simp

end Go.Proofs.Ytbechikaaiinlaa.Pure
