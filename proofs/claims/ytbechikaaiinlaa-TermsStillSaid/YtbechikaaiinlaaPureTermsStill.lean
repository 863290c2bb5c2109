/- What is reset to itself stays, where it is an eighth, at least the margin, and no more than the ceiling: the law TermsStill returns true for every input; no condition of its own. -/
import Derived.Test.YtbechikaaiinlaaPTermsStillx4
namespace Go.Proofs.Ytbechikaaiinlaa.Pure
open Go.RowKit Go.Proofs.Ytbechikaaiinlaa.PTermsStill Go.Proofs.YtbechikaaiinlaaW.PrintWords Go.Proofs.YtbechikaaiinlaaW.PrintLast Go.Proofs.YtbechikaaiinlaaW.PrintMore
set_option linter.unusedVariables false
set_option linter.unusedSimpArgs false

theorem w64 (x : Int) (h0 : -9223372036854775808 ≤ x) (h1 : x ≤ 9223372036854775807) : wrap64 x = x := by
  unfold wrap64
  omega
theorem rd_nat (l : List Int) (i : Nat) (h : i < l.length) : rd l i = l[i] := by
  simp [rd, List.getD_eq_getElem?_getD, h]
theorem up_f (k : Nat) (hk : 20 ≤ k) : trivetlaw11_up.f k = some true :=
  at_rounds (g := fun k => trivetlaw11_up.f k) (fun k => trivetlaw11_up.mono k) hk (by decide +kernel)
def off (x : Int) : Bool := decide (x < 0) || decide (x > 300000)
def near (i m : Int) : Int := (i + m + 625) / 1250 * 1250
def resets (b i m l c : Int) : Int := mx (mn (mx (mn (near i m) (b + l)) (b - l)) c) m
theorem reset_loop (x0 x1 x2 x3 x4 : Int) (xs : List Int) (hn : xs.length ≤ 100) : ∀ (d k i : Nat), i + d = xs.length → d < k →
    terms_Reset.l0 k x0 x1 x2 x3 x4 xs (xs.length : Int) i = if (xs.drop i).any off = true then some (0, some 1) else terms_Reset.l0 (k - d) x0 x1 x2 x3 x4 xs (xs.length : Int) (xs.length : Int) := by
  intro d
  induction d with
  | zero =>
    intro k i hi hk
    rw [List.drop_eq_nil_of_le (by omega), if_neg (by simp), show (i : Int) = (xs.length : Int) from by omega]
    rfl
  | succ d ih =>
    intro k i hi hk
    obtain ⟨k, rfl⟩ : ∃ m, k = m + 1 := ⟨k - 1, by omega⟩
    have hlt : i < xs.length := by omega
    have e := ih k (i + 1) (by omega) (by omega)
    rw [show k + 1 - (d + 1) = k - d from by omega]
    conv => lhs; rw [terms_Reset.l0]
    rw [if_pos (by omega), if_pos (by omega), if_pos (by omega), rd_nat xs i hlt, List.drop_eq_getElem_cons hlt, List.any_cons]
    by_cases h1 : xs[i] < 0
    · rw [if_pos h1, show off xs[i] = true from by simp [off, h1]]
      rfl
    rw [if_neg h1]
    by_cases h2 : xs[i] > 300000
    · rw [if_pos h2, show off xs[i] = true from by simp [off, h2]]
      rfl
    rw [if_neg h2, show off xs[i] = false from by simp [off]; omega, Bool.false_or, w64 ((i : Int) + 1) (by omega) (by omega), show ((i : Int) + 1) = ((i + 1 : Nat) : Int) from by omega]
    exact e
theorem reset_f (b i m l c : Int) (k : Nat) (hk : 10 ≤ k) : terms_Reset.f k b i m l c =
    if [b, i, m, l, c].any off = true then some (0, some 1) else if m > c then some (0, some 1) else some (resets b i m l c, none) := by
  unfold terms_Reset.f
  rw [Option.bind_some]
  refine Eq.trans (reset_loop b i m l c [b, i, m, l, c] (by simp) 5 k 0 (by simp) (by omega)) ?_
  simp only [List.drop_zero]
  by_cases h : [b, i, m, l, c].any off = true
  · rw [if_pos h, if_pos h]
  rw [if_neg h, if_neg h]
  obtain ⟨k, rfl⟩ : ∃ n, k = n + 6 := ⟨k - 6, by omega⟩
  rw [show k + 6 - 5 = k + 1 from by omega, terms_Reset.l0, if_neg (by simp)]
  simp [off] at h
  by_cases h2 : m > c
  · rw [if_pos h2, if_pos h2]
  rw [if_neg h2, if_neg h2, w64 (i + m) (by omega) (by omega), w64 (i + m + 625) (by omega) (by omega), Int.tdiv_eq_ediv_of_nonneg (by omega), w64 ((i + m + 625) / 1250) (by omega) (by omega), w64 ((i + m + 625) / 1250 * 1250) (by omega) (by omega), w64 (b + l) (by omega) (by omega), w64 (b - l) (by omega) (by omega)]
  rfl

theorem TermsStill : trivetlaw11_TermsStill.Pure := by
  intro e m l c he hm hl hc
  refine ⟨30, ?_⟩
  unfold trivetlaw11_TermsStill.f
  rw [up_f 30 (by omega), Option.bind_some]
  have stop : trivetlaw11_TermsStill.j0 30 e m l c true true = some true := by rw [trivetlaw11_TermsStill.j0]; rfl
  by_cases h1 : e < 0
  · rw [if_pos h1]; exact stop
  rw [if_neg h1]
  by_cases h2 : e > 240
  · rw [if_pos h2]; exact stop
  rw [if_neg h2]
  by_cases h3 : m < 0
  · rw [if_pos h3]; exact stop
  rw [if_neg h3]
  by_cases h4 : m > 300000
  · rw [if_pos h4]; exact stop
  rw [if_neg h4]
  by_cases h5 : c > 300000
  · rw [if_pos h5]; exact stop
  rw [if_neg h5]
  by_cases h6 : l < 0
  · rw [if_pos h6]; exact stop
  rw [if_neg h6]
  by_cases h7 : l > 300000
  · rw [decide_eq_true h7]; exact stop
  rw [decide_eq_false h7, trivetlaw11_TermsStill.j0, if_neg (by simp), w64 (1250 * e) (by omega) (by omega)]
  by_cases g1 : 1250 * e < m
  · rw [if_pos g1]
  rw [if_neg g1]
  by_cases g2 : 1250 * e > c
  · rw [if_pos g2]
  rw [if_neg g2, w64 (1250 * e - m) (by omega) (by omega), reset_f _ _ _ _ _ 29 (by omega)]
  have hoff : ¬ [1250 * e, 1250 * e - m, m, l, c].any off = true := by
    simp [off]; omega
  rw [if_neg hoff, if_neg (by omega)]
  have hr : resets (1250 * e) (1250 * e - m) m l c = 1250 * e := by
    have : near (1250 * e - m) m = 1250 * e := by unfold near; omega
    unfold resets
    rw [this]
    unfold mx mn
    repeat' (first | omega | split)
  rw [hr]
  simp

end Go.Proofs.Ytbechikaaiinlaa.Pure
