/- A reset rate is between margin and ceiling, and, where these leave room, no further than the cap from the one before: the law TermsBetween returns true for every input; no condition of its own. -/
import Derived.Test.YtbechikaaiinlaaPTermsBetweenx4
namespace Go.Proofs.Ytbechikaaiinlaa.Pure
open Go.RowKit Go.Proofs.Ytbechikaaiinlaa.PTermsBetween Go.Proofs.YtbechikaaiinlaaW.PrintWords Go.Proofs.YtbechikaaiinlaaW.PrintLast Go.Proofs.YtbechikaaiinlaaW.PrintMore
set_option linter.unusedVariables false
set_option linter.unusedSimpArgs false

theorem w64 (x : Int) (h0 : -9223372036854775808 ≤ x) (h1 : x ≤ 9223372036854775807) : wrap64 x = x := by
  unfold wrap64
  omega
theorem rd_nat (l : List Int) (i : Nat) (h : i < l.length) : rd l i = l[i] := by
  simp [rd, List.getD_eq_getElem?_getD, h]
theorem up_f (k : Nat) (hk : 20 ≤ k) : trivetlaw11_up.f k = some true :=
  at_rounds (g := fun k => trivetlaw11_up.f k) (fun k => trivetlaw11_up.mono k) hk (by decide +kernel)
def off (x : Int) : Bool := decide (x < 0) || decide (x > 300000)
def near (i m : Int) : Int := (i + m + 625) / 1250 * 1250
def resets (b i m l c : Int) : Int := mx (mn (mx (mn (near i m) (b + l)) (b - l)) c) m
theorem reset_loop (x0 x1 x2 x3 x4 : Int) (xs : List Int) (hn : xs.length ≤ 100) : ∀ (d k i : Nat), i + d = xs.length → d < k →
    terms_Reset.l0 k x0 x1 x2 x3 x4 xs (xs.length : Int) i = if (xs.drop i).any off = true then some (0, some 1) else terms_Reset.l0 (k - d) x0 x1 x2 x3 x4 xs (xs.length : Int) (xs.length : Int) := by
  intro d
  induction d with
  | zero =>
    intro k i hi hk
    rw [List.drop_eq_nil_of_le (by omega), if_neg (by simp), show (i : Int) = (xs.length : Int) from by omega]
    rfl
  | succ d ih =>
    intro k i hi hk
    obtain ⟨k, rfl⟩ : ∃ m, k = m + 1 := ⟨k - 1, by omega⟩
    have hlt : i < xs.length := by omega
    have e := ih k (i + 1) (by omega) (by omega)
    rw [show k + 1 - (d + 1) = k - d from by omega]
    conv => lhs; rw [terms_Reset.l0]
    rw [if_pos (by omega), if_pos (by omega), if_pos (by omega), rd_nat xs i hlt, List.drop_eq_getElem_cons hlt, List.any_cons]
    by_cases h1 : xs[i] < 0
    · rw [if_pos h1, show off xs[i] = true from by simp [off, h1]]
      rfl
    rw [if_neg h1]
    by_cases h2 : xs[i] > 300000
    · rw [if_pos h2, show off xs[i] = true from by simp [off, h2]]
      rfl
    rw [if_neg h2, show off xs[i] = false from by simp [off]; omega, Bool.false_or, w64 ((i : Int) + 1) (by omega) (by omega), show ((i : Int) + 1) = ((i + 1 : Nat) : Int) from by omega]
    exact e
theorem reset_f (b i m l c : Int) (k : Nat) (hk : 10 ≤ k) : terms_Reset.f k b i m l c =
    if [b, i, m, l, c].any off = true then some (0, some 1) else if m > c then some (0, some 1) else some (resets b i m l c, none) := by
  unfold terms_Reset.f
  rw [Option.bind_some]
  refine Eq.trans (reset_loop b i m l c [b, i, m, l, c] (by simp) 5 k 0 (by simp) (by omega)) ?_
  simp only [List.drop_zero]
  by_cases h : [b, i, m, l, c].any off = true
  · rw [if_pos h, if_pos h]
  rw [if_neg h, if_neg h]
  obtain ⟨k, rfl⟩ : ∃ n, k = n + 6 := ⟨k - 6, by omega⟩
  rw [show k + 6 - 5 = k + 1 from by omega, terms_Reset.l0, if_neg (by simp)]
  simp [off] at h
  by_cases h2 : m > c
  · rw [if_pos h2, if_pos h2]
  rw [if_neg h2, if_neg h2, w64 (i + m) (by omega) (by omega), w64 (i + m + 625) (by omega) (by omega), Int.tdiv_eq_ediv_of_nonneg (by omega), w64 ((i + m + 625) / 1250) (by omega) (by omega), w64 ((i + m + 625) / 1250 * 1250) (by omega) (by omega), w64 (b + l) (by omega) (by omega), w64 (b - l) (by omega) (by omega)]
  rfl

theorem TermsBetween : trivetlaw11_TermsBetween.Pure := by
  intro b i m l c hb hi hm hl hc
  refine ⟨30, ?_⟩
  unfold trivetlaw11_TermsBetween.f
  rw [up_f 30 (by omega), reset_f b i m l c 30 (by omega)]
  simp only [Option.bind_some]
  by_cases h : [b, i, m, l, c].any off = true
  · rw [if_pos h]; rfl
  rw [if_neg h]
  simp [off] at h
  by_cases h2 : m > c
  · rw [if_pos h2]; rfl
  rw [if_neg h2, w64 (b + l) (by omega) (by omega), w64 (b - l) (by omega) (by omega)]
  simp only [Option.bind_some, Option.isNone_none, if_true]
  have hr : m ≤ resets b i m l c ∧ resets b i m l c ≤ c ∧ (resets b i m l c > b + l → resets b i m l c = m) ∧ (resets b i m l c < b - l → resets b i m l c = c) := by
    unfold resets
    generalize near i m = n
    unfold mx mn
    repeat' (first | omega | split)
  obtain ⟨h3, h4, h5, h6⟩ := hr
  generalize resets b i m l c = r at *
  by_cases g1 : r > b + l
  · rw [if_pos g1, if_pos (h5 g1)]
    by_cases g2 : r < b - l
    · have := h6 g2
      rw [if_pos g2, if_pos h3, if_pos h4, this]
      simp
    · rw [if_neg g2, if_pos h3, if_pos h4]; rfl
  · rw [if_neg g1]
    by_cases g2 : r < b - l
    · have := h6 g2
      rw [if_pos g2, if_pos h3, if_pos h4, this]
      simp
    · rw [if_neg g2, if_pos h3, if_pos h4]; rfl

end Go.Proofs.Ytbechikaaiinlaa.Pure
