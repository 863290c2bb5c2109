/- What any rate is reset to, or that it may not be, is what the document's answer tells: the law TermsResets returns true for every input; no condition of its own. -/
import Derived.Test.YtbechikaaiinlaaPTermsResetsx4
namespace Go.Proofs.Ytbechikaaiinlaa.Pure
open Go.RowKit Go.Proofs.Ytbechikaaiinlaa.PTermsResets Go.Proofs.YtbechikaaiinlaaW.PrintWords Go.Proofs.YtbechikaaiinlaaW.PrintLast Go.Proofs.YtbechikaaiinlaaW.PrintMore
set_option linter.unusedVariables false
set_option linter.unusedSimpArgs false

theorem w64 (x : Int) (h0 : -9223372036854775808 ≤ x) (h1 : x ≤ 9223372036854775807) : wrap64 x = x := by
  unfold wrap64
  omega
theorem rd_nat (l : List Int) (i : Nat) (h : i < l.length) : rd l i = l[i] := by
  simp [rd, List.getD_eq_getElem?_getD, h]
theorem up_f (k : Nat) (hk : 20 ≤ k) : trivetlaw11_up.f k = some true :=
  at_rounds (g := fun k => trivetlaw11_up.f k) (fun k => trivetlaw11_up.mono k) hk (by decide +kernel)
def off (x : Int) : Bool := decide (x < 0) || decide (x > 300000)
def near (i m : Int) : Int := (i + m + 625) / 1250 * 1250
def resets (b i m l c : Int) : Int := mx (mn (mx (mn (near i m) (b + l)) (b - l)) c) m
theorem reset_loop (x0 x1 x2 x3 x4 : Int) (xs : List Int) (hn : xs.length ≤ 100) : ∀ (d k i : Nat), i + d = xs.length → d < k →
    terms_Reset.l0 k x0 x1 x2 x3 x4 xs (xs.length : Int) i = if (xs.drop i).any off = true then some (0, some 1) else terms_Reset.l0 (k - d) x0 x1 x2 x3 x4 xs (xs.length : Int) (xs.length : Int) := by
  intro d
  induction d with
  | zero =>
    intro k i hi hk
    rw [List.drop_eq_nil_of_le (by omega), if_neg (by simp), show (i : Int) = (xs.length : Int) from by omega]
    rfl
  | succ d ih =>
    intro k i hi hk
    obtain ⟨k, rfl⟩ : ∃ m, k = m + 1 := ⟨k - 1, by omega⟩
    have hlt : i < xs.length := by omega
    have e := ih k (i + 1) (by omega) (by omega)
    rw [show k + 1 - (d + 1) = k - d from by omega]
    conv => lhs; rw [terms_Reset.l0]
    rw [if_pos (by omega), if_pos (by omega), if_pos (by omega), rd_nat xs i hlt, List.drop_eq_getElem_cons hlt, List.any_cons]
    by_cases h1 : xs[i] < 0
    · rw [if_pos h1, show off xs[i] = true from by simp [off, h1]]
      rfl
    rw [if_neg h1]
    by_cases h2 : xs[i] > 300000
    · rw [if_pos h2, show off xs[i] = true from by simp [off, h2]]
      rfl
    rw [if_neg h2, show off xs[i] = false from by simp [off]; omega, Bool.false_or, w64 ((i : Int) + 1) (by omega) (by omega), show ((i : Int) + 1) = ((i + 1 : Nat) : Int) from by omega]
    exact e
theorem reset_f (b i m l c : Int) (k : Nat) (hk : 10 ≤ k) : terms_Reset.f k b i m l c =
    if [b, i, m, l, c].any off = true then some (0, some 1) else if m > c then some (0, some 1) else some (resets b i m l c, none) := by
  unfold terms_Reset.f
  rw [Option.bind_some]
  refine Eq.trans (reset_loop b i m l c [b, i, m, l, c] (by simp) 5 k 0 (by simp) (by omega)) ?_
  simp only [List.drop_zero]
  by_cases h : [b, i, m, l, c].any off = true
  · rw [if_pos h, if_pos h]
  rw [if_neg h, if_neg h]
  obtain ⟨k, rfl⟩ : ∃ n, k = n + 6 := ⟨k - 6, by omega⟩
  rw [show k + 6 - 5 = k + 1 from by omega, terms_Reset.l0, if_neg (by simp)]
  simp [off] at h
  by_cases h2 : m > c
  · rw [if_pos h2, if_pos h2]
  rw [if_neg h2, if_neg h2, w64 (i + m) (by omega) (by omega), w64 (i + m + 625) (by omega) (by omega), Int.tdiv_eq_ediv_of_nonneg (by omega), w64 ((i + m + 625) / 1250) (by omega) (by omega), w64 ((i + m + 625) / 1250 * 1250) (by omega) (by omega), w64 (b + l) (by omega) (by omega), w64 (b - l) (by omega) (by omega)]
  rfl

theorem ref_end (b m l c n : Int) (hb : 0 ≤ b ∧ b ≤ 300000) (hl : 0 ≤ l ∧ l ≤ 300000) (k : Nat) (hmc : m ≤ c) : trivetref11_Reset.j1 (k + 3) b m l c n = some (mx (mn (mx (mn n (b + l)) (b - l)) c) m) := by
  have j3 : ∀ z, trivetref11_Reset.j3 (k + 1) m c z = some (mx (mn z c) m) := by
    intro z
    unfold mx mn
    simp only [trivetref11_Reset.j3]
    repeat (first | split | (apply congrArg some; omega) | rfl)
  have j2 : ∀ z, trivetref11_Reset.j2 (k + 2) b m l c z = some (mx (mn (mx z (b - l)) c) m) := by
    intro z
    rw [trivetref11_Reset.j2, w64 (b - l) (by omega) (by omega)]
    by_cases g : z < b - l
    · rw [if_pos g, j3, show mx z (b - l) = b - l from by unfold mx; rw [if_pos g]]
    · rw [if_neg g, j3, show mx z (b - l) = z from by unfold mx; rw [if_neg g]]
  rw [trivetref11_Reset.j1, w64 (b + l) (by omega) (by omega)]
  by_cases g : n > b + l
  · rw [if_pos g, j2, show mn n (b + l) = b + l from by unfold mn; rw [if_pos (by omega)]]
  · rw [if_neg g, j2, show mn n (b + l) = n from by unfold mn; rw [if_neg (by omega)]]
theorem ref_loop (b i m l c : Int) (hb : 0 ≤ b ∧ b ≤ 300000) (hi : 0 ≤ i ∧ i ≤ 300000) (hm : 0 ≤ m ∧ m ≤ 300000) (hl : 0 ≤ l ∧ l ≤ 300000) (hmc : m ≤ c) : ∀ (d k : Nat) (x : Int), x % 1250 = 0 → 0 ≤ x → x ≤ i + m → i + m - x < d * 1250 → d + 4 < k →
    trivetref11_Reset.l0 k b m l c (i + m) x = some (resets b i m l c) := by
  intro d
  induction d with
  | zero => intro k x h0 h1 h2 h3 hk; omega
  | succ d ih =>
    intro k x h0 h1 h2 h3 hk
    obtain ⟨k, rfl⟩ : ∃ n, k = n + 4 := ⟨k - 4, by omega⟩
    rw [show k + 4 = (k + 3) + 1 from rfl, trivetref11_Reset.l0, w64 (x + 1250) (by omega) (by omega)]
    by_cases g : x + 1250 ≤ i + m
    · rw [if_pos g]
      exact ih (k + 3) (x + 1250) (by omega) (by omega) (by omega) (by omega) (by omega)
    · rw [if_neg g, w64 (i + m - x) (by omega) (by omega)]
      by_cases g2 : i + m - x ≥ 625
      · rw [if_pos g2, ref_end b m l c (x + 1250) hb hl k hmc, show x + 1250 = near i m from by unfold near; omega]
        rfl
      · rw [if_neg g2, ref_end b m l c x hb hl k hmc, show x = near i m from by unfold near; omega]
        rfl
theorem may_loop (x0 x1 x2 x3 x4 : Int) (r : Int) (e : Option Int) (xs : List Int) (hn : xs.length ≤ 100) : ∀ (d k i : Nat) (b : Bool), i + d = xs.length → d < k →
    trivetlaw11_TermsResets.l0 k x0 x1 x2 x3 x4 true r e xs b i = trivetlaw11_TermsResets.l0 (k - d) x0 x1 x2 x3 x4 true r e xs (b && !((xs.drop i).any off)) (xs.length : Int) := by
  intro d
  induction d with
  | zero =>
    intro k i b hi hk
    rw [List.drop_eq_nil_of_le (by omega), show (i : Int) = (xs.length : Int) from by omega]
    simp
  | succ d ih =>
    intro k i b hi hk
    obtain ⟨k, rfl⟩ : ∃ m, k = m + 1 := ⟨k - 1, by omega⟩
    have hlt : i < xs.length := by omega
    rw [show k + 1 - (d + 1) = k - d from by omega, List.drop_eq_getElem_cons hlt, List.any_cons]
    conv => lhs; rw [trivetlaw11_TermsResets.l0]
    rw [if_pos (by omega), w64 ((i : Int) + 1) (by omega) (by omega), show ((i : Int) + 1) = ((i + 1 : Nat) : Int) from by omega]
    cases b with
    | false =>
      rw [if_neg (by simp), ih k (i + 1) false (by omega) (by omega)]
      rfl
    | true =>
      rw [if_pos rfl, if_pos (by omega), rd_nat xs i hlt]
      by_cases h1 : xs[i] ≥ 0
      · rw [if_pos h1, ih k (i + 1) _ (by omega) (by omega)]
        by_cases h2 : xs[i] ≤ 300000
        · rw [decide_eq_true h2, show off xs[i] = false from by simp [off]; omega]
          rfl
        · rw [decide_eq_false h2, show off xs[i] = true from by simp [off]; omega]
          rfl
      · rw [if_neg h1, ih k (i + 1) false (by omega) (by omega), show off xs[i] = true from by simp [off]; omega]
        rfl
theorem TermsResets : trivetlaw11_TermsResets.Pure := by
  intro b i m l c hb hi hm hl hc
  refine ⟨600, ?_⟩
  unfold trivetlaw11_TermsResets.f
  rw [up_f 600 (by omega), reset_f b i m l c 600 (by omega)]
  simp only [Option.bind_some]
  have fin : ∀ (r : Int) (e : Option Int), (if [b, i, m, l, c].any off = true ∨ m > c then r = 0 ∧ e = some 1 else r = resets b i m l c ∧ e = none) →
      trivetlaw11_TermsResets.l0 600 b i m l c true r e [b, i, m, l, c] (decide (m ≤ c)) 0 = some true := by
    intro r e he
    refine Eq.trans (may_loop b i m l c r e [b, i, m, l, c] (by simp) 5 600 0 _ (by simp) (by omega)) ?_
    rw [show (600 - 5 : Nat) = 594 + 1 from rfl, trivetlaw11_TermsResets.l0, if_neg (by simp), List.drop_zero]
    by_cases g : [b, i, m, l, c].any off = true ∨ m > c
    · rw [if_pos g] at he
      have : (decide (m ≤ c) && !([b, i, m, l, c].any off)) = false := by
        rcases g with g | g
        · rw [g]; simp
        · rw [decide_eq_false (by omega)]; rfl
      rw [this, he.1, he.2]
      simp
    · rw [if_neg g] at he
      have g1 : [b, i, m, l, c].any off = false := by
        cases h : [b, i, m, l, c].any off with
        | true => exact absurd (.inl h) g
        | false => rfl
      have g2 : m ≤ c := by
        by_cases h : m ≤ c
        · exact h
        · exact absurd (.inr (by omega)) g
      rw [g1, decide_eq_true g2, he.1, he.2]
      simp [off] at g1
      have e2 : trivetref11_Reset.f 594 b i m l c = some (resets b i m l c) := by
        unfold trivetref11_Reset.f
        rw [w64 (i + m) (by omega) (by omega)]
        exact ref_loop b i m l c (by omega) (by omega) (by omega) (by omega) g2 500 594 0 (by omega) (by omega) (by omega) (by omega) (by omega)
      rw [e2]
      simp
  by_cases h : [b, i, m, l, c].any off = true
  · rw [if_pos h]
    exact fin 0 (some 1) (by rw [if_pos (.inl h)]; exact ⟨rfl, rfl⟩)
  rw [if_neg h]
  by_cases h2 : m > c
  · rw [if_pos h2]
    exact fin 0 (some 1) (by rw [if_pos (.inr h2)]; exact ⟨rfl, rfl⟩)
  rw [if_neg h2]
  exact fin _ none (by rw [if_neg (by intro g; rcases g with g | g; exact h g; exact h2 g)]; exact ⟨rfl, rfl⟩)

end Go.Proofs.Ytbechikaaiinlaa.Pure
