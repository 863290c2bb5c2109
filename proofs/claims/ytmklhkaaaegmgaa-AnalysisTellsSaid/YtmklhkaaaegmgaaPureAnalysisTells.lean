/- What any twelve months come to, and balances from any start on, or what is amiss, is what the document's answer tells: the law AnalysisTells returns true for every input; no condition of its own. -/
import Derived.Test.YtmklhkaaaegmgaaPAnalysisTellsx5
namespace Go.Proofs.Ytmklhkaaaegmgaa.Pure
open Go.RowKit Go.Proofs.Ytmklhkaaaegmgaa.PAnalysisTells Go.Proofs.YtmklhkaaaegmgaaW.PrintWords Go.Proofs.YtmklhkaaaegmgaaW.PrintLast Go.Proofs.YtmklhkaaaegmgaaW.PrintMore
set_option linter.unusedVariables false
set_option linter.unusedSimpArgs false

theorem w64 (x : Int) (h0 : -9223372036854775808 ≤ x) (h1 : x ≤ 9223372036854775807) : wrap64 x = x := by
  unfold wrap64
  omega
theorem rd_nat (l : List Int) (i : Nat) (h : i < l.length) : rd l i = l[i] := by
  simp [rd, List.getD_eq_getElem?_getD, h]
/-- The balances from a start on. -/
def run (p : Int) : Int → List Int → List Int
  | _, [] => []
  | s, v :: r => (s + (p - v)) :: run p (s + (p - v)) r
theorem run_length (p : Int) (l : List Int) : ∀ s, (run p s l).length = l.length := by
  induction l with
  | nil => intro s; rfl
  | cons v r ih => intro s; simp [run, ih]
/-- All amounts may be. -/
def Fine (l : List Int) : Prop := ∀ v ∈ l, 0 ≤ v ∧ v ≤ 10000000000000
theorem bal_tells (l : List Int) (p : Int) (hl : Fine l) (hp0 : 0 ≤ p) (hp : p ≤ 20000000000000) (hn : l.length ≤ 100000) : ∀ (d k : Nat) (i : Nat) (s : Int) (acc : List Int), i + d = l.length → d < k → acc.length + d < 17592186044416 → -1000000000000000000 ≤ s + d * 20000000000000 → -1000000000000000000 ≤ s - d * 20000000000000 → s + d * 20000000000000 ≤ 1000000000000000000 → 
    analysis_balances.l0 k p s acc l (l.length : Int) i = some (acc ++ run p s (l.drop i)) := by
  intro d
  induction d with
  | zero =>
    intro k i s acc hi hk ha h0 h1 h2
    obtain ⟨k, rfl⟩ : ∃ m, k = m + 1 := ⟨k - 1, by omega⟩
    simp only [analysis_balances.l0]
    rw [if_neg (by omega), List.drop_eq_nil_of_le (by omega)]
    simp [run]
  | succ d ih =>
    intro k i s acc hi hk ha h0 h1 h2
    obtain ⟨k, rfl⟩ : ∃ m, k = m + 1 := ⟨k - 1, by omega⟩
    have hlt : i < l.length := by omega
    have hv := hl _ (List.getElem_mem hlt)
    have hr := rd_nat l i hlt
    simp only [analysis_balances.l0]
    rw [if_pos (by omega), if_pos (by omega), if_pos (by omega), if_pos (by omega), hr, w64 (p - l[i]) (by omega) (by omega), w64 (s + (p - l[i])) (by omega) (by omega), w64 ((i : Int) + 1) (by omega) (by omega), List.drop_eq_getElem_cons hlt]
    have := ih k (i + 1) (s + (p - l[i])) (acc ++ [s + (p - l[i])]) (by omega) (by omega) (by simp; omega) (by omega) (by omega) (by omega)
    rw [show ((i : Int) + 1) = ((i + 1 : Nat) : Int) from by omega, this]
    simp [run]
theorem bal_f (l : List Int) (p s : Int) (hl : Fine l) (hp0 : 0 ≤ p) (hp : p ≤ 20000000000000) (hn : l.length ≤ 12) (h0 : -2000000000000000 ≤ s) (h1 : s ≤ 2000000000000000) (k : Nat) (hk : 12 < k) :
    analysis_balances.f k l p s = some (run p s l) := by
  unfold analysis_balances.f
  have := bal_tells l p hl hp0 hp (by omega) l.length k 0 s [] (by omega) (by omega) (by simp; omega) (by omega) (by omega) (by omega)
  simpa using this
theorem ok_iff (l : List Int) : months_ok l = true ↔ l.length = 12 ∧ Fine l := by
  unfold months_ok Fine cents_bad
  simp
theorem cents_f (c : Int) : analysis_cents.f c = some (decide (0 ≤ c ∧ c ≤ 10000000000000)) := by
  unfold analysis_cents.f
  by_cases h : 0 ≤ c <;> simp [h]
/-- The least of a list. -/
def mnl : List Int → Int
  | [] => 0
  | v :: r => r.foldl mn v
theorem min_tells (l : List Int) (hn : l.length ≤ 100000) : ∀ (d k : Nat) (i : Nat) (m : Int), i + d = l.length → d < k → slices_Min_int64_int64.l0 k l m i = some ((l.drop i).foldl mn m) := by
  intro d
  induction d with
  | zero =>
    intro k i m hi hk
    obtain ⟨k, rfl⟩ : ∃ m, k = m + 1 := ⟨k - 1, by omega⟩
    simp only [slices_Min_int64_int64.l0]
    rw [if_neg (by omega), List.drop_eq_nil_of_le (by omega)]
    rfl
  | succ d ih =>
    intro k i m hi hk
    obtain ⟨k, rfl⟩ : ∃ m, k = m + 1 := ⟨k - 1, by omega⟩
    have hlt : i < l.length := by omega
    simp only [slices_Min_int64_int64.l0]
    rw [if_pos (by omega), if_pos (by omega), rd_nat l i hlt, w64 ((i : Int) + 1) (by omega) (by omega), List.drop_eq_getElem_cons hlt]
    rw [show ((i : Int) + 1) = ((i + 1 : Nat) : Int) from by omega, ih k (i + 1) _ (by omega) (by omega)]
    rfl
theorem min_f (l : List Int) (hn : l.length ≤ 12) (h0 : 0 < l.length) (k : Nat) (hk : 12 < k) : slices_Min_int64_int64.f k l = some (mnl l) := by
  unfold slices_Min_int64_int64.f
  rw [if_neg (by omega), if_pos (by omega)]
  have := min_tells l (by omega) (l.length - 1) k 1 (rd l 0) (by omega) (by omega)
  cases l with
  | nil => simp at h0
  | cons v r => simpa [rd, mnl] using this
theorem foldl_mn (r : List Int) : ∀ m, r.foldl mn m ≤ m ∧ (∀ v ∈ r, r.foldl mn m ≤ v) ∧ (r.foldl mn m = m ∨ r.foldl mn m ∈ r) := by
  induction r with
  | nil => intro m; simp
  | cons a r ih =>
    intro m
    obtain ⟨h1, h2, h3⟩ := ih (mn m a)
    have hm : mn m a ≤ m ∧ mn m a ≤ a ∧ (mn m a = m ∨ mn m a = a) := by unfold mn; split <;> omega
    simp only [List.foldl_cons]
    refine ⟨by omega, ?_, ?_⟩
    · intro v hv
      rcases List.mem_cons.mp hv with rfl | hv
      · omega
      · exact h2 v hv
    · rcases h3 with h | h
      · rcases hm.2.2 with e | e
        · left; omega
        · right; rw [h, e]; exact List.mem_cons_self
      · right; exact List.mem_cons_of_mem _ h
theorem mnl_le (l : List Int) : ∀ v ∈ l, mnl l ≤ v := by
  cases l with
  | nil => simp
  | cons a r =>
    intro v hv
    obtain ⟨h1, h2, _⟩ := foldl_mn r a
    rcases List.mem_cons.mp hv with rfl | hv
    · exact h1
    · exact h2 v hv
theorem mnl_mem (l : List Int) (h : 0 < l.length) : mnl l ∈ l := by
  cases l with
  | nil => simp at h
  | cons a r =>
    obtain ⟨_, _, h3⟩ := foldl_mn r a
    rcases h3 with h | h
    · show r.foldl mn a ∈ a :: r
      rw [h]; exact List.mem_cons_self
    · exact List.mem_cons_of_mem _ h
/-- The first place of the least. -/
theorem idx_tells (l : List Int) (x : Int) (j : Nat) (hj : j < l.length) (he : l[j] = x) (hb : ∀ (i : Nat) (h : i < j), l[i] ≠ x) (hn : l.length ≤ 100000) : ∀ (d k i : Nat), i + d = j → d < k → slices_Index_int64_int64.l0 k l x (l.length : Int) i = some (j : Int) := by
  intro d
  induction d with
  | zero =>
    intro k i hi hk
    obtain ⟨k, rfl⟩ : ∃ m, k = m + 1 := ⟨k - 1, by omega⟩
    obtain rfl : i = j := by omega
    simp only [slices_Index_int64_int64.l0]
    rw [if_pos (by omega), if_pos (by omega), if_pos (by omega), rd_nat l i hj, if_pos he.symm]
  | succ d ih =>
    intro k i hi hk
    obtain ⟨k, rfl⟩ : ∃ m, k = m + 1 := ⟨k - 1, by omega⟩
    have hlt : i < l.length := by omega
    simp only [slices_Index_int64_int64.l0]
    rw [if_pos (by omega), if_pos (by omega), if_pos (by omega), rd_nat l i hlt, if_neg (fun h => hb i (by omega) h.symm), w64 ((i : Int) + 1) (by omega) (by omega)]
    rw [show ((i : Int) + 1) = ((i + 1 : Nat) : Int) from by omega, ih k (i + 1) (by omega) (by omega)]
theorem first_of (l : List Int) (x : Int) (h : x ∈ l) : ∃ (j : Nat) (hj : j < l.length), l[j] = x ∧ ∀ (i : Nat) (h : i < j), l[i] ≠ x := by
  induction l with
  | nil => simp at h
  | cons a r ih =>
    by_cases e : a = x
    · exact ⟨0, by simp, by simpa using e, fun i h => by omega⟩
    · obtain ⟨j, hj, h1, h2⟩ := ih (by rcases List.mem_cons.mp h with h | h; exact absurd h.symm e; exact h)
      refine ⟨j + 1, by simpa using hj, by simpa using h1, fun i hi => ?_⟩
      cases i with
      | zero => simpa using e
      | succ i => simpa using h2 i (by omega)
theorem run_bound (p : Int) (hp0 : 0 ≤ p) (hp : p ≤ 20000000000000) : ∀ (l : List Int) (s : Int), Fine l → ∀ v ∈ run p s l, s - l.length * 20000000000000 ≤ v ∧ v ≤ s + l.length * 20000000000000 := by
  intro l
  induction l with
  | nil => intro s _ v hv; simp [run] at hv
  | cons a r ih =>
    intro s hf v hv
    have ha := hf a List.mem_cons_self
    have hr : Fine r := fun v h => hf v (List.mem_cons_of_mem _ h)
    simp only [run, List.mem_cons] at hv
    simp only [List.length_cons]
    rcases hv with rfl | hv
    · constructor <;> omega
    · have := ih (s + (p - a)) hr v hv
      constructor <;> omega
theorem sum_bound (l : List Int) (hf : Fine l) : 0 ≤ l.sum ∧ l.sum ≤ l.length * 10000000000000 := by
  induction l with
  | nil => simp
  | cons a r ih =>
    have ha := hf a List.mem_cons_self
    have := ih (fun v h => hf v (List.mem_cons_of_mem _ h))
    simp only [List.sum_cons, List.length_cons]
    constructor <;> omega
/-- What an analysis of months that may be comes to. -/
structure Told (l : List Int) (c y p q m : Int) (j : Nat) : Prop where
  year : y = l.sum
  pay : p = (l.sum + 11) / 12
  cush : q = mn c (l.sum / 6)
  y0 : 0 ≤ y
  y1 : y ≤ 120000000000000
  p0 : 0 ≤ p
  p1 : p ≤ 20000000000000
  q0 : 0 ≤ q
  q1 : q ≤ 20000000000000
  m0 : -2000000000000000 ≤ m - q
  m1 : m ≤ 1000000000000000
  jl : j < 12
  least : ∀ v ∈ run p 0 l, m ≤ v
  at_ : (run p 0 l)[j]? = some m
  ahead : ∀ i, i < j → (run p 0 l)[i]? ≠ some m
theorem year_tells (l : List Int) (c : Int) (hl : Fine l) (hn : l.length = 12) (y p q m : Int) (j : Nat) (hc0 : 0 ≤ c) (hc1 : c ≤ 10000000000000) (T : Told l c y p q m j) : ∀ (d k i : Nat) (a : Int), i + d = 12 → d + 20 < k → a + (l.drop i).sum = y → 0 ≤ a → a ≤ 200000000000000 →
    analysis_Analyze.l0 k l c l (l.length : Int) i a 0 0 0 0 = some (y, p, q, q - m, (j : Int), run p (q - m) l, none) := by
  intro d
  induction d with
  | zero =>
    intro k i a hi hk ha h0 h1
    obtain ⟨k, rfl⟩ : ∃ m, k = m + 1 := ⟨k - 1, by omega⟩
    rw [List.drop_eq_nil_of_le (by omega)] at ha
    obtain rfl : a = y := by simpa using ha
    have hy := T.y1
    have e1 : wrap64 (Int.tdiv (wrap64 (a + 11)) 12) = p := by
      rw [w64 (a + 11) (by omega) (by omega), Int.tdiv_eq_ediv_of_nonneg (by omega), w64 _ (by omega) (by omega), T.pay, T.year]
    have e2 : mn c (wrap64 (Int.tdiv a 6)) = q := by
      rw [Int.tdiv_eq_ediv_of_nonneg (by omega), w64 _ (by omega) (by omega), T.cush, T.year]
    have hm0 := T.m0
    have hm1 := T.m1
    have hq0 := T.q0
    have hq1 := T.q1
    have e3 : wrap64 (q - m) = q - m := w64 _ (by omega) (by omega)
    have f1 := bal_f l p 0 hl T.p0 T.p1 (by omega) (by omega) (by omega) k (by omega)
    have hlen := run_length p l 0
    have f2 := min_f (run p 0 l) (by omega) (by omega) k (by omega)
    have hj : j < (run p 0 l).length := by have := T.jl; omega
    have em : mnl (run p 0 l) = m := by
      have h1 := T.least _ (mnl_mem (run p 0 l) (by omega))
      have h2 := mnl_le (run p 0 l) m (List.mem_of_getElem? T.at_)
      omega
    rw [em] at f2
    have f3 : slices_Index_int64_int64.f k (run p 0 l) m = some (j : Int) := by
      unfold slices_Index_int64_int64.f
      refine idx_tells (run p 0 l) m j hj ?_ ?_ (by omega) j k 0 (by omega) (by have := T.jl; omega)
      · have := T.at_; rw [List.getElem?_eq_getElem hj] at this; simpa using this
      · intro i h; have := T.ahead i h; rw [List.getElem?_eq_getElem (by omega)] at this; simpa using this
    have f4 := bal_f l p (q - m) hl T.p0 T.p1 (by omega) (by omega) (by omega) k (by omega)
    simp only [analysis_Analyze.l0]
    rw [if_neg (by omega)]
    simp only [e1, e2, e3, f1, f2, f3, f4, Option.bind_some]
  | succ d ih =>
    intro k i a hi hk ha h0 h1
    obtain ⟨k, rfl⟩ : ∃ m, k = m + 1 := ⟨k - 1, by omega⟩
    have hlt : i < l.length := by omega
    have hv := hl _ (List.getElem_mem hlt)
    rw [List.drop_eq_getElem_cons hlt, List.sum_cons] at ha
    have hs := (sum_bound (l.drop (i + 1)) (fun v h => hl v (List.mem_of_mem_drop h))).1
    have hy := T.y1
    simp only [analysis_Analyze.l0]
    rw [if_pos (by omega), if_pos (by omega), if_pos (by omega), rd_nat l i hlt, w64 ((i : Int) + 1) (by omega) (by omega), w64 (a + l[i]) (by omega) (by omega)]
    rw [show ((i : Int) + 1) = ((i + 1 : Nat) : Int) from by omega, ih k (i + 1) _ (by omega) (by omega) (by omega) (by omega) (by omega)]
theorem told_of (l : List Int) (c : Int) (hl : Fine l) (hn : l.length = 12) (hc0 : 0 ≤ c) (hc1 : c ≤ 10000000000000) : ∃ y p q m j, Told l c y p q m j := by
  have hs := sum_bound l hl
  rw [hn] at hs
  have hlen := run_length ((l.sum + 11) / 12) l 0
  obtain ⟨j, hj, h1, h2⟩ := first_of (run ((l.sum + 11) / 12) 0 l) (mnl (run ((l.sum + 11) / 12) 0 l)) (mnl_mem _ (by omega))
  have hb := run_bound ((l.sum + 11) / 12) (by omega) (by omega) l 0 hl _ (mnl_mem (run ((l.sum + 11) / 12) 0 l) (by omega))
  rw [hn] at hb
  have hq : 0 ≤ mn c (l.sum / 6) ∧ mn c (l.sum / 6) ≤ 20000000000000 := by unfold mn; split <;> omega
  refine ⟨l.sum, (l.sum + 11) / 12, mn c (l.sum / 6), mnl (run ((l.sum + 11) / 12) 0 l), j, rfl, rfl, rfl, hs.1, by omega, by omega, by omega, hq.1, hq.2, by omega, by omega, by omega, mnl_le _, by rw [List.getElem?_eq_getElem hj, h1], fun i hi => ?_⟩
  rw [List.getElem?_eq_getElem (by omega)]
  simpa using h2 i hi
theorem analyze_yes (l : List Int) (c : Int) (hl : Fine l) (hn : l.length = 12) (hc0 : 0 ≤ c) (hc1 : c ≤ 10000000000000) {y p q m : Int} {j : Nat} (T : Told l c y p q m j) (k : Nat) (hk : 40 ≤ k) :
    analysis_Analyze.f k l c = some (y, p, q, q - m, (j : Int), run p (q - m) l, none) := by
  obtain ⟨k, rfl⟩ : ∃ m, k = m + 1 := ⟨k - 1, by omega⟩
  unfold analysis_Analyze.f analysis_months.f
  rw [(ok_iff l).mpr ⟨hn, hl⟩, cents_f]
  have hd : decide (0 ≤ c ∧ c ≤ 10000000000000) = true := decide_eq_true ⟨hc0, hc1⟩
  simp only [Option.bind_some, if_true, hd, Bool.not_true, analysis_Analyze.j0]
  rw [if_neg (by simp)]
  have := year_tells l c hl hn y p q m j hc0 hc1 T 12 k 0 0 (by omega) (by omega) (by simpa using T.year.symm) (by omega) (by omega)
  simpa using this
theorem analyze_no (l : List Int) (c : Int) (h : ¬ (l.length = 12 ∧ Fine l ∧ 0 ≤ c ∧ c ≤ 10000000000000)) (k : Nat) (hk : 40 ≤ k) :
    analysis_Analyze.f k l c = some (0, 0, 0, 0, 0, [], some 1) := by
  obtain ⟨k, rfl⟩ : ∃ m, k = m + 1 := ⟨k - 1, by omega⟩
  unfold analysis_Analyze.f analysis_months.f
  rw [cents_f]
  cases e : months_ok l with
  | false => simp [analysis_Analyze.j0]
  | true =>
    have e2 := (ok_iff l).mp e
    have : decide (0 ≤ c ∧ c ≤ 10000000000000) = false := decide_eq_false (fun h2 => h ⟨e2.1, e2.2, h2⟩)
    simp [analysis_Analyze.j0, this]
theorem up_f (k : Nat) (hk : 40 ≤ k) : trivetlaw15_up.f k = some true := by
  have hl : Fine [1200, 0, 0, 0, 0, 0, 0, 0, 0, 0, 0, 0] := by intro v hv; simp at hv; omega
  obtain ⟨y, p, q, m, j, T⟩ := told_of _ 0 hl rfl (by omega) (by omega)
  have hy := T.year
  have hp := T.pay
  have hq := T.cush
  simp at hy
  simp at hp
  simp [mn] at hq
  subst hy hp hq
  have hm : m = -1100 := by
    have h1 := T.least
    have h2 := List.mem_of_getElem? T.at_
    simp [run] at h1 h2
    omega
  subst hm
  unfold trivetlaw15_up.f
  rw [analyze_yes _ 0 hl rfl (by omega) (by omega) T k hk, analyze_no [] 0 (by simp) k hk]
  simp
theorem balances_yes (l : List Int) (p s : Int) (hl : Fine l) (hn : l.length = 12) (hp0 : 0 ≤ p) (hp1 : p ≤ 10000000000000) (h0 : -1000000000000000 ≤ s) (h1 : s ≤ 1000000000000000) (k : Nat) (hk : 12 < k) :
    analysis_Balances.f k l p s = some (run p s l, none) := by
  unfold analysis_Balances.f analysis_months.f
  rw [(ok_iff l).mpr ⟨hn, hl⟩, cents_f, decide_eq_true (⟨hp0, hp1⟩ : 0 ≤ p ∧ p ≤ 10000000000000)]
  simp only [Option.bind_some, if_true]
  rw [if_neg (by omega), if_neg (by omega), bal_f l p s hl hp0 (by omega) (by omega) (by omega) (by omega) k hk]
  rfl
theorem balances_no (l : List Int) (p s : Int) (h : ¬ (l.length = 12 ∧ Fine l ∧ 0 ≤ p ∧ p ≤ 10000000000000 ∧ -1000000000000000 ≤ s ∧ s ≤ 1000000000000000)) (k : Nat) :
    analysis_Balances.f k l p s = some ([], some 1) := by
  unfold analysis_Balances.f analysis_months.f
  rw [cents_f]
  simp only [Option.bind_some]
  cases e : months_ok l with
  | false => simp
  | true =>
    have e2 := (ok_iff l).mp e
    by_cases g : 0 ≤ p ∧ p ≤ 10000000000000
    · rw [decide_eq_true g]
      simp only [if_true]
      by_cases g1 : s < -1000000000000000
      · rw [if_pos g1]
      · rw [if_neg g1, if_pos (by
          by_cases g2 : s ≤ 1000000000000000
          · exact absurd ⟨e2.1, e2.2, g.1, g.2, by omega, g2⟩ h
          · omega)]
    · rw [decide_eq_false g]
      simp
theorem run_get (p : Int) : ∀ (l : List Int) (s : Int) (i : Nat) (h : i < l.length), (run p s l)[i]? = some (s + (i + 1) * p - (l.take (i + 1)).sum) := by
  intro l
  induction l with
  | nil => intro s i h; simp at h
  | cons a r ih =>
    intro s i h
    cases i with
    | zero => simp [run]; omega
    | succ i =>
      simp only [run, List.getElem?_cons_succ]
      rw [ih (s + (p - a)) i (by simpa using h)]
      simp only [List.take_succ_cons, List.sum_cons, Option.some.injEq]
      have : (((i + 1 : Nat) : Int) + 1) * p = ((i : Int) + 1) * p + p := by rw [show (((i + 1 : Nat) : Int) + 1) = ((i : Int) + 1) + 1 from by omega, Int.add_mul, Int.one_mul]
      omega
theorem run_shift (p : Int) (l : List Int) (s t : Int) (i : Nat) (h : i < l.length) : (run p (s + t) l)[i]? = ((run p s l)[i]?).map (· + t) := by
  rw [run_get p l _ i h, run_get p l _ i h]
  simp only [Option.map_some, Option.some.injEq]
  omega
theorem rd_of {l : List Int} {i : Nat} {v : Int} (h : l[i]? = some v) : rd l i = v := by
  simp [rd, List.getD_eq_getElem?_getD, h]

def pre (p s : Int) (l : List Int) : Nat → Int
  | 0 => s
  | n + 1 => pre p s l n + p - rd l n
theorem pre_cons (p a : Int) (r : List Int) (n : Nat) : ∀ s, pre p s (a :: r) (n + 1) = pre p (s + (p - a)) r n := by
  induction n with
  | zero => intro s; simp [pre, rd]; omega
  | succ n ih =>
    intro s
    rw [pre, ih s, pre]
    have : rd (a :: r) ((n + 1 : Nat) : Int) = rd r n := by simp [rd]
    rw [this]
theorem run_pre (p : Int) : ∀ (l : List Int) (s : Int) (i : Nat), i < l.length → (run p s l)[i]? = some (pre p s l (i + 1)) := by
  intro l
  induction l with
  | nil => intro s i h; simp at h
  | cons a r ih =>
    intro s i h
    rw [pre_cons]
    cases i with
    | zero => simp [run, pre]
    | succ i =>
      simp only [run, List.getElem?_cons_succ]
      exact ih _ i (by simpa using h)
theorem pre_bound (p s : Int) (l : List Int) (hf : Fine l) (hp0 : 0 ≤ p) (hp : p ≤ 20000000000000) (hn : l.length = 12) (n : Nat) (h : n ≤ 12) : s - 240000000000000 ≤ pre p s l n ∧ pre p s l n ≤ s + 240000000000000 := by
  cases n with
  | zero => simp [pre]; omega
  | succ n =>
    have e := run_pre p l s n (by omega)
    have := run_bound p hp0 hp l s hf _ (List.mem_of_getElem? e)
    rw [hn] at this
    omega
theorem run_take (p s : Int) (l : List Int) (i : Nat) (h : i < l.length) : (run p s l).take (i + 1) = (run p s l).take i ++ [pre p s l (i + 1)] := by
  have hl := run_length p l s
  rw [List.take_succ_eq_append_getElem (by omega)]
  have := run_pre p l s i h
  rw [List.getElem?_eq_getElem (by omega)] at this
  rw [Option.some.inj this]
theorem ref_inner (l : List Int) (p s : Int) (hf : Fine l) (hp0 : 0 ≤ p) (hp : p ≤ 20000000000000) (hn : l.length = 12) (h0 : -2000000000000000 ≤ s) (h1 : s ≤ 2000000000000000) (acc : List Int) (ha : acc.length < 17592186044416) (i : Nat) (hi : i < 12) :
    ∀ (d k j : Nat), j + d = i + 1 → d < k → trivetref15_Balances.l1 k l p s acc i (pre p s l j) j = trivetref15_Balances.l0 (k - d - 1) l p s (acc ++ [pre p s l (i + 1)]) ((i + 1 : Nat) : Int) := by
  intro d
  induction d with
  | zero =>
    intro k j hj hk
    obtain ⟨k, rfl⟩ : ∃ m, k = m + 1 := ⟨k - 1, by omega⟩
    obtain rfl : j = i + 1 := by omega
    rw [trivetref15_Balances.l1, if_neg (by omega), if_pos ha, w64 ((i : Int) + 1) (by omega) (by omega)]
    rfl
  | succ d ih =>
    intro k j hj hk
    obtain ⟨k, rfl⟩ : ∃ m, k = m + 1 := ⟨k - 1, by omega⟩
    have hb := pre_bound p s l hf hp0 hp hn j (by omega)
    have hr := rd_nat l j (by omega)
    have hv := hf _ (List.getElem_mem (show j < l.length by omega))
    rw [← hr] at hv
    rw [trivetref15_Balances.l1, if_pos (by omega), if_pos (by omega), if_pos (by omega), w64 (pre p s l j + p) (by omega) (by omega), w64 (pre p s l j + p - rd l j) (by omega) (by omega), w64 ((j : Int) + 1) (by omega) (by omega)]
    have := ih k (j + 1) (by omega) (by omega)
    rw [pre] at this
    rw [show ((j : Int) + 1) = ((j + 1 : Nat) : Int) from by omega, this, show k + 1 - (d + 1) - 1 = k - d - 1 from by omega]
theorem ref_outer (l : List Int) (p s : Int) (hf : Fine l) (hp0 : 0 ≤ p) (hp : p ≤ 20000000000000) (hn : l.length = 12) (h0 : -2000000000000000 ≤ s) (h1 : s ≤ 2000000000000000) :
    ∀ (d k i : Nat), i + d = 12 → d * 20 < k → trivetref15_Balances.l0 k l p s ((run p s l).take i) i = some (run p s l) := by
  intro d
  have hl := run_length p l s
  induction d with
  | zero =>
    intro k i hi hk
    obtain ⟨k, rfl⟩ : ∃ m, k = m + 1 := ⟨k - 1, by omega⟩
    rw [trivetref15_Balances.l0, if_neg (by omega), List.take_of_length_le (by omega)]
  | succ d ih =>
    intro k i hi hk
    obtain ⟨k, rfl⟩ : ∃ m, k = m + 1 := ⟨k - 1, by omega⟩
    rw [trivetref15_Balances.l0, if_pos (by omega)]
    refine Eq.trans (ref_inner l p s hf hp0 hp hn h0 h1 _ (by simp; omega) i (by omega) (i + 1) k 0 (by omega) (by omega)) ?_
    rw [← run_take p s l i (by omega)]
    exact ih _ (i + 1) (by omega) (by omega)
theorem ref_balances (l : List Int) (p s : Int) (hf : Fine l) (hp0 : 0 ≤ p) (hp : p ≤ 20000000000000) (hn : l.length = 12) (h0 : -2000000000000000 ≤ s) (h1 : s ≤ 2000000000000000) (k : Nat) (hk : 240 < k) :
    trivetref15_Balances.f k l p s = some (run p s l) := by
  have := ref_outer l p s hf hp0 hp hn h0 h1 12 k 0 (by omega) (by omega)
  simpa [trivetref15_Balances.f] using this
theorem ref_may_loop (l : List Int) (hn : l.length = 12) : ∀ (d k i : Nat), i + d = 12 → d < k → trivetref15_May.l0 k l i = some (!((l.drop i).any cents_bad)) := by
  intro d
  induction d with
  | zero =>
    intro k i hi hk
    obtain ⟨k, rfl⟩ : ∃ m, k = m + 1 := ⟨k - 1, by omega⟩
    rw [trivetref15_May.l0, if_neg (by omega), List.drop_eq_nil_of_le (by omega)]
    rfl
  | succ d ih =>
    intro k i hi hk
    obtain ⟨k, rfl⟩ : ∃ m, k = m + 1 := ⟨k - 1, by omega⟩
    have hlt : i < l.length := by omega
    rw [trivetref15_May.l0, if_pos (by omega), if_pos (by omega), if_pos (by omega), rd_nat l i hlt, List.drop_eq_getElem_cons hlt]
    by_cases g : l[i] < 0
    · rw [if_pos g]
      have : cents_bad l[i] = true := by simp [cents_bad]; omega
      rw [List.any_cons, this]
      rfl
    · rw [if_neg g]
      by_cases g2 : l[i] > 10000000000000
      · rw [if_pos g2]
        have : cents_bad l[i] = true := by simp [cents_bad]; omega
        rw [List.any_cons, this]
        rfl
      · rw [if_neg g2, w64 ((i : Int) + 1) (by omega) (by omega), show ((i : Int) + 1) = ((i + 1 : Nat) : Int) from by omega, ih k (i + 1) (by omega) (by omega)]
        have : cents_bad l[i] = false := by simp [cents_bad]; omega
        rw [List.any_cons, this]
        rfl
theorem ref_may (l : List Int) (k : Nat) (hk : 20 < k) : trivetref15_May.f k l = some (months_ok l) := by
  unfold trivetref15_May.f months_ok
  by_cases h : l.length = 12
  · rw [if_pos (by omega)]
    refine Eq.trans (ref_may_loop l h 12 k 0 (by omega) (by omega)) ?_
    simp [h]
  · rw [if_neg (by omega)]
    simp [h]
theorem same_loop (l : List Int) (hn : l.length ≤ 100000) : ∀ (d k i : Nat), i + d = l.length → d < k → trivetlaw14_Same.l0 k l l i = some true := by
  intro d
  induction d with
  | zero =>
    intro k i hi hk
    obtain ⟨k, rfl⟩ : ∃ m, k = m + 1 := ⟨k - 1, by omega⟩
    rw [trivetlaw14_Same.l0, if_neg (by omega)]
  | succ d ih =>
    intro k i hi hk
    obtain ⟨k, rfl⟩ : ∃ m, k = m + 1 := ⟨k - 1, by omega⟩
    rw [trivetlaw14_Same.l0, if_pos (by omega), if_pos (by omega), if_pos (by omega), if_pos rfl, w64 ((i : Int) + 1) (by omega) (by omega), show ((i : Int) + 1) = ((i + 1 : Nat) : Int) from by omega, ih k (i + 1) (by omega) (by omega)]
theorem same_f (l : List Int) (hn : l.length ≤ 100000) (k : Nat) (hk : l.length < k) : trivetlaw14_Same.f k l l = some true := by
  unfold trivetlaw14_Same.f
  rw [if_pos rfl]
  exact same_loop l hn l.length k 0 (by omega) hk
theorem ref_least (l : List Int) (p q m : Int) (y : Int) (j : Nat) (fl bs : List Int) (hl : fl.length = 12) (hq0 : 0 ≤ q) (hq1 : q ≤ 20000000000000) (hfl : ∀ v ∈ fl, -1000000000000000 ≤ v ∧ v ≤ 1000000000000000)
    (hj : fl[j]? = some m) (hj12 : j < 12) (hm : ∀ v ∈ fl, m ≤ v) (hne : ∀ i, i < j → fl[i]? ≠ some m) (hbs : ∀ k, 240 < k → trivetref15_Balances.f k l p (q - m) = some bs) :
    ∀ (d k i : Nat) (mi : Int) (ji : Nat), i + d = 12 → d + 300 < k → 0 < i → ji < i → fl[ji]? = some mi → (∀ t v, t < i → fl[t]? = some v → mi ≤ v) → (∀ t, t < ji → fl[t]? ≠ some mi) →
    trivetref15_Analyze.l1 k l fl i y p q (q - mi) ji = some (y, p, q, q - m, (j : Int), bs) := by
  intro d
  induction d with
  | zero =>
    intro k i mi ji hi hk h0 hji e h1 h2
    obtain ⟨k, rfl⟩ : ∃ m, k = m + 1 := ⟨k - 1, by omega⟩
    have a1 := h1 j m (by omega) hj
    have a2 := hm mi (List.mem_of_getElem? e)
    obtain rfl : mi = m := by omega
    have : ji = j := by
      by_cases g : ji < j
      · exact absurd e (hne ji g)
      · by_cases g2 : j < ji
        · exact absurd hj (h2 j g2)
        · omega
    subst this
    rw [trivetref15_Analyze.l1, if_neg (by omega), hbs k (by omega)]
    rfl
  | succ d ih =>
    intro k i mi ji hi hk h0 hji e h1 h2
    obtain ⟨k, rfl⟩ : ∃ m, k = m + 1 := ⟨k - 1, by omega⟩
    have hlt : i < fl.length := by omega
    have ei : fl[i]? = some (rd fl i) := by rw [rd_nat fl i hlt, List.getElem?_eq_getElem hlt]
    have b1 := hfl _ (List.mem_of_getElem? ei)
    have b2 := hfl _ (List.mem_of_getElem? e)
    rw [trivetref15_Analyze.l1, if_pos (by omega), if_pos (by omega), if_pos (by omega), if_neg (by omega), w64 (q - rd fl i) (by omega) (by omega), w64 ((i : Int) + 1) (by omega) (by omega), show ((i : Int) + 1) = ((i + 1 : Nat) : Int) from by omega]
    by_cases g : q - rd fl i > q - mi
    · rw [if_pos g]
      refine ih k (i + 1) (rd fl i) i (by omega) (by omega) (by omega) (by omega) ei ?_ ?_
      · intro t v ht hv
        by_cases c : t = i
        · subst c; rw [ei] at hv; have := Option.some.inj hv; omega
        · have := h1 t v (by omega) hv; omega
      · intro t ht hv
        have := h1 t _ ht hv
        omega
    · rw [if_neg g]
      refine ih k (i + 1) mi ji (by omega) (by omega) (by omega) (by omega) e ?_ h2
      intro t v ht hv
      by_cases c : t = i
      · subst c; rw [ei] at hv; have := Option.some.inj hv; omega
      · exact h1 t v (by omega) hv
theorem ref_year (l : List Int) (c : Int) (hf : Fine l) (hn : l.length = 12) (hc0 : 0 ≤ c) (hc1 : c ≤ 10000000000000) {y p q m : Int} {j : Nat} (T : Told l c y p q m j) : ∀ (d k i : Nat) (a : Int), i + d = 12 → d + 400 < k → a + (l.drop i).sum = y → 0 ≤ a → a ≤ 200000000000000 →
    trivetref15_Analyze.l0 k l c i a 0 0 0 0 = some (y, p, q, q - m, (j : Int), run p (q - m) l) := by
  intro d
  induction d with
  | zero =>
    intro k i a hi hk ha h0 h1
    obtain ⟨k, rfl⟩ : ∃ m, k = m + 3 := ⟨k - 3, by omega⟩
    rw [List.drop_eq_nil_of_le (by omega)] at ha
    obtain rfl : a = y := by simpa using ha
    have hy1 := T.y1
    have hq0 := T.q0
    have hq1 := T.q1
    have hm0 := T.m0
    have hm1 := T.m1
    have ep := T.pay
    have ey := T.year
    have eq := T.cush
    have lf := run_length p l 0
    have hb := run_bound p T.p0 T.p1 l 0 hf
    rw [hn] at hb
    have e0 : Int.tdiv a 12 = a / 12 := Int.tdiv_eq_ediv_of_nonneg (by omega)
    have e1 : Int.tmod a 12 = a % 12 := Int.tmod_eq_emod_of_nonneg (by omega)
    have e2 : Int.tdiv a 6 = a / 6 := Int.tdiv_eq_ediv_of_nonneg (by omega)
    have tail : trivetref15_Analyze.j1 (k + 2) l c a p 0 0 0 = some (a, p, q, q - m, (j : Int), run p (q - m) l) := by
      have t2 : trivetref15_Analyze.j2 (k + 1) l a p q 0 0 = some (a, p, q, q - m, (j : Int), run p (q - m) l) := by
        rw [trivetref15_Analyze.j2, ref_balances l p 0 hf T.p0 T.p1 hn (by omega) (by omega) k (by omega), Option.bind_some]
        obtain ⟨k, rfl⟩ : ∃ m, k = m + 1 := ⟨k - 1, by omega⟩
        have ei : (run p 0 l)[0]? = some (rd (run p 0 l) 0) := by
          have := rd_nat (run p 0 l) 0 (by omega)
          rw [List.getElem?_eq_getElem (by omega)]
          exact congrArg some this.symm
        have b1 := hb _ (List.mem_of_getElem? ei)
        rw [trivetref15_Analyze.l1, if_pos (by omega), if_pos (by omega), if_pos (by omega), if_pos rfl, w64 (q - rd (run p 0 l) 0) (by omega) (by omega), w64 (0 + 1) (by omega) (by omega)]
        exact ref_least l p q m a j (run p 0 l) (run p (q - m) l) (by omega) hq0 hq1 (fun v hv => by have := hb v hv; omega) T.at_ T.jl T.least T.ahead
          (fun k hk => ref_balances l p (q - m) hf T.p0 T.p1 hn (by omega) (by omega) k hk) 11 k 1 _ 0 (by omega) (by omega) (by omega) (by omega) ei
          (fun t v ht hv => by obtain rfl : t = 0 := by omega
                               rw [ei] at hv; have := Option.some.inj hv; omega) (fun t ht => by omega)
      rw [trivetref15_Analyze.j1, e2, w64 (a / 6) (by omega) (by omega)]
      have hq : q = mn c (a / 6) := by rw [eq, ey]
      unfold mn at hq
      by_cases g : c < a / 6
      · rw [if_pos g]
        rw [if_neg (by omega)] at hq
        rw [← hq]
        exact t2
      · rw [if_neg g]
        have : q = a / 6 := by rw [hq]; split <;> omega
        rw [← this]
        exact t2
    rw [trivetref15_Analyze.l0, if_neg (by omega), e1, e0, w64 (a / 12) (by omega) (by omega)]
    by_cases g : a % 12 > 0
    · rw [if_pos g, w64 (a / 12 + 1) (by omega) (by omega), show a / 12 + 1 = p from by omega]
      exact tail
    · rw [if_neg g, show a / 12 = p from by omega]
      exact tail
  | succ d ih =>
    intro k i a hi hk ha h0 h1
    obtain ⟨k, rfl⟩ : ∃ m, k = m + 1 := ⟨k - 1, by omega⟩
    have hlt : i < l.length := by omega
    have hv := hf _ (List.getElem_mem hlt)
    rw [List.drop_eq_getElem_cons hlt, List.sum_cons] at ha
    have hs := (sum_bound (l.drop (i + 1)) (fun v h => hf v (List.mem_of_mem_drop h))).1
    have hy := T.y1
    rw [trivetref15_Analyze.l0, if_pos (by omega), if_pos (by omega), if_pos (by omega), rd_nat l i hlt, w64 ((i : Int) + 1) (by omega) (by omega), w64 (a + l[i]) (by omega) (by omega)]
    rw [show ((i : Int) + 1) = ((i + 1 : Nat) : Int) from by omega, ih k (i + 1) _ (by omega) (by omega) (by omega) (by omega) (by omega)]
theorem ref_analyze (l : List Int) (c : Int) (hf : Fine l) (hn : l.length = 12) (hc0 : 0 ≤ c) (hc1 : c ≤ 10000000000000) {y p q m : Int} {j : Nat} (T : Told l c y p q m j) (k : Nat) (hk : 500 < k) :
    trivetref15_Analyze.f k l c = some (y, p, q, q - m, (j : Int), run p (q - m) l) :=
  ref_year l c hf hn hc0 hc1 T 12 k 0 0 (by omega) (by omega) (by simpa using T.year.symm) (by omega) (by omega)
theorem AnalysisTells : trivetlaw15_AnalysisTells.Pure := by
  intro l c pay s hl1 hl2 hw hc hp hs
  refine ⟨1000 + 3, ?_⟩
  unfold trivetlaw15_AnalysisTells.f
  rw [up_f _ (by omega), Option.bind_some]
  by_cases h1 : (l.length : Int) > 100
  · rw [if_pos h1]
  rw [if_neg h1, ref_may l _ (by omega)]
  -- the last part: the balances
  have last : ∀ bs e x, analysis_Balances.f (1000 + 3) l pay s = some (bs, e) → x = months_ok l → trivetlaw15_AnalysisTells.j1 (1000 + 2) l pay s true bs e x = some true := by
    intro bs e x hb hx
    have bad : ¬ (l.length = 12 ∧ Fine l ∧ 0 ≤ pay ∧ pay ≤ 10000000000000 ∧ -1000000000000000 ≤ s ∧ s ≤ 1000000000000000) → trivetlaw15_AnalysisTells.j2 (1000 + 1) l pay s true bs e true = some true := by
      intro h
      rw [balances_no l pay s h] at hb
      have := Option.some.inj hb
      simp only [Prod.mk.injEq] at this
      rw [← this.1, ← this.2, trivetlaw15_AnalysisTells.j2]
      simp
    rw [trivetlaw15_AnalysisTells.j1, hx]
    cases e2 : months_ok l with
    | false =>
      rw [if_neg (by simp)]
      exact bad (fun h => by rw [(ok_iff l).mpr ⟨h.1, h.2.1⟩] at e2; cases e2)
    | true =>
      have o := (ok_iff l).mp e2
      rw [if_pos rfl]
      by_cases g1 : pay < 0
      · rw [if_pos g1]; exact bad (fun h => by omega)
      rw [if_neg g1]
      by_cases g2 : pay > 10000000000000
      · rw [if_pos g2]; exact bad (fun h => by omega)
      rw [if_neg g2]
      by_cases g3 : s < -1000000000000000
      · rw [if_pos g3]; exact bad (fun h => by omega)
      rw [if_neg g3]
      by_cases g4 : s > 1000000000000000
      · rw [decide_eq_true g4]; exact bad (fun h => by omega)
      rw [decide_eq_false g4]
      rw [balances_yes l pay s o.2 o.1 (by omega) (by omega) (by omega) (by omega) _ (by omega)] at hb
      have := Option.some.inj hb
      simp only [Prod.mk.injEq] at this
      rw [← this.1, ← this.2, trivetlaw15_AnalysisTells.j2, if_neg (by simp)]
      have lr := run_length pay l s
      rw [ref_balances l pay s o.2 (by omega) (by omega) o.1 (by omega) (by omega) _ (by omega)]
      simp only [if_true, Option.isNone_none, Option.bind_some]
      rw [same_f (run pay s l) (by omega) _ (by omega)]
      rfl
  obtain ⟨bs, e, hb⟩ : ∃ bs e, analysis_Balances.f (1000 + 3) l pay s = some (bs, e) := by
    by_cases h : l.length = 12 ∧ Fine l ∧ 0 ≤ pay ∧ pay ≤ 10000000000000 ∧ -1000000000000000 ≤ s ∧ s ≤ 1000000000000000
    · exact ⟨_, _, balances_yes l pay s h.2.1 h.1 h.2.2.1 h.2.2.2.1 h.2.2.2.2.1 h.2.2.2.2.2 _ (by omega)⟩
    · exact ⟨_, _, balances_no l pay s h _⟩
  have lst := last bs e (months_ok l) hb rfl
  rw [hb]
  -- the first part: the analysis
  have bad : ∀ x, months_ok l = x → trivetlaw15_AnalysisTells.j0 (1000 + 3) l c pay s true (some 1) bs e x true 0 0 0 0 0 [] = some true := by
    intro x hx
    rw [← hx]
    rw [trivetlaw15_AnalysisTells.j0, if_pos rfl]
    simp only [Option.isNone_some, trivetlaw15_Same.f, if_true]
    rw [if_neg (by simp), if_pos (by simp), same_f [] (by simp) _ (by simp)]
    simp only [Option.bind_some, if_true]
    exact lst
  by_cases g : l.length = 12 ∧ Fine l ∧ 0 ≤ c ∧ c ≤ 10000000000000
  · obtain ⟨hn, hf, hc0, hc1⟩ := g
    obtain ⟨y, p, q, m, j, T⟩ := told_of l c hf hn hc0 hc1
    rw [analyze_yes l c hf hn hc0 hc1 T _ (by omega)]
    simp only [Option.bind_some]
    rw [if_pos ((ok_iff l).mpr ⟨hn, hf⟩), if_neg (by omega), decide_eq_false (by omega), trivetlaw15_AnalysisTells.j0, if_neg (by simp), ref_analyze l c hf hn hc0 hc1 T _ (by omega)]
    have lr := run_length p l (q - m)
    simp only [Option.isNone_none, if_true, Option.bind_some, trivetlaw15_Same.f]
    rw [same_f (run p (q - m) l) (by omega) _ (by omega)]
    simp only [Option.bind_some, if_true]
    exact lst
  · rw [analyze_no l c g _ (by omega)]
    simp only [Option.bind_some]
    cases e2 : months_ok l with
    | false =>
      rw [if_neg (by simp)]
      exact bad _ e2
    | true =>
      have o := (ok_iff l).mp e2
      rw [if_pos rfl]
      by_cases g1 : c < 0
      · rw [if_pos g1]; exact bad _ e2
      · rw [if_neg g1, decide_eq_true (by
          by_cases h : c ≤ 10000000000000
          · exact absurd ⟨o.1, o.2, by omega, h⟩ g
          · omega)]
        exact bad _ e2

end Go.Proofs.Ytmklhkaaaegmgaa.Pure
