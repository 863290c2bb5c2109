/- Amounts that are handed in stay as they are, and what was told stays, whatever becomes of it: the law AnalysisStays returns true for every input; no condition of its own. -/
import Derived.Test.YtmklhkaaaegmgaaPAnalysisStaysx3
namespace Go.Proofs.Ytmklhkaaaegmgaa.Pure
open Go.RowKit Go.Proofs.Ytmklhkaaaegmgaa.PAnalysisStays Go.Proofs.YtmklhkaaaegmgaaW.PrintWords Go.Proofs.YtmklhkaaaegmgaaW.PrintLast Go.Proofs.YtmklhkaaaegmgaaW.PrintMore
set_option linter.unusedVariables false
set_option linter.unusedSimpArgs false

theorem w64 (x : Int) (h0 : -9223372036854775808 ≤ x) (h1 : x ≤ 9223372036854775807) : wrap64 x = x := by
  unfold wrap64
  omega
theorem rd_nat (l : List Int) (i : Nat) (h : i < l.length) : rd l i = l[i] := by
  simp [rd, List.getD_eq_getElem?_getD, h]
/-- The balances from a start on. -/
def run (p : Int) : Int → List Int → List Int
  | _, [] => []
  | s, v :: r => (s + (p - v)) :: run p (s + (p - v)) r
theorem run_length (p : Int) (l : List Int) : ∀ s, (run p s l).length = l.length := by
  induction l with
  | nil => intro s; rfl
  | cons v r ih => intro s; simp [run, ih]
/-- All amounts may be. -/
def Fine (l : List Int) : Prop := ∀ v ∈ l, 0 ≤ v ∧ v ≤ 10000000000000
theorem bal_tells (l : List Int) (p : Int) (hl : Fine l) (hp0 : 0 ≤ p) (hp : p ≤ 20000000000000) (hn : l.length ≤ 100000) : ∀ (d k : Nat) (i : Nat) (s : Int) (acc : List Int), i + d = l.length → d < k → acc.length + d < 17592186044416 → -1000000000000000000 ≤ s + d * 20000000000000 → -1000000000000000000 ≤ s - d * 20000000000000 → s + d * 20000000000000 ≤ 1000000000000000000 → 
    analysis_balances.l0 k p s acc l (l.length : Int) i = some (acc ++ run p s (l.drop i)) := by
  intro d
  induction d with
  | zero =>
    intro k i s acc hi hk ha h0 h1 h2
    obtain ⟨k, rfl⟩ : ∃ m, k = m + 1 := ⟨k - 1, by omega⟩
    simp only [analysis_balances.l0]
    rw [if_neg (by omega), List.drop_eq_nil_of_le (by omega)]
    simp [run]
  | succ d ih =>
    intro k i s acc hi hk ha h0 h1 h2
    obtain ⟨k, rfl⟩ : ∃ m, k = m + 1 := ⟨k - 1, by omega⟩
    have hlt : i < l.length := by omega
    have hv := hl _ (List.getElem_mem hlt)
    have hr := rd_nat l i hlt
    simp only [analysis_balances.l0]
    rw [if_pos (by omega), if_pos (by omega), if_pos (by omega), if_pos (by omega), hr, w64 (p - l[i]) (by omega) (by omega), w64 (s + (p - l[i])) (by omega) (by omega), w64 ((i : Int) + 1) (by omega) (by omega), List.drop_eq_getElem_cons hlt]
    have := ih k (i + 1) (s + (p - l[i])) (acc ++ [s + (p - l[i])]) (by omega) (by omega) (by simp; omega) (by omega) (by omega) (by omega)
    rw [show ((i : Int) + 1) = ((i + 1 : Nat) : Int) from by omega, this]
    simp [run]
theorem bal_f (l : List Int) (p s : Int) (hl : Fine l) (hp0 : 0 ≤ p) (hp : p ≤ 20000000000000) (hn : l.length ≤ 12) (h0 : -2000000000000000 ≤ s) (h1 : s ≤ 2000000000000000) (k : Nat) (hk : 12 < k) :
    analysis_balances.f k l p s = some (run p s l) := by
  unfold analysis_balances.f
  have := bal_tells l p hl hp0 hp (by omega) l.length k 0 s [] (by omega) (by omega) (by simp; omega) (by omega) (by omega) (by omega)
  simpa using this
theorem ok_iff (l : List Int) : months_ok l = true ↔ l.length = 12 ∧ Fine l := by
  unfold months_ok Fine cents_bad
  simp
theorem cents_f (c : Int) : analysis_cents.f c = some (decide (0 ≤ c ∧ c ≤ 10000000000000)) := by
  unfold analysis_cents.f
  by_cases h : 0 ≤ c <;> simp [h]
/-- The least of a list. -/
def mnl : List Int → Int
  | [] => 0
  | v :: r => r.foldl mn v
theorem min_tells (l : List Int) (hn : l.length ≤ 100000) : ∀ (d k : Nat) (i : Nat) (m : Int), i + d = l.length → d < k → slices_Min_int64_int64.l0 k l m i = some ((l.drop i).foldl mn m) := by
  intro d
  induction d with
  | zero =>
    intro k i m hi hk
    obtain ⟨k, rfl⟩ : ∃ m, k = m + 1 := ⟨k - 1, by omega⟩
    simp only [slices_Min_int64_int64.l0]
    rw [if_neg (by omega), List.drop_eq_nil_of_le (by omega)]
    rfl
  | succ d ih =>
    intro k i m hi hk
    obtain ⟨k, rfl⟩ : ∃ m, k = m + 1 := ⟨k - 1, by omega⟩
    have hlt : i < l.length := by omega
    simp only [slices_Min_int64_int64.l0]
    rw [if_pos (by omega), if_pos (by omega), rd_nat l i hlt, w64 ((i : Int) + 1) (by omega) (by omega), List.drop_eq_getElem_cons hlt]
    rw [show ((i : Int) + 1) = ((i + 1 : Nat) : Int) from by omega, ih k (i + 1) _ (by omega) (by omega)]
    rfl
theorem min_f (l : List Int) (hn : l.length ≤ 12) (h0 : 0 < l.length) (k : Nat) (hk : 12 < k) : slices_Min_int64_int64.f k l = some (mnl l) := by
  unfold slices_Min_int64_int64.f
  rw [if_neg (by omega), if_pos (by omega)]
  have := min_tells l (by omega) (l.length - 1) k 1 (rd l 0) (by omega) (by omega)
  cases l with
  | nil => simp at h0
  | cons v r => simpa [rd, mnl] using this
theorem foldl_mn (r : List Int) : ∀ m, r.foldl mn m ≤ m ∧ (∀ v ∈ r, r.foldl mn m ≤ v) ∧ (r.foldl mn m = m ∨ r.foldl mn m ∈ r) := by
  induction r with
  | nil => intro m; simp
  | cons a r ih =>
    intro m
    obtain ⟨h1, h2, h3⟩ := ih (mn m a)
    have hm : mn m a ≤ m ∧ mn m a ≤ a ∧ (mn m a = m ∨ mn m a = a) := by unfold mn; split <;> omega
    simp only [List.foldl_cons]
    refine ⟨by omega, ?_, ?_⟩
    · intro v hv
      rcases List.mem_cons.mp hv with rfl | hv
      · omega
      · exact h2 v hv
    · rcases h3 with h | h
      · rcases hm.2.2 with e | e
        · left; omega
        · right; rw [h, e]; exact List.mem_cons_self
      · right; exact List.mem_cons_of_mem _ h
theorem mnl_le (l : List Int) : ∀ v ∈ l, mnl l ≤ v := by
  cases l with
  | nil => simp
  | cons a r =>
    intro v hv
    obtain ⟨h1, h2, _⟩ := foldl_mn r a
    rcases List.mem_cons.mp hv with rfl | hv
    · exact h1
    · exact h2 v hv
theorem mnl_mem (l : List Int) (h : 0 < l.length) : mnl l ∈ l := by
  cases l with
  | nil => simp at h
  | cons a r =>
    obtain ⟨_, _, h3⟩ := foldl_mn r a
    rcases h3 with h | h
    · show r.foldl mn a ∈ a :: r
      rw [h]; exact List.mem_cons_self
    · exact List.mem_cons_of_mem _ h
/-- The first place of the least. -/
theorem idx_tells (l : List Int) (x : Int) (j : Nat) (hj : j < l.length) (he : l[j] = x) (hb : ∀ (i : Nat) (h : i < j), l[i] ≠ x) (hn : l.length ≤ 100000) : ∀ (d k i : Nat), i + d = j → d < k → slices_Index_int64_int64.l0 k l x (l.length : Int) i = some (j : Int) := by
  intro d
  induction d with
  | zero =>
    intro k i hi hk
    obtain ⟨k, rfl⟩ : ∃ m, k = m + 1 := ⟨k - 1, by omega⟩
    obtain rfl : i = j := by omega
    simp only [slices_Index_int64_int64.l0]
    rw [if_pos (by omega), if_pos (by omega), if_pos (by omega), rd_nat l i hj, if_pos he.symm]
  | succ d ih =>
    intro k i hi hk
    obtain ⟨k, rfl⟩ : ∃ m, k = m + 1 := ⟨k - 1, by omega⟩
    have hlt : i < l.length := by omega
    simp only [slices_Index_int64_int64.l0]
    rw [if_pos (by omega), if_pos (by omega), if_pos (by omega), rd_nat l i hlt, if_neg (fun h => hb i (by omega) h.symm), w64 ((i : Int) + 1) (by omega) (by omega)]
    rw [show ((i : Int) + 1) = ((i + 1 : Nat) : Int) from by omega, ih k (i + 1) (by omega) (by omega)]
theorem first_of (l : List Int) (x : Int) (h : x ∈ l) : ∃ (j : Nat) (hj : j < l.length), l[j] = x ∧ ∀ (i : Nat) (h : i < j), l[i] ≠ x := by
  induction l with
  | nil => simp at h
  | cons a r ih =>
    by_cases e : a = x
    · exact ⟨0, by simp, by simpa using e, fun i h => by omega⟩
    · obtain ⟨j, hj, h1, h2⟩ := ih (by rcases List.mem_cons.mp h with h | h; exact absurd h.symm e; exact h)
      refine ⟨j + 1, by simpa using hj, by simpa using h1, fun i hi => ?_⟩
      cases i with
      | zero => simpa using e
      | succ i => simpa using h2 i (by omega)
theorem run_bound (p : Int) (hp0 : 0 ≤ p) (hp : p ≤ 20000000000000) : ∀ (l : List Int) (s : Int), Fine l → ∀ v ∈ run p s l, s - l.length * 20000000000000 ≤ v ∧ v ≤ s + l.length * 20000000000000 := by
  intro l
  induction l with
  | nil => intro s _ v hv; simp [run] at hv
  | cons a r ih =>
    intro s hf v hv
    have ha := hf a List.mem_cons_self
    have hr : Fine r := fun v h => hf v (List.mem_cons_of_mem _ h)
    simp only [run, List.mem_cons] at hv
    simp only [List.length_cons]
    rcases hv with rfl | hv
    · constructor <;> omega
    · have := ih (s + (p - a)) hr v hv
      constructor <;> omega
theorem sum_bound (l : List Int) (hf : Fine l) : 0 ≤ l.sum ∧ l.sum ≤ l.length * 10000000000000 := by
  induction l with
  | nil => simp
  | cons a r ih =>
    have ha := hf a List.mem_cons_self
    have := ih (fun v h => hf v (List.mem_cons_of_mem _ h))
    simp only [List.sum_cons, List.length_cons]
    constructor <;> omega
/-- What an analysis of months that may be comes to. -/
structure Told (l : List Int) (c y p q m : Int) (j : Nat) : Prop where
  year : y = l.sum
  pay : p = (l.sum + 11) / 12
  cush : q = mn c (l.sum / 6)
  y0 : 0 ≤ y
  y1 : y ≤ 120000000000000
  p0 : 0 ≤ p
  p1 : p ≤ 20000000000000
  q0 : 0 ≤ q
  q1 : q ≤ 20000000000000
  m0 : -2000000000000000 ≤ m - q
  m1 : m ≤ 1000000000000000
  jl : j < 12
  least : ∀ v ∈ run p 0 l, m ≤ v
  at_ : (run p 0 l)[j]? = some m
  ahead : ∀ i, i < j → (run p 0 l)[i]? ≠ some m
theorem year_tells (l : List Int) (c : Int) (hl : Fine l) (hn : l.length = 12) (y p q m : Int) (j : Nat) (hc0 : 0 ≤ c) (hc1 : c ≤ 10000000000000) (T : Told l c y p q m j) : ∀ (d k i : Nat) (a : Int), i + d = 12 → d + 20 < k → a + (l.drop i).sum = y → 0 ≤ a → a ≤ 200000000000000 →
    analysis_Analyze.l0 k l c l (l.length : Int) i a 0 0 0 0 = some (y, p, q, q - m, (j : Int), run p (q - m) l, none) := by
  intro d
  induction d with
  | zero =>
    intro k i a hi hk ha h0 h1
    obtain ⟨k, rfl⟩ : ∃ m, k = m + 1 := ⟨k - 1, by omega⟩
    rw [List.drop_eq_nil_of_le (by omega)] at ha
    obtain rfl : a = y := by simpa using ha
    have hy := T.y1
    have e1 : wrap64 (Int.tdiv (wrap64 (a + 11)) 12) = p := by
      rw [w64 (a + 11) (by omega) (by omega), Int.tdiv_eq_ediv_of_nonneg (by omega), w64 _ (by omega) (by omega), T.pay, T.year]
    have e2 : mn c (wrap64 (Int.tdiv a 6)) = q := by
      rw [Int.tdiv_eq_ediv_of_nonneg (by omega), w64 _ (by omega) (by omega), T.cush, T.year]
    have hm0 := T.m0
    have hm1 := T.m1
    have hq0 := T.q0
    have hq1 := T.q1
    have e3 : wrap64 (q - m) = q - m := w64 _ (by omega) (by omega)
    have f1 := bal_f l p 0 hl T.p0 T.p1 (by omega) (by omega) (by omega) k (by omega)
    have hlen := run_length p l 0
    have f2 := min_f (run p 0 l) (by omega) (by omega) k (by omega)
    have hj : j < (run p 0 l).length := by have := T.jl; omega
    have em : mnl (run p 0 l) = m := by
      have h1 := T.least _ (mnl_mem (run p 0 l) (by omega))
      have h2 := mnl_le (run p 0 l) m (List.mem_of_getElem? T.at_)
      omega
    rw [em] at f2
    have f3 : slices_Index_int64_int64.f k (run p 0 l) m = some (j : Int) := by
      unfold slices_Index_int64_int64.f
      refine idx_tells (run p 0 l) m j hj ?_ ?_ (by omega) j k 0 (by omega) (by have := T.jl; omega)
      · have := T.at_; rw [List.getElem?_eq_getElem hj] at this; simpa using this
      · intro i h; have := T.ahead i h; rw [List.getElem?_eq_getElem (by omega)] at this; simpa using this
    have f4 := bal_f l p (q - m) hl T.p0 T.p1 (by omega) (by omega) (by omega) k (by omega)
    simp only [analysis_Analyze.l0]
    rw [if_neg (by omega)]
    simp only [e1, e2, e3, f1, f2, f3, f4, Option.bind_some]
  | succ d ih =>
    intro k i a hi hk ha h0 h1
    obtain ⟨k, rfl⟩ : ∃ m, k = m + 1 := ⟨k - 1, by omega⟩
    have hlt : i < l.length := by omega
    have hv := hl _ (List.getElem_mem hlt)
    rw [List.drop_eq_getElem_cons hlt, List.sum_cons] at ha
    have hs := (sum_bound (l.drop (i + 1)) (fun v h => hl v (List.mem_of_mem_drop h))).1
    have hy := T.y1
    simp only [analysis_Analyze.l0]
    rw [if_pos (by omega), if_pos (by omega), if_pos (by omega), rd_nat l i hlt, w64 ((i : Int) + 1) (by omega) (by omega), w64 (a + l[i]) (by omega) (by omega)]
    rw [show ((i : Int) + 1) = ((i + 1 : Nat) : Int) from by omega, ih k (i + 1) _ (by omega) (by omega) (by omega) (by omega) (by omega)]
theorem told_of (l : List Int) (c : Int) (hl : Fine l) (hn : l.length = 12) (hc0 : 0 ≤ c) (hc1 : c ≤ 10000000000000) : ∃ y p q m j, Told l c y p q m j := by
  have hs := sum_bound l hl
  rw [hn] at hs
  have hlen := run_length ((l.sum + 11) / 12) l 0
  obtain ⟨j, hj, h1, h2⟩ := first_of (run ((l.sum + 11) / 12) 0 l) (mnl (run ((l.sum + 11) / 12) 0 l)) (mnl_mem _ (by omega))
  have hb := run_bound ((l.sum + 11) / 12) (by omega) (by omega) l 0 hl _ (mnl_mem (run ((l.sum + 11) / 12) 0 l) (by omega))
  rw [hn] at hb
  have hq : 0 ≤ mn c (l.sum / 6) ∧ mn c (l.sum / 6) ≤ 20000000000000 := by unfold mn; split <;> omega
  refine ⟨l.sum, (l.sum + 11) / 12, mn c (l.sum / 6), mnl (run ((l.sum + 11) / 12) 0 l), j, rfl, rfl, rfl, hs.1, by omega, by omega, by omega, hq.1, hq.2, by omega, by omega, by omega, mnl_le _, by rw [List.getElem?_eq_getElem hj, h1], fun i hi => ?_⟩
  rw [List.getElem?_eq_getElem (by omega)]
  simpa using h2 i hi
theorem analyze_yes (l : List Int) (c : Int) (hl : Fine l) (hn : l.length = 12) (hc0 : 0 ≤ c) (hc1 : c ≤ 10000000000000) {y p q m : Int} {j : Nat} (T : Told l c y p q m j) (k : Nat) (hk : 40 ≤ k) :
    analysis_Analyze.f k l c = some (y, p, q, q - m, (j : Int), run p (q - m) l, none) := by
  obtain ⟨k, rfl⟩ : ∃ m, k = m + 1 := ⟨k - 1, by omega⟩
  unfold analysis_Analyze.f analysis_months.f
  rw [(ok_iff l).mpr ⟨hn, hl⟩, cents_f]
  have hd : decide (0 ≤ c ∧ c ≤ 10000000000000) = true := decide_eq_true ⟨hc0, hc1⟩
  simp only [Option.bind_some, if_true, hd, Bool.not_true, analysis_Analyze.j0]
  rw [if_neg (by simp)]
  have := year_tells l c hl hn y p q m j hc0 hc1 T 12 k 0 0 (by omega) (by omega) (by simpa using T.year.symm) (by omega) (by omega)
  simpa using this
theorem analyze_no (l : List Int) (c : Int) (h : ¬ (l.length = 12 ∧ Fine l ∧ 0 ≤ c ∧ c ≤ 10000000000000)) (k : Nat) (hk : 40 ≤ k) :
    analysis_Analyze.f k l c = some (0, 0, 0, 0, 0, [], some 1) := by
  obtain ⟨k, rfl⟩ : ∃ m, k = m + 1 := ⟨k - 1, by omega⟩
  unfold analysis_Analyze.f analysis_months.f
  rw [cents_f]
  cases e : months_ok l with
  | false => simp [analysis_Analyze.j0]
  | true =>
    have e2 := (ok_iff l).mp e
    have : decide (0 ≤ c ∧ c ≤ 10000000000000) = false := decide_eq_false (fun h2 => h ⟨e2.1, e2.2, h2⟩)
    simp [analysis_Analyze.j0, this]
theorem up_f (k : Nat) (hk : 40 ≤ k) : trivetlaw15_up.f k = some true := by
  have hl : Fine [1200, 0, 0, 0, 0, 0, 0, 0, 0, 0, 0, 0] := by intro v hv; simp at hv; omega
  obtain ⟨y, p, q, m, j, T⟩ := told_of _ 0 hl rfl (by omega) (by omega)
  have hy := T.year
  have hp := T.pay
  have hq := T.cush
  simp at hy
  simp at hp
  simp [mn] at hq
  subst hy hp hq
  have hm : m = -1100 := by
    have h1 := T.least
    have h2 := List.mem_of_getElem? T.at_
    simp [run] at h1 h2
    omega
  subst hm
  unfold trivetlaw15_up.f
  rw [analyze_yes _ 0 hl rfl (by omega) (by omega) T k hk, analyze_no [] 0 (by simp) k hk]
  simp
theorem run_get (p : Int) : ∀ (l : List Int) (s : Int) (i : Nat) (h : i < l.length), (run p s l)[i]? = some (s + (i + 1) * p - (l.take (i + 1)).sum) := by
  intro l
  induction l with
  | nil => intro s i h; simp at h
  | cons a r ih =>
    intro s i h
    cases i with
    | zero => simp [run]; omega
    | succ i =>
      simp only [run, List.getElem?_cons_succ]
      rw [ih (s + (p - a)) i (by simpa using h)]
      simp only [List.take_succ_cons, List.sum_cons, Option.some.injEq]
      have : (((i + 1 : Nat) : Int) + 1) * p = ((i : Int) + 1) * p + p := by rw [show (((i + 1 : Nat) : Int) + 1) = ((i : Int) + 1) + 1 from by omega, Int.add_mul, Int.one_mul]
      omega
theorem run_shift (p : Int) (l : List Int) (s t : Int) (i : Nat) (h : i < l.length) : (run p (s + t) l)[i]? = ((run p s l)[i]?).map (· + t) := by
  rw [run_get p l _ i h, run_get p l _ i h]
  simp only [Option.map_some, Option.some.injEq]
  omega
theorem rd_of {l : List Int} {i : Nat} {v : Int} (h : l[i]? = some v) : rd l i = v := by
  simp [rd, List.getD_eq_getElem?_getD, h]

theorem same_loop (l : List Int) (hn : l.length ≤ 100000) : ∀ (d k i : Nat), i + d = l.length → d < k → trivetlaw14_Same.l0 k l l i = some true := by
  intro d
  induction d with
  | zero =>
    intro k i hi hk
    obtain ⟨k, rfl⟩ : ∃ m, k = m + 1 := ⟨k - 1, by omega⟩
    rw [trivetlaw14_Same.l0, if_neg (by omega)]
  | succ d ih =>
    intro k i hi hk
    obtain ⟨k, rfl⟩ : ∃ m, k = m + 1 := ⟨k - 1, by omega⟩
    rw [trivetlaw14_Same.l0, if_pos (by omega), if_pos (by omega), if_pos (by omega), if_pos rfl, w64 ((i : Int) + 1) (by omega) (by omega), show ((i : Int) + 1) = ((i + 1 : Nat) : Int) from by omega, ih k (i + 1) (by omega) (by omega)]
theorem same_f (l : List Int) (hn : l.length ≤ 100000) (k : Nat) (hk : l.length < k) : trivetlaw14_Same.f k l l = some true := by
  unfold trivetlaw14_Same.f
  rw [if_pos rfl]
  exact same_loop l hn l.length k 0 (by omega) hk
theorem any_analyze (l : List Int) (c : Int) : ∃ a b d e f bs x, bs.length ≤ 12 ∧ ∀ k, 40 ≤ k → analysis_Analyze.f k l c = some (a, b, d, e, f, bs, x) := by
  by_cases h : l.length = 12 ∧ Fine l ∧ 0 ≤ c ∧ c ≤ 10000000000000
  · obtain ⟨y, p, q, m, j, T⟩ := told_of l c h.2.1 h.1 h.2.2.1 h.2.2.2
    exact ⟨_, _, _, _, _, _, _, by rw [run_length]; omega, fun k hk => analyze_yes l c h.2.1 h.1 h.2.2.1 h.2.2.2 T k hk⟩
  · exact ⟨_, _, _, _, _, [], _, by simp, fun k hk => analyze_no l c h k hk⟩
theorem stays_loop (l : List Int) (hl : l.length ≤ 100) (c : Int) (a b d e f : Int) (bs : List Int) (x : Option Int) (hb : bs.length ≤ 12) (hA : ∀ k, 40 ≤ k → analysis_Analyze.f k l c = some (a, b, d, e, f, bs, x)) (a1 a2 a3 a4 a5 : Int) :
    ∀ (n k i : Nat) (z : List Int), z.length ≤ 12 → i + n = z.length → n + 200 < k → trivetlaw15_AnalysisStays.l0 k l c true l x bs i a1 a2 a3 a4 a5 z = some true := by
  intro n
  induction n with
  | zero =>
    intro k i z hz hi hk
    obtain ⟨k, rfl⟩ : ∃ m, k = m + 1 := ⟨k - 1, by omega⟩
    rw [trivetlaw15_AnalysisStays.l0, if_neg (by omega), hA k (by omega)]
    simp only [Option.bind_some, if_true]
    rw [same_f l (by omega) k (by omega), same_f bs (by omega) k (by omega)]
    cases x <;> simp
  | succ n ih =>
    intro k i z hz hi hk
    obtain ⟨k, rfl⟩ : ∃ m, k = m + 1 := ⟨k - 1, by omega⟩
    rw [trivetlaw15_AnalysisStays.l0, if_pos (by omega), if_pos (by omega), w64 ((i : Int) + 1) (by omega) (by omega), show ((i : Int) + 1) = ((i + 1 : Nat) : Int) from by omega]
    exact ih k (i + 1) _ (by simpa using hz) (by simp; omega) (by omega)
theorem AnalysisStays : trivetlaw15_AnalysisStays.Pure := by
  intro l c hl1 hl2 hw hc
  refine ⟨400, ?_⟩
  unfold trivetlaw15_AnalysisStays.f
  rw [up_f 400 (by omega), Option.bind_some]
  by_cases h1 : (l.length : Int) > 100
  · rw [if_pos h1]
  rw [if_neg h1]
  obtain ⟨a, b, d, e, f, bs, x, hb, hA⟩ := any_analyze l c
  simp only [Option.bind_some, List.nil_append, List.length_nil, Nat.zero_add]
  rw [if_pos (by omega), hA 400 (by omega)]
  simp only [Option.bind_some]
  rw [if_pos (by omega)]
  exact stays_loop l (by omega) c a b d e f bs x hb hA _ _ _ _ _ bs.length 400 0 bs hb (by omega) (by omega)

end Go.Proofs.Ytmklhkaaaegmgaa.Pure
