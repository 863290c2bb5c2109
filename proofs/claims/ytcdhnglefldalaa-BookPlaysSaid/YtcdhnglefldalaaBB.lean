import Derived.Test.YtcdhnglefldalaaBA
namespace Go.Proofs.Ytcdhnglefldalaa.PBook
open Go.RowKit Go.Proofs.YtcdhnglefldalaaW.PrintWords Go.Proofs.YtcdhnglefldalaaW.PrintLast Go.Proofs.YtcdhnglefldalaaW.PrintMore
set_option linter.unusedVariables false
set_option linter.unusedSimpArgs false
open Go.Proofs.Ytcdhnglefldalaa.PBookPlays (S32 S34 S40 k32 k34 k40 z32 z34 z40 rd_T34 at_T34 rd_T40 at_T40 errEqI errEqL errEqR errNeI errNeL errNeR)
attribute [local go_sem high] errEqI errNeI errEqL errNeL errEqR errNeR
def cn_may (k o : Int) : Bool := decide (1 ≤ k) && decide (k ≤ 12) && (if k ≤ 3 then decide (o = 0) else decide (1 ≤ o) && decide (o ≤ 65536))
theorem chart_may (k o : Int) (w : World) : Calls Try.prog 47 #[.agg #[.int .i64 k, .int .i64 o]] w fun e w' => e = .returned (.bool (cn_may k o)) ∧ Below w.heap.size w w' := by
  unfold cn_may
  by_cases c1 : k < 1
  · have e1 : decide (k < 1) = true := decide_eq_true c1
    have e2 : decide (1 ≤ k) = false := decide_eq_false (by omega)
    rw [e2]
    go_enter Try.func47, Try.ntmps47
    go_wp2
    go_ret
    exact ⟨rfl, below_alloc (Below.refl _ _) _⟩
  have e1 : decide (k < 1) = false := decide_eq_false c1
  have e2 : decide (1 ≤ k) = true := decide_eq_true (by omega)
  rw [e2]
  by_cases c2 : 12 < k
  · have e3 : decide (12 < k) = true := decide_eq_true c2
    have e4 : decide (k ≤ 12) = false := decide_eq_false (by omega)
    rw [e4]
    go_enter Try.func47, Try.ntmps47
    go_wp2
    go_ret
    exact ⟨rfl, below_alloc (Below.refl _ _) _⟩
  have e3 : decide (12 < k) = false := decide_eq_false c2
  have e4 : decide (k ≤ 12) = true := decide_eq_true (by omega)
  rw [e4]
  by_cases c3 : k ≤ 3
  · have e5 : decide (k ≤ 3) = true := decide_eq_true c3
    rw [if_pos c3]
    obtain ⟨z, hz⟩ : ∃ z, (o == 0) = z := ⟨_, rfl⟩
    have e6 : decide (o = 0) = z := by rw [← hz]; rfl
    rw [e6]
    go_enter Try.func47, Try.ntmps47
    go_wp2
    go_ret
    exact ⟨by simp, below_alloc (Below.refl _ _) _⟩
  · have e5 : decide (k ≤ 3) = false := decide_eq_false c3
    rw [if_neg c3]
    by_cases c4 : 1 ≤ o
    · have e6 : decide (1 ≤ o) = true := decide_eq_true c4
      rw [e6]
      go_enter Try.func47, Try.ntmps47
      go_wp2
      go_ret
      exact ⟨by simp, below_alloc (Below.refl _ _) _⟩
    · have e6 : decide (1 ≤ o) = false := decide_eq_false c4
      rw [e6]
      go_enter Try.func47, Try.ntmps47
      go_wp2
      go_ret
      exact ⟨by simp, below_alloc (Below.refl _ _) _⟩
def co_less (k o k2 o2 : Int) : Bool := decide (k < k2) || ((k == k2) && decide (o < o2))
theorem co_calls (k o k2 o2 : Int) (w : World) : Calls Try.prog 33 #[.agg #[.int .i64 k, .int .i64 o], .agg #[.int .i64 k2, .int .i64 o2]] w fun e w' => e = .returned (.bool (co_less k o k2 o2)) ∧ Below w.heap.size w w' := by
  unfold co_less
  generalize h1 : decide (k < k2) = a
  generalize h2 : (k == k2) = b
  generalize h3 : decide (o < o2) = c
  cases a <;> cases b
  all_goals
    go_enter Try.func33, Try.ntmps33
    go_wp2
    go_ret
    exact ⟨rfl, below_alloc (below_alloc (Below.refl _ _) _) _⟩
def lmay (x : S34) : Bool := cn_may x.f0.f0 x.f0.f1
def odd1 (x : S34) : Bool := (x.f1 == 0) || !lmay x
def shapedB (l : List S34) : Bool := decide (1 ≤ l.length) && decide (l.length ≤ 32) && !(l.any odd1)
set_option maxRecDepth 100000 in
theorem bb_odd (x : S34) (w : World) : Calls Try.prog 46 #[.agg #[.int .i64 x.f0.f0, .int .i64 x.f0.f1, .int .i64 x.f1]] w fun e w' => e = .returned (.bool (odd1 x)) ∧ Below w.heap.size w w' := by
  have M := Aside0.mk (fun W => chart_may x.f0.f0 x.f0.f1 W)
  unfold odd1 lmay
  generalize cn_may x.f0.f0 x.f0.f1 = m at M ⊢
  obtain ⟨z, hz⟩ : ∃ z, (x.f1 == 0) = z := ⟨_, rfl⟩
  rw [hz]
  cases z with
  | true =>
    go_enter Try.func46, Try.ntmps46
    go_wp2_with fail
    go_ret
    exact ⟨rfl, below_alloc (Below.refl _ _) _⟩
  | false =>
    go_enter Try.func46, Try.ntmps46
    go_wp2_with fail
    refine (M.out _).mono ?_
    rintro e w2 ⟨rfl, hb⟩
    have B := Aside0.mk (below_step (below_alloc (Below.refl w.heap.size w) _) hb)
    clear hb
    go_wp2_with fail
    go_ret
    exact ⟨rfl, B.out⟩
set_option maxRecDepth 100000 in
theorem bb_index (A : Option Addr) (cap : Nat) (l : List S34) (w : World) (hs : Lr w A l) (hl : l.length ≤ 65536) : Calls Try.prog 56 #[.slice A l.length cap, .func (.func 46) #[] #[]] w fun e w' => (∃ i : Int, e = .returned (.int .i64 i) ∧ (decide (0 ≤ i) = l.any odd1)) ∧ Below w.heap.size w w' := by
  have HS := Aside0.mk hs
  clear hs
  go_enter Try.func56, Try.ntmps56
  have O1 := Aside0.mk (fun x W => bb_odd x W)
  go_wp2_with fail
  go_loopw [8] (fun v8 wr => ∃ i : Nat, v8 = .int .i64 ↑i ∧ Aside0 (i ≤ l.length ∧ (l.take i).any odd1 = false ∧ Below w.heap.size w wr)) (fun v8 _ => (l.length - intOf v8).toNat)
  case atStart => exact ⟨0, rfl, ⟨Nat.zero_le _, rfl, Below.refl _ _⟩⟩
  case round =>
    obtain ⟨i, rfl, HI⟩ := hrel
    by_cases ci : i < l.length
    · have ci2 : (↑i : Int) < ↑l.length := by omega
      have i0 : (0 : Int) ≤ ↑i := by omega
      obtain ⟨x, hx⟩ : ∃ x, l[i]? = some x := ⟨l[i], List.getElem?_eq_getElem ci⟩
      obtain ⟨ad, rfl, c0, c1, c2⟩ := (HS.out.below HI.out.2.2) i x hx
      have HX := Aside0.mk hx
      clear hx
      go_wp2_with fail
      refine (O1.out x _).mono ?_
      rintro e w2 ⟨rfl, hb⟩
      have B2 := Aside0.mk (below_step HI.out.2.2 hb)
      clear hb c0 c1 c2
      obtain ⟨q, hq⟩ : ∃ q, odd1 x = q := ⟨_, rfl⟩
      have HQ := Aside0.mk hq
      rw [hq]
      clear hq
      cases q with
      | false =>
        go_wp2_with fail
        refine ⟨⟨i + 1, rfl, ⟨by omega, ?_, B2.out⟩⟩, by simp [intOf]; omega⟩
        rw [List.take_add_one, HX.out, List.any_append, HI.out.2.1]
        simp [HQ.out]
      | true =>
        go_wp2_with fail
        go_ret
        refine ⟨⟨↑i, rfl, ?_⟩, B2.out⟩
        rw [decide_eq_true (show (0 : Int) ≤ ↑i by omega)]
        exact (List.any_eq_true.2 ⟨x, List.mem_of_getElem? HX.out, HQ.out⟩).symm
    · have ci2 : ¬ (↑i : Int) < ↑l.length := by omega
      go_wp2_with fail
      go_ret
      refine ⟨⟨-1, rfl, ?_⟩, HI.out.2.2⟩
      have h := HI.out.2.1
      rw [List.take_of_length_le (by omega)] at h
      rw [h]
      rfl
set_option maxRecDepth 100000 in
theorem bb_contains (A : Option Addr) (cap : Nat) (l : List S34) (w : World) (hs : Lr w A l) (hl : l.length ≤ 65536) : Calls Try.prog 48 #[.slice A l.length cap, .func (.func 46) #[] #[]] w fun e w' => e = .returned (.bool (l.any odd1)) ∧ Below w.heap.size w w' := by
  have IX := Aside0.mk (bb_index A cap l w hs hl)
  clear hs
  go_enter Try.func48, Try.ntmps48
  go_wp2_with fail
  refine IX.out.mono ?_
  rintro e w2 ⟨⟨i, rfl, hi⟩, hb⟩
  have HI := Aside0.mk (And.intro hi hb)
  clear hi hb
  go_wp2
  go_ret
  exact ⟨congrArg (fun z => Ending.returned (Value.bool z)) HI.out.1, HI.out.2⟩
set_option maxRecDepth 100000 in
theorem bb_shaped (A : Option Addr) (cap : Nat) (l : List S34) (w : World) (hs : Lr w A l) (hl : l.length ≤ 9223372036854775807) : Calls Try.prog 26 #[.slice A l.length cap] w fun e w' => e = .returned (.bool (shapedB l)) ∧ Below w.heap.size w w' := by
  unfold shapedB
  by_cases h1 : 1 ≤ l.length
  · have d1 : decide ((1 : Int) ≤ ↑l.length) = true := decide_eq_true (by omega)
    rw [decide_eq_true h1]
    by_cases h2 : l.length ≤ 32
    · have d2 : decide ((↑l.length : Int) ≤ 32) = true := decide_eq_true (by omega)
      rw [decide_eq_true h2]
      have CO := Aside0.mk (bb_contains A cap l w hs (by omega))
      clear hs
      generalize l.any odd1 = r at CO ⊢
      go_enter Try.func26, Try.ntmps26
      go_wp2_with fail
      refine CO.out.mono ?_
      rintro e w2 ⟨rfl, hb⟩
      have B := Aside0.mk hb
      clear hb
      go_wp2_with fail
      go_ret
      exact ⟨rfl, B.out⟩
    · have d2 : decide ((↑l.length : Int) ≤ 32) = false := decide_eq_false (by omega)
      rw [decide_eq_false h2]
      clear hs
      go_enter Try.func26, Try.ntmps26
      go_wp2_with fail
      go_ret
      exact ⟨rfl, Below.refl _ _⟩
  · have d1 : decide ((1 : Int) ≤ ↑l.length) = false := decide_eq_false (by omega)
    rw [decide_eq_false h1]
    clear hs
    go_enter Try.func26, Try.ntmps26
    go_wp2_with fail
    go_ret
    exact ⟨rfl, Below.refl _ _⟩

end Go.Proofs.Ytcdhnglefldalaa.PBook
