-- written for this claim by a program of this session (wip/inject.py), which drives the kit's print
import Derived.Test.YtmklhkaaaegmgaaPRemitMonthsx0
namespace Go.Proofs.Ytmklhkaaaegmgaa.PRemitMonths
open Go.RowKit Go.Proofs.YtmklhkaaaegmgaaW.PrintWords Go.Proofs.YtmklhkaaaegmgaaW.PrintLast Go.Proofs.YtmklhkaaaegmgaaW.PrintMore
attribute [local go_sem] max2_int min2_int max_two min_two max_three min_three max_four min_four   -- for this text's walks alone
set_option linter.unusedVariables false
set_option linter.unusedSimpArgs false

set_option linter.unnecessarySimpa false
attribute [local go_sem high] errEqI errNeI errEqL errNeL errEqR errNeR
/-! ### slices_IndexFunc_int64_int64: function 31 -/
/-- The first place at which p holds; -1: none. -/
def idxOf (p : Int → Bool) (l : List Int) : Int := match l.findIdx? p with | some i => i | none => -1
theorem idxOf_at (p : Int → Bool) (l : List Int) (i : Nat) (h : i < l.length) (hp : p (rd l i) = true) (hb : ∀ j : Nat, j < i → p (rd l j) = false) : idxOf p l = i := by
  have e : l.findIdx? p = some i := by
    rw [List.findIdx?_eq_some_iff_getElem]
    refine ⟨h, ?_, ?_⟩
    · simpa [rd, List.getD_eq_getElem?_getD, h] using hp
    · intro j hj
      have := hb j hj
      simpa [rd, List.getD_eq_getElem?_getD, show j < l.length by omega] using this
  simp [idxOf, e]
theorem idxOf_none (p : Int → Bool) (l : List Int) (hb : ∀ j : Nat, j < l.length → p (rd l j) = false) : idxOf p l = -1 := by
  have e : l.findIdx? p = none := by
    rw [List.findIdx?_eq_none_iff]
    intro x hx
    obtain ⟨j, hj, rfl⟩ := List.getElem_of_mem hx
    have := hb j hj
    simpa [rd, List.getD_eq_getElem?_getD, hj] using this
  simp [idxOf, e]

set_option maxHeartbeats 8000000 in
set_option maxRecDepth 100000 in
theorem IndexFunc_i64 (F : Nat) (p : Int → Bool) (hcf : ∀ (args : Array Value) (w : World), (callFunc F args).run Try.prog w = .ok (.enter F args) w) (hF : ∀ (x : Int) (w : World), Calls Try.prog F #[.int .i64 x] w fun e w' => e = .returned (.bool (p x)) ∧ Drawn0 w w')
    (A0 : Option Addr) (c0 : Nat) (l0 : List Int) (w : World) (hr0 : Kd.C (Kd.int .i64) w A0 l0.length l0) (hc0 : l0.length ≤ c0) (hn : l0.length ≤ 140737488351232) :
    Calls Try.prog 31 #[.slice A0 l0.length c0, .func (.func F) #[] #[]] w fun e w' => e = .returned (.int .i64 (idxOf p l0)) ∧ Drawn0 w w' := by
  have HR0 := Aside0.mk hr0
  have HC0 := Aside0.mk hc0
  have HF := Aside0.mk hF
  clear hr0 hc0 hF
  go_enter Try.func31, Try.ntmps31
  go_wp2
  go_loopw [8] (fun v8 w' => ∃ k : Nat, v8 = .int .i64 k ∧ Aside0 (k ≤ l0.length ∧ ∀ j : Nat, j < k → p (rd l0 j) = false) ∧ Drawn0 w w') (fun v8 _ => l0.length - (intOf v8).toNat)
  case atStart => exact ⟨0, rfl, ⟨by omega, fun j hj => by omega⟩, Drawn0.refl _⟩
  case round =>
    obtain ⟨k, rfl, HA, ⟨m1, rfl⟩⟩ := hrel
    by_cases c3 : (k : Int) < (l0.length : Int)
    · have c3b0 : decide (k < l0.length) = true := decide_eq_true (by omega)
      have c3n : k < l0.length := by omega
      obtain ⟨ad105, e105, hx105_0⟩ := Kd.at_int HR0.out k (by omega) c3
      cases e105
      rw [Int.toNat_natCast] at hx105_0
      clear c3
      cases hp : p (rd l0 k) with
      | true =>
        have e := idxOf_at p l0 k c3n hp HA.out.2
        have HE := Aside0.mk e
        have HP := Aside0.mk hp
        clear e hp
        go_wp2_with fail
        refine (HF.out _ _).mono ?_
        rintro e w' ⟨rfl, ⟨m, rfl⟩⟩
        rw [HP.out]
        go_wp2
        go_ret
        exact ⟨(by first | (rw [HE.out]; done) | (rw [HE.out]; rfl)), by repeat (first | exact Drawn0.refl _ | apply Drawn0.step)⟩
      | false =>
        have HP := Aside0.mk hp
        clear hp
        go_wp2_with fail
        refine (HF.out _ _).mono ?_
        rintro e w' ⟨rfl, ⟨m, rfl⟩⟩
        rw [HP.out]
        go_wp2
        go_roundw
        case measure => simp [intOf]; omega
        case rel => exact ⟨k + 1, by go_num, ⟨by omega, fun j hj => by rcases Nat.lt_succ_iff_lt_or_eq.mp hj with h | rfl; exact HA.out.2 j h; exact HP.out⟩, by repeat (first | exact Drawn0.refl _ | apply Drawn0.step)⟩
    · have c3b0 : decide (k < l0.length) = false := decide_eq_false (by omega)
      have e := idxOf_none p l0 (fun j hj => HA.out.2 j (by omega))
      have HE := Aside0.mk e
      clear e c3
      go_wp2
      go_ret
      exact ⟨(by first | (rw [HE.out]; done) | (rw [HE.out]; rfl)), by repeat (first | exact Drawn0.refl _ | apply Drawn0.step)⟩


/-! ### slices_ContainsFunc_int64_int64: function 24 -/
theorem idxOf_neg (p : Int → Bool) (l : List Int) : decide (0 ≤ idxOf p l) = l.any p := by
  unfold idxOf
  cases e : l.findIdx? p with
  | none =>
    rw [List.findIdx?_eq_none_iff] at e
    simpa using fun x hx => e x hx
  | some i =>
    have h := List.findIdx?_eq_some_iff_getElem.mp e
    obtain ⟨h1, h2, _⟩ := h
    have : l.any p = true := List.any_eq_true.mpr ⟨l[i], List.getElem_mem h1, h2⟩
    rw [this]; simp

set_option maxHeartbeats 8000000 in
set_option maxRecDepth 100000 in
theorem ContainsFunc_i64 (F : Nat) (p : Int → Bool) (hcf : ∀ (args : Array Value) (w : World), (callFunc F args).run Try.prog w = .ok (.enter F args) w) (hF : ∀ (x : Int) (w : World), Calls Try.prog F #[.int .i64 x] w fun e w' => e = .returned (.bool (p x)) ∧ Drawn0 w w')
    (A0 : Option Addr) (c0 : Nat) (l0 : List Int) (w : World) (hr0 : Kd.C (Kd.int .i64) w A0 l0.length l0) (hc0 : l0.length ≤ c0) (hn : l0.length ≤ 140737488351232) :
    Calls Try.prog 24 #[.slice A0 l0.length c0, .func (.func F) #[] #[]] w fun e w' => e = .returned (.bool (l0.any p)) ∧ Drawn0 w w' := by
  have HI := Aside0.mk (IndexFunc_i64 F p hcf hF A0 c0 l0)
  have HR0 := Aside0.mk hr0
  have HE := Aside0.mk (idxOf_neg p l0)
  clear hr0 hF
  go_enter Try.func24, Try.ntmps24
  go_wp2_with fail
  refine (HI.out _ HR0.out hc0 hn).mono ?_
  rintro e w' ⟨rfl, ⟨m, rfl⟩⟩
  go_wp2
  go_ret
  exact ⟨(by first | (rw [← HE.out]; done) | (rw [← HE.out]; rfl)), by repeat (first | exact Drawn0.refl _ | apply Drawn0.step)⟩

/-! ### remit_Month: function 14 -/
def rm_bad (x : Int) : Bool := decide (x < 0) || decide (10000000000000 < x)
def rm_fst (way x y : Int) : Int := if way = 3 then y else x
def rm_snd (way x y : Int) : Int := if way = 1 then x else y
def rm_month (way s0 s1 a0 a1 b o : Int) : Int × Int × Int × Int × Int × Int × Option Int :=
  if way < 1 ∨ 3 < way ∨ [s0, s1, a0, a1, b, o].any rm_bad = true then (0, 0, 0, 0, 0, 0, some 1)
  else if a0 + a1 + b ≤ rm_fst way s0 a0 + (rm_snd way s1 a1 + b) then (rm_fst way s0 a0, rm_snd way s1 a1 + b, rm_fst way s0 a0 + (rm_snd way s1 a1 + b) - (a0 + a1 + b), 0, o + (rm_fst way s0 a0 + (rm_snd way s1 a1 + b) - (a0 + a1 + b)), 0, none)
  else if a0 + a1 + b - (rm_fst way s0 a0 + (rm_snd way s1 a1 + b)) ≤ o then (rm_fst way s0 a0, rm_snd way s1 a1 + b, 0, a0 + a1 + b - (rm_fst way s0 a0 + (rm_snd way s1 a1 + b)), o - (a0 + a1 + b - (rm_fst way s0 a0 + (rm_snd way s1 a1 + b))), 0, none)
  else (rm_fst way s0 a0, rm_snd way s1 a1 + b, 0, o, 0, a0 + a1 + b - (rm_fst way s0 a0 + (rm_snd way s1 a1 + b)) - o, none)
def remit_Month.f (a0 a1_0 a1_1 a2_0 a2_1 a3 a4 : Int) : Option (Int × Int × Int × Int × Int × Int × Option Int) := some (rm_month a0 a1_0 a1_1 a2_0 a2_1 a3 a4)
theorem remit_Month_1.calls (x : Int) (w : World) :
    Calls Try.prog 25 #[.int .i64 x] w fun e w' => e = .returned (.bool (rm_bad x)) ∧ Drawn0 w w' := by
  unfold rm_bad
  by_cases h : x < 0
  · have hb : decide (x < 0) = true := decide_eq_true h
    go_enter Try.func25, Try.ntmps25
    go_wp2
    go_ret
    exact ⟨by rw [hb]; rfl, by repeat (first | exact Drawn0.refl _ | apply Drawn0.step)⟩
  · have hb : decide (x < 0) = false := decide_eq_false h
    go_enter Try.func25, Try.ntmps25
    go_wp2
    go_ret
    exact ⟨by simp [hb], by repeat (first | exact Drawn0.refl _ | apply Drawn0.step)⟩
theorem rm_out {w : World} (o1 o2 o3 o4 : Obj) : Below w.heap.size w ((((w.alloc o1).alloc o2).alloc o3).alloc o4) := below_alloc (below_alloc (below_alloc (below_alloc (Below.refl _ _) _) _) _) _
set_option maxRecDepth 100000 in
theorem rm_way (a0 a1_0 a1_1 a2_0 a2_1 a3 a4 : Int) (w : World) (h : a0 < 1 ∨ 3 < a0) :
    Calls Try.prog 14 #[.int .i64 a0, .agg #[.int .i64 a1_0, .int .i64 a1_1], .agg #[.int .i64 a2_0, .int .i64 a2_1], .int .i64 a3, .int .i64 a4] w fun e w' => e = .returned (.tuple #[.agg #[.int .i64 0, .int .i64 0, .int .i64 0, .int .i64 0, .int .i64 0, .int .i64 0], .iface 32 (.int .i64 1)]) ∧ Below w.heap.size w w' := by
  by_cases c : a0 < 1
  · have cb : decide (a0 < 1) = true := decide_eq_true c
    go_enter Try.func14, Try.ntmps14
    go_wp2
    exact bodyPost_ret (v := .tuple #[.agg #[.int .i64 0, .int .i64 0, .int .i64 0, .int .i64 0, .int .i64 0, .int .i64 0], .iface 32 (.int .i64 1)]) (by simp [results, Try.results14, go_sem]) rfl ⟨rfl, rm_out _ _ _ _⟩
  · have cb : decide (a0 < 1) = false := decide_eq_false c
    have cb2 : decide (3 < a0) = true := decide_eq_true (by omega)
    go_enter Try.func14, Try.ntmps14
    go_wp2
    exact bodyPost_ret (v := .tuple #[.agg #[.int .i64 0, .int .i64 0, .int .i64 0, .int .i64 0, .int .i64 0, .int .i64 0], .iface 32 (.int .i64 1)]) (by simp [results, Try.results14, go_sem]) rfl ⟨rfl, rm_out _ _ _ _⟩
def rm_l (a1_0 a1_1 a2_0 a2_1 a3 a4 : Int) : List Int := [a1_0, a1_1, a2_0, a2_1, a3, a4]
theorem rm_any (a1_0 a1_1 a2_0 a2_1 a3 a4 : Int) (w : World) (o1 o2 o3 : Obj) :
    Calls Try.prog 24 #[.slice (some ⟨w.heap.size + 1 + 1 + 1, 0, none⟩) 6 6, .func (.func 25) #[] #[]] ((((w.alloc o1).alloc o2).alloc o3).alloc (.cells #[.int .i64 a1_0, .int .i64 a1_1, .int .i64 a2_0, .int .i64 a2_1, .int .i64 a3, .int .i64 a4] 2))
      fun e w' => e = .returned (.bool ([a1_0, a1_1, a2_0, a2_1, a3, a4].any rm_bad)) ∧ Drawn0 ((((w.alloc o1).alloc o2).alloc o3).alloc (.cells #[.int .i64 a1_0, .int .i64 a1_1, .int .i64 a2_0, .int .i64 a2_1, .int .i64 a3, .int .i64 a4] 2)) w' := by
  have hz : ((((w.alloc o1).alloc o2).alloc o3).alloc (.cells #[.int .i64 a1_0, .int .i64 a1_1, .int .i64 a2_0, .int .i64 a2_1, .int .i64 a3, .int .i64 a4] 2)).heap[w.heap.size + 1 + 1 + 1]? = some (.cells #[.int .i64 a1_0, .int .i64 a1_1, .int .i64 a2_0, .int .i64 a2_1, .int .i64 a3, .int .i64 a4] 2 (0, 0)) := by
    have := blk_new (((w.alloc o1).alloc o2).alloc o3) (.cells #[.int .i64 a1_0, .int .i64 a1_1, .int .i64 a2_0, .int .i64 a2_1, .int .i64 a3, .int .i64 a4] 2)
    simpa using this
  have hC : (Kd.int .i64).C ((((w.alloc o1).alloc o2).alloc o3).alloc (.cells #[.int .i64 a1_0, .int .i64 a1_1, .int .i64 a2_0, .int .i64 a2_1, .int .i64 a3, .int .i64 a4] 2)) (some ⟨w.heap.size + 1 + 1 + 1, 0, none⟩) [a1_0, a1_1, a2_0, a2_1, a3, a4].length [a1_0, a1_1, a2_0, a2_1, a3, a4] := by
    refine Kd.C_of_reads (d := (0 : Int)) (h1 := fun _ => rfl) ⟨rfl, by simp, fun _ => ⟨_, rfl, fun i hi => ?_⟩⟩
    rcases i with _ | _ | _ | _ | _ | _ | i
    · exact (blk_cell hz 0).trans rfl
    · exact (blk_cell hz 1).trans rfl
    · exact (blk_cell hz 2).trans rfl
    · exact (blk_cell hz 3).trans rfl
    · exact (blk_cell hz 4).trans rfl
    · exact (blk_cell hz 5).trans rfl
    · simp at hi; omega
  exact ContainsFunc_i64 25 rm_bad (fun _ _ => by simp [go_sem]) remit_Month_1.calls _ 6 [a1_0, a1_1, a2_0, a2_1, a3, a4] _ hC (by simp) (by simp)
theorem rm_fw (a1_0 a1_1 a2_0 a2_1 a3 a4 : Int) (w : World) : ∀ m, ∃ W, ((((w.alloc (.cells #[.int .i64 a1_0, .int .i64 a1_1] 22)).alloc (.cells #[.int .i64 a2_0, .int .i64 a2_1] 22)).alloc (.cells #[.int .i64 0, .int .i64 0, .int .i64 0, .int .i64 0, .int .i64 0, .int .i64 0] 25)).alloc (.cells #[.int .i64 a1_0, .int .i64 a1_1, .int .i64 a2_0, .int .i64 a2_1, .int .i64 a3, .int .i64 a4] 2)).drewN m = W ∧
    W.heap[w.heap.size]? = some (.cells #[.int .i64 a1_0, .int .i64 a1_1] 22 (0, 0)) ∧ W.heap[w.heap.size + 1]? = some (.cells #[.int .i64 a2_0, .int .i64 a2_1] 22 (0, 0)) ∧ W.heap[w.heap.size + 1 + 1]? = some (.cells #[.int .i64 0, .int .i64 0, .int .i64 0, .int .i64 0, .int .i64 0, .int .i64 0] 25 (0, 0)) ∧ Below w.heap.size w W := by
  intro m
  refine ⟨_, rfl, ?_, ?_, ?_, pw_below_drewN (rm_out _ _ _ _) m⟩
  · exact blk_drewN (blk_alloc (blk_alloc (blk_alloc (blk_new w _) _) _) _) m
  · have := blk_new (w.alloc (.cells #[.int .i64 a1_0, .int .i64 a1_1] 22)) (.cells #[.int .i64 a2_0, .int .i64 a2_1] 22)
    exact blk_drewN (blk_alloc (blk_alloc (by simpa using this) _) _) m
  · have := blk_new ((w.alloc (.cells #[.int .i64 a1_0, .int .i64 a1_1] 22)).alloc (.cells #[.int .i64 a2_0, .int .i64 a2_1] 22)) (.cells #[.int .i64 0, .int .i64 0, .int .i64 0, .int .i64 0, .int .i64 0, .int .i64 0] 25)
    exact blk_drewN (blk_alloc (by simpa using this) _) m
theorem rm_fin {w W : World} {g T : Nat} (h : W.heap[g]? = some (.cells #[.int .i64 0, .int .i64 0, .int .i64 0, .int .i64 0, .int .i64 0, .int .i64 0] T (0, 0))) (hB : Below w.heap.size w W) (hg : w.heap.size ≤ g) (u0 u1 u2 u3 u4 u5 : Value) (W6 : World)
    (e : W6 = ((((((W.setCell ⟨g, 0, none⟩ u0).setCell ⟨g, 1, none⟩ u1).setCell ⟨g, 2, none⟩ u2).setCell ⟨g, 3, none⟩ u3).setCell ⟨g, 4, none⟩ u4).setCell ⟨g, 5, none⟩ u5)) :
    W6.cell? ⟨g, 0, none⟩ = some u0 ∧ W6.cell? ⟨g, 1, none⟩ = some u1 ∧ W6.cell? ⟨g, 2, none⟩ = some u2 ∧ W6.cell? ⟨g, 3, none⟩ = some u3 ∧ W6.cell? ⟨g, 4, none⟩ = some u4 ∧ W6.cell? ⟨g, 5, none⟩ = some u5 ∧ Below w.heap.size w W6 := by
  have k : W6.heap[g]? = some (.cells #[u0, u1, u2, u3, u4, u5] T (0, 0)) := by
    rw [e]
    exact blk_put (blk_put (blk_put (blk_put (blk_put (blk_put h 0 u0 rfl) 1 u1 rfl) 2 u2 rfl) 3 u3 rfl) 4 u4 rfl) 5 u5 rfl
  refine ⟨(blk_cell k 0).trans rfl, (blk_cell k 1).trans rfl, (blk_cell k 2).trans rfl, (blk_cell k 3).trans rfl, (blk_cell k 4).trans rfl, (blk_cell k 5).trans rfl, ?_⟩
  rw [e]
  exact (((((hB.setCell (p := ⟨g, 0, none⟩) hg u0).setCell (p := ⟨g, 1, none⟩) hg u1).setCell (p := ⟨g, 2, none⟩) hg u2).setCell (p := ⟨g, 3, none⟩) hg u3).setCell (p := ⟨g, 4, none⟩) hg u4).setCell (p := ⟨g, 5, none⟩) hg u5
set_option maxRecDepth 100000 in
theorem rm_bads (a0 a1_0 a1_1 a2_0 a2_1 a3 a4 : Int) (w : World) (h0 : 1 ≤ a0) (h1 : a0 ≤ 3) (h : [a1_0, a1_1, a2_0, a2_1, a3, a4].any rm_bad = true) :
    Calls Try.prog 14 #[.int .i64 a0, .agg #[.int .i64 a1_0, .int .i64 a1_1], .agg #[.int .i64 a2_0, .int .i64 a2_1], .int .i64 a3, .int .i64 a4] w fun e w' => e = .returned (.tuple #[.agg #[.int .i64 0, .int .i64 0, .int .i64 0, .int .i64 0, .int .i64 0, .int .i64 0], .iface 32 (.int .i64 1)]) ∧ Below w.heap.size w w' := by
  have cb : decide (a0 < 1) = false := decide_eq_false (by omega)
  have cb2 : decide (3 < a0) = false := decide_eq_false (by omega)
  have K := Aside0.mk (rm_any a1_0 a1_1 a2_0 a2_1 a3 a4 w)
  rw [h] at K
  have FWA := Aside0.mk (rm_fw a1_0 a1_1 a2_0 a2_1 a3 a4 w)
  clear h
  go_enter Try.func14, Try.ntmps14
  go_wp2_with fail
  refine (K.out _ _ _).mono ?_
  rintro e w1 ⟨rfl, ⟨m, rfl⟩⟩
  obtain ⟨W, hW, hS, hA, hR, hB⟩ := FWA.out m
  rw [hW]
  clear hW hS hA K FWA
  have q0 := (blk_cell hR 0).trans rfl
  have f0 := blk_frozen hR 0
  have q1 := (blk_cell hR 1).trans rfl
  have f1 := blk_frozen hR 1
  have q2 := (blk_cell hR 2).trans rfl
  have f2 := blk_frozen hR 2
  have q3 := (blk_cell hR 3).trans rfl
  have f3 := blk_frozen hR 3
  have q4 := (blk_cell hR 4).trans rfl
  have f4 := blk_frozen hR 4
  have q5 := (blk_cell hR 5).trans rfl
  have f5 := blk_frozen hR 5
  have hR' := Aside0.mk hR
  clear hR
  go_wp2
  generalize hW6 : ((((((W.setCell ⟨w.heap.size + 1 + 1, 0, none⟩ _).setCell ⟨w.heap.size + 1 + 1, 1, none⟩ _).setCell ⟨w.heap.size + 1 + 1, 2, none⟩ _).setCell ⟨w.heap.size + 1 + 1, 3, none⟩ _).setCell ⟨w.heap.size + 1 + 1, 4, none⟩ _).setCell ⟨w.heap.size + 1 + 1, 5, none⟩ _) = W6
  obtain ⟨g0, g1, g2, g3, g4, g5, B⟩ := rm_fin hR'.out hB (by omega) _ _ _ _ _ _ W6 hW6.symm
  exact bodyPost_ret (v := .tuple #[.agg #[.int .i64 0, .int .i64 0, .int .i64 0, .int .i64 0, .int .i64 0, .int .i64 0], .iface 32 (.int .i64 1)]) (by simp [results, Try.results14, go_sem, g0, g1, g2, g3, g4, g5]) rfl ⟨rfl, B⟩
theorem rm_box {w W : World} {g rb T : Nat} {i p : Value} {z : Obj} (h : W.heap[rb]? = some (.cells #[i, p, .int .i64 0, .int .i64 0, .int .i64 0, .int .i64 0] T (0, 0))) (hz : ∃ cs, z = .cells cs T (0, 0)) (hr : W.heap[g]? = some z) (hB : Below w.heap.size w W) (hg : w.heap.size ≤ rb) (hne : g ≠ rb) (u2 u3 u5 u4 : Value) (W5 : World)
    (e : W5 = ((((W.setCell ⟨rb, 2, none⟩ u2).setCell ⟨rb, 3, none⟩ u3).setCell ⟨rb, 5, none⟩ u5).setCell ⟨rb, 4, none⟩ u4)) :
    W5.cell? ⟨rb, 0, none⟩ = some i ∧ W5.cell? ⟨rb, 1, none⟩ = some p ∧ W5.cell? ⟨rb, 2, none⟩ = some u2 ∧ W5.cell? ⟨rb, 3, none⟩ = some u3 ∧ W5.cell? ⟨rb, 4, none⟩ = some u4 ∧ W5.cell? ⟨rb, 5, none⟩ = some u5 ∧ W5.heap[g]? = some z ∧ Below w.heap.size w W5 := by
  have k : W5.heap[rb]? = some (.cells #[i, p, u2, u3, u4, u5] T (0, 0)) := by
    rw [e]
    exact blk_put (blk_put (blk_put (blk_put h 2 u2 rfl) 3 u3 rfl) 5 u5 rfl) 4 u4 rfl
  refine ⟨(blk_cell k 0).trans rfl, (blk_cell k 1).trans rfl, (blk_cell k 2).trans rfl, (blk_cell k 3).trans rfl, (blk_cell k 4).trans rfl, (blk_cell k 5).trans rfl, ?_, ?_⟩
  · obtain ⟨cs, rfl⟩ := hz
    rw [e]
    exact blk_far (blk_far (blk_far (blk_far hr hne u2) hne u3) hne u5) hne u4
  · rw [e]
    exact (((hB.setCell (p := ⟨rb, 2, none⟩) hg u2).setCell (p := ⟨rb, 3, none⟩) hg u3).setCell (p := ⟨rb, 5, none⟩) hg u5).setCell (p := ⟨rb, 4, none⟩) hg u4
theorem rm_vals (i p a0 a1 b o : Int) (r1 r2 r3 r4 r5 r6 : Int) (h : (if a0 + a1 + b ≤ i + (p + b) then (i, p + b, i + (p + b) - (a0 + a1 + b), 0, o + (i + (p + b) - (a0 + a1 + b)), 0, none)
  else if a0 + a1 + b - (i + (p + b)) ≤ o then (i, p + b, 0, a0 + a1 + b - (i + (p + b)), o - (a0 + a1 + b - (i + (p + b))), 0, none)
  else (i, p + b, 0, o, 0, a0 + a1 + b - (i + (p + b)) - o, none) : Int × Int × Int × Int × Int × Int × Option Int) = (r1, r2, r3, r4, r5, r6, none)) :
    r1 = i ∧ r2 = p + b ∧ ((a0 + a1 + b ≤ i + (p + b) ∧ r3 = i + (p + b) - (a0 + a1 + b) ∧ r4 = 0 ∧ r5 = o + (i + (p + b) - (a0 + a1 + b)) ∧ r6 = 0) ∨
      (i + (p + b) < a0 + a1 + b ∧ a0 + a1 + b - (i + (p + b)) ≤ o ∧ r3 = 0 ∧ r4 = a0 + a1 + b - (i + (p + b)) ∧ r5 = o - (a0 + a1 + b - (i + (p + b))) ∧ r6 = 0) ∨
      (i + (p + b) < a0 + a1 + b ∧ o < a0 + a1 + b - (i + (p + b)) ∧ r3 = 0 ∧ r4 = o ∧ r5 = 0 ∧ r6 = a0 + a1 + b - (i + (p + b)) - o)) := by
  by_cases c : a0 + a1 + b ≤ i + (p + b)
  · rw [if_pos c] at h
    simp only [Prod.mk.injEq] at h
    omega
  · rw [if_neg c] at h
    by_cases d : a0 + a1 + b - (i + (p + b)) ≤ o
    · rw [if_pos d] at h
      simp only [Prod.mk.injEq] at h
      omega
    · rw [if_neg d] at h
      simp only [Prod.mk.injEq] at h
      omega
set_option maxHeartbeats 2000000 in
set_option maxRecDepth 100000 in
theorem rm_main (a0 a1_0 a1_1 a2_0 a2_1 a3 a4 : Int) (w : World) (h0 : a0 = 1 ∨ a0 = 2 ∨ a0 = 3) (h : [a1_0, a1_1, a2_0, a2_1, a3, a4].any rm_bad = false) (r1 r2 r3 r4 r5 r6 : Int) (h2 : rm_month a0 a1_0 a1_1 a2_0 a2_1 a3 a4 = (r1, r2, r3, r4, r5, r6, none)) :
    Calls Try.prog 14 #[.int .i64 a0, .agg #[.int .i64 a1_0, .int .i64 a1_1], .agg #[.int .i64 a2_0, .int .i64 a2_1], .int .i64 a3, .int .i64 a4] w fun e w' => e = .returned (.tuple #[.agg #[.int .i64 r1, .int .i64 r2, .int .i64 r3, .int .i64 r4, .int .i64 r5, .int .i64 r6], .nilIface]) ∧ Below w.heap.size w w' := by
  have K := Aside0.mk (rm_any a1_0 a1_1 a2_0 a2_1 a3 a4 w)
  rw [h] at K
  have hno := h
  simp [rm_bad] at h
  obtain ⟨⟨b0, b1⟩, ⟨b2, b3⟩, ⟨b4, b5⟩, ⟨b6, b7⟩, ⟨b8, b9⟩, b10, b11⟩ := h
  have FWA := Aside0.mk (rm_fw a1_0 a1_1 a2_0 a2_1 a3 a4 w)
  rcases h0 with rfl | rfl | rfl
  · rw [rm_month, if_neg (by rw [hno]; simp)] at h2
    simp [rm_fst, rm_snd] at h2
    have EA := Aside0.mk (rm_vals a1_0 a1_1 a2_0 a2_1 a3 a4 r1 r2 r3 r4 r5 r6 h2)
    clear h2
    go_enter Try.func14, Try.ntmps14
    go_wp2_with fail
    refine (K.out _ _ _).mono ?_
    rintro e w1 ⟨rfl, ⟨m, rfl⟩⟩
    obtain ⟨W, hW, hS, hA, hR, hB⟩ := FWA.out m
    rw [hW]
    clear hW
    have HB := Aside0.mk hB
    have HR := Aside0.mk hR
    have s0 := (blk_cell hS 0).trans rfl
    have s1 := (blk_cell hS 1).trans rfl
    have a0 := (blk_cell hA 0).trans rfl
    have a1 := (blk_cell hA 1).trans rfl
    have HA := Aside0.mk hA
    have HS := Aside0.mk hS
    clear hA hB hR hS FWA K
    go_wp2
    go_quiet (fail)
    have HB2 := Aside0.mk (pw_below_drewN HB.out nq)
    have HR2 := Aside0.mk (blk_drewN HR.out nq)
    have HA2 := Aside0.mk (blk_drewN HA.out nq)
    have hS2 := blk_drewN HS.out nq
    clear s0 s1 a0 a1 HB HR HS HA
    generalize W.drewN nq = W2 at hS2 HB2 HR2 HA2 ⊢
    have s0 := (blk_cell hS2 0).trans rfl
    have s1 := (blk_cell hS2 1).trans rfl
    clear hS2
    go_upto_region 10 with (fail)
    have X3 := Aside0.mk (blk_new W2 (.cells #[.int .i64 a1_0, .int .i64 (a1_1 + a3), .int .i64 0, .int .i64 0, .int .i64 0, .int .i64 0] 25))
    have HB3 := Aside0.mk (below_alloc HB2.out (.cells #[.int .i64 a1_0, .int .i64 (a1_1 + a3), .int .i64 0, .int .i64 0, .int .i64 0, .int .i64 0] 25))
    have HR3 := Aside0.mk (blk_alloc HR2.out (.cells #[.int .i64 a1_0, .int .i64 (a1_1 + a3), .int .i64 0, .int .i64 0, .int .i64 0, .int .i64 0] 25))
    have HA3 := Aside0.mk (blk_alloc HA2.out (.cells #[.int .i64 a1_0, .int .i64 (a1_1 + a3), .int .i64 0, .int .i64 0, .int .i64 0, .int .i64 0] 25))
    have Z3 := Aside0.mk (blk_lt HR2.out)
    have Z3w := Aside0.mk (below_size HB2.out)
    generalize W2.alloc (.cells #[.int .i64 a1_0, .int .i64 (a1_1 + a3), .int .i64 0, .int .i64 0, .int .i64 0, .int .i64 0] 25) = W3 at X3 HB3 HR3 HA3 ⊢
    clear HB2 HR2 HA2 s0 s1
    generalize W2.heap.size = rb at X3 Z3 Z3w ⊢
    have v0 := (blk_cell HA3.out 0).trans rfl
    have v1 := (blk_cell HA3.out 1).trans rfl
    have k0 := (blk_cell X3.out 0).trans rfl
    have k1 := (blk_cell X3.out 1).trans rfl
    go_quiet (fail)
    clear v0 v1 k0 k1 HA3
    have X4 := Aside0.mk (blk_drewN X3.out nq)
    have HB4 := Aside0.mk (pw_below_drewN HB3.out nq)
    have HR4 := Aside0.mk (blk_drewN HR3.out nq)
    generalize W3.drewN nq = W4 at X4 HB4 HR4 ⊢
    clear X3 HB3 HR3
    have k0 := (blk_cell X4.out 0).trans rfl
    have f0 := blk_frozen X4.out 0
    have k1 := (blk_cell X4.out 1).trans rfl
    have f1 := blk_frozen X4.out 1
    have k2 := (blk_cell X4.out 2).trans rfl
    have f2 := blk_frozen X4.out 2
    have k3 := (blk_cell X4.out 3).trans rfl
    have f3 := blk_frozen X4.out 3
    have k4 := (blk_cell X4.out 4).trans rfl
    have f4 := blk_frozen X4.out 4
    have k5 := (blk_cell X4.out 5).trans rfl
    have f5 := blk_frozen X4.out 5
    go_upto_region 16 with (fail)
    clear k0 k1 k2 k3 k4 k5 f0 f1 f2 f3 f4 f5
    generalize hW5 : ((((W4.setCell ⟨rb, 2, none⟩ _).setCell ⟨rb, 3, none⟩ _).setCell ⟨rb, 5, none⟩ _).setCell ⟨rb, 4, none⟩ _) = W5
    obtain ⟨k0, k1, k2, k3, k4, k5, hR5, hB5⟩ := rm_box X4.out ⟨_, rfl⟩ HR4.out HB4.out Z3w.out (by have := Z3.out; omega) _ _ _ _ W5 hW5.symm
    clear hW5 X4 HR4 HB4
    have q0 := (blk_cell hR5 0).trans rfl
    have f0 := blk_frozen hR5 0
    have q1 := (blk_cell hR5 1).trans rfl
    have f1 := blk_frozen hR5 1
    have q2 := (blk_cell hR5 2).trans rfl
    have f2 := blk_frozen hR5 2
    have q3 := (blk_cell hR5 3).trans rfl
    have f3 := blk_frozen hR5 3
    have q4 := (blk_cell hR5 4).trans rfl
    have f4 := blk_frozen hR5 4
    have q5 := (blk_cell hR5 5).trans rfl
    have f5 := blk_frozen hR5 5
    have hne : (w.heap.size + 1 + 1 = rb) = False := eq_false (by have := Z3.out; omega)
    have hne2 : (rb = w.heap.size + 1 + 1) = False := eq_false (by have := Z3.out; omega)
    have hR5' := Aside0.mk hR5
    have hB5' := Aside0.mk hB5
    clear hR5 hB5
    go_wp2
    all_goals
      generalize hW6 : ((((((W5.setCell ⟨w.heap.size + 1 + 1, 0, none⟩ _).setCell ⟨w.heap.size + 1 + 1, 1, none⟩ _).setCell ⟨w.heap.size + 1 + 1, 2, none⟩ _).setCell ⟨w.heap.size + 1 + 1, 3, none⟩ _).setCell ⟨w.heap.size + 1 + 1, 4, none⟩ _).setCell ⟨w.heap.size + 1 + 1, 5, none⟩ _) = W6
      obtain ⟨g0, g1, g2, g3, g4, g5, B⟩ := rm_fin hR5'.out hB5'.out (by omega) _ _ _ _ _ _ W6 hW6.symm
      exact bodyPost_ret (v := .tuple #[.agg #[.int .i64 r1, .int .i64 r2, .int .i64 r3, .int .i64 r4, .int .i64 r5, .int .i64 r6], .nilIface]) (by have E := EA.out; simp [results, Try.results14, go_sem, g0, g1, g2, g3, g4, g5] <;> omega) rfl ⟨rfl, B⟩
  · rw [rm_month, if_neg (by rw [hno]; simp)] at h2
    simp [rm_fst, rm_snd] at h2
    have EA := Aside0.mk (rm_vals a1_0 a2_1 a2_0 a2_1 a3 a4 r1 r2 r3 r4 r5 r6 h2)
    clear h2
    go_enter Try.func14, Try.ntmps14
    go_wp2_with fail
    refine (K.out _ _ _).mono ?_
    rintro e w1 ⟨rfl, ⟨m, rfl⟩⟩
    obtain ⟨W, hW, hS, hA, hR, hB⟩ := FWA.out m
    rw [hW]
    clear hW
    have HB := Aside0.mk hB
    have HR := Aside0.mk hR
    have s0 := (blk_cell hS 0).trans rfl
    have s1 := (blk_cell hS 1).trans rfl
    have a0 := (blk_cell hA 0).trans rfl
    have a1 := (blk_cell hA 1).trans rfl
    have HA := Aside0.mk hA
    have HS := Aside0.mk hS
    clear hA hB hR hS FWA K
    go_wp2
    go_quiet (fail)
    have HB2 := Aside0.mk (pw_below_drewN HB.out nq)
    have HR2 := Aside0.mk (blk_drewN HR.out nq)
    have HA2 := Aside0.mk (blk_drewN HA.out nq)
    have hS2 := blk_drewN HS.out nq
    clear s0 s1 a0 a1 HB HR HS HA
    generalize W.drewN nq = W2 at hS2 HB2 HR2 HA2 ⊢
    have s0 := (blk_cell hS2 0).trans rfl
    have s1 := (blk_cell hS2 1).trans rfl
    clear hS2
    go_upto_region 10 with (fail)
    have X3 := Aside0.mk (blk_new W2 (.cells #[.int .i64 a1_0, .int .i64 (a2_1 + a3), .int .i64 0, .int .i64 0, .int .i64 0, .int .i64 0] 25))
    have HB3 := Aside0.mk (below_alloc HB2.out (.cells #[.int .i64 a1_0, .int .i64 (a2_1 + a3), .int .i64 0, .int .i64 0, .int .i64 0, .int .i64 0] 25))
    have HR3 := Aside0.mk (blk_alloc HR2.out (.cells #[.int .i64 a1_0, .int .i64 (a2_1 + a3), .int .i64 0, .int .i64 0, .int .i64 0, .int .i64 0] 25))
    have HA3 := Aside0.mk (blk_alloc HA2.out (.cells #[.int .i64 a1_0, .int .i64 (a2_1 + a3), .int .i64 0, .int .i64 0, .int .i64 0, .int .i64 0] 25))
    have Z3 := Aside0.mk (blk_lt HR2.out)
    have Z3w := Aside0.mk (below_size HB2.out)
    generalize W2.alloc (.cells #[.int .i64 a1_0, .int .i64 (a2_1 + a3), .int .i64 0, .int .i64 0, .int .i64 0, .int .i64 0] 25) = W3 at X3 HB3 HR3 HA3 ⊢
    clear HB2 HR2 HA2 s0 s1
    generalize W2.heap.size = rb at X3 Z3 Z3w ⊢
    have v0 := (blk_cell HA3.out 0).trans rfl
    have v1 := (blk_cell HA3.out 1).trans rfl
    have k0 := (blk_cell X3.out 0).trans rfl
    have k1 := (blk_cell X3.out 1).trans rfl
    go_quiet (fail)
    clear v0 v1 k0 k1 HA3
    have X4 := Aside0.mk (blk_drewN X3.out nq)
    have HB4 := Aside0.mk (pw_below_drewN HB3.out nq)
    have HR4 := Aside0.mk (blk_drewN HR3.out nq)
    generalize W3.drewN nq = W4 at X4 HB4 HR4 ⊢
    clear X3 HB3 HR3
    have k0 := (blk_cell X4.out 0).trans rfl
    have f0 := blk_frozen X4.out 0
    have k1 := (blk_cell X4.out 1).trans rfl
    have f1 := blk_frozen X4.out 1
    have k2 := (blk_cell X4.out 2).trans rfl
    have f2 := blk_frozen X4.out 2
    have k3 := (blk_cell X4.out 3).trans rfl
    have f3 := blk_frozen X4.out 3
    have k4 := (blk_cell X4.out 4).trans rfl
    have f4 := blk_frozen X4.out 4
    have k5 := (blk_cell X4.out 5).trans rfl
    have f5 := blk_frozen X4.out 5
    go_upto_region 16 with (fail)
    clear k0 k1 k2 k3 k4 k5 f0 f1 f2 f3 f4 f5
    generalize hW5 : ((((W4.setCell ⟨rb, 2, none⟩ _).setCell ⟨rb, 3, none⟩ _).setCell ⟨rb, 5, none⟩ _).setCell ⟨rb, 4, none⟩ _) = W5
    obtain ⟨k0, k1, k2, k3, k4, k5, hR5, hB5⟩ := rm_box X4.out ⟨_, rfl⟩ HR4.out HB4.out Z3w.out (by have := Z3.out; omega) _ _ _ _ W5 hW5.symm
    clear hW5 X4 HR4 HB4
    have q0 := (blk_cell hR5 0).trans rfl
    have f0 := blk_frozen hR5 0
    have q1 := (blk_cell hR5 1).trans rfl
    have f1 := blk_frozen hR5 1
    have q2 := (blk_cell hR5 2).trans rfl
    have f2 := blk_frozen hR5 2
    have q3 := (blk_cell hR5 3).trans rfl
    have f3 := blk_frozen hR5 3
    have q4 := (blk_cell hR5 4).trans rfl
    have f4 := blk_frozen hR5 4
    have q5 := (blk_cell hR5 5).trans rfl
    have f5 := blk_frozen hR5 5
    have hne : (w.heap.size + 1 + 1 = rb) = False := eq_false (by have := Z3.out; omega)
    have hne2 : (rb = w.heap.size + 1 + 1) = False := eq_false (by have := Z3.out; omega)
    have hR5' := Aside0.mk hR5
    have hB5' := Aside0.mk hB5
    clear hR5 hB5
    go_wp2
    all_goals
      generalize hW6 : ((((((W5.setCell ⟨w.heap.size + 1 + 1, 0, none⟩ _).setCell ⟨w.heap.size + 1 + 1, 1, none⟩ _).setCell ⟨w.heap.size + 1 + 1, 2, none⟩ _).setCell ⟨w.heap.size + 1 + 1, 3, none⟩ _).setCell ⟨w.heap.size + 1 + 1, 4, none⟩ _).setCell ⟨w.heap.size + 1 + 1, 5, none⟩ _) = W6
      obtain ⟨g0, g1, g2, g3, g4, g5, B⟩ := rm_fin hR5'.out hB5'.out (by omega) _ _ _ _ _ _ W6 hW6.symm
      exact bodyPost_ret (v := .tuple #[.agg #[.int .i64 r1, .int .i64 r2, .int .i64 r3, .int .i64 r4, .int .i64 r5, .int .i64 r6], .nilIface]) (by have E := EA.out; simp [results, Try.results14, go_sem, g0, g1, g2, g3, g4, g5] <;> omega) rfl ⟨rfl, B⟩
  · rw [rm_month, if_neg (by rw [hno]; simp)] at h2
    simp [rm_fst, rm_snd] at h2
    have EA := Aside0.mk (rm_vals a2_0 a2_1 a2_0 a2_1 a3 a4 r1 r2 r3 r4 r5 r6 h2)
    clear h2
    go_enter Try.func14, Try.ntmps14
    go_wp2_with fail
    refine (K.out _ _ _).mono ?_
    rintro e w1 ⟨rfl, ⟨m, rfl⟩⟩
    obtain ⟨W, hW, hS, hA, hR, hB⟩ := FWA.out m
    rw [hW]
    clear hW
    have HB := Aside0.mk hB
    have HR := Aside0.mk hR
    have s0 := (blk_cell hS 0).trans rfl
    have s1 := (blk_cell hS 1).trans rfl
    have a0 := (blk_cell hA 0).trans rfl
    have a1 := (blk_cell hA 1).trans rfl
    have HA := Aside0.mk hA
    have HS := Aside0.mk hS
    clear hA hB hR hS FWA K
    go_wp2
    go_quiet (fail)
    have HB2 := Aside0.mk (pw_below_drewN HB.out nq)
    have HR2 := Aside0.mk (blk_drewN HR.out nq)
    have HA2 := Aside0.mk (blk_drewN HA.out nq)
    have hS2 := blk_drewN HS.out nq
    clear s0 s1 a0 a1 HB HR HS HA
    generalize W.drewN nq = W2 at hS2 HB2 HR2 HA2 ⊢
    have s0 := (blk_cell hS2 0).trans rfl
    have s1 := (blk_cell hS2 1).trans rfl
    clear hS2
    go_upto_region 10 with (fail)
    have X3 := Aside0.mk (blk_new W2 (.cells #[.int .i64 a2_0, .int .i64 (a2_1 + a3), .int .i64 0, .int .i64 0, .int .i64 0, .int .i64 0] 25))
    have HB3 := Aside0.mk (below_alloc HB2.out (.cells #[.int .i64 a2_0, .int .i64 (a2_1 + a3), .int .i64 0, .int .i64 0, .int .i64 0, .int .i64 0] 25))
    have HR3 := Aside0.mk (blk_alloc HR2.out (.cells #[.int .i64 a2_0, .int .i64 (a2_1 + a3), .int .i64 0, .int .i64 0, .int .i64 0, .int .i64 0] 25))
    have HA3 := Aside0.mk (blk_alloc HA2.out (.cells #[.int .i64 a2_0, .int .i64 (a2_1 + a3), .int .i64 0, .int .i64 0, .int .i64 0, .int .i64 0] 25))
    have Z3 := Aside0.mk (blk_lt HR2.out)
    have Z3w := Aside0.mk (below_size HB2.out)
    generalize W2.alloc (.cells #[.int .i64 a2_0, .int .i64 (a2_1 + a3), .int .i64 0, .int .i64 0, .int .i64 0, .int .i64 0] 25) = W3 at X3 HB3 HR3 HA3 ⊢
    clear HB2 HR2 HA2 s0 s1
    generalize W2.heap.size = rb at X3 Z3 Z3w ⊢
    have v0 := (blk_cell HA3.out 0).trans rfl
    have v1 := (blk_cell HA3.out 1).trans rfl
    have k0 := (blk_cell X3.out 0).trans rfl
    have k1 := (blk_cell X3.out 1).trans rfl
    go_quiet (fail)
    clear v0 v1 k0 k1 HA3
    have X4 := Aside0.mk (blk_drewN X3.out nq)
    have HB4 := Aside0.mk (pw_below_drewN HB3.out nq)
    have HR4 := Aside0.mk (blk_drewN HR3.out nq)
    generalize W3.drewN nq = W4 at X4 HB4 HR4 ⊢
    clear X3 HB3 HR3
    have k0 := (blk_cell X4.out 0).trans rfl
    have f0 := blk_frozen X4.out 0
    have k1 := (blk_cell X4.out 1).trans rfl
    have f1 := blk_frozen X4.out 1
    have k2 := (blk_cell X4.out 2).trans rfl
    have f2 := blk_frozen X4.out 2
    have k3 := (blk_cell X4.out 3).trans rfl
    have f3 := blk_frozen X4.out 3
    have k4 := (blk_cell X4.out 4).trans rfl
    have f4 := blk_frozen X4.out 4
    have k5 := (blk_cell X4.out 5).trans rfl
    have f5 := blk_frozen X4.out 5
    go_upto_region 16 with (fail)
    clear k0 k1 k2 k3 k4 k5 f0 f1 f2 f3 f4 f5
    generalize hW5 : ((((W4.setCell ⟨rb, 2, none⟩ _).setCell ⟨rb, 3, none⟩ _).setCell ⟨rb, 5, none⟩ _).setCell ⟨rb, 4, none⟩ _) = W5
    obtain ⟨k0, k1, k2, k3, k4, k5, hR5, hB5⟩ := rm_box X4.out ⟨_, rfl⟩ HR4.out HB4.out Z3w.out (by have := Z3.out; omega) _ _ _ _ W5 hW5.symm
    clear hW5 X4 HR4 HB4
    have q0 := (blk_cell hR5 0).trans rfl
    have f0 := blk_frozen hR5 0
    have q1 := (blk_cell hR5 1).trans rfl
    have f1 := blk_frozen hR5 1
    have q2 := (blk_cell hR5 2).trans rfl
    have f2 := blk_frozen hR5 2
    have q3 := (blk_cell hR5 3).trans rfl
    have f3 := blk_frozen hR5 3
    have q4 := (blk_cell hR5 4).trans rfl
    have f4 := blk_frozen hR5 4
    have q5 := (blk_cell hR5 5).trans rfl
    have f5 := blk_frozen hR5 5
    have hne : (w.heap.size + 1 + 1 = rb) = False := eq_false (by have := Z3.out; omega)
    have hne2 : (rb = w.heap.size + 1 + 1) = False := eq_false (by have := Z3.out; omega)
    have hR5' := Aside0.mk hR5
    have hB5' := Aside0.mk hB5
    clear hR5 hB5
    go_wp2
    all_goals
      generalize hW6 : ((((((W5.setCell ⟨w.heap.size + 1 + 1, 0, none⟩ _).setCell ⟨w.heap.size + 1 + 1, 1, none⟩ _).setCell ⟨w.heap.size + 1 + 1, 2, none⟩ _).setCell ⟨w.heap.size + 1 + 1, 3, none⟩ _).setCell ⟨w.heap.size + 1 + 1, 4, none⟩ _).setCell ⟨w.heap.size + 1 + 1, 5, none⟩ _) = W6
      obtain ⟨g0, g1, g2, g3, g4, g5, B⟩ := rm_fin hR5'.out hB5'.out (by omega) _ _ _ _ _ _ W6 hW6.symm
      exact bodyPost_ret (v := .tuple #[.agg #[.int .i64 r1, .int .i64 r2, .int .i64 r3, .int .i64 r4, .int .i64 r5, .int .i64 r6], .nilIface]) (by have E := EA.out; simp [results, Try.results14, go_sem, g0, g1, g2, g3, g4, g5] <;> omega) rfl ⟨rfl, B⟩
theorem remit_Month.calls (a0 a1_0 a1_1 a2_0 a2_1 a3 a4 r1 r2 r3 r4 r5 r6 : Int) (r7 : Option Int) (w : World) (h : remit_Month.f a0 a1_0 a1_1 a2_0 a2_1 a3 a4 = some (r1, r2, r3, r4, r5, r6, r7)) :
    Calls Try.prog 14 #[.int .i64 a0, .agg #[.int .i64 a1_0, .int .i64 a1_1], .agg #[.int .i64 a2_0, .int .i64 a2_1], .int .i64 a3, .int .i64 a4] w fun e w' => e = .returned (.tuple #[.agg #[.int .i64 r1, .int .i64 r2, .int .i64 r3, .int .i64 r4, .int .i64 r5, .int .i64 r6], errW r7]) ∧ Below w.heap.size w w' := by
  have h1 := Option.some.inj h
  clear h
  by_cases c1 : a0 < 1 ∨ 3 < a0
  · unfold rm_month at h1
    rw [if_pos (by rcases c1 with c | c; exact .inl c; exact .inr (.inl c))] at h1
    simp only [Prod.mk.injEq] at h1
    obtain ⟨rfl, rfl, rfl, rfl, rfl, rfl, rfl⟩ := h1
    exact rm_way a0 a1_0 a1_1 a2_0 a2_1 a3 a4 w c1
  · cases c2 : [a1_0, a1_1, a2_0, a2_1, a3, a4].any rm_bad with
    | true =>
      unfold rm_month at h1
      rw [if_pos (.inr (.inr c2))] at h1
      simp only [Prod.mk.injEq] at h1
      obtain ⟨rfl, rfl, rfl, rfl, rfl, rfl, rfl⟩ := h1
      exact rm_bads a0 a1_0 a1_1 a2_0 a2_1 a3 a4 w (by omega) (by omega) c2
    | false =>
      have hn : r7 = none := by
        unfold rm_month at h1
        rw [if_neg (by rw [c2]; simp; omega)] at h1
        split at h1
        · simp only [Prod.mk.injEq] at h1; exact h1.2.2.2.2.2.2.symm
        split at h1
        · simp only [Prod.mk.injEq] at h1; exact h1.2.2.2.2.2.2.symm
        · simp only [Prod.mk.injEq] at h1; exact h1.2.2.2.2.2.2.symm
      subst hn
      exact rm_main a0 a1_0 a1_1 a2_0 a2_1 a3 a4 w (by omega) c2 r1 r2 r3 r4 r5 r6 h1

/-! ### trivetlaw19_up: function 13 -/
def trivetlaw19_up.f  : Option (Bool) := (remit_Month.f 1 100 50 0 0 0 0).bind fun bt101 => ((remit_Month.f 0 0 0 0 0 0 0).bind fun bt109 => (if bt101.2.2.2.2.2.2.isNone = true then (if bt101.1 = 100 then (if bt101.2.1 = 50 then (if bt101.2.2.1 = 150 then (if bt109.2.2.2.2.2.2.isNone = true then (some false) else (some ((bt109.2.2.2.2.2.2.getD 0) == 1))) else (some false)) else (some false)) else (some false)) else (some false)))
set_option maxHeartbeats 8000000 in
set_option maxRecDepth 100000 in
theorem trivetlaw19_up.calls  (r : Bool) (w : World) (h : trivetlaw19_up.f  = some r) :
    Calls Try.prog 13 #[] w fun e w' => e = .returned (.bool r) ∧ Below w.heap.size w w' := by
  have hu22 := Try.underlying22
  have hu25 := Try.underlying25
  have hu27 := Try.underlying27
  have hu32 := Try.underlying32
  have HB := Aside0.mk (Below.refl w.heap.size w)
  have H : ((remit_Month.f 1 100 50 0 0 0 0).bind fun bt101 => ((remit_Month.f 0 0 0 0 0 0 0).bind fun bt109 => (if bt101.2.2.2.2.2.2.isNone = true then (if bt101.1 = 100 then (if bt101.2.1 = 50 then (if bt101.2.2.1 = 150 then (if bt109.2.2.2.2.2.2.isNone = true then (some false) else (some ((bt109.2.2.2.2.2.2.getD 0) == 1))) else (some false)) else (some false)) else (some false)) else (some false)))) = some r := h
  clear h
  replace H := Option.bind_eq_some_iff.mp H
  obtain ⟨⟨t101, t102, t103, t104, t105, t106, t107⟩, A10, H⟩ := H
  replace H : ((remit_Month.f 0 0 0 0 0 0 0).bind fun bt109 => (if t107.isNone = true then (if t101 = 100 then (if t102 = 50 then (if t103 = 150 then (if bt109.2.2.2.2.2.2.isNone = true then (some false) else (some ((bt109.2.2.2.2.2.2.getD 0) == 1))) else (some false)) else (some false)) else (some false)) else (some false))) = some r := H
  have A1 := Aside0.mk A10
  clear A10
  replace H := Option.bind_eq_some_iff.mp H
  obtain ⟨⟨t109, t110, t111, t112, t113, t114, t115⟩, A20, H⟩ := H
  replace H : (if t107.isNone = true then (if t101 = 100 then (if t102 = 50 then (if t103 = 150 then (if t115.isNone = true then (some false) else (some ((t115.getD 0) == 1))) else (some false)) else (some false)) else (some false)) else (some false)) = some r := H
  have A2 := Aside0.mk A20
  clear A20
  rcases t107 with _ | q117
  · have H1 : (if t101 = 100 then (if t102 = 50 then (if t103 = 150 then (if t115.isNone = true then (some false) else (some ((t115.getD 0) == 1))) else (some false)) else (some false)) else (some false)) = some r := by rw [if_pos (show (none : Option Int).isNone = true by rfl)] at H; exact H
    clear H
    have H := H1
    clear H1
    try simp only [errW_none, errW_some]
    by_cases c3 : t101 = 100
    · rw [if_pos c3] at H
      have c3b0 : (t101 == 100) = true := beq_iff_eq.mpr c3
      have c3b1 : (t101 != 100) = false := bne_eq_false_iff_eq.mpr c3
      clear c3
      by_cases c4 : t102 = 50
      · rw [if_pos c4] at H
        have c4b0 : (t102 == 50) = true := beq_iff_eq.mpr c4
        have c4b1 : (t102 != 50) = false := bne_eq_false_iff_eq.mpr c4
        clear c4
        by_cases c5 : t103 = 150
        · rw [if_pos c5] at H
          have c5b0 : (t103 == 150) = true := beq_iff_eq.mpr c5
          have c5b1 : (t103 != 150) = false := bne_eq_false_iff_eq.mpr c5
          clear c5
          rcases t115 with _ | q118
          · have H1 : (some false) = some r := by rw [if_pos (show (none : Option Int).isNone = true by rfl)] at H; exact H
            clear H
            have H := H1
            clear H1
            try simp only [errW_none, errW_some]
            obtain rfl := Option.some.inj H
            go_enter Try.func13, Try.ntmps13
            go_wp2_with (first | ((with_reducible refine gate_callee (f := 14) rfl ?_); refine goesL_ (some 8) rfl rfl Try.func14 (by kernel_rfl) rfl #[.int .i64 1, .agg #[.int .i64 100, .int .i64 50], .agg #[.int .i64 0, .int .i64 0], .int .i64 0, .int .i64 0] rfl (by (try simp only [List.map_toArray, List.map_cons, List.map_nil]); first | done | rfl | (simp only [List.length_drop, List.length_take]; rfl)) ?_; (with_reducible refine (remit_Month.calls 1 100 50 0 0 0 0 t101 t102 t103 t104 t105 t106 none _ A1.out).mono ?_); rintro e w6 ⟨rfl, hb⟩; refine ⟨_, rfl, ?_⟩; have n0_ := Aside0.mk (below_step (by repeat (first | (with_reducible first | exact HB.out | apply below_alloc | apply pw_below_drewN | apply below_drew1) | exact HB.out)) hb); clear HB; have HB := n0_; clear n0_; (try clear hb); (try clear hb2); (try clear hk); (try clear hi); (try simp only [errW_none, errW_some])) | ((with_reducible refine gate_dst (N := 1) rfl ?_); refine box_event ?hg (N := 1) ?hd (cs := #[.int .i64 0, .int .i64 0, .int .i64 0, .int .i64 0, .int .i64 0, .int .i64 0]) (t := 25) ?hr ?_; (case hd => rfl); (case hg => rfl); (case hr => first | (go_simp; done) | (go_simp; rfl)); intro gb108 hg w7 hbox hb; have n0_ := Aside0.mk (below_step (by repeat (first | (with_reducible first | exact HB.out | apply below_alloc | apply pw_below_drewN | apply below_drew1) | exact HB.out)) hb); have n1_ := Aside0.mk (hbox); have n2_ := Aside0.mk ((by rw [hg]; exact (below_size (by repeat (first | (with_reducible first | exact HB.out | apply below_alloc | apply pw_below_drewN | apply below_drew1) | exact HB.out))) : w.heap.size ≤ gb108)); have n3_ := Aside0.mk ((by rw [hg]; exact (below_size (by repeat (first | (with_reducible first | exact HB.out | apply below_alloc | apply pw_below_drewN | apply below_drew1) | exact HB.out))) : w.heap.size ≤ gb108)); clear HB; have HB := n0_; have BK108 := n1_; have GW108 := n2_; have GE108 := n3_; clear n0_ n1_ n2_ n3_; clear hb hbox hg; have hcz8_0 : w7.cell? ⟨gb108, 0, none⟩ = some (.int .i64 0) := (blk_cell BK108.out 0).trans rfl; have hcz8_1 : w7.cell? ⟨gb108, 1, none⟩ = some (.int .i64 0) := (blk_cell BK108.out 1).trans rfl; have hcz8_2 : w7.cell? ⟨gb108, 2, none⟩ = some (.int .i64 0) := (blk_cell BK108.out 2).trans rfl; have hcz8_3 : w7.cell? ⟨gb108, 3, none⟩ = some (.int .i64 0) := (blk_cell BK108.out 3).trans rfl; have hcz8_4 : w7.cell? ⟨gb108, 4, none⟩ = some (.int .i64 0) := (blk_cell BK108.out 4).trans rfl; have hcz8_5 : w7.cell? ⟨gb108, 5, none⟩ = some (.int .i64 0) := (blk_cell BK108.out 5).trans rfl; have hfz8_0 := blk_frozen BK108.out 0; have hfz8_1 := blk_frozen BK108.out 1; have hfz8_2 := blk_frozen BK108.out 2; have hfz8_3 := blk_frozen BK108.out 3; have hfz8_4 := blk_frozen BK108.out 4; have hfz8_5 := blk_frozen BK108.out 5) | ((with_reducible refine gate_callee (f := 14) rfl ?_); refine goesL_ (some 14) rfl rfl Try.func14 (by kernel_rfl) rfl #[.int .i64 0, .agg #[.int .i64 0, .int .i64 0], .agg #[.int .i64 0, .int .i64 0], .int .i64 0, .int .i64 0] rfl (by (try simp only [List.map_toArray, List.map_cons, List.map_nil]); first | done | rfl | (simp only [List.length_drop, List.length_take]; rfl)) ?_; (with_reducible refine (remit_Month.calls 0 0 0 0 0 0 0 t109 t110 t111 t112 t113 t114 none _ A2.out).mono ?_); rintro e w9 ⟨rfl, hb⟩; refine ⟨_, rfl, ?_⟩; have n0_ := Aside0.mk (blk_below (g := gb108) (o := .cells #[.int .i64 t101, .int .i64 t102, .int .i64 t103, .int .i64 t104, .int .i64 t105, .int .i64 t106] 25 (0, 0)) (by (with_reducible repeat (first | refine blk_drewN ?_ _ | refine blk_drew ?_ | refine blk_alloc ?_ _)); refine blk_put (cs := #[.int .i64 t101, .int .i64 t102, .int .i64 t103, .int .i64 t104, .int .i64 t105, .int .i64 0]) ?_ 5 _ rfl; (with_reducible repeat (first | refine blk_drewN ?_ _ | refine blk_drew ?_ | refine blk_alloc ?_ _)); refine blk_put (cs := #[.int .i64 t101, .int .i64 t102, .int .i64 t103, .int .i64 t104, .int .i64 0, .int .i64 0]) ?_ 4 _ rfl; (with_reducible repeat (first | refine blk_drewN ?_ _ | refine blk_drew ?_ | refine blk_alloc ?_ _)); refine blk_put (cs := #[.int .i64 t101, .int .i64 t102, .int .i64 t103, .int .i64 0, .int .i64 0, .int .i64 0]) ?_ 3 _ rfl; (with_reducible repeat (first | refine blk_drewN ?_ _ | refine blk_drew ?_ | refine blk_alloc ?_ _)); refine blk_put (cs := #[.int .i64 t101, .int .i64 t102, .int .i64 0, .int .i64 0, .int .i64 0, .int .i64 0]) ?_ 2 _ rfl; (with_reducible repeat (first | refine blk_drewN ?_ _ | refine blk_drew ?_ | refine blk_alloc ?_ _)); refine blk_put (cs := #[.int .i64 t101, .int .i64 0, .int .i64 0, .int .i64 0, .int .i64 0, .int .i64 0]) ?_ 1 _ rfl; (with_reducible repeat (first | refine blk_drewN ?_ _ | refine blk_drew ?_ | refine blk_alloc ?_ _)); refine blk_put (cs := #[.int .i64 0, .int .i64 0, .int .i64 0, .int .i64 0, .int .i64 0, .int .i64 0]) ?_ 0 _ rfl; (with_reducible repeat (first | refine blk_drewN ?_ _ | refine blk_drew ?_ | refine blk_alloc ?_ _)); exact BK108.out) hb); have n1_ := Aside0.mk (below_step (by repeat (first | (with_reducible first | exact HB.out | apply below_alloc | apply pw_below_drewN | apply below_drew1 | refine below_set ?_ GE108.out) | exact HB.out)) hb); clear BK108; clear HB; have BK108 := n0_; have HB := n1_; clear n0_ n1_; (try clear hb); (try clear hb2); (try clear hk); (try clear hi); (try simp only [errW_none, errW_some])) | ((with_reducible refine gate_dst (N := 3) rfl ?_); refine box_event ?hg (N := 3) ?hd (cs := #[.int .i64 0, .int .i64 0, .int .i64 0, .int .i64 0, .int .i64 0, .int .i64 0]) (t := 25) ?hr ?_; (case hd => rfl); (case hg => rfl); (case hr => first | (go_simp; done) | (go_simp; rfl)); intro gb116 hg w10 hbox hb; have n0_ := Aside0.mk (blk_below (g := gb108) (o := .cells #[.int .i64 t101, .int .i64 t102, .int .i64 t103, .int .i64 t104, .int .i64 t105, .int .i64 t106] 25 (0, 0)) (by (with_reducible repeat (first | refine blk_drewN ?_ _ | refine blk_drew ?_ | refine blk_alloc ?_ _)); exact BK108.out) hb); have n1_ := Aside0.mk (below_step (by repeat (first | (with_reducible first | exact HB.out | apply below_alloc | apply pw_below_drewN | apply below_drew1 | refine below_set ?_ GE108.out) | exact HB.out)) hb); have n2_ := Aside0.mk (hbox); have n3_ := Aside0.mk ((by rw [hg]; exact (below_size (by repeat (first | (with_reducible first | exact HB.out | apply below_alloc | apply pw_below_drewN | apply below_drew1 | refine below_set ?_ GE108.out) | exact HB.out))) : w.heap.size ≤ gb116)); have n4_ := Aside0.mk ((by rw [hg]; exact (below_size (by repeat (first | (with_reducible first | exact HB.out | apply below_alloc | apply pw_below_drewN | apply below_drew1 | refine below_set ?_ GE108.out) | exact HB.out))) : w.heap.size ≤ gb116)); have n5_ := Aside0.mk ((by rw [hg]; exact Nat.ne_of_lt (blk_lt (g := gb108) (o := .cells #[.int .i64 t101, .int .i64 t102, .int .i64 t103, .int .i64 t104, .int .i64 t105, .int .i64 t106] 25 (0, 0)) (by (with_reducible repeat (first | refine blk_drewN ?_ _ | refine blk_drew ?_ | refine blk_alloc ?_ _)); exact BK108.out)) : gb108 ≠ gb116)); have n6_ := Aside0.mk ((by rw [hg]; exact Nat.ne_of_gt (blk_lt (g := gb108) (o := .cells #[.int .i64 t101, .int .i64 t102, .int .i64 t103, .int .i64 t104, .int .i64 t105, .int .i64 t106] 25 (0, 0)) (by (with_reducible repeat (first | refine blk_drewN ?_ _ | refine blk_drew ?_ | refine blk_alloc ?_ _)); exact BK108.out)) : gb116 ≠ gb108)); clear BK108; clear HB; have BK108 := n0_; have HB := n1_; have BK116 := n2_; have GW116 := n3_; have GE116 := n4_; have NB108_116 := n5_; have NB116_108 := n6_; clear n0_ n1_ n2_ n3_ n4_ n5_ n6_; clear hb hbox hg; have hnb11 := NB116_108.out; have hnc11 := NB108_116.out; have hcz12_0 : w10.cell? ⟨gb116, 0, none⟩ = some (.int .i64 0) := (blk_cell BK116.out 0).trans rfl; have hcz12_1 : w10.cell? ⟨gb116, 1, none⟩ = some (.int .i64 0) := (blk_cell BK116.out 1).trans rfl; have hcz12_2 : w10.cell? ⟨gb116, 2, none⟩ = some (.int .i64 0) := (blk_cell BK116.out 2).trans rfl; have hcz12_3 : w10.cell? ⟨gb116, 3, none⟩ = some (.int .i64 0) := (blk_cell BK116.out 3).trans rfl; have hcz12_4 : w10.cell? ⟨gb116, 4, none⟩ = some (.int .i64 0) := (blk_cell BK116.out 4).trans rfl; have hcz12_5 : w10.cell? ⟨gb116, 5, none⟩ = some (.int .i64 0) := (blk_cell BK116.out 5).trans rfl; have hfz12_0 := blk_frozen BK116.out 0; have hfz12_1 := blk_frozen BK116.out 1; have hfz12_2 := blk_frozen BK116.out 2; have hfz12_3 := blk_frozen BK116.out 3; have hfz12_4 := blk_frozen BK116.out 4; have hfz12_5 := blk_frozen BK116.out 5; have hcz13_0 : w10.cell? ⟨gb108, 0, none⟩ = some (.int .i64 t101) := (blk_cell BK108.out 0).trans rfl; have hcz13_1 : w10.cell? ⟨gb108, 1, none⟩ = some (.int .i64 t102) := (blk_cell BK108.out 1).trans rfl; have hcz13_2 : w10.cell? ⟨gb108, 2, none⟩ = some (.int .i64 t103) := (blk_cell BK108.out 2).trans rfl; have hcz13_3 : w10.cell? ⟨gb108, 3, none⟩ = some (.int .i64 t104) := (blk_cell BK108.out 3).trans rfl; have hcz13_4 : w10.cell? ⟨gb108, 4, none⟩ = some (.int .i64 t105) := (blk_cell BK108.out 4).trans rfl; have hcz13_5 : w10.cell? ⟨gb108, 5, none⟩ = some (.int .i64 t106) := (blk_cell BK108.out 5).trans rfl; have hfz13_0 := blk_frozen BK108.out 0; have hfz13_1 := blk_frozen BK108.out 1; have hfz13_2 := blk_frozen BK108.out 2; have hfz13_3 := blk_frozen BK108.out 3; have hfz13_4 := blk_frozen BK108.out 4; have hfz13_5 := blk_frozen BK108.out 5))
            go_ret
            exact ⟨by first | rfl | (simp [errW_none, errW_some] <;> rfl) | (simp [*, errW_none, errW_some] <;> rfl), by repeat (first | (with_reducible first | exact HB.out | apply below_alloc | apply pw_below_drewN | apply below_drew1 | refine below_set ?_ GE108.out | refine below_set ?_ GE116.out) | exact HB.out)⟩
          · have H1 : (some (q118 == 1)) = some r := by rw [if_neg (show ¬ (some q118).isNone = true by simp)] at H; exact H
            clear H
            have H := H1
            clear H1
            try simp only [errW_none, errW_some]
            obtain rfl := Option.some.inj H
            go_enter Try.func13, Try.ntmps13
            go_wp2_with (first | ((with_reducible refine gate_callee (f := 14) rfl ?_); refine goesL_ (some 8) rfl rfl Try.func14 (by kernel_rfl) rfl #[.int .i64 1, .agg #[.int .i64 100, .int .i64 50], .agg #[.int .i64 0, .int .i64 0], .int .i64 0, .int .i64 0] rfl (by (try simp only [List.map_toArray, List.map_cons, List.map_nil]); first | done | rfl | (simp only [List.length_drop, List.length_take]; rfl)) ?_; (with_reducible refine (remit_Month.calls 1 100 50 0 0 0 0 t101 t102 t103 t104 t105 t106 none _ A1.out).mono ?_); rintro e w14 ⟨rfl, hb⟩; refine ⟨_, rfl, ?_⟩; have n0_ := Aside0.mk (below_step (by repeat (first | (with_reducible first | exact HB.out | apply below_alloc | apply pw_below_drewN | apply below_drew1) | exact HB.out)) hb); clear HB; have HB := n0_; clear n0_; (try clear hb); (try clear hb2); (try clear hk); (try clear hi); (try simp only [errW_none, errW_some])) | ((with_reducible refine gate_dst (N := 1) rfl ?_); refine box_event ?hg (N := 1) ?hd (cs := #[.int .i64 0, .int .i64 0, .int .i64 0, .int .i64 0, .int .i64 0, .int .i64 0]) (t := 25) ?hr ?_; (case hd => rfl); (case hg => rfl); (case hr => first | (go_simp; done) | (go_simp; rfl)); intro gb108 hg w15 hbox hb; have n0_ := Aside0.mk (below_step (by repeat (first | (with_reducible first | exact HB.out | apply below_alloc | apply pw_below_drewN | apply below_drew1) | exact HB.out)) hb); have n1_ := Aside0.mk (hbox); have n2_ := Aside0.mk ((by rw [hg]; exact (below_size (by repeat (first | (with_reducible first | exact HB.out | apply below_alloc | apply pw_below_drewN | apply below_drew1) | exact HB.out))) : w.heap.size ≤ gb108)); have n3_ := Aside0.mk ((by rw [hg]; exact (below_size (by repeat (first | (with_reducible first | exact HB.out | apply below_alloc | apply pw_below_drewN | apply below_drew1) | exact HB.out))) : w.heap.size ≤ gb108)); clear HB; have HB := n0_; have BK108 := n1_; have GW108 := n2_; have GE108 := n3_; clear n0_ n1_ n2_ n3_; clear hb hbox hg; have hcz16_0 : w15.cell? ⟨gb108, 0, none⟩ = some (.int .i64 0) := (blk_cell BK108.out 0).trans rfl; have hcz16_1 : w15.cell? ⟨gb108, 1, none⟩ = some (.int .i64 0) := (blk_cell BK108.out 1).trans rfl; have hcz16_2 : w15.cell? ⟨gb108, 2, none⟩ = some (.int .i64 0) := (blk_cell BK108.out 2).trans rfl; have hcz16_3 : w15.cell? ⟨gb108, 3, none⟩ = some (.int .i64 0) := (blk_cell BK108.out 3).trans rfl; have hcz16_4 : w15.cell? ⟨gb108, 4, none⟩ = some (.int .i64 0) := (blk_cell BK108.out 4).trans rfl; have hcz16_5 : w15.cell? ⟨gb108, 5, none⟩ = some (.int .i64 0) := (blk_cell BK108.out 5).trans rfl; have hfz16_0 := blk_frozen BK108.out 0; have hfz16_1 := blk_frozen BK108.out 1; have hfz16_2 := blk_frozen BK108.out 2; have hfz16_3 := blk_frozen BK108.out 3; have hfz16_4 := blk_frozen BK108.out 4; have hfz16_5 := blk_frozen BK108.out 5) | ((with_reducible refine gate_callee (f := 14) rfl ?_); refine goesL_ (some 14) rfl rfl Try.func14 (by kernel_rfl) rfl #[.int .i64 0, .agg #[.int .i64 0, .int .i64 0], .agg #[.int .i64 0, .int .i64 0], .int .i64 0, .int .i64 0] rfl (by (try simp only [List.map_toArray, List.map_cons, List.map_nil]); first | done | rfl | (simp only [List.length_drop, List.length_take]; rfl)) ?_; (with_reducible refine (remit_Month.calls 0 0 0 0 0 0 0 t109 t110 t111 t112 t113 t114 (some q118) _ A2.out).mono ?_); rintro e w17 ⟨rfl, hb⟩; refine ⟨_, rfl, ?_⟩; have n0_ := Aside0.mk (blk_below (g := gb108) (o := .cells #[.int .i64 t101, .int .i64 t102, .int .i64 t103, .int .i64 t104, .int .i64 t105, .int .i64 t106] 25 (0, 0)) (by (with_reducible repeat (first | refine blk_drewN ?_ _ | refine blk_drew ?_ | refine blk_alloc ?_ _)); refine blk_put (cs := #[.int .i64 t101, .int .i64 t102, .int .i64 t103, .int .i64 t104, .int .i64 t105, .int .i64 0]) ?_ 5 _ rfl; (with_reducible repeat (first | refine blk_drewN ?_ _ | refine blk_drew ?_ | refine blk_alloc ?_ _)); refine blk_put (cs := #[.int .i64 t101, .int .i64 t102, .int .i64 t103, .int .i64 t104, .int .i64 0, .int .i64 0]) ?_ 4 _ rfl; (with_reducible repeat (first | refine blk_drewN ?_ _ | refine blk_drew ?_ | refine blk_alloc ?_ _)); refine blk_put (cs := #[.int .i64 t101, .int .i64 t102, .int .i64 t103, .int .i64 0, .int .i64 0, .int .i64 0]) ?_ 3 _ rfl; (with_reducible repeat (first | refine blk_drewN ?_ _ | refine blk_drew ?_ | refine blk_alloc ?_ _)); refine blk_put (cs := #[.int .i64 t101, .int .i64 t102, .int .i64 0, .int .i64 0, .int .i64 0, .int .i64 0]) ?_ 2 _ rfl; (with_reducible repeat (first | refine blk_drewN ?_ _ | refine blk_drew ?_ | refine blk_alloc ?_ _)); refine blk_put (cs := #[.int .i64 t101, .int .i64 0, .int .i64 0, .int .i64 0, .int .i64 0, .int .i64 0]) ?_ 1 _ rfl; (with_reducible repeat (first | refine blk_drewN ?_ _ | refine blk_drew ?_ | refine blk_alloc ?_ _)); refine blk_put (cs := #[.int .i64 0, .int .i64 0, .int .i64 0, .int .i64 0, .int .i64 0, .int .i64 0]) ?_ 0 _ rfl; (with_reducible repeat (first | refine blk_drewN ?_ _ | refine blk_drew ?_ | refine blk_alloc ?_ _)); exact BK108.out) hb); have n1_ := Aside0.mk (below_step (by repeat (first | (with_reducible first | exact HB.out | apply below_alloc | apply pw_below_drewN | apply below_drew1 | refine below_set ?_ GE108.out) | exact HB.out)) hb); clear BK108; clear HB; have BK108 := n0_; have HB := n1_; clear n0_ n1_; (try clear hb); (try clear hb2); (try clear hk); (try clear hi); (try simp only [errW_none, errW_some])) | ((with_reducible refine gate_dst (N := 3) rfl ?_); refine box_event ?hg (N := 3) ?hd (cs := #[.int .i64 0, .int .i64 0, .int .i64 0, .int .i64 0, .int .i64 0, .int .i64 0]) (t := 25) ?hr ?_; (case hd => rfl); (case hg => rfl); (case hr => first | (go_simp; done) | (go_simp; rfl)); intro gb116 hg w18 hbox hb; have n0_ := Aside0.mk (blk_below (g := gb108) (o := .cells #[.int .i64 t101, .int .i64 t102, .int .i64 t103, .int .i64 t104, .int .i64 t105, .int .i64 t106] 25 (0, 0)) (by (with_reducible repeat (first | refine blk_drewN ?_ _ | refine blk_drew ?_ | refine blk_alloc ?_ _)); exact BK108.out) hb); have n1_ := Aside0.mk (below_step (by repeat (first | (with_reducible first | exact HB.out | apply below_alloc | apply pw_below_drewN | apply below_drew1 | refine below_set ?_ GE108.out) | exact HB.out)) hb); have n2_ := Aside0.mk (hbox); have n3_ := Aside0.mk ((by rw [hg]; exact (below_size (by repeat (first | (with_reducible first | exact HB.out | apply below_alloc | apply pw_below_drewN | apply below_drew1 | refine below_set ?_ GE108.out) | exact HB.out))) : w.heap.size ≤ gb116)); have n4_ := Aside0.mk ((by rw [hg]; exact (below_size (by repeat (first | (with_reducible first | exact HB.out | apply below_alloc | apply pw_below_drewN | apply below_drew1 | refine below_set ?_ GE108.out) | exact HB.out))) : w.heap.size ≤ gb116)); have n5_ := Aside0.mk ((by rw [hg]; exact Nat.ne_of_lt (blk_lt (g := gb108) (o := .cells #[.int .i64 t101, .int .i64 t102, .int .i64 t103, .int .i64 t104, .int .i64 t105, .int .i64 t106] 25 (0, 0)) (by (with_reducible repeat (first | refine blk_drewN ?_ _ | refine blk_drew ?_ | refine blk_alloc ?_ _)); exact BK108.out)) : gb108 ≠ gb116)); have n6_ := Aside0.mk ((by rw [hg]; exact Nat.ne_of_gt (blk_lt (g := gb108) (o := .cells #[.int .i64 t101, .int .i64 t102, .int .i64 t103, .int .i64 t104, .int .i64 t105, .int .i64 t106] 25 (0, 0)) (by (with_reducible repeat (first | refine blk_drewN ?_ _ | refine blk_drew ?_ | refine blk_alloc ?_ _)); exact BK108.out)) : gb116 ≠ gb108)); clear BK108; clear HB; have BK108 := n0_; have HB := n1_; have BK116 := n2_; have GW116 := n3_; have GE116 := n4_; have NB108_116 := n5_; have NB116_108 := n6_; clear n0_ n1_ n2_ n3_ n4_ n5_ n6_; clear hb hbox hg; have hnb19 := NB116_108.out; have hnc19 := NB108_116.out; have hcz20_0 : w18.cell? ⟨gb116, 0, none⟩ = some (.int .i64 0) := (blk_cell BK116.out 0).trans rfl; have hcz20_1 : w18.cell? ⟨gb116, 1, none⟩ = some (.int .i64 0) := (blk_cell BK116.out 1).trans rfl; have hcz20_2 : w18.cell? ⟨gb116, 2, none⟩ = some (.int .i64 0) := (blk_cell BK116.out 2).trans rfl; have hcz20_3 : w18.cell? ⟨gb116, 3, none⟩ = some (.int .i64 0) := (blk_cell BK116.out 3).trans rfl; have hcz20_4 : w18.cell? ⟨gb116, 4, none⟩ = some (.int .i64 0) := (blk_cell BK116.out 4).trans rfl; have hcz20_5 : w18.cell? ⟨gb116, 5, none⟩ = some (.int .i64 0) := (blk_cell BK116.out 5).trans rfl; have hfz20_0 := blk_frozen BK116.out 0; have hfz20_1 := blk_frozen BK116.out 1; have hfz20_2 := blk_frozen BK116.out 2; have hfz20_3 := blk_frozen BK116.out 3; have hfz20_4 := blk_frozen BK116.out 4; have hfz20_5 := blk_frozen BK116.out 5; have hcz21_0 : w18.cell? ⟨gb108, 0, none⟩ = some (.int .i64 t101) := (blk_cell BK108.out 0).trans rfl; have hcz21_1 : w18.cell? ⟨gb108, 1, none⟩ = some (.int .i64 t102) := (blk_cell BK108.out 1).trans rfl; have hcz21_2 : w18.cell? ⟨gb108, 2, none⟩ = some (.int .i64 t103) := (blk_cell BK108.out 2).trans rfl; have hcz21_3 : w18.cell? ⟨gb108, 3, none⟩ = some (.int .i64 t104) := (blk_cell BK108.out 3).trans rfl; have hcz21_4 : w18.cell? ⟨gb108, 4, none⟩ = some (.int .i64 t105) := (blk_cell BK108.out 4).trans rfl; have hcz21_5 : w18.cell? ⟨gb108, 5, none⟩ = some (.int .i64 t106) := (blk_cell BK108.out 5).trans rfl; have hfz21_0 := blk_frozen BK108.out 0; have hfz21_1 := blk_frozen BK108.out 1; have hfz21_2 := blk_frozen BK108.out 2; have hfz21_3 := blk_frozen BK108.out 3; have hfz21_4 := blk_frozen BK108.out 4; have hfz21_5 := blk_frozen BK108.out 5))
            go_ret
            exact ⟨by first | rfl | (simp [errW_none, errW_some] <;> rfl) | (simp [*, errW_none, errW_some] <;> rfl), by repeat (first | (with_reducible first | exact HB.out | apply below_alloc | apply pw_below_drewN | apply below_drew1 | refine below_set ?_ GE108.out | refine below_set ?_ GE116.out) | exact HB.out)⟩
        · rw [if_neg c5] at H
          have c5b0 : (t103 == 150) = false := beq_eq_false_iff_ne.mpr c5
          have c5b1 : (t103 != 150) = true := bne_iff_ne.mpr c5
          obtain rfl := Option.some.inj H
          go_enter Try.func13, Try.ntmps13
          go_wp2_with (first | ((with_reducible refine gate_callee (f := 14) rfl ?_); refine goesL_ (some 8) rfl rfl Try.func14 (by kernel_rfl) rfl #[.int .i64 1, .agg #[.int .i64 100, .int .i64 50], .agg #[.int .i64 0, .int .i64 0], .int .i64 0, .int .i64 0] rfl (by (try simp only [List.map_toArray, List.map_cons, List.map_nil]); first | done | rfl | (simp only [List.length_drop, List.length_take]; rfl)) ?_; (with_reducible refine (remit_Month.calls 1 100 50 0 0 0 0 t101 t102 t103 t104 t105 t106 none _ A1.out).mono ?_); rintro e w22 ⟨rfl, hb⟩; refine ⟨_, rfl, ?_⟩; have n0_ := Aside0.mk (below_step (by repeat (first | (with_reducible first | exact HB.out | apply below_alloc | apply pw_below_drewN | apply below_drew1) | exact HB.out)) hb); clear HB; have HB := n0_; clear n0_; (try clear hb); (try clear hb2); (try clear hk); (try clear hi); (try simp only [errW_none, errW_some])) | ((with_reducible refine gate_dst (N := 1) rfl ?_); refine box_event ?hg (N := 1) ?hd (cs := #[.int .i64 0, .int .i64 0, .int .i64 0, .int .i64 0, .int .i64 0, .int .i64 0]) (t := 25) ?hr ?_; (case hd => rfl); (case hg => rfl); (case hr => first | (go_simp; done) | (go_simp; rfl)); intro gb108 hg w23 hbox hb; have n0_ := Aside0.mk (below_step (by repeat (first | (with_reducible first | exact HB.out | apply below_alloc | apply pw_below_drewN | apply below_drew1) | exact HB.out)) hb); have n1_ := Aside0.mk (hbox); have n2_ := Aside0.mk ((by rw [hg]; exact (below_size (by repeat (first | (with_reducible first | exact HB.out | apply below_alloc | apply pw_below_drewN | apply below_drew1) | exact HB.out))) : w.heap.size ≤ gb108)); have n3_ := Aside0.mk ((by rw [hg]; exact (below_size (by repeat (first | (with_reducible first | exact HB.out | apply below_alloc | apply pw_below_drewN | apply below_drew1) | exact HB.out))) : w.heap.size ≤ gb108)); clear HB; have HB := n0_; have BK108 := n1_; have GW108 := n2_; have GE108 := n3_; clear n0_ n1_ n2_ n3_; clear hb hbox hg; have hcz24_0 : w23.cell? ⟨gb108, 0, none⟩ = some (.int .i64 0) := (blk_cell BK108.out 0).trans rfl; have hcz24_1 : w23.cell? ⟨gb108, 1, none⟩ = some (.int .i64 0) := (blk_cell BK108.out 1).trans rfl; have hcz24_2 : w23.cell? ⟨gb108, 2, none⟩ = some (.int .i64 0) := (blk_cell BK108.out 2).trans rfl; have hcz24_3 : w23.cell? ⟨gb108, 3, none⟩ = some (.int .i64 0) := (blk_cell BK108.out 3).trans rfl; have hcz24_4 : w23.cell? ⟨gb108, 4, none⟩ = some (.int .i64 0) := (blk_cell BK108.out 4).trans rfl; have hcz24_5 : w23.cell? ⟨gb108, 5, none⟩ = some (.int .i64 0) := (blk_cell BK108.out 5).trans rfl; have hfz24_0 := blk_frozen BK108.out 0; have hfz24_1 := blk_frozen BK108.out 1; have hfz24_2 := blk_frozen BK108.out 2; have hfz24_3 := blk_frozen BK108.out 3; have hfz24_4 := blk_frozen BK108.out 4; have hfz24_5 := blk_frozen BK108.out 5) | ((with_reducible refine gate_callee (f := 14) rfl ?_); refine goesL_ (some 14) rfl rfl Try.func14 (by kernel_rfl) rfl #[.int .i64 0, .agg #[.int .i64 0, .int .i64 0], .agg #[.int .i64 0, .int .i64 0], .int .i64 0, .int .i64 0] rfl (by (try simp only [List.map_toArray, List.map_cons, List.map_nil]); first | done | rfl | (simp only [List.length_drop, List.length_take]; rfl)) ?_; (with_reducible refine (remit_Month.calls 0 0 0 0 0 0 0 t109 t110 t111 t112 t113 t114 t115 _ A2.out).mono ?_); rintro e w25 ⟨rfl, hb⟩; refine ⟨_, rfl, ?_⟩; have n0_ := Aside0.mk (blk_below (g := gb108) (o := .cells #[.int .i64 t101, .int .i64 t102, .int .i64 t103, .int .i64 t104, .int .i64 t105, .int .i64 t106] 25 (0, 0)) (by (with_reducible repeat (first | refine blk_drewN ?_ _ | refine blk_drew ?_ | refine blk_alloc ?_ _)); refine blk_put (cs := #[.int .i64 t101, .int .i64 t102, .int .i64 t103, .int .i64 t104, .int .i64 t105, .int .i64 0]) ?_ 5 _ rfl; (with_reducible repeat (first | refine blk_drewN ?_ _ | refine blk_drew ?_ | refine blk_alloc ?_ _)); refine blk_put (cs := #[.int .i64 t101, .int .i64 t102, .int .i64 t103, .int .i64 t104, .int .i64 0, .int .i64 0]) ?_ 4 _ rfl; (with_reducible repeat (first | refine blk_drewN ?_ _ | refine blk_drew ?_ | refine blk_alloc ?_ _)); refine blk_put (cs := #[.int .i64 t101, .int .i64 t102, .int .i64 t103, .int .i64 0, .int .i64 0, .int .i64 0]) ?_ 3 _ rfl; (with_reducible repeat (first | refine blk_drewN ?_ _ | refine blk_drew ?_ | refine blk_alloc ?_ _)); refine blk_put (cs := #[.int .i64 t101, .int .i64 t102, .int .i64 0, .int .i64 0, .int .i64 0, .int .i64 0]) ?_ 2 _ rfl; (with_reducible repeat (first | refine blk_drewN ?_ _ | refine blk_drew ?_ | refine blk_alloc ?_ _)); refine blk_put (cs := #[.int .i64 t101, .int .i64 0, .int .i64 0, .int .i64 0, .int .i64 0, .int .i64 0]) ?_ 1 _ rfl; (with_reducible repeat (first | refine blk_drewN ?_ _ | refine blk_drew ?_ | refine blk_alloc ?_ _)); refine blk_put (cs := #[.int .i64 0, .int .i64 0, .int .i64 0, .int .i64 0, .int .i64 0, .int .i64 0]) ?_ 0 _ rfl; (with_reducible repeat (first | refine blk_drewN ?_ _ | refine blk_drew ?_ | refine blk_alloc ?_ _)); exact BK108.out) hb); have n1_ := Aside0.mk (below_step (by repeat (first | (with_reducible first | exact HB.out | apply below_alloc | apply pw_below_drewN | apply below_drew1 | refine below_set ?_ GE108.out) | exact HB.out)) hb); clear BK108; clear HB; have BK108 := n0_; have HB := n1_; clear n0_ n1_; (try clear hb); (try clear hb2); (try clear hk); (try clear hi); (try simp only [errW_none, errW_some])) | ((with_reducible refine gate_dst (N := 3) rfl ?_); refine box_event ?hg (N := 3) ?hd (cs := #[.int .i64 0, .int .i64 0, .int .i64 0, .int .i64 0, .int .i64 0, .int .i64 0]) (t := 25) ?hr ?_; (case hd => rfl); (case hg => rfl); (case hr => first | (go_simp; done) | (go_simp; rfl)); intro gb116 hg w26 hbox hb; have n0_ := Aside0.mk (blk_below (g := gb108) (o := .cells #[.int .i64 t101, .int .i64 t102, .int .i64 t103, .int .i64 t104, .int .i64 t105, .int .i64 t106] 25 (0, 0)) (by (with_reducible repeat (first | refine blk_drewN ?_ _ | refine blk_drew ?_ | refine blk_alloc ?_ _)); exact BK108.out) hb); have n1_ := Aside0.mk (below_step (by repeat (first | (with_reducible first | exact HB.out | apply below_alloc | apply pw_below_drewN | apply below_drew1 | refine below_set ?_ GE108.out) | exact HB.out)) hb); have n2_ := Aside0.mk (hbox); have n3_ := Aside0.mk ((by rw [hg]; exact (below_size (by repeat (first | (with_reducible first | exact HB.out | apply below_alloc | apply pw_below_drewN | apply below_drew1 | refine below_set ?_ GE108.out) | exact HB.out))) : w.heap.size ≤ gb116)); have n4_ := Aside0.mk ((by rw [hg]; exact (below_size (by repeat (first | (with_reducible first | exact HB.out | apply below_alloc | apply pw_below_drewN | apply below_drew1 | refine below_set ?_ GE108.out) | exact HB.out))) : w.heap.size ≤ gb116)); have n5_ := Aside0.mk ((by rw [hg]; exact Nat.ne_of_lt (blk_lt (g := gb108) (o := .cells #[.int .i64 t101, .int .i64 t102, .int .i64 t103, .int .i64 t104, .int .i64 t105, .int .i64 t106] 25 (0, 0)) (by (with_reducible repeat (first | refine blk_drewN ?_ _ | refine blk_drew ?_ | refine blk_alloc ?_ _)); exact BK108.out)) : gb108 ≠ gb116)); have n6_ := Aside0.mk ((by rw [hg]; exact Nat.ne_of_gt (blk_lt (g := gb108) (o := .cells #[.int .i64 t101, .int .i64 t102, .int .i64 t103, .int .i64 t104, .int .i64 t105, .int .i64 t106] 25 (0, 0)) (by (with_reducible repeat (first | refine blk_drewN ?_ _ | refine blk_drew ?_ | refine blk_alloc ?_ _)); exact BK108.out)) : gb116 ≠ gb108)); clear BK108; clear HB; have BK108 := n0_; have HB := n1_; have BK116 := n2_; have GW116 := n3_; have GE116 := n4_; have NB108_116 := n5_; have NB116_108 := n6_; clear n0_ n1_ n2_ n3_ n4_ n5_ n6_; clear hb hbox hg; have hnb27 := NB116_108.out; have hnc27 := NB108_116.out; have hcz28_0 : w26.cell? ⟨gb116, 0, none⟩ = some (.int .i64 0) := (blk_cell BK116.out 0).trans rfl; have hcz28_1 : w26.cell? ⟨gb116, 1, none⟩ = some (.int .i64 0) := (blk_cell BK116.out 1).trans rfl; have hcz28_2 : w26.cell? ⟨gb116, 2, none⟩ = some (.int .i64 0) := (blk_cell BK116.out 2).trans rfl; have hcz28_3 : w26.cell? ⟨gb116, 3, none⟩ = some (.int .i64 0) := (blk_cell BK116.out 3).trans rfl; have hcz28_4 : w26.cell? ⟨gb116, 4, none⟩ = some (.int .i64 0) := (blk_cell BK116.out 4).trans rfl; have hcz28_5 : w26.cell? ⟨gb116, 5, none⟩ = some (.int .i64 0) := (blk_cell BK116.out 5).trans rfl; have hfz28_0 := blk_frozen BK116.out 0; have hfz28_1 := blk_frozen BK116.out 1; have hfz28_2 := blk_frozen BK116.out 2; have hfz28_3 := blk_frozen BK116.out 3; have hfz28_4 := blk_frozen BK116.out 4; have hfz28_5 := blk_frozen BK116.out 5; have hcz29_0 : w26.cell? ⟨gb108, 0, none⟩ = some (.int .i64 t101) := (blk_cell BK108.out 0).trans rfl; have hcz29_1 : w26.cell? ⟨gb108, 1, none⟩ = some (.int .i64 t102) := (blk_cell BK108.out 1).trans rfl; have hcz29_2 : w26.cell? ⟨gb108, 2, none⟩ = some (.int .i64 t103) := (blk_cell BK108.out 2).trans rfl; have hcz29_3 : w26.cell? ⟨gb108, 3, none⟩ = some (.int .i64 t104) := (blk_cell BK108.out 3).trans rfl; have hcz29_4 : w26.cell? ⟨gb108, 4, none⟩ = some (.int .i64 t105) := (blk_cell BK108.out 4).trans rfl; have hcz29_5 : w26.cell? ⟨gb108, 5, none⟩ = some (.int .i64 t106) := (blk_cell BK108.out 5).trans rfl; have hfz29_0 := blk_frozen BK108.out 0; have hfz29_1 := blk_frozen BK108.out 1; have hfz29_2 := blk_frozen BK108.out 2; have hfz29_3 := blk_frozen BK108.out 3; have hfz29_4 := blk_frozen BK108.out 4; have hfz29_5 := blk_frozen BK108.out 5))
          go_ret
          exact ⟨by first | rfl | (simp [errW_none, errW_some] <;> rfl) | (simp [*, errW_none, errW_some] <;> rfl), by repeat (first | (with_reducible first | exact HB.out | apply below_alloc | apply pw_below_drewN | apply below_drew1 | refine below_set ?_ GE108.out | refine below_set ?_ GE116.out) | exact HB.out)⟩
      · rw [if_neg c4] at H
        have c4b0 : (t102 == 50) = false := beq_eq_false_iff_ne.mpr c4
        have c4b1 : (t102 != 50) = true := bne_iff_ne.mpr c4
        obtain rfl := Option.some.inj H
        go_enter Try.func13, Try.ntmps13
        go_wp2_with (first | ((with_reducible refine gate_callee (f := 14) rfl ?_); refine goesL_ (some 8) rfl rfl Try.func14 (by kernel_rfl) rfl #[.int .i64 1, .agg #[.int .i64 100, .int .i64 50], .agg #[.int .i64 0, .int .i64 0], .int .i64 0, .int .i64 0] rfl (by (try simp only [List.map_toArray, List.map_cons, List.map_nil]); first | done | rfl | (simp only [List.length_drop, List.length_take]; rfl)) ?_; (with_reducible refine (remit_Month.calls 1 100 50 0 0 0 0 t101 t102 t103 t104 t105 t106 none _ A1.out).mono ?_); rintro e w30 ⟨rfl, hb⟩; refine ⟨_, rfl, ?_⟩; have n0_ := Aside0.mk (below_step (by repeat (first | (with_reducible first | exact HB.out | apply below_alloc | apply pw_below_drewN | apply below_drew1) | exact HB.out)) hb); clear HB; have HB := n0_; clear n0_; (try clear hb); (try clear hb2); (try clear hk); (try clear hi); (try simp only [errW_none, errW_some])) | ((with_reducible refine gate_dst (N := 1) rfl ?_); refine box_event ?hg (N := 1) ?hd (cs := #[.int .i64 0, .int .i64 0, .int .i64 0, .int .i64 0, .int .i64 0, .int .i64 0]) (t := 25) ?hr ?_; (case hd => rfl); (case hg => rfl); (case hr => first | (go_simp; done) | (go_simp; rfl)); intro gb108 hg w31 hbox hb; have n0_ := Aside0.mk (below_step (by repeat (first | (with_reducible first | exact HB.out | apply below_alloc | apply pw_below_drewN | apply below_drew1) | exact HB.out)) hb); have n1_ := Aside0.mk (hbox); have n2_ := Aside0.mk ((by rw [hg]; exact (below_size (by repeat (first | (with_reducible first | exact HB.out | apply below_alloc | apply pw_below_drewN | apply below_drew1) | exact HB.out))) : w.heap.size ≤ gb108)); have n3_ := Aside0.mk ((by rw [hg]; exact (below_size (by repeat (first | (with_reducible first | exact HB.out | apply below_alloc | apply pw_below_drewN | apply below_drew1) | exact HB.out))) : w.heap.size ≤ gb108)); clear HB; have HB := n0_; have BK108 := n1_; have GW108 := n2_; have GE108 := n3_; clear n0_ n1_ n2_ n3_; clear hb hbox hg; have hcz32_0 : w31.cell? ⟨gb108, 0, none⟩ = some (.int .i64 0) := (blk_cell BK108.out 0).trans rfl; have hcz32_1 : w31.cell? ⟨gb108, 1, none⟩ = some (.int .i64 0) := (blk_cell BK108.out 1).trans rfl; have hcz32_2 : w31.cell? ⟨gb108, 2, none⟩ = some (.int .i64 0) := (blk_cell BK108.out 2).trans rfl; have hcz32_3 : w31.cell? ⟨gb108, 3, none⟩ = some (.int .i64 0) := (blk_cell BK108.out 3).trans rfl; have hcz32_4 : w31.cell? ⟨gb108, 4, none⟩ = some (.int .i64 0) := (blk_cell BK108.out 4).trans rfl; have hcz32_5 : w31.cell? ⟨gb108, 5, none⟩ = some (.int .i64 0) := (blk_cell BK108.out 5).trans rfl; have hfz32_0 := blk_frozen BK108.out 0; have hfz32_1 := blk_frozen BK108.out 1; have hfz32_2 := blk_frozen BK108.out 2; have hfz32_3 := blk_frozen BK108.out 3; have hfz32_4 := blk_frozen BK108.out 4; have hfz32_5 := blk_frozen BK108.out 5) | ((with_reducible refine gate_callee (f := 14) rfl ?_); refine goesL_ (some 14) rfl rfl Try.func14 (by kernel_rfl) rfl #[.int .i64 0, .agg #[.int .i64 0, .int .i64 0], .agg #[.int .i64 0, .int .i64 0], .int .i64 0, .int .i64 0] rfl (by (try simp only [List.map_toArray, List.map_cons, List.map_nil]); first | done | rfl | (simp only [List.length_drop, List.length_take]; rfl)) ?_; (with_reducible refine (remit_Month.calls 0 0 0 0 0 0 0 t109 t110 t111 t112 t113 t114 t115 _ A2.out).mono ?_); rintro e w33 ⟨rfl, hb⟩; refine ⟨_, rfl, ?_⟩; have n0_ := Aside0.mk (blk_below (g := gb108) (o := .cells #[.int .i64 t101, .int .i64 t102, .int .i64 t103, .int .i64 t104, .int .i64 t105, .int .i64 t106] 25 (0, 0)) (by (with_reducible repeat (first | refine blk_drewN ?_ _ | refine blk_drew ?_ | refine blk_alloc ?_ _)); refine blk_put (cs := #[.int .i64 t101, .int .i64 t102, .int .i64 t103, .int .i64 t104, .int .i64 t105, .int .i64 0]) ?_ 5 _ rfl; (with_reducible repeat (first | refine blk_drewN ?_ _ | refine blk_drew ?_ | refine blk_alloc ?_ _)); refine blk_put (cs := #[.int .i64 t101, .int .i64 t102, .int .i64 t103, .int .i64 t104, .int .i64 0, .int .i64 0]) ?_ 4 _ rfl; (with_reducible repeat (first | refine blk_drewN ?_ _ | refine blk_drew ?_ | refine blk_alloc ?_ _)); refine blk_put (cs := #[.int .i64 t101, .int .i64 t102, .int .i64 t103, .int .i64 0, .int .i64 0, .int .i64 0]) ?_ 3 _ rfl; (with_reducible repeat (first | refine blk_drewN ?_ _ | refine blk_drew ?_ | refine blk_alloc ?_ _)); refine blk_put (cs := #[.int .i64 t101, .int .i64 t102, .int .i64 0, .int .i64 0, .int .i64 0, .int .i64 0]) ?_ 2 _ rfl; (with_reducible repeat (first | refine blk_drewN ?_ _ | refine blk_drew ?_ | refine blk_alloc ?_ _)); refine blk_put (cs := #[.int .i64 t101, .int .i64 0, .int .i64 0, .int .i64 0, .int .i64 0, .int .i64 0]) ?_ 1 _ rfl; (with_reducible repeat (first | refine blk_drewN ?_ _ | refine blk_drew ?_ | refine blk_alloc ?_ _)); refine blk_put (cs := #[.int .i64 0, .int .i64 0, .int .i64 0, .int .i64 0, .int .i64 0, .int .i64 0]) ?_ 0 _ rfl; (with_reducible repeat (first | refine blk_drewN ?_ _ | refine blk_drew ?_ | refine blk_alloc ?_ _)); exact BK108.out) hb); have n1_ := Aside0.mk (below_step (by repeat (first | (with_reducible first | exact HB.out | apply below_alloc | apply pw_below_drewN | apply below_drew1 | refine below_set ?_ GE108.out) | exact HB.out)) hb); clear BK108; clear HB; have BK108 := n0_; have HB := n1_; clear n0_ n1_; (try clear hb); (try clear hb2); (try clear hk); (try clear hi); (try simp only [errW_none, errW_some])) | ((with_reducible refine gate_dst (N := 3) rfl ?_); refine box_event ?hg (N := 3) ?hd (cs := #[.int .i64 0, .int .i64 0, .int .i64 0, .int .i64 0, .int .i64 0, .int .i64 0]) (t := 25) ?hr ?_; (case hd => rfl); (case hg => rfl); (case hr => first | (go_simp; done) | (go_simp; rfl)); intro gb116 hg w34 hbox hb; have n0_ := Aside0.mk (blk_below (g := gb108) (o := .cells #[.int .i64 t101, .int .i64 t102, .int .i64 t103, .int .i64 t104, .int .i64 t105, .int .i64 t106] 25 (0, 0)) (by (with_reducible repeat (first | refine blk_drewN ?_ _ | refine blk_drew ?_ | refine blk_alloc ?_ _)); exact BK108.out) hb); have n1_ := Aside0.mk (below_step (by repeat (first | (with_reducible first | exact HB.out | apply below_alloc | apply pw_below_drewN | apply below_drew1 | refine below_set ?_ GE108.out) | exact HB.out)) hb); have n2_ := Aside0.mk (hbox); have n3_ := Aside0.mk ((by rw [hg]; exact (below_size (by repeat (first | (with_reducible first | exact HB.out | apply below_alloc | apply pw_below_drewN | apply below_drew1 | refine below_set ?_ GE108.out) | exact HB.out))) : w.heap.size ≤ gb116)); have n4_ := Aside0.mk ((by rw [hg]; exact (below_size (by repeat (first | (with_reducible first | exact HB.out | apply below_alloc | apply pw_below_drewN | apply below_drew1 | refine below_set ?_ GE108.out) | exact HB.out))) : w.heap.size ≤ gb116)); have n5_ := Aside0.mk ((by rw [hg]; exact Nat.ne_of_lt (blk_lt (g := gb108) (o := .cells #[.int .i64 t101, .int .i64 t102, .int .i64 t103, .int .i64 t104, .int .i64 t105, .int .i64 t106] 25 (0, 0)) (by (with_reducible repeat (first | refine blk_drewN ?_ _ | refine blk_drew ?_ | refine blk_alloc ?_ _)); exact BK108.out)) : gb108 ≠ gb116)); have n6_ := Aside0.mk ((by rw [hg]; exact Nat.ne_of_gt (blk_lt (g := gb108) (o := .cells #[.int .i64 t101, .int .i64 t102, .int .i64 t103, .int .i64 t104, .int .i64 t105, .int .i64 t106] 25 (0, 0)) (by (with_reducible repeat (first | refine blk_drewN ?_ _ | refine blk_drew ?_ | refine blk_alloc ?_ _)); exact BK108.out)) : gb116 ≠ gb108)); clear BK108; clear HB; have BK108 := n0_; have HB := n1_; have BK116 := n2_; have GW116 := n3_; have GE116 := n4_; have NB108_116 := n5_; have NB116_108 := n6_; clear n0_ n1_ n2_ n3_ n4_ n5_ n6_; clear hb hbox hg; have hnb35 := NB116_108.out; have hnc35 := NB108_116.out; have hcz36_0 : w34.cell? ⟨gb116, 0, none⟩ = some (.int .i64 0) := (blk_cell BK116.out 0).trans rfl; have hcz36_1 : w34.cell? ⟨gb116, 1, none⟩ = some (.int .i64 0) := (blk_cell BK116.out 1).trans rfl; have hcz36_2 : w34.cell? ⟨gb116, 2, none⟩ = some (.int .i64 0) := (blk_cell BK116.out 2).trans rfl; have hcz36_3 : w34.cell? ⟨gb116, 3, none⟩ = some (.int .i64 0) := (blk_cell BK116.out 3).trans rfl; have hcz36_4 : w34.cell? ⟨gb116, 4, none⟩ = some (.int .i64 0) := (blk_cell BK116.out 4).trans rfl; have hcz36_5 : w34.cell? ⟨gb116, 5, none⟩ = some (.int .i64 0) := (blk_cell BK116.out 5).trans rfl; have hfz36_0 := blk_frozen BK116.out 0; have hfz36_1 := blk_frozen BK116.out 1; have hfz36_2 := blk_frozen BK116.out 2; have hfz36_3 := blk_frozen BK116.out 3; have hfz36_4 := blk_frozen BK116.out 4; have hfz36_5 := blk_frozen BK116.out 5; have hcz37_0 : w34.cell? ⟨gb108, 0, none⟩ = some (.int .i64 t101) := (blk_cell BK108.out 0).trans rfl; have hcz37_1 : w34.cell? ⟨gb108, 1, none⟩ = some (.int .i64 t102) := (blk_cell BK108.out 1).trans rfl; have hcz37_2 : w34.cell? ⟨gb108, 2, none⟩ = some (.int .i64 t103) := (blk_cell BK108.out 2).trans rfl; have hcz37_3 : w34.cell? ⟨gb108, 3, none⟩ = some (.int .i64 t104) := (blk_cell BK108.out 3).trans rfl; have hcz37_4 : w34.cell? ⟨gb108, 4, none⟩ = some (.int .i64 t105) := (blk_cell BK108.out 4).trans rfl; have hcz37_5 : w34.cell? ⟨gb108, 5, none⟩ = some (.int .i64 t106) := (blk_cell BK108.out 5).trans rfl; have hfz37_0 := blk_frozen BK108.out 0; have hfz37_1 := blk_frozen BK108.out 1; have hfz37_2 := blk_frozen BK108.out 2; have hfz37_3 := blk_frozen BK108.out 3; have hfz37_4 := blk_frozen BK108.out 4; have hfz37_5 := blk_frozen BK108.out 5))
        go_ret
        exact ⟨by first | rfl | (simp [errW_none, errW_some] <;> rfl) | (simp [*, errW_none, errW_some] <;> rfl), by repeat (first | (with_reducible first | exact HB.out | apply below_alloc | apply pw_below_drewN | apply below_drew1 | refine below_set ?_ GE108.out | refine below_set ?_ GE116.out) | exact HB.out)⟩
    · rw [if_neg c3] at H
      have c3b0 : (t101 == 100) = false := beq_eq_false_iff_ne.mpr c3
      have c3b1 : (t101 != 100) = true := bne_iff_ne.mpr c3
      obtain rfl := Option.some.inj H
      go_enter Try.func13, Try.ntmps13
      go_wp2_with (first | ((with_reducible refine gate_callee (f := 14) rfl ?_); refine goesL_ (some 8) rfl rfl Try.func14 (by kernel_rfl) rfl #[.int .i64 1, .agg #[.int .i64 100, .int .i64 50], .agg #[.int .i64 0, .int .i64 0], .int .i64 0, .int .i64 0] rfl (by (try simp only [List.map_toArray, List.map_cons, List.map_nil]); first | done | rfl | (simp only [List.length_drop, List.length_take]; rfl)) ?_; (with_reducible refine (remit_Month.calls 1 100 50 0 0 0 0 t101 t102 t103 t104 t105 t106 none _ A1.out).mono ?_); rintro e w38 ⟨rfl, hb⟩; refine ⟨_, rfl, ?_⟩; have n0_ := Aside0.mk (below_step (by repeat (first | (with_reducible first | exact HB.out | apply below_alloc | apply pw_below_drewN | apply below_drew1) | exact HB.out)) hb); clear HB; have HB := n0_; clear n0_; (try clear hb); (try clear hb2); (try clear hk); (try clear hi); (try simp only [errW_none, errW_some])) | ((with_reducible refine gate_dst (N := 1) rfl ?_); refine box_event ?hg (N := 1) ?hd (cs := #[.int .i64 0, .int .i64 0, .int .i64 0, .int .i64 0, .int .i64 0, .int .i64 0]) (t := 25) ?hr ?_; (case hd => rfl); (case hg => rfl); (case hr => first | (go_simp; done) | (go_simp; rfl)); intro gb108 hg w39 hbox hb; have n0_ := Aside0.mk (below_step (by repeat (first | (with_reducible first | exact HB.out | apply below_alloc | apply pw_below_drewN | apply below_drew1) | exact HB.out)) hb); have n1_ := Aside0.mk (hbox); have n2_ := Aside0.mk ((by rw [hg]; exact (below_size (by repeat (first | (with_reducible first | exact HB.out | apply below_alloc | apply pw_below_drewN | apply below_drew1) | exact HB.out))) : w.heap.size ≤ gb108)); have n3_ := Aside0.mk ((by rw [hg]; exact (below_size (by repeat (first | (with_reducible first | exact HB.out | apply below_alloc | apply pw_below_drewN | apply below_drew1) | exact HB.out))) : w.heap.size ≤ gb108)); clear HB; have HB := n0_; have BK108 := n1_; have GW108 := n2_; have GE108 := n3_; clear n0_ n1_ n2_ n3_; clear hb hbox hg; have hcz40_0 : w39.cell? ⟨gb108, 0, none⟩ = some (.int .i64 0) := (blk_cell BK108.out 0).trans rfl; have hcz40_1 : w39.cell? ⟨gb108, 1, none⟩ = some (.int .i64 0) := (blk_cell BK108.out 1).trans rfl; have hcz40_2 : w39.cell? ⟨gb108, 2, none⟩ = some (.int .i64 0) := (blk_cell BK108.out 2).trans rfl; have hcz40_3 : w39.cell? ⟨gb108, 3, none⟩ = some (.int .i64 0) := (blk_cell BK108.out 3).trans rfl; have hcz40_4 : w39.cell? ⟨gb108, 4, none⟩ = some (.int .i64 0) := (blk_cell BK108.out 4).trans rfl; have hcz40_5 : w39.cell? ⟨gb108, 5, none⟩ = some (.int .i64 0) := (blk_cell BK108.out 5).trans rfl; have hfz40_0 := blk_frozen BK108.out 0; have hfz40_1 := blk_frozen BK108.out 1; have hfz40_2 := blk_frozen BK108.out 2; have hfz40_3 := blk_frozen BK108.out 3; have hfz40_4 := blk_frozen BK108.out 4; have hfz40_5 := blk_frozen BK108.out 5) | ((with_reducible refine gate_callee (f := 14) rfl ?_); refine goesL_ (some 14) rfl rfl Try.func14 (by kernel_rfl) rfl #[.int .i64 0, .agg #[.int .i64 0, .int .i64 0], .agg #[.int .i64 0, .int .i64 0], .int .i64 0, .int .i64 0] rfl (by (try simp only [List.map_toArray, List.map_cons, List.map_nil]); first | done | rfl | (simp only [List.length_drop, List.length_take]; rfl)) ?_; (with_reducible refine (remit_Month.calls 0 0 0 0 0 0 0 t109 t110 t111 t112 t113 t114 t115 _ A2.out).mono ?_); rintro e w41 ⟨rfl, hb⟩; refine ⟨_, rfl, ?_⟩; have n0_ := Aside0.mk (blk_below (g := gb108) (o := .cells #[.int .i64 t101, .int .i64 t102, .int .i64 t103, .int .i64 t104, .int .i64 t105, .int .i64 t106] 25 (0, 0)) (by (with_reducible repeat (first | refine blk_drewN ?_ _ | refine blk_drew ?_ | refine blk_alloc ?_ _)); refine blk_put (cs := #[.int .i64 t101, .int .i64 t102, .int .i64 t103, .int .i64 t104, .int .i64 t105, .int .i64 0]) ?_ 5 _ rfl; (with_reducible repeat (first | refine blk_drewN ?_ _ | refine blk_drew ?_ | refine blk_alloc ?_ _)); refine blk_put (cs := #[.int .i64 t101, .int .i64 t102, .int .i64 t103, .int .i64 t104, .int .i64 0, .int .i64 0]) ?_ 4 _ rfl; (with_reducible repeat (first | refine blk_drewN ?_ _ | refine blk_drew ?_ | refine blk_alloc ?_ _)); refine blk_put (cs := #[.int .i64 t101, .int .i64 t102, .int .i64 t103, .int .i64 0, .int .i64 0, .int .i64 0]) ?_ 3 _ rfl; (with_reducible repeat (first | refine blk_drewN ?_ _ | refine blk_drew ?_ | refine blk_alloc ?_ _)); refine blk_put (cs := #[.int .i64 t101, .int .i64 t102, .int .i64 0, .int .i64 0, .int .i64 0, .int .i64 0]) ?_ 2 _ rfl; (with_reducible repeat (first | refine blk_drewN ?_ _ | refine blk_drew ?_ | refine blk_alloc ?_ _)); refine blk_put (cs := #[.int .i64 t101, .int .i64 0, .int .i64 0, .int .i64 0, .int .i64 0, .int .i64 0]) ?_ 1 _ rfl; (with_reducible repeat (first | refine blk_drewN ?_ _ | refine blk_drew ?_ | refine blk_alloc ?_ _)); refine blk_put (cs := #[.int .i64 0, .int .i64 0, .int .i64 0, .int .i64 0, .int .i64 0, .int .i64 0]) ?_ 0 _ rfl; (with_reducible repeat (first | refine blk_drewN ?_ _ | refine blk_drew ?_ | refine blk_alloc ?_ _)); exact BK108.out) hb); have n1_ := Aside0.mk (below_step (by repeat (first | (with_reducible first | exact HB.out | apply below_alloc | apply pw_below_drewN | apply below_drew1 | refine below_set ?_ GE108.out) | exact HB.out)) hb); clear BK108; clear HB; have BK108 := n0_; have HB := n1_; clear n0_ n1_; (try clear hb); (try clear hb2); (try clear hk); (try clear hi); (try simp only [errW_none, errW_some])) | ((with_reducible refine gate_dst (N := 3) rfl ?_); refine box_event ?hg (N := 3) ?hd (cs := #[.int .i64 0, .int .i64 0, .int .i64 0, .int .i64 0, .int .i64 0, .int .i64 0]) (t := 25) ?hr ?_; (case hd => rfl); (case hg => rfl); (case hr => first | (go_simp; done) | (go_simp; rfl)); intro gb116 hg w42 hbox hb; have n0_ := Aside0.mk (blk_below (g := gb108) (o := .cells #[.int .i64 t101, .int .i64 t102, .int .i64 t103, .int .i64 t104, .int .i64 t105, .int .i64 t106] 25 (0, 0)) (by (with_reducible repeat (first | refine blk_drewN ?_ _ | refine blk_drew ?_ | refine blk_alloc ?_ _)); exact BK108.out) hb); have n1_ := Aside0.mk (below_step (by repeat (first | (with_reducible first | exact HB.out | apply below_alloc | apply pw_below_drewN | apply below_drew1 | refine below_set ?_ GE108.out) | exact HB.out)) hb); have n2_ := Aside0.mk (hbox); have n3_ := Aside0.mk ((by rw [hg]; exact (below_size (by repeat (first | (with_reducible first | exact HB.out | apply below_alloc | apply pw_below_drewN | apply below_drew1 | refine below_set ?_ GE108.out) | exact HB.out))) : w.heap.size ≤ gb116)); have n4_ := Aside0.mk ((by rw [hg]; exact (below_size (by repeat (first | (with_reducible first | exact HB.out | apply below_alloc | apply pw_below_drewN | apply below_drew1 | refine below_set ?_ GE108.out) | exact HB.out))) : w.heap.size ≤ gb116)); have n5_ := Aside0.mk ((by rw [hg]; exact Nat.ne_of_lt (blk_lt (g := gb108) (o := .cells #[.int .i64 t101, .int .i64 t102, .int .i64 t103, .int .i64 t104, .int .i64 t105, .int .i64 t106] 25 (0, 0)) (by (with_reducible repeat (first | refine blk_drewN ?_ _ | refine blk_drew ?_ | refine blk_alloc ?_ _)); exact BK108.out)) : gb108 ≠ gb116)); have n6_ := Aside0.mk ((by rw [hg]; exact Nat.ne_of_gt (blk_lt (g := gb108) (o := .cells #[.int .i64 t101, .int .i64 t102, .int .i64 t103, .int .i64 t104, .int .i64 t105, .int .i64 t106] 25 (0, 0)) (by (with_reducible repeat (first | refine blk_drewN ?_ _ | refine blk_drew ?_ | refine blk_alloc ?_ _)); exact BK108.out)) : gb116 ≠ gb108)); clear BK108; clear HB; have BK108 := n0_; have HB := n1_; have BK116 := n2_; have GW116 := n3_; have GE116 := n4_; have NB108_116 := n5_; have NB116_108 := n6_; clear n0_ n1_ n2_ n3_ n4_ n5_ n6_; clear hb hbox hg; have hnb43 := NB116_108.out; have hnc43 := NB108_116.out; have hcz44_0 : w42.cell? ⟨gb116, 0, none⟩ = some (.int .i64 0) := (blk_cell BK116.out 0).trans rfl; have hcz44_1 : w42.cell? ⟨gb116, 1, none⟩ = some (.int .i64 0) := (blk_cell BK116.out 1).trans rfl; have hcz44_2 : w42.cell? ⟨gb116, 2, none⟩ = some (.int .i64 0) := (blk_cell BK116.out 2).trans rfl; have hcz44_3 : w42.cell? ⟨gb116, 3, none⟩ = some (.int .i64 0) := (blk_cell BK116.out 3).trans rfl; have hcz44_4 : w42.cell? ⟨gb116, 4, none⟩ = some (.int .i64 0) := (blk_cell BK116.out 4).trans rfl; have hcz44_5 : w42.cell? ⟨gb116, 5, none⟩ = some (.int .i64 0) := (blk_cell BK116.out 5).trans rfl; have hfz44_0 := blk_frozen BK116.out 0; have hfz44_1 := blk_frozen BK116.out 1; have hfz44_2 := blk_frozen BK116.out 2; have hfz44_3 := blk_frozen BK116.out 3; have hfz44_4 := blk_frozen BK116.out 4; have hfz44_5 := blk_frozen BK116.out 5; have hcz45_0 : w42.cell? ⟨gb108, 0, none⟩ = some (.int .i64 t101) := (blk_cell BK108.out 0).trans rfl; have hcz45_1 : w42.cell? ⟨gb108, 1, none⟩ = some (.int .i64 t102) := (blk_cell BK108.out 1).trans rfl; have hcz45_2 : w42.cell? ⟨gb108, 2, none⟩ = some (.int .i64 t103) := (blk_cell BK108.out 2).trans rfl; have hcz45_3 : w42.cell? ⟨gb108, 3, none⟩ = some (.int .i64 t104) := (blk_cell BK108.out 3).trans rfl; have hcz45_4 : w42.cell? ⟨gb108, 4, none⟩ = some (.int .i64 t105) := (blk_cell BK108.out 4).trans rfl; have hcz45_5 : w42.cell? ⟨gb108, 5, none⟩ = some (.int .i64 t106) := (blk_cell BK108.out 5).trans rfl; have hfz45_0 := blk_frozen BK108.out 0; have hfz45_1 := blk_frozen BK108.out 1; have hfz45_2 := blk_frozen BK108.out 2; have hfz45_3 := blk_frozen BK108.out 3; have hfz45_4 := blk_frozen BK108.out 4; have hfz45_5 := blk_frozen BK108.out 5))
      go_ret
      exact ⟨by first | rfl | (simp [errW_none, errW_some] <;> rfl) | (simp [*, errW_none, errW_some] <;> rfl), by repeat (first | (with_reducible first | exact HB.out | apply below_alloc | apply pw_below_drewN | apply below_drew1 | refine below_set ?_ GE108.out | refine below_set ?_ GE116.out) | exact HB.out)⟩
  · have H1 : (some false) = some r := by rw [if_neg (show ¬ (some q117).isNone = true by simp)] at H; exact H
    clear H
    have H := H1
    clear H1
    try simp only [errW_none, errW_some]
    obtain rfl := Option.some.inj H
    go_enter Try.func13, Try.ntmps13
    go_wp2_with (first | ((with_reducible refine gate_callee (f := 14) rfl ?_); refine goesL_ (some 8) rfl rfl Try.func14 (by kernel_rfl) rfl #[.int .i64 1, .agg #[.int .i64 100, .int .i64 50], .agg #[.int .i64 0, .int .i64 0], .int .i64 0, .int .i64 0] rfl (by (try simp only [List.map_toArray, List.map_cons, List.map_nil]); first | done | rfl | (simp only [List.length_drop, List.length_take]; rfl)) ?_; (with_reducible refine (remit_Month.calls 1 100 50 0 0 0 0 t101 t102 t103 t104 t105 t106 (some q117) _ A1.out).mono ?_); rintro e w46 ⟨rfl, hb⟩; refine ⟨_, rfl, ?_⟩; have n0_ := Aside0.mk (below_step (by repeat (first | (with_reducible first | exact HB.out | apply below_alloc | apply pw_below_drewN | apply below_drew1) | exact HB.out)) hb); clear HB; have HB := n0_; clear n0_; (try clear hb); (try clear hb2); (try clear hk); (try clear hi); (try simp only [errW_none, errW_some])) | ((with_reducible refine gate_dst (N := 1) rfl ?_); refine box_event ?hg (N := 1) ?hd (cs := #[.int .i64 0, .int .i64 0, .int .i64 0, .int .i64 0, .int .i64 0, .int .i64 0]) (t := 25) ?hr ?_; (case hd => rfl); (case hg => rfl); (case hr => first | (go_simp; done) | (go_simp; rfl)); intro gb108 hg w47 hbox hb; have n0_ := Aside0.mk (below_step (by repeat (first | (with_reducible first | exact HB.out | apply below_alloc | apply pw_below_drewN | apply below_drew1) | exact HB.out)) hb); have n1_ := Aside0.mk (hbox); have n2_ := Aside0.mk ((by rw [hg]; exact (below_size (by repeat (first | (with_reducible first | exact HB.out | apply below_alloc | apply pw_below_drewN | apply below_drew1) | exact HB.out))) : w.heap.size ≤ gb108)); have n3_ := Aside0.mk ((by rw [hg]; exact (below_size (by repeat (first | (with_reducible first | exact HB.out | apply below_alloc | apply pw_below_drewN | apply below_drew1) | exact HB.out))) : w.heap.size ≤ gb108)); clear HB; have HB := n0_; have BK108 := n1_; have GW108 := n2_; have GE108 := n3_; clear n0_ n1_ n2_ n3_; clear hb hbox hg; have hcz48_0 : w47.cell? ⟨gb108, 0, none⟩ = some (.int .i64 0) := (blk_cell BK108.out 0).trans rfl; have hcz48_1 : w47.cell? ⟨gb108, 1, none⟩ = some (.int .i64 0) := (blk_cell BK108.out 1).trans rfl; have hcz48_2 : w47.cell? ⟨gb108, 2, none⟩ = some (.int .i64 0) := (blk_cell BK108.out 2).trans rfl; have hcz48_3 : w47.cell? ⟨gb108, 3, none⟩ = some (.int .i64 0) := (blk_cell BK108.out 3).trans rfl; have hcz48_4 : w47.cell? ⟨gb108, 4, none⟩ = some (.int .i64 0) := (blk_cell BK108.out 4).trans rfl; have hcz48_5 : w47.cell? ⟨gb108, 5, none⟩ = some (.int .i64 0) := (blk_cell BK108.out 5).trans rfl; have hfz48_0 := blk_frozen BK108.out 0; have hfz48_1 := blk_frozen BK108.out 1; have hfz48_2 := blk_frozen BK108.out 2; have hfz48_3 := blk_frozen BK108.out 3; have hfz48_4 := blk_frozen BK108.out 4; have hfz48_5 := blk_frozen BK108.out 5) | ((with_reducible refine gate_callee (f := 14) rfl ?_); refine goesL_ (some 14) rfl rfl Try.func14 (by kernel_rfl) rfl #[.int .i64 0, .agg #[.int .i64 0, .int .i64 0], .agg #[.int .i64 0, .int .i64 0], .int .i64 0, .int .i64 0] rfl (by (try simp only [List.map_toArray, List.map_cons, List.map_nil]); first | done | rfl | (simp only [List.length_drop, List.length_take]; rfl)) ?_; (with_reducible refine (remit_Month.calls 0 0 0 0 0 0 0 t109 t110 t111 t112 t113 t114 t115 _ A2.out).mono ?_); rintro e w49 ⟨rfl, hb⟩; refine ⟨_, rfl, ?_⟩; have n0_ := Aside0.mk (blk_below (g := gb108) (o := .cells #[.int .i64 t101, .int .i64 t102, .int .i64 t103, .int .i64 t104, .int .i64 t105, .int .i64 t106] 25 (0, 0)) (by (with_reducible repeat (first | refine blk_drewN ?_ _ | refine blk_drew ?_ | refine blk_alloc ?_ _)); refine blk_put (cs := #[.int .i64 t101, .int .i64 t102, .int .i64 t103, .int .i64 t104, .int .i64 t105, .int .i64 0]) ?_ 5 _ rfl; (with_reducible repeat (first | refine blk_drewN ?_ _ | refine blk_drew ?_ | refine blk_alloc ?_ _)); refine blk_put (cs := #[.int .i64 t101, .int .i64 t102, .int .i64 t103, .int .i64 t104, .int .i64 0, .int .i64 0]) ?_ 4 _ rfl; (with_reducible repeat (first | refine blk_drewN ?_ _ | refine blk_drew ?_ | refine blk_alloc ?_ _)); refine blk_put (cs := #[.int .i64 t101, .int .i64 t102, .int .i64 t103, .int .i64 0, .int .i64 0, .int .i64 0]) ?_ 3 _ rfl; (with_reducible repeat (first | refine blk_drewN ?_ _ | refine blk_drew ?_ | refine blk_alloc ?_ _)); refine blk_put (cs := #[.int .i64 t101, .int .i64 t102, .int .i64 0, .int .i64 0, .int .i64 0, .int .i64 0]) ?_ 2 _ rfl; (with_reducible repeat (first | refine blk_drewN ?_ _ | refine blk_drew ?_ | refine blk_alloc ?_ _)); refine blk_put (cs := #[.int .i64 t101, .int .i64 0, .int .i64 0, .int .i64 0, .int .i64 0, .int .i64 0]) ?_ 1 _ rfl; (with_reducible repeat (first | refine blk_drewN ?_ _ | refine blk_drew ?_ | refine blk_alloc ?_ _)); refine blk_put (cs := #[.int .i64 0, .int .i64 0, .int .i64 0, .int .i64 0, .int .i64 0, .int .i64 0]) ?_ 0 _ rfl; (with_reducible repeat (first | refine blk_drewN ?_ _ | refine blk_drew ?_ | refine blk_alloc ?_ _)); exact BK108.out) hb); have n1_ := Aside0.mk (below_step (by repeat (first | (with_reducible first | exact HB.out | apply below_alloc | apply pw_below_drewN | apply below_drew1 | refine below_set ?_ GE108.out) | exact HB.out)) hb); clear BK108; clear HB; have BK108 := n0_; have HB := n1_; clear n0_ n1_; (try clear hb); (try clear hb2); (try clear hk); (try clear hi); (try simp only [errW_none, errW_some])) | ((with_reducible refine gate_dst (N := 3) rfl ?_); refine box_event ?hg (N := 3) ?hd (cs := #[.int .i64 0, .int .i64 0, .int .i64 0, .int .i64 0, .int .i64 0, .int .i64 0]) (t := 25) ?hr ?_; (case hd => rfl); (case hg => rfl); (case hr => first | (go_simp; done) | (go_simp; rfl)); intro gb116 hg w50 hbox hb; have n0_ := Aside0.mk (blk_below (g := gb108) (o := .cells #[.int .i64 t101, .int .i64 t102, .int .i64 t103, .int .i64 t104, .int .i64 t105, .int .i64 t106] 25 (0, 0)) (by (with_reducible repeat (first | refine blk_drewN ?_ _ | refine blk_drew ?_ | refine blk_alloc ?_ _)); exact BK108.out) hb); have n1_ := Aside0.mk (below_step (by repeat (first | (with_reducible first | exact HB.out | apply below_alloc | apply pw_below_drewN | apply below_drew1 | refine below_set ?_ GE108.out) | exact HB.out)) hb); have n2_ := Aside0.mk (hbox); have n3_ := Aside0.mk ((by rw [hg]; exact (below_size (by repeat (first | (with_reducible first | exact HB.out | apply below_alloc | apply pw_below_drewN | apply below_drew1 | refine below_set ?_ GE108.out) | exact HB.out))) : w.heap.size ≤ gb116)); have n4_ := Aside0.mk ((by rw [hg]; exact (below_size (by repeat (first | (with_reducible first | exact HB.out | apply below_alloc | apply pw_below_drewN | apply below_drew1 | refine below_set ?_ GE108.out) | exact HB.out))) : w.heap.size ≤ gb116)); have n5_ := Aside0.mk ((by rw [hg]; exact Nat.ne_of_lt (blk_lt (g := gb108) (o := .cells #[.int .i64 t101, .int .i64 t102, .int .i64 t103, .int .i64 t104, .int .i64 t105, .int .i64 t106] 25 (0, 0)) (by (with_reducible repeat (first | refine blk_drewN ?_ _ | refine blk_drew ?_ | refine blk_alloc ?_ _)); exact BK108.out)) : gb108 ≠ gb116)); have n6_ := Aside0.mk ((by rw [hg]; exact Nat.ne_of_gt (blk_lt (g := gb108) (o := .cells #[.int .i64 t101, .int .i64 t102, .int .i64 t103, .int .i64 t104, .int .i64 t105, .int .i64 t106] 25 (0, 0)) (by (with_reducible repeat (first | refine blk_drewN ?_ _ | refine blk_drew ?_ | refine blk_alloc ?_ _)); exact BK108.out)) : gb116 ≠ gb108)); clear BK108; clear HB; have BK108 := n0_; have HB := n1_; have BK116 := n2_; have GW116 := n3_; have GE116 := n4_; have NB108_116 := n5_; have NB116_108 := n6_; clear n0_ n1_ n2_ n3_ n4_ n5_ n6_; clear hb hbox hg; have hnb51 := NB116_108.out; have hnc51 := NB108_116.out; have hcz52_0 : w50.cell? ⟨gb116, 0, none⟩ = some (.int .i64 0) := (blk_cell BK116.out 0).trans rfl; have hcz52_1 : w50.cell? ⟨gb116, 1, none⟩ = some (.int .i64 0) := (blk_cell BK116.out 1).trans rfl; have hcz52_2 : w50.cell? ⟨gb116, 2, none⟩ = some (.int .i64 0) := (blk_cell BK116.out 2).trans rfl; have hcz52_3 : w50.cell? ⟨gb116, 3, none⟩ = some (.int .i64 0) := (blk_cell BK116.out 3).trans rfl; have hcz52_4 : w50.cell? ⟨gb116, 4, none⟩ = some (.int .i64 0) := (blk_cell BK116.out 4).trans rfl; have hcz52_5 : w50.cell? ⟨gb116, 5, none⟩ = some (.int .i64 0) := (blk_cell BK116.out 5).trans rfl; have hfz52_0 := blk_frozen BK116.out 0; have hfz52_1 := blk_frozen BK116.out 1; have hfz52_2 := blk_frozen BK116.out 2; have hfz52_3 := blk_frozen BK116.out 3; have hfz52_4 := blk_frozen BK116.out 4; have hfz52_5 := blk_frozen BK116.out 5))
    go_ret
    exact ⟨by first | rfl | (simp [errW_none, errW_some] <;> rfl) | (simp [*, errW_none, errW_some] <;> rfl), by repeat (first | (with_reducible first | exact HB.out | apply below_alloc | apply pw_below_drewN | apply below_drew1 | refine below_set ?_ GE108.out | refine below_set ?_ GE116.out) | exact HB.out)⟩

end Go.Proofs.Ytmklhkaaaegmgaa.PRemitMonths
