-- written for this claim by a program of this session (wip/inject.py), which drives the kit's print
import Derived.Test.YtmklhkaaaegmgaaPAnalysisTellsx0
import Derived.Test.YtmklhkaaaegmgaaPAnalysisTellsx2
import Derived.Test.YtmklhkaaaegmgaaPAnalysisTellsx3
import Derived.Test.YtmklhkaaaegmgaaPAnalysisTellsx4
namespace Go.Proofs.Ytmklhkaaaegmgaa.PAnalysisTells
open Go.RowKit Go.Proofs.YtmklhkaaaegmgaaW.PrintWords Go.Proofs.YtmklhkaaaegmgaaW.PrintLast Go.Proofs.YtmklhkaaaegmgaaW.PrintMore
attribute [local go_sem] max2_int min2_int max_two min_two max_three min_three max_four min_four   -- for this text's walks alone
set_option linter.unusedVariables false
set_option linter.unusedSimpArgs false

attribute [local go_sem high] errEqI errNeI errEqL errNeL errEqR errNeR
/-! ### trivetlaw15_AnalysisTells: function 10 -/
mutual
def trivetlaw15_AnalysisTells.j0 : Nat → List Int → Int → Int → Int → Bool → Option Int → List Int → Option Int → Bool → Bool → Int → Int → Int → Int → Int → List Int → Option (Bool)
  | 0, _, _, _, _, _, _, _, _, _, _, _, _, _, _, _, _ => none
  | k + 1, x0, x1, x2, x3, x9, x11, x12, x13, x14, x44, x184000, x184001, x184002, x184003, x184004, x184005 => if x44 = true then (if x11.isNone = true then (some false) else (if (x11.getD 0) = 1 then ((trivetlaw15_Same.f k x184000 x184001 x184002 x184003 x184004 x184005 0 0 0 0 0 ([] : List Int)).bind fun t190 => (if t190 = true then (trivetlaw15_AnalysisTells.j1 k x0 x2 x3 x9 x12 x13 x14) else (some false))) else (some false))) else (if x11.isNone = true then ((trivetref15_Analyze.f k x0 x1).bind fun bt192 => ((trivetlaw15_Same.f k x184000 x184001 x184002 x184003 x184004 x184005 bt192.1 bt192.2.1 bt192.2.2.1 bt192.2.2.2.1 bt192.2.2.2.2.1 bt192.2.2.2.2.2).bind fun t200 => (if t200 = true then (trivetlaw15_AnalysisTells.j1 k x0 x2 x3 x9 x12 x13 x14) else (some false)))) else (some false))
def trivetlaw15_AnalysisTells.j1 : Nat → List Int → Int → Int → Bool → List Int → Option Int → Bool → Option (Bool)
  | 0, _, _, _, _, _, _, _ => none
  | k + 1, x0, x2, x3, x9, x12, x13, x14 => if x14 = true then (if x2 < 0 then (trivetlaw15_AnalysisTells.j2 k x0 x2 x3 x9 x12 x13 true) else (if x2 > 10000000000000 then (trivetlaw15_AnalysisTells.j2 k x0 x2 x3 x9 x12 x13 true) else (if x3 < (-1000000000000000) then (trivetlaw15_AnalysisTells.j2 k x0 x2 x3 x9 x12 x13 true) else (trivetlaw15_AnalysisTells.j2 k x0 x2 x3 x9 x12 x13 (decide (x3 > 1000000000000000)))))) else (trivetlaw15_AnalysisTells.j2 k x0 x2 x3 x9 x12 x13 true)
def trivetlaw15_AnalysisTells.j2 : Nat → List Int → Int → Int → Bool → List Int → Option Int → Bool → Option (Bool)
  | 0, _, _, _, _, _, _, _ => none
  | k + 1, x0, x2, x3, x9, x12, x13, x81 => if x81 = true then (if x9 = true then (if x13.isNone = true then (some false) else (if (x13.getD 0) = 1 then (some ((x12.length : Int) == 0)) else (some false))) else (some false)) else (if x9 = true then (if x13.isNone = true then ((trivetref15_Balances.f k x0 x2 x3).bind fun t203 => ((trivetlaw14_Same.f k x12 t203).bind fun t206 => (some t206))) else (some false)) else (some false))
end
def trivetlaw15_AnalysisTells.f (k : Nat) (l0 : List Int) (a1 : Int) (a2 : Int) (a3 : Int) : Option (Bool) := (trivetlaw15_up.f k).bind fun t173 => (if (l0.length : Int) > 100 then (some t173) else ((analysis_Analyze.f k l0 a1).bind fun bt174 => ((analysis_Balances.f k l0 a2 a3).bind fun bt184 => ((trivetref15_May.f k l0).bind fun t188 => (if t188 = true then (if a1 < 0 then (trivetlaw15_AnalysisTells.j0 k l0 a1 a2 a3 t173 bt174.2.2.2.2.2.2 bt184.1 bt184.2 t188 true bt174.1 bt174.2.1 bt174.2.2.1 bt174.2.2.2.1 bt174.2.2.2.2.1 bt174.2.2.2.2.2.1) else (trivetlaw15_AnalysisTells.j0 k l0 a1 a2 a3 t173 bt174.2.2.2.2.2.2 bt184.1 bt184.2 t188 (decide (a1 > 10000000000000)) bt174.1 bt174.2.1 bt174.2.2.1 bt174.2.2.2.1 bt174.2.2.2.2.1 bt174.2.2.2.2.2.1)) else (trivetlaw15_AnalysisTells.j0 k l0 a1 a2 a3 t173 bt174.2.2.2.2.2.2 bt184.1 bt184.2 t188 true bt174.1 bt174.2.1 bt174.2.2.1 bt174.2.2.2.1 bt174.2.2.2.2.1 bt174.2.2.2.2.2.1))))))
theorem trivetlaw15_AnalysisTells.mono_l : ∀ k, (∀ y0 y1 y2 y3 y4 y5 y6 y7 y8 y9 y10 y11 y12 y13 y14 y15, LeO (trivetlaw15_AnalysisTells.j0 k y0 y1 y2 y3 y4 y5 y6 y7 y8 y9 y10 y11 y12 y13 y14 y15) (trivetlaw15_AnalysisTells.j0 (k + 1) y0 y1 y2 y3 y4 y5 y6 y7 y8 y9 y10 y11 y12 y13 y14 y15)) ∧ (∀ y0 y1 y2 y3 y4 y5 y6, LeO (trivetlaw15_AnalysisTells.j1 k y0 y1 y2 y3 y4 y5 y6) (trivetlaw15_AnalysisTells.j1 (k + 1) y0 y1 y2 y3 y4 y5 y6)) ∧ (∀ y0 y1 y2 y3 y4 y5 y6, LeO (trivetlaw15_AnalysisTells.j2 k y0 y1 y2 y3 y4 y5 y6) (trivetlaw15_AnalysisTells.j2 (k + 1) y0 y1 y2 y3 y4 y5 y6))
  | 0 => ⟨fun _ _ _ _ _ _ _ _ _ _ _ _ _ _ _ _ r h => by simp [trivetlaw15_AnalysisTells.j0] at h, fun _ _ _ _ _ _ _ r h => by simp [trivetlaw15_AnalysisTells.j1] at h, fun _ _ _ _ _ _ _ r h => by simp [trivetlaw15_AnalysisTells.j2] at h⟩
  | k + 1 => by
    obtain ⟨ih0, ih1, ih2⟩ := trivetlaw15_AnalysisTells.mono_l k
    refine ⟨?_, ?_, ?_⟩
    · intro y0 y1 y2 y3 y4 y5 y6 y7 y8 y9 y10 y11 y12 y13 y14 y15
      unfold trivetlaw15_AnalysisTells.j0
      repeat' first
      | (with_reducible exact ih0 _ _ _ _ _ _ _ _ _ _ _ _ _ _ _ _)
      | (with_reducible exact ih1 _ _ _ _ _ _ _)
      | (with_reducible exact ih2 _ _ _ _ _ _ _)
      | (with_reducible exact analysis_Analyze.mono _ _ _)
      | (with_reducible exact analysis_Balances.mono _ _ _ _)
      | (with_reducible exact trivetlaw14_Same.mono _ _ _)
      | (with_reducible exact trivetlaw15_Same.mono _ _ _ _ _ _ _ _ _ _ _ _ _)
      | (with_reducible exact trivetlaw15_up.mono _)
      | (with_reducible exact trivetref15_Analyze.mono _ _ _)
      | (with_reducible exact trivetref15_Balances.mono _ _ _ _)
      | (with_reducible exact trivetref15_May.mono _ _)
      | (with_reducible exact LeO.refl _)
      | (with_reducible exact LeO.none _)
      | (with_reducible refine LeO.ite ?_ ?_)
      | (with_reducible refine LeO.bind ?_ (fun _ => ?_))
      | exact ih0 _ _ _ _ _ _ _ _ _ _ _ _ _ _ _ _
      | exact ih1 _ _ _ _ _ _ _
      | exact ih2 _ _ _ _ _ _ _
      | exact analysis_Analyze.mono _ _ _
      | exact analysis_Balances.mono _ _ _ _
      | exact trivetlaw14_Same.mono _ _ _
      | exact trivetlaw15_Same.mono _ _ _ _ _ _ _ _ _ _ _ _ _
      | exact trivetlaw15_up.mono _
      | exact trivetref15_Analyze.mono _ _ _
      | exact trivetref15_Balances.mono _ _ _ _
      | exact trivetref15_May.mono _ _
      | exact LeO.none _
      | refine LeO.ite ?_ ?_
      | refine LeO.bind ?_ (fun _ => ?_)
    · intro y0 y1 y2 y3 y4 y5 y6
      unfold trivetlaw15_AnalysisTells.j1
      repeat' first
      | (with_reducible exact ih0 _ _ _ _ _ _ _ _ _ _ _ _ _ _ _ _)
      | (with_reducible exact ih1 _ _ _ _ _ _ _)
      | (with_reducible exact ih2 _ _ _ _ _ _ _)
      | (with_reducible exact analysis_Analyze.mono _ _ _)
      | (with_reducible exact analysis_Balances.mono _ _ _ _)
      | (with_reducible exact trivetlaw14_Same.mono _ _ _)
      | (with_reducible exact trivetlaw15_Same.mono _ _ _ _ _ _ _ _ _ _ _ _ _)
      | (with_reducible exact trivetlaw15_up.mono _)
      | (with_reducible exact trivetref15_Analyze.mono _ _ _)
      | (with_reducible exact trivetref15_Balances.mono _ _ _ _)
      | (with_reducible exact trivetref15_May.mono _ _)
      | (with_reducible exact LeO.refl _)
      | (with_reducible exact LeO.none _)
      | (with_reducible refine LeO.ite ?_ ?_)
      | (with_reducible refine LeO.bind ?_ (fun _ => ?_))
      | exact ih0 _ _ _ _ _ _ _ _ _ _ _ _ _ _ _ _
      | exact ih1 _ _ _ _ _ _ _
      | exact ih2 _ _ _ _ _ _ _
      | exact analysis_Analyze.mono _ _ _
      | exact analysis_Balances.mono _ _ _ _
      | exact trivetlaw14_Same.mono _ _ _
      | exact trivetlaw15_Same.mono _ _ _ _ _ _ _ _ _ _ _ _ _
      | exact trivetlaw15_up.mono _
      | exact trivetref15_Analyze.mono _ _ _
      | exact trivetref15_Balances.mono _ _ _ _
      | exact trivetref15_May.mono _ _
      | exact LeO.none _
      | refine LeO.ite ?_ ?_
      | refine LeO.bind ?_ (fun _ => ?_)
    · intro y0 y1 y2 y3 y4 y5 y6
      unfold trivetlaw15_AnalysisTells.j2
      repeat' first
      | (with_reducible exact ih0 _ _ _ _ _ _ _ _ _ _ _ _ _ _ _ _)
      | (with_reducible exact ih1 _ _ _ _ _ _ _)
      | (with_reducible exact ih2 _ _ _ _ _ _ _)
      | (with_reducible exact analysis_Analyze.mono _ _ _)
      | (with_reducible exact analysis_Balances.mono _ _ _ _)
      | (with_reducible exact trivetlaw14_Same.mono _ _ _)
      | (with_reducible exact trivetlaw15_Same.mono _ _ _ _ _ _ _ _ _ _ _ _ _)
      | (with_reducible exact trivetlaw15_up.mono _)
      | (with_reducible exact trivetref15_Analyze.mono _ _ _)
      | (with_reducible exact trivetref15_Balances.mono _ _ _ _)
      | (with_reducible exact trivetref15_May.mono _ _)
      | (with_reducible exact LeO.refl _)
      | (with_reducible exact LeO.none _)
      | (with_reducible refine LeO.ite ?_ ?_)
      | (with_reducible refine LeO.bind ?_ (fun _ => ?_))
      | exact ih0 _ _ _ _ _ _ _ _ _ _ _ _ _ _ _ _
      | exact ih1 _ _ _ _ _ _ _
      | exact ih2 _ _ _ _ _ _ _
      | exact analysis_Analyze.mono _ _ _
      | exact analysis_Balances.mono _ _ _ _
      | exact trivetlaw14_Same.mono _ _ _
      | exact trivetlaw15_Same.mono _ _ _ _ _ _ _ _ _ _ _ _ _
      | exact trivetlaw15_up.mono _
      | exact trivetref15_Analyze.mono _ _ _
      | exact trivetref15_Balances.mono _ _ _ _
      | exact trivetref15_May.mono _ _
      | exact LeO.none _
      | refine LeO.ite ?_ ?_
      | refine LeO.bind ?_ (fun _ => ?_)
theorem trivetlaw15_AnalysisTells.mono : ∀ a0 a1 a2 a3 k, LeO (trivetlaw15_AnalysisTells.f k a0 a1 a2 a3) (trivetlaw15_AnalysisTells.f (k + 1) a0 a1 a2 a3) := by
  intro a0 a1 a2 a3 k
  obtain ⟨ih0, ih1, ih2⟩ := trivetlaw15_AnalysisTells.mono_l k
  unfold trivetlaw15_AnalysisTells.f
  repeat' first
      | (with_reducible exact ih0 _ _ _ _ _ _ _ _ _ _ _ _ _ _ _ _)
      | (with_reducible exact ih1 _ _ _ _ _ _ _)
      | (with_reducible exact ih2 _ _ _ _ _ _ _)
      | (with_reducible exact analysis_Analyze.mono _ _ _)
      | (with_reducible exact analysis_Balances.mono _ _ _ _)
      | (with_reducible exact trivetlaw14_Same.mono _ _ _)
      | (with_reducible exact trivetlaw15_Same.mono _ _ _ _ _ _ _ _ _ _ _ _ _)
      | (with_reducible exact trivetlaw15_up.mono _)
      | (with_reducible exact trivetref15_Analyze.mono _ _ _)
      | (with_reducible exact trivetref15_Balances.mono _ _ _ _)
      | (with_reducible exact trivetref15_May.mono _ _)
      | (with_reducible exact LeO.refl _)
      | (with_reducible exact LeO.none _)
      | (with_reducible refine LeO.ite ?_ ?_)
      | (with_reducible refine LeO.bind ?_ (fun _ => ?_))
      | exact ih0 _ _ _ _ _ _ _ _ _ _ _ _ _ _ _ _
      | exact ih1 _ _ _ _ _ _ _
      | exact ih2 _ _ _ _ _ _ _
      | exact analysis_Analyze.mono _ _ _
      | exact analysis_Balances.mono _ _ _ _
      | exact trivetlaw14_Same.mono _ _ _
      | exact trivetlaw15_Same.mono _ _ _ _ _ _ _ _ _ _ _ _ _
      | exact trivetlaw15_up.mono _
      | exact trivetref15_Analyze.mono _ _ _
      | exact trivetref15_Balances.mono _ _ _ _
      | exact trivetref15_May.mono _ _
      | exact LeO.none _
      | refine LeO.ite ?_ ?_
      | refine LeO.bind ?_ (fun _ => ?_)
def trivetlaw15_AnalysisTells.T10 : Bool × List (List Nat × List Nat) := (true, [([], []), ([0], [0]), ([1], [1]), ([2], [2]), ([2], [2]), ([2], [2]), ([4, 5, 2, 2], [2, 4, 5]), ([3, 6, 6, 2], [2, 3, 6]), ([7, 2], [2, 7]), ([2, 8], [2, 8])])
def trivetlaw15_AnalysisTells.B10 : List Nat := [0, 1, 3, 7, 7, 7, 55, 127, 255, 511]
theorem trivetlaw15_AnalysisTells.tab10 : rtab .any (opsOf Try.f10 10) = trivetlaw15_AnalysisTells.T10 := by kernel_rfl
theorem trivetlaw15_AnalysisTells.bits10 : waitsOk trivetlaw15_AnalysisTells.T10.2 trivetlaw15_AnalysisTells.B10 = true := by kernel_rfl
set_option maxHeartbeats 8000000 in
set_option maxRecDepth 100000 in
theorem trivetlaw15_AnalysisTells.calls (k : Nat) (A0 : Option Addr) (c0 : Nat) (l0 : List Int) (a1 : Int) (a2 : Int) (a3 : Int) (r : Bool) (w : World) (hr0 : Kd.C (Kd.int .i64) w A0 l0.length l0) (hc0 : l0.length ≤ c0) (h : trivetlaw15_AnalysisTells.f k l0 a1 a2 a3 = some r) :
    Calls Try.prog 10 #[.slice A0 l0.length c0, .int .i64 a1, .int .i64 a2, .int .i64 a3] w fun e w' => e = .returned (.bool r) ∧ Below w.heap.size w w' := by
  have hu38 := Try.underlying38
  have hu27 := Try.underlying27
  have hu32 := Try.underlying32
  have HR0 := Aside0.mk hr0
  have HC0 := Aside0.mk hc0
  clear hr0 hc0
  have HB := Aside0.mk (Below.refl w.heap.size w)
  have H : ((trivetlaw15_up.f k).bind fun t173 => (if (l0.length : Int) > 100 then (some t173) else ((analysis_Analyze.f k l0 a1).bind fun bt174 => ((analysis_Balances.f k l0 a2 a3).bind fun bt184 => ((trivetref15_May.f k l0).bind fun t188 => (if t188 = true then (if a1 < 0 then (trivetlaw15_AnalysisTells.j0 k l0 a1 a2 a3 t173 bt174.2.2.2.2.2.2 bt184.1 bt184.2 t188 true bt174.1 bt174.2.1 bt174.2.2.1 bt174.2.2.2.1 bt174.2.2.2.2.1 bt174.2.2.2.2.2.1) else (trivetlaw15_AnalysisTells.j0 k l0 a1 a2 a3 t173 bt174.2.2.2.2.2.2 bt184.1 bt184.2 t188 (decide (a1 > 10000000000000)) bt174.1 bt174.2.1 bt174.2.2.1 bt174.2.2.2.1 bt174.2.2.2.2.1 bt174.2.2.2.2.2.1)) else (trivetlaw15_AnalysisTells.j0 k l0 a1 a2 a3 t173 bt174.2.2.2.2.2.2 bt184.1 bt184.2 t188 true bt174.1 bt174.2.1 bt174.2.2.1 bt174.2.2.2.1 bt174.2.2.2.2.1 bt174.2.2.2.2.2.1))))))) = some r := h
  clear h
  replace H := Option.bind_eq_some_iff.mp H
  obtain ⟨t173, A50, H⟩ := H
  replace H : (if (l0.length : Int) > 100 then (some t173) else ((analysis_Analyze.f k l0 a1).bind fun bt174 => ((analysis_Balances.f k l0 a2 a3).bind fun bt184 => ((trivetref15_May.f k l0).bind fun t188 => (if t188 = true then (if a1 < 0 then (trivetlaw15_AnalysisTells.j0 k l0 a1 a2 a3 t173 bt174.2.2.2.2.2.2 bt184.1 bt184.2 t188 true bt174.1 bt174.2.1 bt174.2.2.1 bt174.2.2.2.1 bt174.2.2.2.2.1 bt174.2.2.2.2.2.1) else (trivetlaw15_AnalysisTells.j0 k l0 a1 a2 a3 t173 bt174.2.2.2.2.2.2 bt184.1 bt184.2 t188 (decide (a1 > 10000000000000)) bt174.1 bt174.2.1 bt174.2.2.1 bt174.2.2.2.1 bt174.2.2.2.2.1 bt174.2.2.2.2.2.1)) else (trivetlaw15_AnalysisTells.j0 k l0 a1 a2 a3 t173 bt174.2.2.2.2.2.2 bt184.1 bt184.2 t188 true bt174.1 bt174.2.1 bt174.2.2.1 bt174.2.2.2.1 bt174.2.2.2.2.1 bt174.2.2.2.2.2.1)))))) = some r := H
  have A5 := Aside0.mk A50
  clear A50
  by_cases c6 : (l0.length : Int) > 100
  · rw [if_pos c6] at H
    have c6b0 : decide (100 < (l0.length : Int)) = true := decide_eq_true c6
    have c6b1 : decide (100 < l0.length) = true := decide_eq_true (by omega)
    clear c6
    obtain rfl := Option.some.inj H
    go_enter Try.func10, Try.ntmps10
    go_wp2_with (first | ((with_reducible refine gate_callee (f := 16) rfl ?_); refine goesL_ (some 15) rfl rfl Try.func16 (by kernel_rfl) rfl #[] rfl (by (try simp only [List.map_toArray, List.map_cons, List.map_nil]); first | done | rfl | (simp only [List.length_drop, List.length_take]; rfl)) ?_; (with_reducible refine (trivetlaw15_up.calls k  t173 _ A5.out).mono ?_); rintro e w7 ⟨rfl, hb⟩; refine ⟨_, rfl, ?_⟩; have n0_ := Aside0.mk (below_step (by repeat (first | (with_reducible first | exact HB.out | apply below_alloc | apply pw_below_drewN | apply below_drew1) | exact HB.out)) hb); clear HB; have HB := n0_; clear n0_; (try clear hb); (try clear hb2); (try clear hk); (try clear hi)))
    go_ret
    exact ⟨by first | rfl | (simp [errW_none, errW_some] <;> rfl) | (simp [*, errW_none, errW_some] <;> rfl), by repeat (first | (with_reducible first | exact HB.out | apply below_alloc | apply pw_below_drewN | apply below_drew1) | exact HB.out)⟩
  · rw [if_neg c6] at H
    have c6b0 : decide (100 < (l0.length : Int)) = false := decide_eq_false c6
    have c6b1 : decide (100 < l0.length) = false := decide_eq_false (by omega)
    clear c6
    replace H := Option.bind_eq_some_iff.mp H
    obtain ⟨⟨t174, t175, t176, t177, t178, t179, t182⟩, A80, H⟩ := H
    replace H : ((analysis_Balances.f k l0 a2 a3).bind fun bt184 => ((trivetref15_May.f k l0).bind fun t188 => (if t188 = true then (if a1 < 0 then (trivetlaw15_AnalysisTells.j0 k l0 a1 a2 a3 t173 t182 bt184.1 bt184.2 t188 true t174 t175 t176 t177 t178 t179) else (trivetlaw15_AnalysisTells.j0 k l0 a1 a2 a3 t173 t182 bt184.1 bt184.2 t188 (decide (a1 > 10000000000000)) t174 t175 t176 t177 t178 t179)) else (trivetlaw15_AnalysisTells.j0 k l0 a1 a2 a3 t173 t182 bt184.1 bt184.2 t188 true t174 t175 t176 t177 t178 t179)))) = some r := H
    have A8 := Aside0.mk A80
    clear A80
    replace H := Option.bind_eq_some_iff.mp H
    obtain ⟨⟨t184, t185⟩, A90, H⟩ := H
    replace H : ((trivetref15_May.f k l0).bind fun t188 => (if t188 = true then (if a1 < 0 then (trivetlaw15_AnalysisTells.j0 k l0 a1 a2 a3 t173 t182 t184 t185 t188 true t174 t175 t176 t177 t178 t179) else (trivetlaw15_AnalysisTells.j0 k l0 a1 a2 a3 t173 t182 t184 t185 t188 (decide (a1 > 10000000000000)) t174 t175 t176 t177 t178 t179)) else (trivetlaw15_AnalysisTells.j0 k l0 a1 a2 a3 t173 t182 t184 t185 t188 true t174 t175 t176 t177 t178 t179))) = some r := H
    have A9 := Aside0.mk A90
    clear A90
    replace H := Option.bind_eq_some_iff.mp H
    obtain ⟨t188, A100, H⟩ := H
    replace H : (if t188 = true then (if a1 < 0 then (trivetlaw15_AnalysisTells.j0 k l0 a1 a2 a3 t173 t182 t184 t185 t188 true t174 t175 t176 t177 t178 t179) else (trivetlaw15_AnalysisTells.j0 k l0 a1 a2 a3 t173 t182 t184 t185 t188 (decide (a1 > 10000000000000)) t174 t175 t176 t177 t178 t179)) else (trivetlaw15_AnalysisTells.j0 k l0 a1 a2 a3 t173 t182 t184 t185 t188 true t174 t175 t176 t177 t178 t179)) = some r := H
    have A10 := Aside0.mk A100
    clear A100
    have HC11 := Aside0.mk H
    clear H
    go_enter Try.func10, Try.ntmps10
    go_upto_region 7 with (first | ((with_reducible refine gate_callee (f := 16) rfl ?_); refine goesL_ (some 15) rfl rfl Try.func16 (by kernel_rfl) rfl #[] rfl (by (try simp only [List.map_toArray, List.map_cons, List.map_nil]); first | done | rfl | (simp only [List.length_drop, List.length_take]; rfl)) ?_; (with_reducible refine (trivetlaw15_up.calls k  t173 _ A5.out).mono ?_); rintro e w12 ⟨rfl, hb⟩; refine ⟨_, rfl, ?_⟩; have n0_ := Aside0.mk (below_step (by repeat (first | (with_reducible first | exact HB.out | apply below_alloc | apply pw_below_drewN | apply below_drew1) | exact HB.out)) hb); clear HB; have HB := n0_; clear n0_; (try clear hb); (try clear hb2); (try clear hk); (try clear hi)) | ((with_reducible refine gate_callee (f := 17) rfl ?_); refine goesL_ (some 23) rfl rfl Try.func17 (by kernel_rfl) rfl #[.slice A0 l0.length c0, .int .i64 a1] rfl (by (try simp only [List.map_toArray, List.map_cons, List.map_nil]); first | done | rfl | (simp only [List.length_drop, List.length_take]; rfl)) ?_; (with_reducible refine (analysis_Analyze.calls k _ _ l0 a1 t174 t175 t176 t177 t178 t179 t182 _ ?side1 ?side2 A8.out).mono ?_); (case side1 => repeat (first | exact (Kd.C_below HR0.out HB.out) | (with_reducible refine Kd.C_alloc ?_ _) | (with_reducible refine Kd.C_drewN ?_ _) | (with_reducible refine Kd.C_drew ?_))); (case side2 => exact HC0.out); rintro e w13 ⟨v180, rfl, ho0, hb⟩; refine ⟨_, rfl, ?_⟩; have n0_ := Aside0.mk (Kd.R_lower ho0 (below_size (by repeat (first | (with_reducible first | exact HB.out | apply below_alloc | apply pw_below_drewN | apply below_drew1) | exact HB.out)))); have n1_ := Aside0.mk (below_step (by repeat (first | (with_reducible first | exact HB.out | apply below_alloc | apply pw_below_drewN | apply below_drew1) | exact HB.out)) hb); clear HB; have HO181 := n0_; have HB := n1_; clear n0_ n1_; (try clear hb); (try clear hb2); (try clear hk); (try clear hi); (try clear ho0); (try simp only [errW_none, errW_some])) | ((with_reducible refine gate_dst (N := 10) rfl ?_); (try (refine gate_guard (by rfl) ?_; dsimp only)); refine box_event ?hg (N := 10) ?hd (cs := #[.int .i64 0, .int .i64 0, .int .i64 0, .int .i64 0, .int .i64 0, .slice none 0 0]) (t := 38) ?hr ?_; (case hd => rfl); (case hg => rfl); (case hr => first | (go_simp; done) | (go_simp; rfl)); intro gb183 hg w14 hbox hb; have n0_ := Aside0.mk (Kd.R_below (by (with_reducible repeat (first | apply Kd.R_alloc | apply Kd.R_drewN | apply Kd.R_drew)); exact HO181.out) hb); have n1_ := Aside0.mk (below_step (by repeat (first | (with_reducible first | exact HB.out | apply below_alloc | apply pw_below_drewN | apply below_drew1) | exact HB.out)) hb); have n2_ := Aside0.mk (hbox); have n3_ := Aside0.mk ((by rw [hg]; exact (below_size (by repeat (first | (with_reducible first | exact HB.out | apply below_alloc | apply pw_below_drewN | apply below_drew1) | exact HB.out))) : w.heap.size ≤ gb183)); have n4_ := Aside0.mk ((by rw [hg]; exact (below_size (by repeat (first | (with_reducible first | exact HB.out | apply below_alloc | apply pw_below_drewN | apply below_drew1) | exact HB.out))) : w.heap.size ≤ gb183)); clear HO181; clear HB; have HO181 := n0_; have HB := n1_; have BK183 := n2_; have GW183 := n3_; have GE183 := n4_; clear n0_ n1_ n2_ n3_ n4_; clear hb hbox hg; have hcz15_0 : w14.cell? ⟨gb183, 0, none⟩ = some (.int .i64 0) := (blk_cell BK183.out 0).trans rfl; have hcz15_1 : w14.cell? ⟨gb183, 1, none⟩ = some (.int .i64 0) := (blk_cell BK183.out 1).trans rfl; have hcz15_2 : w14.cell? ⟨gb183, 2, none⟩ = some (.int .i64 0) := (blk_cell BK183.out 2).trans rfl; have hcz15_3 : w14.cell? ⟨gb183, 3, none⟩ = some (.int .i64 0) := (blk_cell BK183.out 3).trans rfl; have hcz15_4 : w14.cell? ⟨gb183, 4, none⟩ = some (.int .i64 0) := (blk_cell BK183.out 4).trans rfl; have hcz15_5 : w14.cell? ⟨gb183, 5, none⟩ = some (.slice none 0 0) := (blk_cell BK183.out 5).trans rfl; have hfz15_0 := blk_frozen BK183.out 0; have hfz15_1 := blk_frozen BK183.out 1; have hfz15_2 := blk_frozen BK183.out 2; have hfz15_3 := blk_frozen BK183.out 3; have hfz15_4 := blk_frozen BK183.out 4; have hfz15_5 := blk_frozen BK183.out 5; obtain ⟨Ao16, co16, eo16⟩ := Kd.R_slice HO181.out; subst eo16) | ((with_reducible refine gate_callee (f := 19) rfl ?_); refine goesL_ (some 30) rfl rfl Try.func19 (by kernel_rfl) rfl #[.slice A0 l0.length c0, .int .i64 a2, .int .i64 a3] rfl (by (try simp only [List.map_toArray, List.map_cons, List.map_nil]); first | done | rfl | (simp only [List.length_drop, List.length_take]; rfl)) ?_; (with_reducible refine (analysis_Balances.calls k _ _ l0 a2 a3 t184 t185 _ ?side1 ?side2 A9.out).mono ?_); (case side1 => exact Kd.C_below HR0.out (by repeat (first | (with_reducible first | exact HB.out | apply below_alloc | apply pw_below_drewN | apply below_drew1 | refine below_set ?_ GE183.out) | exact HB.out))); (case side2 => exact HC0.out); rintro e w17 ⟨v186, rfl, ho0, hb⟩; refine ⟨_, rfl, ?_⟩; have n0_ := Aside0.mk (Kd.R_elder' (by (with_reducible repeat (first | apply Kd.R_alloc | apply Kd.R_drewN | apply Kd.R_drew)); exact (Kd.R_mono (Kd.R_far (p := ⟨gb183, 5, none⟩) (Kd.R_far (p := ⟨gb183, 4, none⟩) (Kd.R_far (p := ⟨gb183, 3, none⟩) (Kd.R_far (p := ⟨gb183, 2, none⟩) (Kd.R_far (p := ⟨gb183, 1, none⟩) (Kd.R_far (p := ⟨gb183, 0, none⟩) (Kd.R_types HO181.out BK183.out (by decide)) (fun _ hk => hk.2) (.int .i64 t174)) (fun _ hk => hk.2) (.int .i64 t175)) (fun _ hk => hk.2) (.int .i64 t176)) (fun _ hk => hk.2) (.int .i64 t177)) (fun _ hk => hk.2) (.int .i64 t178)) (fun _ hk => hk.2) (.slice Ao16 t179.length co16)) (fun _ h_ => h_.1))) (Kd.R_base ho0) hb); have n1_ := Aside0.mk (Kd.R_lower (Kd.R_new' ho0 (Kd.R_lt (by (with_reducible repeat (first | apply Kd.R_alloc | apply Kd.R_drewN | apply Kd.R_drew)); exact (Kd.R_mono (Kd.R_far (p := ⟨gb183, 5, none⟩) (Kd.R_far (p := ⟨gb183, 4, none⟩) (Kd.R_far (p := ⟨gb183, 3, none⟩) (Kd.R_far (p := ⟨gb183, 2, none⟩) (Kd.R_far (p := ⟨gb183, 1, none⟩) (Kd.R_far (p := ⟨gb183, 0, none⟩) (Kd.R_types HO181.out BK183.out (by decide)) (fun _ hk => hk.2) (.int .i64 t174)) (fun _ hk => hk.2) (.int .i64 t175)) (fun _ hk => hk.2) (.int .i64 t176)) (fun _ hk => hk.2) (.int .i64 t177)) (fun _ hk => hk.2) (.int .i64 t178)) (fun _ hk => hk.2) (.slice Ao16 t179.length co16)) (fun _ h_ => h_.1))))) (below_size (by repeat (first | (with_reducible first | exact HB.out | apply below_alloc | apply pw_below_drewN | apply below_drew1 | refine below_set ?_ GE183.out) | exact HB.out)))); have n2_ := Aside0.mk (blk_below (g := gb183) (o := .cells #[.int .i64 t174, .int .i64 t175, .int .i64 t176, .int .i64 t177, .int .i64 t178, .slice Ao16 t179.length co16] 38 (0, 0)) (by (with_reducible repeat (first | refine blk_drewN ?_ _ | refine blk_drew ?_ | refine blk_alloc ?_ _)); refine blk_put (cs := #[.int .i64 t174, .int .i64 t175, .int .i64 t176, .int .i64 t177, .int .i64 t178, .slice none 0 0]) ?_ 5 _ rfl; (with_reducible repeat (first | refine blk_drewN ?_ _ | refine blk_drew ?_ | refine blk_alloc ?_ _)); refine blk_put (cs := #[.int .i64 t174, .int .i64 t175, .int .i64 t176, .int .i64 t177, .int .i64 0, .slice none 0 0]) ?_ 4 _ rfl; (with_reducible repeat (first | refine blk_drewN ?_ _ | refine blk_drew ?_ | refine blk_alloc ?_ _)); refine blk_put (cs := #[.int .i64 t174, .int .i64 t175, .int .i64 t176, .int .i64 0, .int .i64 0, .slice none 0 0]) ?_ 3 _ rfl; (with_reducible repeat (first | refine blk_drewN ?_ _ | refine blk_drew ?_ | refine blk_alloc ?_ _)); refine blk_put (cs := #[.int .i64 t174, .int .i64 t175, .int .i64 0, .int .i64 0, .int .i64 0, .slice none 0 0]) ?_ 2 _ rfl; (with_reducible repeat (first | refine blk_drewN ?_ _ | refine blk_drew ?_ | refine blk_alloc ?_ _)); refine blk_put (cs := #[.int .i64 t174, .int .i64 0, .int .i64 0, .int .i64 0, .int .i64 0, .slice none 0 0]) ?_ 1 _ rfl; (with_reducible repeat (first | refine blk_drewN ?_ _ | refine blk_drew ?_ | refine blk_alloc ?_ _)); refine blk_put (cs := #[.int .i64 0, .int .i64 0, .int .i64 0, .int .i64 0, .int .i64 0, .slice none 0 0]) ?_ 0 _ rfl; (with_reducible repeat (first | refine blk_drewN ?_ _ | refine blk_drew ?_ | refine blk_alloc ?_ _)); exact BK183.out) hb); have n3_ := Aside0.mk (below_step (by repeat (first | (with_reducible first | exact HB.out | apply below_alloc | apply pw_below_drewN | apply below_drew1 | refine below_set ?_ GE183.out) | exact HB.out)) hb); clear HO181; clear BK183; clear HB; have HO181 := n0_; have HO187 := n1_; have BK183 := n2_; have HB := n3_; clear n0_ n1_ n2_ n3_; (try clear hb); (try clear hb2); (try clear hk); (try clear hi); (try clear ho0); (try simp only [errW_none, errW_some])) | ((with_reducible refine gate_callee (f := 20) rfl ?_); refine goesL_ (some 34) rfl rfl Try.func20 (by kernel_rfl) rfl #[.slice A0 l0.length c0] rfl (by (try simp only [List.map_toArray, List.map_cons, List.map_nil]); first | done | rfl | (simp only [List.length_drop, List.length_take]; rfl)) ?_; (with_reducible refine (trivetref15_May.calls k _ _ l0 t188 _ ?side1 ?side2 A10.out).mono ?_); (case side1 => repeat (first | exact (Kd.C_below HR0.out HB.out) | (with_reducible refine Kd.C_alloc ?_ _) | (with_reducible refine Kd.C_drewN ?_ _) | (with_reducible refine Kd.C_drew ?_))); (case side2 => exact HC0.out); rintro e w' ⟨rfl, ⟨nd, rfl⟩⟩; refine ⟨_, rfl, ?_⟩))
    (try simp only [Act.put, List.setIfInBounds_toArray, List.set_cons_zero, List.set_cons_succ])
    go_cut [44] (fun v44 wc => ∃ (kq : Nat) (x44_10 : Bool), v44 = .bool x44_10 ∧ Aside0 (trivetlaw15_AnalysisTells.j0 kq l0 a1 a2 a3 t173 t182 t184 t185 t188 x44_10 t174 t175 t176 t177 t178 t179 = some r) ∧ Aside0 (kq ≤ k) ∧ Aside0 (Kd.R (Kd.int .i64) 2 wc w.heap.size (fun k_ => some k_ ≠ ((.slice Ao16 t179.length co16) : Value).ownBlock) v186 t184) ∧ Aside0 (Kd.R (Kd.int .i64) 2 wc w.heap.size (fun k_ => some k_ ≠ (v186 : Value).ownBlock) (.slice Ao16 t179.length co16) t179) ∧ Aside0 (wc.heap[gb183]? = some (.cells #[.int .i64 t174, .int .i64 t175, .int .i64 t176, .int .i64 t177, .int .i64 t178, (.slice Ao16 t179.length co16)] 38 (0, 0))) ∧ Aside0 (Below w.heap.size w wc))
    case first =>
      have H := HC11.out
      clear HC11
      by_cases c18 : t188 = true
      · subst c18
        have H1 : (if a1 < 0 then (trivetlaw15_AnalysisTells.j0 k l0 a1 a2 a3 t173 t182 t184 t185 true true t174 t175 t176 t177 t178 t179) else (trivetlaw15_AnalysisTells.j0 k l0 a1 a2 a3 t173 t182 t184 t185 true (decide (a1 > 10000000000000)) t174 t175 t176 t177 t178 t179)) = some r := by rw [if_pos rfl] at H; exact H
        clear H
        have H := H1
        clear H1
        by_cases c19 : a1 < 0
        · rw [if_pos c19] at H
          have c19b0 : decide (a1 < 0) = true := decide_eq_true c19
          clear c19
          (first | rw [c19b0] | (simp only [i64_w, i32_w]; rw [c19b0]) | skip)
          have H' := Aside0.mk H
          clear H
          go_wp2
          go_meet
          case rel => exact ⟨_, (true), (by first | rfl | (simp; done) | (simp [*]; done)), H', ⟨by first | omega | exact Nat.le_refl _⟩, ⟨by (with_reducible repeat (first | apply Kd.R_alloc | apply Kd.R_drewN | apply Kd.R_drew)); exact Kd.R_mono HO187.out (fun _ hk => hk.2)⟩, ⟨by (with_reducible repeat (first | apply Kd.R_alloc | apply Kd.R_drewN | apply Kd.R_drew)); exact Kd.R_mono HO181.out (fun _ hk => hk.2)⟩, ⟨by (with_reducible repeat (first | refine blk_drewN ?_ _ | refine blk_drew ?_ | refine blk_alloc ?_ _)); exact BK183.out⟩, ⟨by repeat (first | (with_reducible first | exact HB.out | apply below_alloc | apply pw_below_drewN | apply below_drew1 | refine below_set ?_ GE183.out) | exact HB.out)⟩⟩
        · rw [if_neg c19] at H
          have c19b0 : decide (a1 < 0) = false := decide_eq_false c19
          clear c19
          (first | rw [c19b0] | (simp only [i64_w, i32_w]; rw [c19b0]) | skip)
          have H' := Aside0.mk H
          clear H
          go_wp2
          go_meet
          case rel => exact ⟨_, (decide (a1 > 10000000000000)), (by first | rfl | (simp; done) | (simp [*]; done)), H', ⟨by first | omega | exact Nat.le_refl _⟩, ⟨by (with_reducible repeat (first | apply Kd.R_alloc | apply Kd.R_drewN | apply Kd.R_drew)); exact Kd.R_mono HO187.out (fun _ hk => hk.2)⟩, ⟨by (with_reducible repeat (first | apply Kd.R_alloc | apply Kd.R_drewN | apply Kd.R_drew)); exact Kd.R_mono HO181.out (fun _ hk => hk.2)⟩, ⟨by (with_reducible repeat (first | refine blk_drewN ?_ _ | refine blk_drew ?_ | refine blk_alloc ?_ _)); exact BK183.out⟩, ⟨by repeat (first | (with_reducible first | exact HB.out | apply below_alloc | apply pw_below_drewN | apply below_drew1 | refine below_set ?_ GE183.out) | exact HB.out)⟩⟩
      · replace c18 := Bool.eq_false_iff.mpr c18
        subst c18
        have H1 : (trivetlaw15_AnalysisTells.j0 k l0 a1 a2 a3 t173 t182 t184 t185 false true t174 t175 t176 t177 t178 t179) = some r := by rw [if_neg (show ¬ (false = true) by decide)] at H; exact H
        clear H
        have H := H1
        clear H1
        have H' := Aside0.mk H
        clear H
        go_wp2
        go_meet
        case rel => exact ⟨_, (true), (by first | rfl | (simp; done) | (simp [*]; done)), H', ⟨by first | omega | exact Nat.le_refl _⟩, ⟨by (with_reducible repeat (first | apply Kd.R_alloc | apply Kd.R_drewN | apply Kd.R_drew)); exact Kd.R_mono HO187.out (fun _ hk => hk.2)⟩, ⟨by (with_reducible repeat (first | apply Kd.R_alloc | apply Kd.R_drewN | apply Kd.R_drew)); exact Kd.R_mono HO181.out (fun _ hk => hk.2)⟩, ⟨by (with_reducible repeat (first | refine blk_drewN ?_ _ | refine blk_drew ?_ | refine blk_alloc ?_ _)); exact BK183.out⟩, ⟨by repeat (first | (with_reducible first | exact HB.out | apply below_alloc | apply pw_below_drewN | apply below_drew1 | refine below_set ?_ GE183.out) | exact HB.out)⟩⟩
    case rest =>
      clear HC11
      try clear c1
      try clear c2
      try clear p2
      try clear c6
      try clear c6b0
      try clear c6b1
      try clear c10
      try clear c16
      try clear c17
      try clear c18
      try clear c19
      try clear c19b0
      try clear hcz15_0
      try clear hcz15_1
      try clear hcz15_2
      try clear hcz15_3
      try clear hcz15_4
      try clear hcz15_5
      try clear hfz15_0
      try clear hfz15_1
      try clear hfz15_2
      try clear hfz15_3
      try clear hfz15_4
      try clear hfz15_5
      obtain ⟨kq, x44_10, rfl, HA, HJ10, HO_12, HO_184005, BK183, HB⟩ := hcut
      cases kq with
      | zero => exact absurd HA.out (by simp [trivetlaw15_AnalysisTells.j0])
      | succ kj10 =>
        have H := HA.out
        clear HA
        simp only [trivetlaw15_AnalysisTells.j0] at H
        have HC20 := Aside0.mk H
        clear H
        go_upto_if 44 with (fail)
        go_cut [] (fun wc => ∃ (kq : Nat), Aside0 (trivetlaw15_AnalysisTells.j1 kq l0 a2 a3 t173 t184 t185 t188 = some r) ∧ Aside0 (kq ≤ kj10) ∧ Aside0 (Kd.R (Kd.int .i64) 2 wc w.heap.size (fun k_ => some k_ ≠ ((.slice Ao16 t179.length co16) : Value).ownBlock) v186 t184) ∧ Aside0 (Kd.R (Kd.int .i64) 2 wc w.heap.size (fun k_ => some k_ ≠ (v186 : Value).ownBlock) (.slice Ao16 t179.length co16) t179) ∧ Aside0 (wc.heap[gb183]? = some (.cells #[.int .i64 t174, .int .i64 t175, .int .i64 t176, .int .i64 t177, .int .i64 t178, (.slice Ao16 t179.length co16)] 38 (0, 0))) ∧ Aside0 (Below w.heap.size w wc))
        case first =>
          have H := HC20.out
          clear HC20
          by_cases c21 : x44_10 = true
          · subst c21
            have H1 : (if t182.isNone = true then (some false) else (if (t182.getD 0) = 1 then ((trivetlaw15_Same.f kj10 t174 t175 t176 t177 t178 t179 0 0 0 0 0 ([] : List Int)).bind fun t190 => (if t190 = true then (trivetlaw15_AnalysisTells.j1 kj10 l0 a2 a3 t173 t184 t185 t188) else (some false))) else (some false))) = some r := by rw [if_pos rfl] at H; exact H
            clear H
            have H := H1
            clear H1
            rcases t182 with _ | q189
            · have H1 : (some false) = some r := by rw [if_pos (show (none : Option Int).isNone = true by rfl)] at H; exact H
              clear H
              have H := H1
              clear H1
              try simp only [errW_none, errW_some]
              obtain rfl := Option.some.inj H
              go_wp2
              go_ret
              exact ⟨by first | rfl | (simp [errW_none, errW_some] <;> rfl) | (simp [*, errW_none, errW_some] <;> rfl), by repeat (first | (with_reducible first | exact HB.out | apply below_alloc | apply pw_below_drewN | apply below_drew1 | refine below_set ?_ GE183.out) | exact HB.out)⟩
            · have H1 : (if q189 = 1 then ((trivetlaw15_Same.f kj10 t174 t175 t176 t177 t178 t179 0 0 0 0 0 ([] : List Int)).bind fun t190 => (if t190 = true then (trivetlaw15_AnalysisTells.j1 kj10 l0 a2 a3 t173 t184 t185 t188) else (some false))) else (some false)) = some r := by rw [if_neg (show ¬ (some q189).isNone = true by simp)] at H; exact H
              clear H
              have H := H1
              clear H1
              try simp only [errW_none, errW_some]
              by_cases c22 : q189 = 1
              · rw [if_pos c22] at H
                have c22b0 : (q189 == 1) = true := beq_iff_eq.mpr c22
                have c22b1 : (q189 != 1) = false := bne_eq_false_iff_eq.mpr c22
                clear c22
                (first | rw [c22b0] | (simp only [i64_w, i32_w]; rw [c22b0]) | skip)
                replace H := Option.bind_eq_some_iff.mp H
                obtain ⟨t190, A230, H⟩ := H
                replace H : (if t190 = true then (trivetlaw15_AnalysisTells.j1 kj10 l0 a2 a3 t173 t184 t185 t188) else (some false)) = some r := H
                have A23 := Aside0.mk A230
                clear A230
                by_cases c24 : t190 = true
                · subst c24
                  have H1 : (trivetlaw15_AnalysisTells.j1 kj10 l0 a2 a3 t173 t184 t185 t188) = some r := by rw [if_pos rfl] at H; exact H
                  clear H
                  have H := H1
                  clear H1
                  have H' := Aside0.mk H
                  clear H
                  have hcz25_0 : wc.cell? ⟨gb183, 0, none⟩ = some (.int .i64 t174) := (blk_cell BK183.out 0).trans rfl
                  have hcz25_1 : wc.cell? ⟨gb183, 1, none⟩ = some (.int .i64 t175) := (blk_cell BK183.out 1).trans rfl
                  have hcz25_2 : wc.cell? ⟨gb183, 2, none⟩ = some (.int .i64 t176) := (blk_cell BK183.out 2).trans rfl
                  have hcz25_3 : wc.cell? ⟨gb183, 3, none⟩ = some (.int .i64 t177) := (blk_cell BK183.out 3).trans rfl
                  have hcz25_4 : wc.cell? ⟨gb183, 4, none⟩ = some (.int .i64 t178) := (blk_cell BK183.out 4).trans rfl
                  have hcz25_5 : wc.cell? ⟨gb183, 5, none⟩ = some (.slice Ao16 t179.length co16) := (blk_cell BK183.out 5).trans rfl
                  have hfz25_0 := blk_frozen BK183.out 0
                  have hfz25_1 := blk_frozen BK183.out 1
                  have hfz25_2 := blk_frozen BK183.out 2
                  have hfz25_3 := blk_frozen BK183.out 3
                  have hfz25_4 := blk_frozen BK183.out 4
                  have hfz25_5 := blk_frozen BK183.out 5
                  go_wp2_with (first | (go_at_call 21; (refine (trivetlaw15_Same.calls kj10 t174 t175 t176 t177 t178 _ _ t179 0 0 0 0 0 _ _ ([] : List Int) true _ ?side1 ?side2 ?side3 ?side4 A23.out).mono ?_); (case side1 => repeat (first | exact (Kd.R_reads' HO_184005.out).2.2 | (with_reducible refine Kd.C_alloc ?_ _) | (with_reducible refine Kd.C_drewN ?_ _) | (with_reducible refine Kd.C_drew ?_))); (case side2 => exact (Kd.R_reads' HO_184005.out).2.1); (case side3 => exact Kd.C_nil _ _); (case side4 => exact Nat.le_refl _); rintro e w26 ⟨rfl, hb⟩; have n0_ := Aside0.mk (Kd.R_below (by (with_reducible repeat (first | apply Kd.R_alloc | apply Kd.R_drewN | apply Kd.R_drew)); exact HO_12.out) hb); have n1_ := Aside0.mk (Kd.R_below (by (with_reducible repeat (first | apply Kd.R_alloc | apply Kd.R_drewN | apply Kd.R_drew)); exact HO_184005.out) hb); have n2_ := Aside0.mk (blk_below (g := gb183) (o := .cells #[.int .i64 t174, .int .i64 t175, .int .i64 t176, .int .i64 t177, .int .i64 t178, .slice Ao16 t179.length co16] 38 (0, 0)) (by (with_reducible repeat (first | refine blk_drewN ?_ _ | refine blk_drew ?_ | refine blk_alloc ?_ _)); exact BK183.out) hb); have n3_ := Aside0.mk (below_step (by repeat (first | (with_reducible first | exact HB.out | apply below_alloc | apply pw_below_drewN | apply below_drew1 | refine below_set ?_ GE183.out) | exact HB.out)) hb); clear HO_12; clear HO_184005; clear BK183; clear HB; have HO_12 := n0_; have HO_184005 := n1_; have BK183 := n2_; have HB := n3_; clear n0_ n1_ n2_ n3_; (try clear hb); (try clear hb2); (try clear hk); (try clear hi)))
                  go_meet
                  case rel => exact ⟨_, H', ⟨by have := HJ10.out; first | omega | exact Nat.le_refl _⟩, ⟨by (with_reducible repeat (first | apply Kd.R_alloc | apply Kd.R_drewN | apply Kd.R_drew)); exact HO_12.out⟩, ⟨by (with_reducible repeat (first | apply Kd.R_alloc | apply Kd.R_drewN | apply Kd.R_drew)); exact HO_184005.out⟩, ⟨by (with_reducible repeat (first | refine blk_drewN ?_ _ | refine blk_drew ?_ | refine blk_alloc ?_ _)); exact BK183.out⟩, ⟨by repeat (first | (with_reducible first | exact HB.out | apply below_alloc | apply pw_below_drewN | apply below_drew1 | refine below_set ?_ GE183.out) | exact HB.out)⟩⟩
                · replace c24 := Bool.eq_false_iff.mpr c24
                  subst c24
                  have H1 : (some false) = some r := by rw [if_neg (show ¬ (false = true) by decide)] at H; exact H
                  clear H
                  have H := H1
                  clear H1
                  obtain rfl := Option.some.inj H
                  have hcz27_0 : wc.cell? ⟨gb183, 0, none⟩ = some (.int .i64 t174) := (blk_cell BK183.out 0).trans rfl
                  have hcz27_1 : wc.cell? ⟨gb183, 1, none⟩ = some (.int .i64 t175) := (blk_cell BK183.out 1).trans rfl
                  have hcz27_2 : wc.cell? ⟨gb183, 2, none⟩ = some (.int .i64 t176) := (blk_cell BK183.out 2).trans rfl
                  have hcz27_3 : wc.cell? ⟨gb183, 3, none⟩ = some (.int .i64 t177) := (blk_cell BK183.out 3).trans rfl
                  have hcz27_4 : wc.cell? ⟨gb183, 4, none⟩ = some (.int .i64 t178) := (blk_cell BK183.out 4).trans rfl
                  have hcz27_5 : wc.cell? ⟨gb183, 5, none⟩ = some (.slice Ao16 t179.length co16) := (blk_cell BK183.out 5).trans rfl
                  have hfz27_0 := blk_frozen BK183.out 0
                  have hfz27_1 := blk_frozen BK183.out 1
                  have hfz27_2 := blk_frozen BK183.out 2
                  have hfz27_3 := blk_frozen BK183.out 3
                  have hfz27_4 := blk_frozen BK183.out 4
                  have hfz27_5 := blk_frozen BK183.out 5
                  go_wp2_with (first | (go_at_call 21; (refine (trivetlaw15_Same.calls kj10 t174 t175 t176 t177 t178 _ _ t179 0 0 0 0 0 _ _ ([] : List Int) false _ ?side1 ?side2 ?side3 ?side4 A23.out).mono ?_); (case side1 => repeat (first | exact (Kd.R_reads' HO_184005.out).2.2 | (with_reducible refine Kd.C_alloc ?_ _) | (with_reducible refine Kd.C_drewN ?_ _) | (with_reducible refine Kd.C_drew ?_))); (case side2 => exact (Kd.R_reads' HO_184005.out).2.1); (case side3 => exact Kd.C_nil _ _); (case side4 => exact Nat.le_refl _); rintro e w28 ⟨rfl, hb⟩; have n0_ := Aside0.mk (Kd.R_below (by (with_reducible repeat (first | apply Kd.R_alloc | apply Kd.R_drewN | apply Kd.R_drew)); exact HO_12.out) hb); have n1_ := Aside0.mk (Kd.R_below (by (with_reducible repeat (first | apply Kd.R_alloc | apply Kd.R_drewN | apply Kd.R_drew)); exact HO_184005.out) hb); have n2_ := Aside0.mk (blk_below (g := gb183) (o := .cells #[.int .i64 t174, .int .i64 t175, .int .i64 t176, .int .i64 t177, .int .i64 t178, .slice Ao16 t179.length co16] 38 (0, 0)) (by (with_reducible repeat (first | refine blk_drewN ?_ _ | refine blk_drew ?_ | refine blk_alloc ?_ _)); exact BK183.out) hb); have n3_ := Aside0.mk (below_step (by repeat (first | (with_reducible first | exact HB.out | apply below_alloc | apply pw_below_drewN | apply below_drew1 | refine below_set ?_ GE183.out) | exact HB.out)) hb); clear HO_12; clear HO_184005; clear BK183; clear HB; have HO_12 := n0_; have HO_184005 := n1_; have BK183 := n2_; have HB := n3_; clear n0_ n1_ n2_ n3_; (try clear hb); (try clear hb2); (try clear hk); (try clear hi)))
                  go_ret
                  exact ⟨by first | rfl | (simp [errW_none, errW_some] <;> rfl) | (simp [*, errW_none, errW_some] <;> rfl), by repeat (first | (with_reducible first | exact HB.out | apply below_alloc | apply pw_below_drewN | apply below_drew1 | refine below_set ?_ GE183.out) | exact HB.out)⟩
              · rw [if_neg c22] at H
                have c22b0 : (q189 == 1) = false := beq_eq_false_iff_ne.mpr c22
                have c22b1 : (q189 != 1) = true := bne_iff_ne.mpr c22
                (first | rw [c22b0] | (simp only [i64_w, i32_w]; rw [c22b0]) | skip)
                obtain rfl := Option.some.inj H
                go_wp2
                go_ret
                exact ⟨by first | rfl | (simp [errW_none, errW_some] <;> rfl) | (simp [*, errW_none, errW_some] <;> rfl), by repeat (first | (with_reducible first | exact HB.out | apply below_alloc | apply pw_below_drewN | apply below_drew1 | refine below_set ?_ GE183.out) | exact HB.out)⟩
          · replace c21 := Bool.eq_false_iff.mpr c21
            subst c21
            have H1 : (if t182.isNone = true then ((trivetref15_Analyze.f kj10 l0 a1).bind fun bt192 => ((trivetlaw15_Same.f kj10 t174 t175 t176 t177 t178 t179 bt192.1 bt192.2.1 bt192.2.2.1 bt192.2.2.2.1 bt192.2.2.2.2.1 bt192.2.2.2.2.2).bind fun t200 => (if t200 = true then (trivetlaw15_AnalysisTells.j1 kj10 l0 a2 a3 t173 t184 t185 t188) else (some false)))) else (some false)) = some r := by rw [if_neg (show ¬ (false = true) by decide)] at H; exact H
            clear H
            have H := H1
            clear H1
            rcases t182 with _ | q191
            · have H1 : ((trivetref15_Analyze.f kj10 l0 a1).bind fun bt192 => ((trivetlaw15_Same.f kj10 t174 t175 t176 t177 t178 t179 bt192.1 bt192.2.1 bt192.2.2.1 bt192.2.2.2.1 bt192.2.2.2.2.1 bt192.2.2.2.2.2).bind fun t200 => (if t200 = true then (trivetlaw15_AnalysisTells.j1 kj10 l0 a2 a3 t173 t184 t185 t188) else (some false)))) = some r := by rw [if_pos (show (none : Option Int).isNone = true by rfl)] at H; exact H
              clear H
              have H := H1
              clear H1
              try simp only [errW_none, errW_some]
              replace H := Option.bind_eq_some_iff.mp H
              obtain ⟨⟨t192, t193, t194, t195, t196, t197⟩, A290, H⟩ := H
              replace H : ((trivetlaw15_Same.f kj10 t174 t175 t176 t177 t178 t179 t192 t193 t194 t195 t196 t197).bind fun t200 => (if t200 = true then (trivetlaw15_AnalysisTells.j1 kj10 l0 a2 a3 t173 t184 t185 t188) else (some false))) = some r := H
              have A29 := Aside0.mk A290
              clear A290
              replace H := Option.bind_eq_some_iff.mp H
              obtain ⟨t200, A300, H⟩ := H
              replace H : (if t200 = true then (trivetlaw15_AnalysisTells.j1 kj10 l0 a2 a3 t173 t184 t185 t188) else (some false)) = some r := H
              have A30 := Aside0.mk A300
              clear A300
              by_cases c31 : t200 = true
              · subst c31
                have H1 : (trivetlaw15_AnalysisTells.j1 kj10 l0 a2 a3 t173 t184 t185 t188) = some r := by rw [if_pos rfl] at H; exact H
                clear H
                have H := H1
                clear H1
                have H' := Aside0.mk H
                clear H
                try go_wp2
                have n0_ := Aside0.mk (Kd.R_drew HO_12.out)
                have n1_ := Aside0.mk (Kd.R_drew HO_184005.out)
                have n2_ := Aside0.mk (blk_drew BK183.out)
                have n3_ := Aside0.mk (below_drew1 HB.out)
                clear HO_12
                clear HO_184005
                clear BK183
                clear HB
                have HO_12 := n0_
                have HO_184005 := n1_
                have BK183 := n2_
                have HB := n3_
                clear n0_ n1_ n2_ n3_
                refine start_ (n := 10) (S := fun w' => w'.cell? ⟨gb183, 0, none⟩ = some (.int .i64 t174) ∧ w'.cell? ⟨gb183, 1, none⟩ = some (.int .i64 t175) ∧ w'.cell? ⟨gb183, 2, none⟩ = some (.int .i64 t176) ∧ w'.cell? ⟨gb183, 3, none⟩ = some (.int .i64 t177) ∧ w'.cell? ⟨gb183, 4, none⟩ = some (.int .i64 t178) ∧ w'.cell? ⟨gb183, 5, none⟩ = some (.slice Ao16 t179.length co16)) (ds := []) #[false, false, false, false, false, false, false, false, false, false] (by kernel_rfl) rfl rfl ⟨(blk_cell BK183.out 0).trans rfl, (blk_cell BK183.out 1).trans rfl, (blk_cell BK183.out 2).trans rfl, (blk_cell BK183.out 3).trans rfl, (blk_cell BK183.out 4).trans rfl, (blk_cell BK183.out 5).trans rfl⟩ (fun hHeld => ?_); refine with_tabW trivetlaw15_AnalysisTells.tab10 trivetlaw15_AnalysisTells.bits10 (fun HT_ HW_ => ?_)
                generalize wc.drew = w32 at HO_12 HO_184005 BK183 HB hHeld ⊢
                refine pure_ (i := 0) (N := some 54) (v := ?_) (a' := ?_) #[true, false, false, false, false, false, false, false, false, false] rfl rfl (any_of HT_.out (by kernel_rfl)) (fun _ _ _ h => h) (Or.inl ⟨by rfl, ?_⟩) ?_ ?_
                rotate_left
                · intro w'
                  go_simp
                  with_reducible rfl
                rotate_left
                · simp only [Act.put, List.setIfInBounds_toArray, List.set_cons_zero, List.set_cons_succ, i64_w, i32_w]
                  rfl
                refine pure_ (i := 1) (N := some 55) (v := ?_) (a' := ?_) #[true, true, false, false, false, false, false, false, false, false] rfl rfl (any_of HT_.out (by kernel_rfl)) (fun _ _ _ h => h) (Or.inl ⟨by rfl, ?_⟩) ?_ ?_
                rotate_left
                · intro w'
                  go_simp
                  with_reducible rfl
                rotate_left
                · simp only [Act.put, List.setIfInBounds_toArray, List.set_cons_zero, List.set_cons_succ, i64_w, i32_w]
                  rfl
                refine pure_ (i := 2) (N := some 56) (v := ?_) (a' := ?_) #[true, true, true, false, false, false, false, false, false, false] rfl rfl (any_of HT_.out (by kernel_rfl)) (fun _ _ _ h => h) (Or.inl ⟨by rfl, ?_⟩) ?_ ?_
                rotate_left
                · intro w'
                  go_simp
                  with_reducible rfl
                rotate_left
                · simp only [Act.put, List.setIfInBounds_toArray, List.set_cons_zero, List.set_cons_succ, i64_w, i32_w]
                  rfl
                refine pure_ (i := 4) (N := some 58) (v := ?_) (a' := ?_) #[true, true, true, false, true, false, false, false, false, false] rfl rfl (any_of HT_.out (by kernel_rfl)) (fun _ _ _ h => h) (Or.inl ⟨by rfl, ?_⟩) ?_ ?_
                rotate_left
                · intro w'
                  go_simp
                  with_reducible rfl
                rotate_left
                · simp only [Act.put, List.setIfInBounds_toArray, List.set_cons_zero, List.set_cons_succ, i64_w, i32_w]
                  rfl
                refine pure_ (i := 5) (N := some 59) (v := ?_) (a' := ?_) #[true, true, true, false, true, true, false, false, false, false] rfl rfl (any_of HT_.out (by kernel_rfl)) (fun _ _ _ h => h) (Or.inl ⟨by rfl, ?_⟩) ?_ ?_
                rotate_left
                · intro w'
                  go_simp
                  with_reducible rfl
                rotate_left
                · simp only [Act.put, List.setIfInBounds_toArray, List.set_cons_zero, List.set_cons_succ, i64_w, i32_w]
                  rfl
                refine take_ (i := 3) (N := some 57) (v := ?_) (a' := ?_) #[true, true, true, true, true, true, false, false, false, false] rfl rfl (take_ofW HT_.out HW_.out (by kernel_rfl)) (fun _ _ _ h => h) (Or.inl ⟨by rfl, ?_⟩) hHeld ?_ ?_
                rotate_left
                · rintro w' ⟨s0, s1, s2, s3, s4, s5⟩
                  go_simp
                  with_reducible rfl
                rotate_left
                · simp only [Act.put, List.setIfInBounds_toArray, List.set_cons_zero, List.set_cons_succ, i64_w, i32_w]
                  rfl
                refine one_ (i := 6) (N := some 60) #[true, true, true, true, true, true, true, false, false, false] rfl rfl (one_of HT_.out (by kernel_rfl)) (by decide) (fun K hK => ?_)
                refine goes_ Try.func22 (by kernel_rfl) rfl #[.slice A0 l0.length c0, .int .i64 a1] (by rfl) rfl rfl (by (try simp only [List.map_toArray, List.map_cons, List.map_nil]); first | done | rfl | (simp only [List.length_drop, List.length_take]; rfl)) ?_
                with_reducible refine (trivetref15_Analyze.calls kj10 _ _ l0 a1 t192 t193 t194 t195 t196 t197 _ ?side1 ?side2 A29.out).mono ?_
                (case side1 => repeat (first | exact (Kd.C_below HR0.out HB.out) | (with_reducible refine Kd.C_alloc ?_ _) | (with_reducible refine Kd.C_drewN ?_ _) | (with_reducible refine Kd.C_drew ?_)))
                (case side2 => exact HC0.out)
                rintro e w33 ⟨v198, rfl, ho0, hb⟩
                refine ⟨_, rfl, ?_⟩
                have n0_ := Aside0.mk (Kd.R_elder' (by (with_reducible repeat (first | apply Kd.R_alloc | apply Kd.R_drewN | apply Kd.R_drew)); exact HO_12.out) (Kd.R_base ho0) hb)
                have n1_ := Aside0.mk (Kd.R_elder' (by (with_reducible repeat (first | apply Kd.R_alloc | apply Kd.R_drewN | apply Kd.R_drew)); exact HO_184005.out) (Kd.R_base ho0) hb)
                have n2_ := Aside0.mk (Kd.R_lower (Kd.R_new' (Kd.R_new' ho0 (Kd.R_lt (by (with_reducible repeat (first | apply Kd.R_alloc | apply Kd.R_drewN | apply Kd.R_drew)); exact HO_12.out))) (Kd.R_lt (by (with_reducible repeat (first | apply Kd.R_alloc | apply Kd.R_drewN | apply Kd.R_drew)); exact HO_184005.out))) (below_size (by repeat (first | (with_reducible first | exact HB.out | apply below_alloc | apply pw_below_drewN | apply below_drew1 | refine below_set ?_ GE183.out) | exact HB.out))))
                have n3_ := Aside0.mk (blk_below (g := gb183) (o := .cells #[.int .i64 t174, .int .i64 t175, .int .i64 t176, .int .i64 t177, .int .i64 t178, .slice Ao16 t179.length co16] 38 (0, 0)) (by (with_reducible repeat (first | refine blk_drewN ?_ _ | refine blk_drew ?_ | refine blk_alloc ?_ _)); exact BK183.out) hb)
                have n4_ := Aside0.mk (below_step (by repeat (first | (with_reducible first | exact HB.out | apply below_alloc | apply pw_below_drewN | apply below_drew1 | refine below_set ?_ GE183.out) | exact HB.out)) hb)
                clear HO_12
                clear HO_184005
                clear BK183
                clear HB
                have HO_12 := n0_
                have HO_184005 := n1_
                have HO199 := n2_
                have BK183 := n3_
                have HB := n4_
                clear n0_ n1_ n2_ n3_ n4_
                (try clear hb)
                (try clear hb2)
                (try clear hk)
                (try clear hi)
                (try clear ho0)
                obtain ⟨Ao34, co34, eo34⟩ := Kd.R_slice HO199.out
                (first | subst eo34 | (injection eo34 with f1_ f2_ f3_; have f4_ := f1_.symm; have f5_ := f3_.symm; clear f1_ f2_ f3_; subst f4_; subst f5_))
                refine hK.out _ _ ⟨(blk_cell BK183.out 0).trans rfl, (blk_cell BK183.out 1).trans rfl, (blk_cell BK183.out 2).trans rfl, (blk_cell BK183.out 3).trans rfl, (blk_cell BK183.out 4).trans rfl, (blk_cell BK183.out 5).trans rfl⟩ (fun hHeld => ?_)
                clear hK K
                refine norm_ (a' := ?_) ?_ ?_
                rotate_left
                · show Act.put _ (some 60) _ = _
                  simp only [Act.put, List.setIfInBounds_toArray, List.set_cons_zero, List.set_cons_succ, i64_w, i32_w]
                  rfl
                refine one_ (i := 7) (N := some 61) #[true, true, true, true, true, true, true, true, false, false] rfl rfl (one_of HT_.out (by kernel_rfl)) (by decide) (fun K hK => ?_)
                refine goes_ Try.func21 (by kernel_rfl) rfl #[.agg #[.int .i64 t174, .int .i64 t175, .int .i64 t176, .int .i64 t177, .int .i64 t178, .slice Ao16 t179.length co16], .agg #[.int .i64 t192, .int .i64 t193, .int .i64 t194, .int .i64 t195, .int .i64 t196, .slice Ao34 t197.length co34]] (by rfl) rfl rfl (by (try simp only [List.map_toArray, List.map_cons, List.map_nil]); first | done | rfl | (simp only [List.length_drop, List.length_take]; rfl)) ?_
                with_reducible refine (trivetlaw15_Same.calls kj10 t174 t175 t176 t177 t178 _ _ t179 t192 t193 t194 t195 t196 _ _ t197 true _ ?side1 ?side2 ?side3 ?side4 A30.out).mono ?_
                (case side1 => repeat (first | exact (Kd.R_reads' HO_184005.out).2.2 | (with_reducible refine Kd.C_alloc ?_ _) | (with_reducible refine Kd.C_drewN ?_ _) | (with_reducible refine Kd.C_drew ?_)))
                (case side2 => exact (Kd.R_reads' HO_184005.out).2.1)
                (case side3 => repeat (first | exact (Kd.R_reads' HO199.out).2.2 | (with_reducible refine Kd.C_alloc ?_ _) | (with_reducible refine Kd.C_drewN ?_ _) | (with_reducible refine Kd.C_drew ?_)))
                (case side4 => exact (Kd.R_reads' HO199.out).2.1)
                rintro e w35 ⟨rfl, hb⟩
                refine ⟨_, rfl, ?_⟩
                have n0_ := Aside0.mk (Kd.R_below (by (with_reducible repeat (first | apply Kd.R_alloc | apply Kd.R_drewN | apply Kd.R_drew)); exact HO_12.out) hb)
                have n1_ := Aside0.mk (Kd.R_below (by (with_reducible repeat (first | apply Kd.R_alloc | apply Kd.R_drewN | apply Kd.R_drew)); exact HO_184005.out) hb)
                have n2_ := Aside0.mk (Kd.R_below (by (with_reducible repeat (first | apply Kd.R_alloc | apply Kd.R_drewN | apply Kd.R_drew)); exact HO199.out) hb)
                have n3_ := Aside0.mk (blk_below (g := gb183) (o := .cells #[.int .i64 t174, .int .i64 t175, .int .i64 t176, .int .i64 t177, .int .i64 t178, .slice Ao16 t179.length co16] 38 (0, 0)) (by (with_reducible repeat (first | refine blk_drewN ?_ _ | refine blk_drew ?_ | refine blk_alloc ?_ _)); exact BK183.out) hb)
                have n4_ := Aside0.mk (below_step (by repeat (first | (with_reducible first | exact HB.out | apply below_alloc | apply pw_below_drewN | apply below_drew1 | refine below_set ?_ GE183.out) | exact HB.out)) hb)
                clear HO_12
                clear HO_184005
                clear HO199
                clear BK183
                clear HB
                have HO_12 := n0_
                have HO_184005 := n1_
                have HO199 := n2_
                have BK183 := n3_
                have HB := n4_
                clear n0_ n1_ n2_ n3_ n4_
                (try clear hb)
                (try clear hb2)
                (try clear hk)
                (try clear hi)
                refine hK.out _ _ ⟨(blk_cell BK183.out 0).trans rfl, (blk_cell BK183.out 1).trans rfl, (blk_cell BK183.out 2).trans rfl, (blk_cell BK183.out 3).trans rfl, (blk_cell BK183.out 4).trans rfl, (blk_cell BK183.out 5).trans rfl⟩ (fun hHeld => ?_)
                clear hK K
                refine norm_ (a' := ?_) ?_ ?_
                rotate_left
                · show Act.put _ (some 61) _ = _
                  simp only [Act.put, List.setIfInBounds_toArray, List.set_cons_zero, List.set_cons_succ, i64_w, i32_w]
                  rfl
                refine pure_ (i := 8) (N := some 62) (v := ?_) (a' := ?_) #[true, true, true, true, true, true, true, true, true, false] rfl rfl (any_of HT_.out (by kernel_rfl)) (fun _ _ _ h => h) (Or.inl ⟨by rfl, ?_⟩) ?_ ?_
                rotate_left
                · intro w'
                  go_simp
                  with_reducible rfl
                rotate_left
                · simp only [Act.put, List.setIfInBounds_toArray, List.set_cons_zero, List.set_cons_succ, i64_w, i32_w]
                  rfl
                refine pure_ (i := 9) (N := some 63) (v := ?_) (a' := ?_) #[true, true, true, true, true, true, true, true, true, true] rfl rfl (any_of HT_.out (by kernel_rfl)) (fun _ _ _ h => h) (Or.inl ⟨by rfl, ?_⟩) ?_ ?_
                rotate_left
                · intro w'
                  go_simp
                  with_reducible rfl
                rotate_left
                · simp only [Act.put, List.setIfInBounds_toArray, List.set_cons_zero, List.set_cons_succ, i64_w, i32_w]
                  rfl
                refine done_ (done_of HT_.out (by kernel_rfl)) ?_
                try go_wp2
                go_meet
                case rel => exact ⟨_, H', ⟨by have := HJ10.out; first | omega | exact Nat.le_refl _⟩, ⟨by (with_reducible repeat (first | apply Kd.R_alloc | apply Kd.R_drewN | apply Kd.R_drew)); exact Kd.R_mono HO_12.out (fun _ hk => hk.1)⟩, ⟨by (with_reducible repeat (first | apply Kd.R_alloc | apply Kd.R_drewN | apply Kd.R_drew)); exact Kd.R_mono HO_184005.out (fun _ hk => hk.1)⟩, ⟨by (with_reducible repeat (first | refine blk_drewN ?_ _ | refine blk_drew ?_ | refine blk_alloc ?_ _)); exact BK183.out⟩, ⟨by repeat (first | (with_reducible first | exact HB.out | apply below_alloc | apply pw_below_drewN | apply below_drew1 | refine below_set ?_ GE183.out) | exact HB.out)⟩⟩
              · replace c31 := Bool.eq_false_iff.mpr c31
                subst c31
                have H1 : (some false) = some r := by rw [if_neg (show ¬ (false = true) by decide)] at H; exact H
                clear H
                have H := H1
                clear H1
                obtain rfl := Option.some.inj H
                try go_wp2
                have n0_ := Aside0.mk (Kd.R_drew HO_12.out)
                have n1_ := Aside0.mk (Kd.R_drew HO_184005.out)
                have n2_ := Aside0.mk (blk_drew BK183.out)
                have n3_ := Aside0.mk (below_drew1 HB.out)
                clear HO_12
                clear HO_184005
                clear BK183
                clear HB
                have HO_12 := n0_
                have HO_184005 := n1_
                have BK183 := n2_
                have HB := n3_
                clear n0_ n1_ n2_ n3_
                refine start_ (n := 10) (S := fun w' => w'.cell? ⟨gb183, 0, none⟩ = some (.int .i64 t174) ∧ w'.cell? ⟨gb183, 1, none⟩ = some (.int .i64 t175) ∧ w'.cell? ⟨gb183, 2, none⟩ = some (.int .i64 t176) ∧ w'.cell? ⟨gb183, 3, none⟩ = some (.int .i64 t177) ∧ w'.cell? ⟨gb183, 4, none⟩ = some (.int .i64 t178) ∧ w'.cell? ⟨gb183, 5, none⟩ = some (.slice Ao16 t179.length co16)) (ds := []) #[false, false, false, false, false, false, false, false, false, false] (by kernel_rfl) rfl rfl ⟨(blk_cell BK183.out 0).trans rfl, (blk_cell BK183.out 1).trans rfl, (blk_cell BK183.out 2).trans rfl, (blk_cell BK183.out 3).trans rfl, (blk_cell BK183.out 4).trans rfl, (blk_cell BK183.out 5).trans rfl⟩ (fun hHeld => ?_); refine with_tabW trivetlaw15_AnalysisTells.tab10 trivetlaw15_AnalysisTells.bits10 (fun HT_ HW_ => ?_)
                generalize wc.drew = w36 at HO_12 HO_184005 BK183 HB hHeld ⊢
                refine pure_ (i := 0) (N := some 54) (v := ?_) (a' := ?_) #[true, false, false, false, false, false, false, false, false, false] rfl rfl (any_of HT_.out (by kernel_rfl)) (fun _ _ _ h => h) (Or.inl ⟨by rfl, ?_⟩) ?_ ?_
                rotate_left
                · intro w'
                  go_simp
                  with_reducible rfl
                rotate_left
                · simp only [Act.put, List.setIfInBounds_toArray, List.set_cons_zero, List.set_cons_succ, i64_w, i32_w]
                  rfl
                refine pure_ (i := 1) (N := some 55) (v := ?_) (a' := ?_) #[true, true, false, false, false, false, false, false, false, false] rfl rfl (any_of HT_.out (by kernel_rfl)) (fun _ _ _ h => h) (Or.inl ⟨by rfl, ?_⟩) ?_ ?_
                rotate_left
                · intro w'
                  go_simp
                  with_reducible rfl
                rotate_left
                · simp only [Act.put, List.setIfInBounds_toArray, List.set_cons_zero, List.set_cons_succ, i64_w, i32_w]
                  rfl
                refine pure_ (i := 2) (N := some 56) (v := ?_) (a' := ?_) #[true, true, true, false, false, false, false, false, false, false] rfl rfl (any_of HT_.out (by kernel_rfl)) (fun _ _ _ h => h) (Or.inl ⟨by rfl, ?_⟩) ?_ ?_
                rotate_left
                · intro w'
                  go_simp
                  with_reducible rfl
                rotate_left
                · simp only [Act.put, List.setIfInBounds_toArray, List.set_cons_zero, List.set_cons_succ, i64_w, i32_w]
                  rfl
                refine pure_ (i := 4) (N := some 58) (v := ?_) (a' := ?_) #[true, true, true, false, true, false, false, false, false, false] rfl rfl (any_of HT_.out (by kernel_rfl)) (fun _ _ _ h => h) (Or.inl ⟨by rfl, ?_⟩) ?_ ?_
                rotate_left
                · intro w'
                  go_simp
                  with_reducible rfl
                rotate_left
                · simp only [Act.put, List.setIfInBounds_toArray, List.set_cons_zero, List.set_cons_succ, i64_w, i32_w]
                  rfl
                refine pure_ (i := 5) (N := some 59) (v := ?_) (a' := ?_) #[true, true, true, false, true, true, false, false, false, false] rfl rfl (any_of HT_.out (by kernel_rfl)) (fun _ _ _ h => h) (Or.inl ⟨by rfl, ?_⟩) ?_ ?_
                rotate_left
                · intro w'
                  go_simp
                  with_reducible rfl
                rotate_left
                · simp only [Act.put, List.setIfInBounds_toArray, List.set_cons_zero, List.set_cons_succ, i64_w, i32_w]
                  rfl
                refine take_ (i := 3) (N := some 57) (v := ?_) (a' := ?_) #[true, true, true, true, true, true, false, false, false, false] rfl rfl (take_ofW HT_.out HW_.out (by kernel_rfl)) (fun _ _ _ h => h) (Or.inl ⟨by rfl, ?_⟩) hHeld ?_ ?_
                rotate_left
                · rintro w' ⟨s0, s1, s2, s3, s4, s5⟩
                  go_simp
                  with_reducible rfl
                rotate_left
                · simp only [Act.put, List.setIfInBounds_toArray, List.set_cons_zero, List.set_cons_succ, i64_w, i32_w]
                  rfl
                refine one_ (i := 6) (N := some 60) #[true, true, true, true, true, true, true, false, false, false] rfl rfl (one_of HT_.out (by kernel_rfl)) (by decide) (fun K hK => ?_)
                refine goes_ Try.func22 (by kernel_rfl) rfl #[.slice A0 l0.length c0, .int .i64 a1] (by rfl) rfl rfl (by (try simp only [List.map_toArray, List.map_cons, List.map_nil]); first | done | rfl | (simp only [List.length_drop, List.length_take]; rfl)) ?_
                with_reducible refine (trivetref15_Analyze.calls kj10 _ _ l0 a1 t192 t193 t194 t195 t196 t197 _ ?side1 ?side2 A29.out).mono ?_
                (case side1 => repeat (first | exact (Kd.C_below HR0.out HB.out) | (with_reducible refine Kd.C_alloc ?_ _) | (with_reducible refine Kd.C_drewN ?_ _) | (with_reducible refine Kd.C_drew ?_)))
                (case side2 => exact HC0.out)
                rintro e w37 ⟨v198, rfl, ho0, hb⟩
                refine ⟨_, rfl, ?_⟩
                have n0_ := Aside0.mk (Kd.R_elder' (by (with_reducible repeat (first | apply Kd.R_alloc | apply Kd.R_drewN | apply Kd.R_drew)); exact HO_12.out) (Kd.R_base ho0) hb)
                have n1_ := Aside0.mk (Kd.R_elder' (by (with_reducible repeat (first | apply Kd.R_alloc | apply Kd.R_drewN | apply Kd.R_drew)); exact HO_184005.out) (Kd.R_base ho0) hb)
                have n2_ := Aside0.mk (Kd.R_lower (Kd.R_new' (Kd.R_new' ho0 (Kd.R_lt (by (with_reducible repeat (first | apply Kd.R_alloc | apply Kd.R_drewN | apply Kd.R_drew)); exact HO_12.out))) (Kd.R_lt (by (with_reducible repeat (first | apply Kd.R_alloc | apply Kd.R_drewN | apply Kd.R_drew)); exact HO_184005.out))) (below_size (by repeat (first | (with_reducible first | exact HB.out | apply below_alloc | apply pw_below_drewN | apply below_drew1 | refine below_set ?_ GE183.out) | exact HB.out))))
                have n3_ := Aside0.mk (blk_below (g := gb183) (o := .cells #[.int .i64 t174, .int .i64 t175, .int .i64 t176, .int .i64 t177, .int .i64 t178, .slice Ao16 t179.length co16] 38 (0, 0)) (by (with_reducible repeat (first | refine blk_drewN ?_ _ | refine blk_drew ?_ | refine blk_alloc ?_ _)); exact BK183.out) hb)
                have n4_ := Aside0.mk (below_step (by repeat (first | (with_reducible first | exact HB.out | apply below_alloc | apply pw_below_drewN | apply below_drew1 | refine below_set ?_ GE183.out) | exact HB.out)) hb)
                clear HO_12
                clear HO_184005
                clear BK183
                clear HB
                have HO_12 := n0_
                have HO_184005 := n1_
                have HO199 := n2_
                have BK183 := n3_
                have HB := n4_
                clear n0_ n1_ n2_ n3_ n4_
                (try clear hb)
                (try clear hb2)
                (try clear hk)
                (try clear hi)
                (try clear ho0)
                obtain ⟨Ao38, co38, eo38⟩ := Kd.R_slice HO199.out
                (first | subst eo38 | (injection eo38 with f1_ f2_ f3_; have f4_ := f1_.symm; have f5_ := f3_.symm; clear f1_ f2_ f3_; subst f4_; subst f5_))
                refine hK.out _ _ ⟨(blk_cell BK183.out 0).trans rfl, (blk_cell BK183.out 1).trans rfl, (blk_cell BK183.out 2).trans rfl, (blk_cell BK183.out 3).trans rfl, (blk_cell BK183.out 4).trans rfl, (blk_cell BK183.out 5).trans rfl⟩ (fun hHeld => ?_)
                clear hK K
                refine norm_ (a' := ?_) ?_ ?_
                rotate_left
                · show Act.put _ (some 60) _ = _
                  simp only [Act.put, List.setIfInBounds_toArray, List.set_cons_zero, List.set_cons_succ, i64_w, i32_w]
                  rfl
                refine one_ (i := 7) (N := some 61) #[true, true, true, true, true, true, true, true, false, false] rfl rfl (one_of HT_.out (by kernel_rfl)) (by decide) (fun K hK => ?_)
                refine goes_ Try.func21 (by kernel_rfl) rfl #[.agg #[.int .i64 t174, .int .i64 t175, .int .i64 t176, .int .i64 t177, .int .i64 t178, .slice Ao16 t179.length co16], .agg #[.int .i64 t192, .int .i64 t193, .int .i64 t194, .int .i64 t195, .int .i64 t196, .slice Ao38 t197.length co38]] (by rfl) rfl rfl (by (try simp only [List.map_toArray, List.map_cons, List.map_nil]); first | done | rfl | (simp only [List.length_drop, List.length_take]; rfl)) ?_
                with_reducible refine (trivetlaw15_Same.calls kj10 t174 t175 t176 t177 t178 _ _ t179 t192 t193 t194 t195 t196 _ _ t197 false _ ?side1 ?side2 ?side3 ?side4 A30.out).mono ?_
                (case side1 => repeat (first | exact (Kd.R_reads' HO_184005.out).2.2 | (with_reducible refine Kd.C_alloc ?_ _) | (with_reducible refine Kd.C_drewN ?_ _) | (with_reducible refine Kd.C_drew ?_)))
                (case side2 => exact (Kd.R_reads' HO_184005.out).2.1)
                (case side3 => repeat (first | exact (Kd.R_reads' HO199.out).2.2 | (with_reducible refine Kd.C_alloc ?_ _) | (with_reducible refine Kd.C_drewN ?_ _) | (with_reducible refine Kd.C_drew ?_)))
                (case side4 => exact (Kd.R_reads' HO199.out).2.1)
                rintro e w39 ⟨rfl, hb⟩
                refine ⟨_, rfl, ?_⟩
                have n0_ := Aside0.mk (Kd.R_below (by (with_reducible repeat (first | apply Kd.R_alloc | apply Kd.R_drewN | apply Kd.R_drew)); exact HO_12.out) hb)
                have n1_ := Aside0.mk (Kd.R_below (by (with_reducible repeat (first | apply Kd.R_alloc | apply Kd.R_drewN | apply Kd.R_drew)); exact HO_184005.out) hb)
                have n2_ := Aside0.mk (Kd.R_below (by (with_reducible repeat (first | apply Kd.R_alloc | apply Kd.R_drewN | apply Kd.R_drew)); exact HO199.out) hb)
                have n3_ := Aside0.mk (blk_below (g := gb183) (o := .cells #[.int .i64 t174, .int .i64 t175, .int .i64 t176, .int .i64 t177, .int .i64 t178, .slice Ao16 t179.length co16] 38 (0, 0)) (by (with_reducible repeat (first | refine blk_drewN ?_ _ | refine blk_drew ?_ | refine blk_alloc ?_ _)); exact BK183.out) hb)
                have n4_ := Aside0.mk (below_step (by repeat (first | (with_reducible first | exact HB.out | apply below_alloc | apply pw_below_drewN | apply below_drew1 | refine below_set ?_ GE183.out) | exact HB.out)) hb)
                clear HO_12
                clear HO_184005
                clear HO199
                clear BK183
                clear HB
                have HO_12 := n0_
                have HO_184005 := n1_
                have HO199 := n2_
                have BK183 := n3_
                have HB := n4_
                clear n0_ n1_ n2_ n3_ n4_
                (try clear hb)
                (try clear hb2)
                (try clear hk)
                (try clear hi)
                refine hK.out _ _ ⟨(blk_cell BK183.out 0).trans rfl, (blk_cell BK183.out 1).trans rfl, (blk_cell BK183.out 2).trans rfl, (blk_cell BK183.out 3).trans rfl, (blk_cell BK183.out 4).trans rfl, (blk_cell BK183.out 5).trans rfl⟩ (fun hHeld => ?_)
                clear hK K
                refine norm_ (a' := ?_) ?_ ?_
                rotate_left
                · show Act.put _ (some 61) _ = _
                  simp only [Act.put, List.setIfInBounds_toArray, List.set_cons_zero, List.set_cons_succ, i64_w, i32_w]
                  rfl
                refine pure_ (i := 8) (N := some 62) (v := ?_) (a' := ?_) #[true, true, true, true, true, true, true, true, true, false] rfl rfl (any_of HT_.out (by kernel_rfl)) (fun _ _ _ h => h) (Or.inl ⟨by rfl, ?_⟩) ?_ ?_
                rotate_left
                · intro w'
                  go_simp
                  with_reducible rfl
                rotate_left
                · simp only [Act.put, List.setIfInBounds_toArray, List.set_cons_zero, List.set_cons_succ, i64_w, i32_w]
                  rfl
                refine pure_ (i := 9) (N := some 63) (v := ?_) (a' := ?_) #[true, true, true, true, true, true, true, true, true, true] rfl rfl (any_of HT_.out (by kernel_rfl)) (fun _ _ _ h => h) (Or.inl ⟨by rfl, ?_⟩) ?_ ?_
                rotate_left
                · intro w'
                  go_simp
                  with_reducible rfl
                rotate_left
                · simp only [Act.put, List.setIfInBounds_toArray, List.set_cons_zero, List.set_cons_succ, i64_w, i32_w]
                  rfl
                refine done_ (done_of HT_.out (by kernel_rfl)) ?_
                try go_wp2
                go_ret
                exact ⟨by first | rfl | (simp [errW_none, errW_some] <;> rfl) | (simp [*, errW_none, errW_some] <;> rfl), by repeat (first | (with_reducible first | exact HB.out | apply below_alloc | apply pw_below_drewN | apply below_drew1 | refine below_set ?_ GE183.out) | exact HB.out)⟩
            · have H1 : (some false) = some r := by rw [if_neg (show ¬ (some q191).isNone = true by simp)] at H; exact H
              clear H
              have H := H1
              clear H1
              try simp only [errW_none, errW_some]
              obtain rfl := Option.some.inj H
              try go_wp2
              have n0_ := Aside0.mk (Kd.R_drew HO_12.out)
              have n1_ := Aside0.mk (Kd.R_drew HO_184005.out)
              have n2_ := Aside0.mk (blk_drew BK183.out)
              have n3_ := Aside0.mk (below_drew1 HB.out)
              clear HO_12
              clear HO_184005
              clear BK183
              clear HB
              have HO_12 := n0_
              have HO_184005 := n1_
              have BK183 := n2_
              have HB := n3_
              clear n0_ n1_ n2_ n3_
              refine start_ (n := 10) (S := fun w' => True) (ds := []) #[false, false, false, false, false, false, false, false, false, false] (by kernel_rfl) rfl rfl trivial (fun hHeld => ?_); refine with_tabW trivetlaw15_AnalysisTells.tab10 trivetlaw15_AnalysisTells.bits10 (fun HT_ HW_ => ?_)
              generalize wc.drew = w40 at HO_12 HO_184005 BK183 HB hHeld ⊢
              refine pure_ (i := 0) (N := some 54) (v := ?_) (a' := ?_) #[true, false, false, false, false, false, false, false, false, false] rfl rfl (any_of HT_.out (by kernel_rfl)) (fun _ _ _ h => h) (Or.inl ⟨by rfl, ?_⟩) ?_ ?_
              rotate_left
              · intro w'
                go_simp
                with_reducible rfl
              rotate_left
              · simp only [Act.put, List.setIfInBounds_toArray, List.set_cons_zero, List.set_cons_succ, i64_w, i32_w]
                rfl
              refine pure_ (i := 1) (N := some 55) (v := ?_) (a' := ?_) #[true, true, false, false, false, false, false, false, false, false] rfl rfl (any_of HT_.out (by kernel_rfl)) (fun _ _ _ h => h) (Or.inl ⟨by rfl, ?_⟩) ?_ ?_
              rotate_left
              · intro w'
                go_simp
                with_reducible rfl
              rotate_left
              · simp only [Act.put, List.setIfInBounds_toArray, List.set_cons_zero, List.set_cons_succ, i64_w, i32_w]
                rfl
              refine pure_ (i := 2) (N := some 56) (v := ?_) (a' := ?_) #[true, true, true, false, false, false, false, false, false, false] rfl rfl (any_of HT_.out (by kernel_rfl)) (fun _ _ _ h => h) (Or.inl ⟨by rfl, ?_⟩) ?_ ?_
              rotate_left
              · intro w'
                go_simp
                with_reducible rfl
              rotate_left
              · simp only [Act.put, List.setIfInBounds_toArray, List.set_cons_zero, List.set_cons_succ, i64_w, i32_w]
                rfl
              refine pure_ (i := 3) (N := some 57) (v := undef) (a' := ?_) #[true, true, true, true, false, false, false, false, false, false] rfl rfl (any_of HT_.out (by kernel_rfl)) (fun _ _ _ h => h) (Or.inr ⟨by rfl, rfl⟩) ?_ ?_
              rotate_left
              · simp only [Act.put, List.setIfInBounds_toArray, List.set_cons_zero, List.set_cons_succ, i64_w, i32_w]
                rfl
              refine pure_ (i := 4) (N := some 58) (v := undef) (a' := ?_) #[true, true, true, true, true, false, false, false, false, false] rfl rfl (any_of HT_.out (by kernel_rfl)) (fun _ _ _ h => h) (Or.inr ⟨by rfl, rfl⟩) ?_ ?_
              rotate_left
              · simp only [Act.put, List.setIfInBounds_toArray, List.set_cons_zero, List.set_cons_succ, i64_w, i32_w]
                rfl
              refine pure_ (i := 5) (N := some 59) (v := undef) (a' := ?_) #[true, true, true, true, true, true, false, false, false, false] rfl rfl (any_of HT_.out (by kernel_rfl)) (fun _ _ _ h => h) (Or.inr ⟨by rfl, rfl⟩) ?_ ?_
              rotate_left
              · simp only [Act.put, List.setIfInBounds_toArray, List.set_cons_zero, List.set_cons_succ, i64_w, i32_w]
                rfl
              refine pure_ (i := 6) (N := some 60) (v := undef) (a' := ?_) #[true, true, true, true, true, true, true, false, false, false] rfl rfl (any_of HT_.out (by kernel_rfl)) (fun _ _ _ h => h) (Or.inr ⟨by rfl, rfl⟩) ?_ ?_
              rotate_left
              · simp only [Act.put, List.setIfInBounds_toArray, List.set_cons_zero, List.set_cons_succ, i64_w, i32_w]
                rfl
              refine pure_ (i := 7) (N := some 61) (v := undef) (a' := ?_) #[true, true, true, true, true, true, true, true, false, false] rfl rfl (any_of HT_.out (by kernel_rfl)) (fun _ _ _ h => h) (Or.inr ⟨by rfl, rfl⟩) ?_ ?_
              rotate_left
              · simp only [Act.put, List.setIfInBounds_toArray, List.set_cons_zero, List.set_cons_succ, i64_w, i32_w]
                rfl
              refine pure_ (i := 8) (N := some 62) (v := undef) (a' := ?_) #[true, true, true, true, true, true, true, true, true, false] rfl rfl (any_of HT_.out (by kernel_rfl)) (fun _ _ _ h => h) (Or.inr ⟨by rfl, rfl⟩) ?_ ?_
              rotate_left
              · simp only [Act.put, List.setIfInBounds_toArray, List.set_cons_zero, List.set_cons_succ, i64_w, i32_w]
                rfl
              refine pure_ (i := 9) (N := some 63) (v := ?_) (a' := ?_) #[true, true, true, true, true, true, true, true, true, true] rfl rfl (any_of HT_.out (by kernel_rfl)) (fun _ _ _ h => h) (Or.inl ⟨by rfl, ?_⟩) ?_ ?_
              rotate_left
              · intro w'
                go_simp
                with_reducible rfl
              rotate_left
              · simp only [Act.put, List.setIfInBounds_toArray, List.set_cons_zero, List.set_cons_succ, i64_w, i32_w]
                rfl
              refine done_ (done_of HT_.out (by kernel_rfl)) ?_
              try go_wp2
              go_ret
              exact ⟨by first | rfl | (simp [errW_none, errW_some] <;> rfl) | (simp [*, errW_none, errW_some] <;> rfl), by repeat (first | (with_reducible first | exact HB.out | apply below_alloc | apply pw_below_drewN | apply below_drew1 | refine below_set ?_ GE183.out) | exact HB.out)⟩
        case rest =>
          clear HC20
          try clear c1
          try clear q1
          try clear c2
          try clear p2
          try clear c3
          try clear c6
          try clear c6b0
          try clear c6b1
          try clear c10
          try clear c16
          try clear c17
          try clear c18
          try clear q18
          try clear c19
          try clear c19b0
          try clear q19
          try clear c20
          try clear c21
          try clear c22
          try clear c22b0
          try clear c22b1
          try clear c24
          try clear c31
          try clear hcz15_0
          try clear hcz15_1
          try clear hcz15_2
          try clear hcz15_3
          try clear hcz15_4
          try clear hcz15_5
          try clear hcz25_0
          try clear hcz25_1
          try clear hcz25_2
          try clear hcz25_3
          try clear hcz25_4
          try clear hcz25_5
          try clear hcz27_0
          try clear hcz27_1
          try clear hcz27_2
          try clear hcz27_3
          try clear hcz27_4
          try clear hcz27_5
          try clear hfz15_0
          try clear hfz15_1
          try clear hfz15_2
          try clear hfz15_3
          try clear hfz15_4
          try clear hfz15_5
          try clear hfz25_0
          try clear hfz25_1
          try clear hfz25_2
          try clear hfz25_3
          try clear hfz25_4
          try clear hfz25_5
          try clear hfz27_0
          try clear hfz27_1
          try clear hfz27_2
          try clear hfz27_3
          try clear hfz27_4
          try clear hfz27_5
          try clear p2
          try clear q189
          try clear q191
          obtain ⟨kq, HA, HJ19, HO_12, HO_184005, BK183, HB⟩ := hcut
          cases kq with
          | zero => exact absurd HA.out (by simp [trivetlaw15_AnalysisTells.j1])
          | succ kj19 =>
            have H := HA.out
            clear HA
            simp only [trivetlaw15_AnalysisTells.j1] at H
            have HC41 := Aside0.mk H
            clear H
            go_upto_region 12 with (fail)
            go_cut [81] (fun v81 wc => ∃ (kq : Nat) (x81_40 : Bool), v81 = .bool x81_40 ∧ Aside0 (trivetlaw15_AnalysisTells.j2 kq l0 a2 a3 t173 t184 t185 x81_40 = some r) ∧ Aside0 (kq ≤ kj19) ∧ Aside0 (Kd.R (Kd.int .i64) 2 wc w.heap.size (fun k_ => some k_ ≠ ((.slice Ao16 t179.length co16) : Value).ownBlock) v186 t184) ∧ Aside0 (Kd.R (Kd.int .i64) 2 wc w.heap.size (fun k_ => some k_ ≠ (v186 : Value).ownBlock) (.slice Ao16 t179.length co16) t179) ∧ Aside0 (wc.heap[gb183]? = some (.cells #[.int .i64 t174, .int .i64 t175, .int .i64 t176, .int .i64 t177, .int .i64 t178, (.slice Ao16 t179.length co16)] 38 (0, 0))) ∧ Aside0 (Below w.heap.size w wc))
            case first =>
              have H := HC41.out
              clear HC41
              by_cases c42 : t188 = true
              · subst c42
                have H1 : (if a2 < 0 then (trivetlaw15_AnalysisTells.j2 kj19 l0 a2 a3 t173 t184 t185 true) else (if a2 > 10000000000000 then (trivetlaw15_AnalysisTells.j2 kj19 l0 a2 a3 t173 t184 t185 true) else (if a3 < (-1000000000000000) then (trivetlaw15_AnalysisTells.j2 kj19 l0 a2 a3 t173 t184 t185 true) else (trivetlaw15_AnalysisTells.j2 kj19 l0 a2 a3 t173 t184 t185 (decide (a3 > 1000000000000000)))))) = some r := by rw [if_pos rfl] at H; exact H
                clear H
                have H := H1
                clear H1
                by_cases c43 : a2 < 0
                · rw [if_pos c43] at H
                  have c43b0 : decide (a2 < 0) = true := decide_eq_true c43
                  clear c43
                  (first | rw [c43b0] | (simp only [i64_w, i32_w]; rw [c43b0]) | skip)
                  have H' := Aside0.mk H
                  clear H
                  go_wp2
                  go_meet
                  case rel => exact ⟨_, (true), (by first | rfl | (simp; done) | (simp [*]; done)), H', ⟨by have := HJ10.out; have := HJ19.out; first | omega | exact Nat.le_refl _⟩, ⟨by (with_reducible repeat (first | apply Kd.R_alloc | apply Kd.R_drewN | apply Kd.R_drew)); exact HO_12.out⟩, ⟨by (with_reducible repeat (first | apply Kd.R_alloc | apply Kd.R_drewN | apply Kd.R_drew)); exact HO_184005.out⟩, ⟨by (with_reducible repeat (first | refine blk_drewN ?_ _ | refine blk_drew ?_ | refine blk_alloc ?_ _)); exact BK183.out⟩, ⟨by repeat (first | (with_reducible first | exact HB.out | apply below_alloc | apply pw_below_drewN | apply below_drew1 | refine below_set ?_ GE183.out) | exact HB.out)⟩⟩
                · rw [if_neg c43] at H
                  have c43b0 : decide (a2 < 0) = false := decide_eq_false c43
                  clear c43
                  (first | rw [c43b0] | (simp only [i64_w, i32_w]; rw [c43b0]) | skip)
                  by_cases c44 : a2 > 10000000000000
                  · rw [if_pos c44] at H
                    have c44b0 : decide (10000000000000 < a2) = true := decide_eq_true c44
                    clear c44
                    have H' := Aside0.mk H
                    clear H
                    go_wp2
                    go_meet
                    case rel => exact ⟨_, (true), (by first | rfl | (simp; done) | (simp [*]; done)), H', ⟨by have := HJ10.out; have := HJ19.out; first | omega | exact Nat.le_refl _⟩, ⟨by (with_reducible repeat (first | apply Kd.R_alloc | apply Kd.R_drewN | apply Kd.R_drew)); exact HO_12.out⟩, ⟨by (with_reducible repeat (first | apply Kd.R_alloc | apply Kd.R_drewN | apply Kd.R_drew)); exact HO_184005.out⟩, ⟨by (with_reducible repeat (first | refine blk_drewN ?_ _ | refine blk_drew ?_ | refine blk_alloc ?_ _)); exact BK183.out⟩, ⟨by repeat (first | (with_reducible first | exact HB.out | apply below_alloc | apply pw_below_drewN | apply below_drew1 | refine below_set ?_ GE183.out) | exact HB.out)⟩⟩
                  · rw [if_neg c44] at H
                    have c44b0 : decide (10000000000000 < a2) = false := decide_eq_false c44
                    clear c44
                    by_cases c45 : a3 < (-1000000000000000)
                    · rw [if_pos c45] at H
                      have c45b0 : decide (a3 < (-1000000000000000)) = true := decide_eq_true c45
                      clear c45
                      have H' := Aside0.mk H
                      clear H
                      go_wp2
                      go_meet
                      case rel => exact ⟨_, (true), (by first | rfl | (simp; done) | (simp [*]; done)), H', ⟨by have := HJ10.out; have := HJ19.out; first | omega | exact Nat.le_refl _⟩, ⟨by (with_reducible repeat (first | apply Kd.R_alloc | apply Kd.R_drewN | apply Kd.R_drew)); exact HO_12.out⟩, ⟨by (with_reducible repeat (first | apply Kd.R_alloc | apply Kd.R_drewN | apply Kd.R_drew)); exact HO_184005.out⟩, ⟨by (with_reducible repeat (first | refine blk_drewN ?_ _ | refine blk_drew ?_ | refine blk_alloc ?_ _)); exact BK183.out⟩, ⟨by repeat (first | (with_reducible first | exact HB.out | apply below_alloc | apply pw_below_drewN | apply below_drew1 | refine below_set ?_ GE183.out) | exact HB.out)⟩⟩
                    · rw [if_neg c45] at H
                      have c45b0 : decide (a3 < (-1000000000000000)) = false := decide_eq_false c45
                      clear c45
                      have H' := Aside0.mk H
                      clear H
                      go_wp2
                      go_meet
                      case rel => exact ⟨_, (decide (a3 > 1000000000000000)), (by first | rfl | (simp; done) | (simp [*]; done)), H', ⟨by have := HJ10.out; have := HJ19.out; first | omega | exact Nat.le_refl _⟩, ⟨by (with_reducible repeat (first | apply Kd.R_alloc | apply Kd.R_drewN | apply Kd.R_drew)); exact HO_12.out⟩, ⟨by (with_reducible repeat (first | apply Kd.R_alloc | apply Kd.R_drewN | apply Kd.R_drew)); exact HO_184005.out⟩, ⟨by (with_reducible repeat (first | refine blk_drewN ?_ _ | refine blk_drew ?_ | refine blk_alloc ?_ _)); exact BK183.out⟩, ⟨by repeat (first | (with_reducible first | exact HB.out | apply below_alloc | apply pw_below_drewN | apply below_drew1 | refine below_set ?_ GE183.out) | exact HB.out)⟩⟩
              · replace c42 := Bool.eq_false_iff.mpr c42
                subst c42
                have H1 : (trivetlaw15_AnalysisTells.j2 kj19 l0 a2 a3 t173 t184 t185 true) = some r := by rw [if_neg (show ¬ (false = true) by decide)] at H; exact H
                clear H
                have H := H1
                clear H1
                have H' := Aside0.mk H
                clear H
                go_wp2
                go_meet
                case rel => exact ⟨_, (true), (by first | rfl | (simp; done) | (simp [*]; done)), H', ⟨by have := HJ10.out; have := HJ19.out; first | omega | exact Nat.le_refl _⟩, ⟨by (with_reducible repeat (first | apply Kd.R_alloc | apply Kd.R_drewN | apply Kd.R_drew)); exact HO_12.out⟩, ⟨by (with_reducible repeat (first | apply Kd.R_alloc | apply Kd.R_drewN | apply Kd.R_drew)); exact HO_184005.out⟩, ⟨by (with_reducible repeat (first | refine blk_drewN ?_ _ | refine blk_drew ?_ | refine blk_alloc ?_ _)); exact BK183.out⟩, ⟨by repeat (first | (with_reducible first | exact HB.out | apply below_alloc | apply pw_below_drewN | apply below_drew1 | refine below_set ?_ GE183.out) | exact HB.out)⟩⟩
            case rest =>
              clear HC41
              try clear c1
              try clear q1
              try clear c2
              try clear p2
              try clear c3
              try clear c4
              try clear c6
              try clear c6b0
              try clear c6b1
              try clear c10
              try clear c16
              try clear c17
              try clear c18
              try clear q18
              try clear c19
              try clear c19b0
              try clear q19
              try clear c20
              try clear c21
              try clear c22
              try clear c22b0
              try clear c22b1
              try clear c24
              try clear c31
              try clear c42
              try clear c43
              try clear c43b0
              try clear c44
              try clear c44b0
              try clear c45
              try clear c45b0
              try clear hcz15_0
              try clear hcz15_1
              try clear hcz15_2
              try clear hcz15_3
              try clear hcz15_4
              try clear hcz15_5
              try clear hcz25_0
              try clear hcz25_1
              try clear hcz25_2
              try clear hcz25_3
              try clear hcz25_4
              try clear hcz25_5
              try clear hcz27_0
              try clear hcz27_1
              try clear hcz27_2
              try clear hcz27_3
              try clear hcz27_4
              try clear hcz27_5
              try clear hfz15_0
              try clear hfz15_1
              try clear hfz15_2
              try clear hfz15_3
              try clear hfz15_4
              try clear hfz15_5
              try clear hfz25_0
              try clear hfz25_1
              try clear hfz25_2
              try clear hfz25_3
              try clear hfz25_4
              try clear hfz25_5
              try clear hfz27_0
              try clear hfz27_1
              try clear hfz27_2
              try clear hfz27_3
              try clear hfz27_4
              try clear hfz27_5
              try clear p2
              try clear q1
              try clear q18
              try clear q189
              try clear q19
              try clear q191
              obtain ⟨kq, x81_40, rfl, HA, HJ40, HO_12, HO_184005, BK183, HB⟩ := hcut
              cases kq with
              | zero => exact absurd HA.out (by simp [trivetlaw15_AnalysisTells.j2])
              | succ kj40 =>
                have H := HA.out
                clear HA
                simp only [trivetlaw15_AnalysisTells.j2] at H
                by_cases c46 : x81_40 = true
                · subst c46
                  have H1 : (if t173 = true then (if t185.isNone = true then (some false) else (if (t185.getD 0) = 1 then (some ((t184.length : Int) == 0)) else (some false))) else (some false)) = some r := by rw [if_pos rfl] at H; exact H
                  clear H
                  have H := H1
                  clear H1
                  by_cases c47 : t173 = true
                  · subst c47
                    have H1 : (if t185.isNone = true then (some false) else (if (t185.getD 0) = 1 then (some ((t184.length : Int) == 0)) else (some false))) = some r := by rw [if_pos rfl] at H; exact H
                    clear H
                    have H := H1
                    clear H1
                    rcases t185 with _ | q201
                    · have H1 : (some false) = some r := by rw [if_pos (show (none : Option Int).isNone = true by rfl)] at H; exact H
                      clear H
                      have H := H1
                      clear H1
                      try simp only [errW_none, errW_some]
                      obtain rfl := Option.some.inj H
                      go_wp2
                      go_ret
                      exact ⟨by first | rfl | (simp [errW_none, errW_some] <;> rfl) | (simp [*, errW_none, errW_some] <;> rfl), by repeat (first | (with_reducible first | exact HB.out | apply below_alloc | apply pw_below_drewN | apply below_drew1 | refine below_set ?_ GE183.out) | exact HB.out)⟩
                    · have H1 : (if q201 = 1 then (some ((t184.length : Int) == 0)) else (some false)) = some r := by rw [if_neg (show ¬ (some q201).isNone = true by simp)] at H; exact H
                      clear H
                      have H := H1
                      clear H1
                      try simp only [errW_none, errW_some]
                      by_cases c48 : q201 = 1
                      · rw [if_pos c48] at H
                        have c48b0 : (q201 == 1) = true := beq_iff_eq.mpr c48
                        have c48b1 : (q201 != 1) = false := bne_eq_false_iff_eq.mpr c48
                        clear c48
                        obtain rfl := Option.some.inj H
                        obtain ⟨Ao49, co49, eo49⟩ := Kd.R_slice HO_12.out
                        subst eo49
                        go_wp2
                        go_ret
                        exact ⟨by first | rfl | (simp [errW_none, errW_some] <;> rfl) | (simp [*, errW_none, errW_some] <;> rfl), by repeat (first | (with_reducible first | exact HB.out | apply below_alloc | apply pw_below_drewN | apply below_drew1 | refine below_set ?_ GE183.out) | exact HB.out)⟩
                      · rw [if_neg c48] at H
                        have c48b0 : (q201 == 1) = false := beq_eq_false_iff_ne.mpr c48
                        have c48b1 : (q201 != 1) = true := bne_iff_ne.mpr c48
                        obtain rfl := Option.some.inj H
                        go_wp2
                        go_ret
                        exact ⟨by first | rfl | (simp [errW_none, errW_some] <;> rfl) | (simp [*, errW_none, errW_some] <;> rfl), by repeat (first | (with_reducible first | exact HB.out | apply below_alloc | apply pw_below_drewN | apply below_drew1 | refine below_set ?_ GE183.out) | exact HB.out)⟩
                  · replace c47 := Bool.eq_false_iff.mpr c47
                    subst c47
                    have H1 : (some false) = some r := by rw [if_neg (show ¬ (false = true) by decide)] at H; exact H
                    clear H
                    have H := H1
                    clear H1
                    obtain rfl := Option.some.inj H
                    go_wp2
                    go_ret
                    exact ⟨by first | rfl | (simp [errW_none, errW_some] <;> rfl) | (simp [*, errW_none, errW_some] <;> rfl), by repeat (first | (with_reducible first | exact HB.out | apply below_alloc | apply pw_below_drewN | apply below_drew1 | refine below_set ?_ GE183.out) | exact HB.out)⟩
                · replace c46 := Bool.eq_false_iff.mpr c46
                  subst c46
                  have H1 : (if t173 = true then (if t185.isNone = true then ((trivetref15_Balances.f kj40 l0 a2 a3).bind fun t203 => ((trivetlaw14_Same.f kj40 t184 t203).bind fun t206 => (some t206))) else (some false)) else (some false)) = some r := by rw [if_neg (show ¬ (false = true) by decide)] at H; exact H
                  clear H
                  have H := H1
                  clear H1
                  by_cases c50 : t173 = true
                  · subst c50
                    have H1 : (if t185.isNone = true then ((trivetref15_Balances.f kj40 l0 a2 a3).bind fun t203 => ((trivetlaw14_Same.f kj40 t184 t203).bind fun t206 => (some t206))) else (some false)) = some r := by rw [if_pos rfl] at H; exact H
                    clear H
                    have H := H1
                    clear H1
                    rcases t185 with _ | q202
                    · have H1 : ((trivetref15_Balances.f kj40 l0 a2 a3).bind fun t203 => ((trivetlaw14_Same.f kj40 t184 t203).bind fun t206 => (some t206))) = some r := by rw [if_pos (show (none : Option Int).isNone = true by rfl)] at H; exact H
                      clear H
                      have H := H1
                      clear H1
                      try simp only [errW_none, errW_some]
                      replace H := Option.bind_eq_some_iff.mp H
                      obtain ⟨t203, A510, H⟩ := H
                      replace H : ((trivetlaw14_Same.f kj40 t184 t203).bind fun t206 => (some t206)) = some r := H
                      have A51 := Aside0.mk A510
                      clear A510
                      replace H := Option.bind_eq_some_iff.mp H
                      obtain ⟨t206, A520, H⟩ := H
                      replace H : (some t206) = some r := H
                      have A52 := Aside0.mk A520
                      clear A520
                      obtain rfl := Option.some.inj H
                      go_wp2_with (first | (go_at_call 23; (with_reducible refine (trivetref15_Balances.calls kj40 _ _ l0 a2 a3 t203 _ ?side1 ?side2 A51.out).mono ?_); (case side1 => repeat (first | exact (Kd.C_below HR0.out HB.out) | (with_reducible refine Kd.C_alloc ?_ _) | (with_reducible refine Kd.C_drewN ?_ _) | (with_reducible refine Kd.C_drew ?_))); (case side2 => exact HC0.out); rintro e w53 ⟨v204, rfl, ho0, hb⟩; have n0_ := Aside0.mk (Kd.R_elder' (by (with_reducible repeat (first | apply Kd.R_alloc | apply Kd.R_drewN | apply Kd.R_drew)); exact HO_12.out) (Kd.R_base ho0) hb); have n1_ := Aside0.mk (Kd.R_elder' (by (with_reducible repeat (first | apply Kd.R_alloc | apply Kd.R_drewN | apply Kd.R_drew)); exact HO_184005.out) (Kd.R_base ho0) hb); have n2_ := Aside0.mk (Kd.R_lower (Kd.R_new' (Kd.R_new' ho0 (Kd.R_lt (by (with_reducible repeat (first | apply Kd.R_alloc | apply Kd.R_drewN | apply Kd.R_drew)); exact HO_12.out))) (Kd.R_lt (by (with_reducible repeat (first | apply Kd.R_alloc | apply Kd.R_drewN | apply Kd.R_drew)); exact HO_184005.out))) (below_size (by repeat (first | (with_reducible first | exact HB.out | apply below_alloc | apply pw_below_drewN | apply below_drew1 | refine below_set ?_ GE183.out) | exact HB.out)))); have n3_ := Aside0.mk (blk_below (g := gb183) (o := .cells #[.int .i64 t174, .int .i64 t175, .int .i64 t176, .int .i64 t177, .int .i64 t178, .slice Ao16 t179.length co16] 38 (0, 0)) (by (with_reducible repeat (first | refine blk_drewN ?_ _ | refine blk_drew ?_ | refine blk_alloc ?_ _)); exact BK183.out) hb); have n4_ := Aside0.mk (below_step (by repeat (first | (with_reducible first | exact HB.out | apply below_alloc | apply pw_below_drewN | apply below_drew1 | refine below_set ?_ GE183.out) | exact HB.out)) hb); clear HO_12; clear HO_184005; clear BK183; clear HB; have HO_12 := n0_; have HO_184005 := n1_; have HO205 := n2_; have BK183 := n3_; have HB := n4_; clear n0_ n1_ n2_ n3_ n4_; (try clear hb); (try clear hb2); (try clear hk); (try clear hi); (try clear ho0); obtain ⟨Ao54, co54, eo54⟩ := Kd.R_slice HO_12.out; subst eo54; obtain ⟨Ao55, co55, eo55⟩ := Kd.R_slice HO205.out; subst eo55) | (go_at_call 18; (with_reducible refine (trivetlaw14_Same.calls kj40 _ _ t184 _ _ t203 t206 _ ?side1 ?side2 ?side3 ?side4 A52.out).mono ?_); (case side1 => repeat (first | exact (Kd.R_reads' HO_12.out).2.2 | (with_reducible refine Kd.C_alloc ?_ _) | (with_reducible refine Kd.C_drewN ?_ _) | (with_reducible refine Kd.C_drew ?_))); (case side2 => exact (Kd.R_reads' HO_12.out).2.1); (case side3 => repeat (first | exact (Kd.R_reads' HO205.out).2.2 | (with_reducible refine Kd.C_alloc ?_ _) | (with_reducible refine Kd.C_drewN ?_ _) | (with_reducible refine Kd.C_drew ?_))); (case side4 => exact (Kd.R_reads' HO205.out).2.1); rintro e w' ⟨rfl, ⟨nd, rfl⟩⟩))
                      go_ret
                      exact ⟨by first | rfl | (simp [errW_none, errW_some] <;> rfl) | (simp [*, errW_none, errW_some] <;> rfl), by repeat (first | (with_reducible first | exact HB.out | apply below_alloc | apply pw_below_drewN | apply below_drew1 | refine below_set ?_ GE183.out) | exact HB.out)⟩
                    · have H1 : (some false) = some r := by rw [if_neg (show ¬ (some q202).isNone = true by simp)] at H; exact H
                      clear H
                      have H := H1
                      clear H1
                      try simp only [errW_none, errW_some]
                      obtain rfl := Option.some.inj H
                      go_wp2
                      go_ret
                      exact ⟨by first | rfl | (simp [errW_none, errW_some] <;> rfl) | (simp [*, errW_none, errW_some] <;> rfl), by repeat (first | (with_reducible first | exact HB.out | apply below_alloc | apply pw_below_drewN | apply below_drew1 | refine below_set ?_ GE183.out) | exact HB.out)⟩
                  · replace c50 := Bool.eq_false_iff.mpr c50
                    subst c50
                    have H1 : (some false) = some r := by rw [if_neg (show ¬ (false = true) by decide)] at H; exact H
                    clear H
                    have H := H1
                    clear H1
                    obtain rfl := Option.some.inj H
                    go_wp2
                    go_ret
                    exact ⟨by first | rfl | (simp [errW_none, errW_some] <;> rfl) | (simp [*, errW_none, errW_some] <;> rfl), by repeat (first | (with_reducible first | exact HB.out | apply below_alloc | apply pw_below_drewN | apply below_drew1 | refine below_set ?_ GE183.out) | exact HB.out)⟩

/-- THE ONE PURE STATEMENT of trivetlaw15_AnalysisTells: yours. -/
def trivetlaw15_AnalysisTells.Pure : Prop := ∀ (l0 : List Int) (a1 : Int) (a2 : Int) (a3 : Int), l0.length ≤ maxLen → l0.length * 8 ≤ 140737488351232 → (∀ x ∈ l0, (Lit.int .i64 x).wf = true) → (Lit.int .i64 a1).wf = true → (Lit.int .i64 a2).wf = true → (Lit.int .i64 a3).wf = true → ∃ k, trivetlaw15_AnalysisTells.f k l0 a1 a2 a3 = some true
theorem trivetlaw15_AnalysisTells.walk (P : trivetlaw15_AnalysisTells.Pure) (a0 : Option Addr) (len0 cap0 : Nat) (z0 : List Int) (a1 : Int) (a2 : Int) (a3 : Int) (w : World) (w0 : (a0 = none ∧ len0 = 0 ∧ cap0 = 0 ∧ z0 = []) ∨ ∃ x, a0 = some x ∧ len0 ≤ cap0 ∧ cap0 ≤ maxLen ∧ z0.length = cap0 ∧ (∀ i, i < z0.length → w.cell? (x.add i) = some (.int .i64 (z0.getD i 0))) ∧ ∀ n ∈ z0, (Lit.int .i64 n).wf = true) (y0 : len0 * 8 ≤ 140737488351232) (w1 : (Lit.int .i64 a1).wf = true) (w2 : (Lit.int .i64 a2).wf = true) (w3 : (Lit.int .i64 a3).wf = true) :
    Calls Try.prog 10 #[.slice a0 len0 cap0, .int .i64 a1, .int .i64 a2, .int .i64 a3] w fun e w' => e = .returned (.bool true) ∧ Below w.heap.size w w' := by
  obtain ⟨l0, rfl, hr0, hm0, hw0, hc0⟩ := ReadsInt.ofRowC w0
  obtain ⟨k, h⟩ := P l0 a1 a2 a3 hm0 y0 hw0 w1 w2 w3
  refine (trivetlaw15_AnalysisTells.calls k _ _ l0 a1 a2 a3 true w (Kd.C_of_reads (d := (0 : Int)) (h1 := fun _ => rfl) hr0) hc0 h).mono ?_
  rintro e w' ⟨rfl, hd⟩
  exact ⟨rfl, hd⟩

end Go.Proofs.Ytmklhkaaaegmgaa.PAnalysisTells
