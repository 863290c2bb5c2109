-- written for this claim by a program of this session (wip/inject.py), which drives the kit's print
import Derived.Test.YtmklhkaaaegmgaaPAnalysisTellsx0
import Derived.Test.YtmklhkaaaegmgaaPAnalysisTellsx3
namespace Go.Proofs.Ytmklhkaaaegmgaa.PAnalysisTells
open Go.RowKit Go.Proofs.YtmklhkaaaegmgaaW.PrintWords Go.Proofs.YtmklhkaaaegmgaaW.PrintLast Go.Proofs.YtmklhkaaaegmgaaW.PrintMore
attribute [local go_sem] max2_int min2_int max_two min_two max_three min_three max_four min_four   -- for this text's walks alone
set_option linter.unusedVariables false
set_option linter.unusedSimpArgs false

attribute [local go_sem high] errEqI errNeI errEqL errNeL errEqR errNeR
/-! ### trivetref15_Analyze: function 22 -/
mutual
def trivetref15_Analyze.l0 : Nat → List Int → Int → Int → Int → Int → Int → Int → Int → Option (Int × Int × Int × Int × Int × List Int)
  | 0, _, _, _, _, _, _, _, _ => none
  | k + 1, x0, x1, x6, x165000, x165001, x165002, x165003, x165004 => if x6 < 12 then (if 0 ≤ x6 then (if x6 < (x0.length : Int) then (trivetref15_Analyze.l0 k x0 x1 (wrap64 (x6 + 1)) (wrap64 (x165000 + (rd x0 x6))) x165001 x165002 x165003 x165004) else (none)) else (none)) else (if (Int.tmod x165000 12) > 0 then (trivetref15_Analyze.j1 k x0 x1 x165000 (wrap64 ((wrap64 (Int.tdiv x165000 12)) + 1)) x165002 x165003 x165004) else (trivetref15_Analyze.j1 k x0 x1 x165000 (wrap64 (Int.tdiv x165000 12)) x165002 x165003 x165004))
def trivetref15_Analyze.j1 : Nat → List Int → Int → Int → Int → Int → Int → Int → Option (Int × Int × Int × Int × Int × List Int)
  | 0, _, _, _, _, _, _, _ => none
  | k + 1, x0, x1, x165000, x165001, x165002, x165003, x165004 => if x1 < (wrap64 (Int.tdiv x165000 6)) then (trivetref15_Analyze.j2 k x0 x165000 x165001 x1 x165003 x165004) else (trivetref15_Analyze.j2 k x0 x165000 x165001 (wrap64 (Int.tdiv x165000 6)) x165003 x165004)
def trivetref15_Analyze.j2 : Nat → List Int → Int → Int → Int → Int → Int → Option (Int × Int × Int × Int × Int × List Int)
  | 0, _, _, _, _, _, _ => none
  | k + 1, x0, x165000, x165001, x165002, x165003, x165004 => (trivetref15_Balances.f k x0 x165001 0).bind fun t166 => (trivetref15_Analyze.l1 k x0 t166 0 x165000 x165001 x165002 x165003 x165004)
def trivetref15_Analyze.l1 : Nat → List Int → List Int → Int → Int → Int → Int → Int → Int → Option (Int × Int × Int × Int × Int × List Int)
  | 0, _, _, _, _, _, _, _, _ => none
  | k + 1, x0, x7, x8, x165000, x165001, x165002, x165003, x165004 => if x8 < 12 then (if 0 ≤ x8 then (if x8 < (x7.length : Int) then (if x8 = 0 then (trivetref15_Analyze.l1 k x0 x7 (wrap64 (x8 + 1)) x165000 x165001 x165002 (wrap64 (x165002 - (rd x7 x8))) x8) else (if (wrap64 (x165002 - (rd x7 x8))) > x165003 then (trivetref15_Analyze.l1 k x0 x7 (wrap64 (x8 + 1)) x165000 x165001 x165002 (wrap64 (x165002 - (rd x7 x8))) x8) else (trivetref15_Analyze.l1 k x0 x7 (wrap64 (x8 + 1)) x165000 x165001 x165002 x165003 x165004))) else (none)) else (none)) else ((trivetref15_Balances.f k x0 x165001 x165003).bind fun t170 => (some (x165000, x165001, x165002, x165003, x165004, t170)))
end
def trivetref15_Analyze.f (k : Nat) (l0 : List Int) (a1 : Int) : Option (Int × Int × Int × Int × Int × List Int) := trivetref15_Analyze.l0 k l0 a1 0 0 0 0 0 0
theorem trivetref15_Analyze.mono_l : ∀ k, (∀ y0 y1 y2 y3 y4 y5 y6 y7, LeO (trivetref15_Analyze.l0 k y0 y1 y2 y3 y4 y5 y6 y7) (trivetref15_Analyze.l0 (k + 1) y0 y1 y2 y3 y4 y5 y6 y7)) ∧ (∀ y0 y1 y2 y3 y4 y5 y6, LeO (trivetref15_Analyze.j1 k y0 y1 y2 y3 y4 y5 y6) (trivetref15_Analyze.j1 (k + 1) y0 y1 y2 y3 y4 y5 y6)) ∧ (∀ y0 y1 y2 y3 y4 y5, LeO (trivetref15_Analyze.j2 k y0 y1 y2 y3 y4 y5) (trivetref15_Analyze.j2 (k + 1) y0 y1 y2 y3 y4 y5)) ∧ (∀ y0 y1 y2 y3 y4 y5 y6 y7, LeO (trivetref15_Analyze.l1 k y0 y1 y2 y3 y4 y5 y6 y7) (trivetref15_Analyze.l1 (k + 1) y0 y1 y2 y3 y4 y5 y6 y7))
  | 0 => ⟨fun _ _ _ _ _ _ _ _ r h => by simp [trivetref15_Analyze.l0] at h, fun _ _ _ _ _ _ _ r h => by simp [trivetref15_Analyze.j1] at h, fun _ _ _ _ _ _ r h => by simp [trivetref15_Analyze.j2] at h, fun _ _ _ _ _ _ _ _ r h => by simp [trivetref15_Analyze.l1] at h⟩
  | k + 1 => by
    obtain ⟨ih0, ih1, ih2, ih3⟩ := trivetref15_Analyze.mono_l k
    refine ⟨?_, ?_, ?_, ?_⟩
    · intro y0 y1 y2 y3 y4 y5 y6 y7
      unfold trivetref15_Analyze.l0
      repeat' first
      | (with_reducible exact ih0 _ _ _ _ _ _ _ _)
      | (with_reducible exact ih1 _ _ _ _ _ _ _)
      | (with_reducible exact ih2 _ _ _ _ _ _)
      | (with_reducible exact ih3 _ _ _ _ _ _ _ _)
      | (with_reducible exact trivetref15_Balances.mono _ _ _ _)
      | (with_reducible exact LeO.refl _)
      | (with_reducible exact LeO.none _)
      | (with_reducible refine LeO.ite ?_ ?_)
      | (with_reducible refine LeO.bind ?_ (fun _ => ?_))
      | exact ih0 _ _ _ _ _ _ _ _
      | exact ih1 _ _ _ _ _ _ _
      | exact ih2 _ _ _ _ _ _
      | exact ih3 _ _ _ _ _ _ _ _
      | exact trivetref15_Balances.mono _ _ _ _
      | exact LeO.none _
      | refine LeO.ite ?_ ?_
      | refine LeO.bind ?_ (fun _ => ?_)
    · intro y0 y1 y2 y3 y4 y5 y6
      unfold trivetref15_Analyze.j1
      repeat' first
      | (with_reducible exact ih0 _ _ _ _ _ _ _ _)
      | (with_reducible exact ih1 _ _ _ _ _ _ _)
      | (with_reducible exact ih2 _ _ _ _ _ _)
      | (with_reducible exact ih3 _ _ _ _ _ _ _ _)
      | (with_reducible exact trivetref15_Balances.mono _ _ _ _)
      | (with_reducible exact LeO.refl _)
      | (with_reducible exact LeO.none _)
      | (with_reducible refine LeO.ite ?_ ?_)
      | (with_reducible refine LeO.bind ?_ (fun _ => ?_))
      | exact ih0 _ _ _ _ _ _ _ _
      | exact ih1 _ _ _ _ _ _ _
      | exact ih2 _ _ _ _ _ _
      | exact ih3 _ _ _ _ _ _ _ _
      | exact trivetref15_Balances.mono _ _ _ _
      | exact LeO.none _
      | refine LeO.ite ?_ ?_
      | refine LeO.bind ?_ (fun _ => ?_)
    · intro y0 y1 y2 y3 y4 y5
      unfold trivetref15_Analyze.j2
      repeat' first
      | (with_reducible exact ih0 _ _ _ _ _ _ _ _)
      | (with_reducible exact ih1 _ _ _ _ _ _ _)
      | (with_reducible exact ih2 _ _ _ _ _ _)
      | (with_reducible exact ih3 _ _ _ _ _ _ _ _)
      | (with_reducible exact trivetref15_Balances.mono _ _ _ _)
      | (with_reducible exact LeO.refl _)
      | (with_reducible exact LeO.none _)
      | (with_reducible refine LeO.ite ?_ ?_)
      | (with_reducible refine LeO.bind ?_ (fun _ => ?_))
      | exact ih0 _ _ _ _ _ _ _ _
      | exact ih1 _ _ _ _ _ _ _
      | exact ih2 _ _ _ _ _ _
      | exact ih3 _ _ _ _ _ _ _ _
      | exact trivetref15_Balances.mono _ _ _ _
      | exact LeO.none _
      | refine LeO.ite ?_ ?_
      | refine LeO.bind ?_ (fun _ => ?_)
    · intro y0 y1 y2 y3 y4 y5 y6 y7
      unfold trivetref15_Analyze.l1
      repeat' first
      | (with_reducible exact ih0 _ _ _ _ _ _ _ _)
      | (with_reducible exact ih1 _ _ _ _ _ _ _)
      | (with_reducible exact ih2 _ _ _ _ _ _)
      | (with_reducible exact ih3 _ _ _ _ _ _ _ _)
      | (with_reducible exact trivetref15_Balances.mono _ _ _ _)
      | (with_reducible exact LeO.refl _)
      | (with_reducible exact LeO.none _)
      | (with_reducible refine LeO.ite ?_ ?_)
      | (with_reducible refine LeO.bind ?_ (fun _ => ?_))
      | exact ih0 _ _ _ _ _ _ _ _
      | exact ih1 _ _ _ _ _ _ _
      | exact ih2 _ _ _ _ _ _
      | exact ih3 _ _ _ _ _ _ _ _
      | exact trivetref15_Balances.mono _ _ _ _
      | exact LeO.none _
      | refine LeO.ite ?_ ?_
      | refine LeO.bind ?_ (fun _ => ?_)
theorem trivetref15_Analyze.mono : ∀ a0 a1 k, LeO (trivetref15_Analyze.f k a0 a1) (trivetref15_Analyze.f (k + 1) a0 a1) := by
  intro a0 a1 k
  obtain ⟨ih0, ih1, ih2, ih3⟩ := trivetref15_Analyze.mono_l k
  unfold trivetref15_Analyze.f
  repeat' first
      | (with_reducible exact ih0 _ _ _ _ _ _ _ _)
      | (with_reducible exact ih1 _ _ _ _ _ _ _)
      | (with_reducible exact ih2 _ _ _ _ _ _)
      | (with_reducible exact ih3 _ _ _ _ _ _ _ _)
      | (with_reducible exact trivetref15_Balances.mono _ _ _ _)
      | (with_reducible exact LeO.refl _)
      | (with_reducible exact LeO.none _)
      | (with_reducible refine LeO.ite ?_ ?_)
      | (with_reducible refine LeO.bind ?_ (fun _ => ?_))
      | exact ih0 _ _ _ _ _ _ _ _
      | exact ih1 _ _ _ _ _ _ _
      | exact ih2 _ _ _ _ _ _
      | exact ih3 _ _ _ _ _ _ _ _
      | exact trivetref15_Balances.mono _ _ _ _
      | exact LeO.none _
      | refine LeO.ite ?_ ?_
      | refine LeO.bind ?_ (fun _ => ?_)
def trivetref15_Analyze.T5 : Bool × List (List Nat × List Nat) := (true, [([], []), ([0], [0]), ([], []), ([], []), ([2, 3], [2, 3]), ([4], [4]), ([1, 5], [1, 5]), ([0, 1, 2, 3, 4, 5, 6], []), ([7, 6, 0, 1, 2, 3, 4, 5, 6], [6, 7])])
def trivetref15_Analyze.B5 : List Nat := [0, 1, 0, 0, 12, 28, 63, 127, 255]
theorem trivetref15_Analyze.tab5 : rtab .any (opsOf Try.f22 5) = trivetref15_Analyze.T5 := by kernel_rfl
theorem trivetref15_Analyze.bits5 : waitsOk trivetref15_Analyze.T5.2 trivetref15_Analyze.B5 = true := by kernel_rfl
def trivetref15_Analyze.T16 : Bool × List (List Nat × List Nat) := (true, [([], []), ([0], [0]), ([], []), ([], []), ([2, 3], [2, 3]), ([4], [4]), ([1, 5], [1, 5]), ([6, 0, 1, 2, 3, 4, 5, 6], [6])])
def trivetref15_Analyze.B16 : List Nat := [0, 1, 0, 0, 12, 28, 63, 127]
theorem trivetref15_Analyze.tab16 : rtab .any (opsOf Try.f22 16) = trivetref15_Analyze.T16 := by kernel_rfl
theorem trivetref15_Analyze.bits16 : waitsOk trivetref15_Analyze.T16.2 trivetref15_Analyze.B16 = true := by kernel_rfl
set_option maxHeartbeats 8000000 in
set_option maxRecDepth 100000 in
theorem trivetref15_Analyze.calls (k : Nat) (A0 : Option Addr) (c0 : Nat) (l0 : List Int) (a1 : Int) (r1 : Int) (r2 : Int) (r3 : Int) (r4 : Int) (r5 : Int) (r6 : List Int) (w : World) (hr0 : Kd.C (Kd.int .i64) w A0 l0.length l0) (hc0 : l0.length ≤ c0) (h : trivetref15_Analyze.f k l0 a1 = some (r1, r2, r3, r4, r5, r6)) :
    Calls Try.prog 22 #[.slice A0 l0.length c0, .int .i64 a1] w fun e w' => ∃ v5_ : Value, e = .returned (.agg #[.int .i64 r1, .int .i64 r2, .int .i64 r3, .int .i64 r4, .int .i64 r5, v5_]) ∧ Kd.R (Kd.int .i64) 2 w' w.heap.size (fun _ => True) v5_ r6 ∧ Below w.heap.size w w' := by
  have hu38 := Try.underlying38
  have HR0 := Aside0.mk hr0
  have HC0 := Aside0.mk hc0
  clear hr0 hc0
  have HB := Aside0.mk (Below.refl w.heap.size w)
  have H : (trivetref15_Analyze.l0 k l0 a1 0 0 0 0 0 0) = some (r1, r2, r3, r4, r5, r6) := h
  clear h
  have H' := Aside0.mk H
  clear H
  go_enter Try.func22, Try.ntmps22
  go_wp2_with (first | ((with_reducible refine gate_dst (N := 4) rfl ?_); refine box_event ?hg (N := 4) ?hd (cs := #[.int .i64 0, .int .i64 0, .int .i64 0, .int .i64 0, .int .i64 0, .slice none 0 0]) (t := 38) ?hr ?_; (case hd => rfl); (case hg => rfl); (case hr => first | (go_simp; done) | (go_simp; rfl)); intro gb163 hg w3 hbox hb; have n0_ := Aside0.mk (below_step (by repeat (first | (with_reducible first | exact HB.out | apply below_alloc | apply pw_below_drewN | apply below_drew1) | exact HB.out)) hb); have n1_ := Aside0.mk (hbox); have n2_ := Aside0.mk ((by rw [hg]; exact (below_size (by repeat (first | (with_reducible first | exact HB.out | apply below_alloc | apply pw_below_drewN | apply below_drew1) | exact HB.out))) : w.heap.size ≤ gb163)); have n3_ := Aside0.mk ((by rw [hg]; exact (below_size (by repeat (first | (with_reducible first | exact HB.out | apply below_alloc | apply pw_below_drewN | apply below_drew1) | exact HB.out))) : w.heap.size ≤ gb163)); clear HB; have HB := n0_; have BK163 := n1_; have GW163 := n2_; have GE163 := n3_; clear n0_ n1_ n2_ n3_; clear hb hbox hg) | ((with_reducible refine gate_dst (N := 5) rfl ?_); refine box_event ?hg (N := 5) ?hd (cs := #[.int .i64 0, .int .i64 0, .int .i64 0, .int .i64 0, .int .i64 0, .slice none 0 0]) (t := 38) ?hr ?_; (case hd => rfl); (case hg => rfl); (case hr => first | (go_simp; done) | (go_simp; rfl)); intro gb164 hg w4 hbox hb; have n0_ := Aside0.mk (blk_below (g := gb163) (o := .cells #[.int .i64 0, .int .i64 0, .int .i64 0, .int .i64 0, .int .i64 0, .slice none 0 0] 38 (0, 0)) (by (with_reducible repeat (first | refine blk_drewN ?_ _ | refine blk_drew ?_ | refine blk_alloc ?_ _)); exact BK163.out) hb); have n1_ := Aside0.mk (below_step (by repeat (first | (with_reducible first | exact HB.out | apply below_alloc | apply pw_below_drewN | apply below_drew1 | refine below_set ?_ GE163.out) | exact HB.out)) hb); have n2_ := Aside0.mk (hbox); have n3_ := Aside0.mk ((by rw [hg]; exact (below_size (by repeat (first | (with_reducible first | exact HB.out | apply below_alloc | apply pw_below_drewN | apply below_drew1 | refine below_set ?_ GE163.out) | exact HB.out))) : w.heap.size ≤ gb164)); have n4_ := Aside0.mk ((by rw [hg]; exact (below_size (by repeat (first | (with_reducible first | exact HB.out | apply below_alloc | apply pw_below_drewN | apply below_drew1 | refine below_set ?_ GE163.out) | exact HB.out))) : w.heap.size ≤ gb164)); have n5_ := Aside0.mk ((by rw [hg]; exact Nat.ne_of_lt (blk_lt (g := gb163) (o := .cells #[.int .i64 0, .int .i64 0, .int .i64 0, .int .i64 0, .int .i64 0, .slice none 0 0] 38 (0, 0)) (by (with_reducible repeat (first | refine blk_drewN ?_ _ | refine blk_drew ?_ | refine blk_alloc ?_ _)); exact BK163.out)) : gb163 ≠ gb164)); have n6_ := Aside0.mk ((by rw [hg]; exact Nat.ne_of_gt (blk_lt (g := gb163) (o := .cells #[.int .i64 0, .int .i64 0, .int .i64 0, .int .i64 0, .int .i64 0, .slice none 0 0] 38 (0, 0)) (by (with_reducible repeat (first | refine blk_drewN ?_ _ | refine blk_drew ?_ | refine blk_alloc ?_ _)); exact BK163.out)) : gb164 ≠ gb163)); clear BK163; clear HB; have BK163 := n0_; have HB := n1_; have BK164 := n2_; have GW164 := n3_; have GE164 := n4_; have NB163_164 := n5_; have NB164_163 := n6_; clear n0_ n1_ n2_ n3_ n4_ n5_ n6_; clear hb hbox hg))
  go_loopg [6] k (fun kq v6 w' => ∃ (x6_1 : Int) (x165000_1 : Int), v6 = .int .i64 x6_1 ∧ Aside0 (trivetref15_Analyze.l0 kq l0 a1 x6_1 x165000_1 0 0 0 0 = some (r1, r2, r3, r4, r5, r6)) ∧ Aside0 (kq ≤ k) ∧ Aside0 (w'.heap[gb163]? = some (.cells #[.int .i64 0, .int .i64 0, .int .i64 0, .int .i64 0, .int .i64 0, (.slice none 0 0)] 38 (0, 0))) ∧ Aside0 (w'.heap[gb164]? = some (.cells #[.int .i64 x165000_1, .int .i64 0, .int .i64 0, .int .i64 0, .int .i64 0, (.slice none 0 0)] 38 (0, 0))) ∧ Aside0 (Below w.heap.size w w'))
  case atStart => exact ⟨(0), (0), (by first | rfl | (simp; done) | (simp [*]; done)), H', ⟨Nat.le_refl _⟩, ⟨by (with_reducible repeat (first | refine blk_drewN ?_ _ | refine blk_drew ?_ | refine blk_alloc ?_ _)); exact BK163.out⟩, ⟨by (with_reducible repeat (first | refine blk_drewN ?_ _ | refine blk_drew ?_ | refine blk_alloc ?_ _)); exact BK164.out⟩, ⟨by repeat (first | (with_reducible first | exact HB.out | apply below_alloc | apply pw_below_drewN | apply below_drew1 | refine below_set ?_ GE163.out | refine below_set ?_ GE164.out) | exact HB.out)⟩⟩
  case round =>
    clear H'
    try clear c2
    try clear p2
    obtain ⟨x6_1, x165000_1, rfl, HA, HK1, BK163, BK164, HB⟩ := hrel
    cases gk with
    | zero => exact absurd HA.out (by simp [trivetref15_Analyze.l0])
    | succ k1 =>
      have H := HA.out
      clear HA
      simp only [trivetref15_Analyze.l0] at H
      by_cases c5 : x6_1 < 12
      · rw [if_pos c5] at H
        have c5b0 : decide (x6_1 < 12) = true := decide_eq_true c5
        clear c5
        by_cases c6 : 0 ≤ x6_1
        · rw [if_pos c6] at H
          have c6b0 : decide (0 ≤ x6_1) = true := decide_eq_true c6
          clear c6
          by_cases c7 : x6_1 < (l0.length : Int)
          · rw [if_pos c7] at H
            have c7b0 : decide (x6_1 < (l0.length : Int)) = true := decide_eq_true c7
            clear c7
            have H' := Aside0.mk H
            clear H
            try go_wp2
            have n0_ := Aside0.mk (blk_drew BK163.out)
            have n1_ := Aside0.mk (blk_drew BK164.out)
            have n2_ := Aside0.mk (below_drew1 HB.out)
            clear BK163
            clear BK164
            clear HB
            have BK163 := n0_
            have BK164 := n1_
            have HB := n2_
            clear n0_ n1_ n2_
            have p165 : 0 ≤ (x6_1 : Int) := of_decide_eq_true (by first | (with_reducible assumption) | assumption)
            have q165 : x6_1 < (l0.length : Int) := of_decide_eq_true (by first | (with_reducible assumption) | assumption)
            obtain ⟨ad165, e165, hx165_0⟩ := Kd.at_int HR0.out x6_1 p165 q165
            have hw165_0 := hx165_0
            cases e165
            replace hx165_0 := (HB.out.cell (World.block_lt_of_cell? w _ hx165_0)).trans hx165_0
            replace p165 := eq_true p165
            replace q165 := eq_true q165
            refine start_ (n := 9) (S := fun w' => w'.cell? ⟨gb164, 0, none⟩ = some (.int .i64 x165000_1) ∧ w'.cell? ⟨gb164, 1, none⟩ = some (.int .i64 0) ∧ w'.cell? ⟨gb164, 2, none⟩ = some (.int .i64 0) ∧ w'.cell? ⟨gb164, 3, none⟩ = some (.int .i64 0) ∧ w'.cell? ⟨gb164, 4, none⟩ = some (.int .i64 0) ∧ w'.cell? ⟨gb164, 5, none⟩ = some (.slice none 0 0) ∧ w'.cell? (ad165.add (x6_1).toNat) = some (.int .i64 (rd l0 x6_1))) (ds := [8]) #[false, false, false, false, false, false, false, false, false] (by kernel_rfl) rfl rfl ⟨(blk_cell BK164.out 0).trans rfl, (blk_cell BK164.out 1).trans rfl, (blk_cell BK164.out 2).trans rfl, (blk_cell BK164.out 3).trans rfl, (blk_cell BK164.out 4).trans rfl, (blk_cell BK164.out 5).trans rfl, ((HB.out.cell (World.block_lt_of_cell? w _ hw165_0)).trans hw165_0)⟩ (fun hHeld => ?_); refine with_tabW trivetref15_Analyze.tab5 trivetref15_Analyze.bits5 (fun HT_ HW_ => ?_)
            generalize wr.drew = w8 at BK163 BK164 HB hx165_0 hHeld ⊢
            refine pure_ (i := 0) (N := some 14) (v := ?_) (a' := ?_) #[true, false, false, false, false, false, false, false, false] rfl rfl (any_of HT_.out (by kernel_rfl)) (fun _ _ _ h => h) (Or.inl ⟨by rfl, ?_⟩) ?_ ?_
            rotate_left
            · intro w'
              go_simp
              with_reducible rfl
            rotate_left
            · simp only [Act.put, List.setIfInBounds_toArray, List.set_cons_zero, List.set_cons_succ, i64_w, i32_w]
              rfl
            refine pure_ (i := 2) (N := some 16) (v := ?_) (a' := ?_) #[true, false, true, false, false, false, false, false, false] rfl rfl (any_of HT_.out (by kernel_rfl)) (fun _ _ _ h => h) (Or.inl ⟨by rfl, ?_⟩) ?_ ?_
            rotate_left
            · intro w'
              go_simp
              with_reducible rfl
            rotate_left
            · simp only [Act.put, List.setIfInBounds_toArray, List.set_cons_zero, List.set_cons_succ, i64_w, i32_w]
              rfl
            refine pure_ (i := 3) (N := some 17) (v := ?_) (a' := ?_) #[true, false, true, true, false, false, false, false, false] rfl rfl (any_of HT_.out (by kernel_rfl)) (fun _ _ _ h => h) (Or.inl ⟨by rfl, ?_⟩) ?_ ?_
            rotate_left
            · intro w'
              go_simp
              with_reducible rfl
            rotate_left
            · simp only [Act.put, List.setIfInBounds_toArray, List.set_cons_zero, List.set_cons_succ, i64_w, i32_w]
              rfl
            refine pure_ (i := 4) (N := some 18) (v := ?_) (a' := ?_) #[true, false, true, true, true, false, false, false, false] rfl rfl (any_of HT_.out (by kernel_rfl)) (fun _ _ _ h => h) (Or.inl ⟨by rfl, ?_⟩) ?_ ?_
            rotate_left
            · intro w'
              go_simp
              with_reducible rfl
            rotate_left
            · simp only [Act.put, List.setIfInBounds_toArray, List.set_cons_zero, List.set_cons_succ, i64_w, i32_w]
              rfl
            refine take_ (i := 1) (N := some 15) (v := ?_) (a' := ?_) #[true, true, true, true, true, false, false, false, false] rfl rfl (take_ofW HT_.out HW_.out (by kernel_rfl)) (fun _ _ _ h => h) (Or.inl ⟨by rfl, ?_⟩) hHeld ?_ ?_
            rotate_left
            · rintro w' ⟨s0, s1, s2, s3, s4, s5, s6⟩
              go_simp
              with_reducible rfl
            rotate_left
            · simp only [Act.put, List.setIfInBounds_toArray, List.set_cons_zero, List.set_cons_succ, i64_w, i32_w]
              rfl
            refine take_ (i := 5) (N := some 19) (v := ?_) (a' := ?_) #[true, true, true, true, true, true, false, false, false] rfl rfl (take_ofW HT_.out HW_.out (by kernel_rfl)) (fun _ _ _ h => h) (Or.inl ⟨by rfl, ?_⟩) hHeld ?_ ?_
            rotate_left
            · rintro w' ⟨s0, s1, s2, s3, s4, s5, s6⟩
              go_simp
              with_reducible rfl
            rotate_left
            · simp only [Act.put, List.setIfInBounds_toArray, List.set_cons_zero, List.set_cons_succ, i64_w, i32_w]
              rfl
            refine pure_ (i := 6) (N := some 20) (v := ?_) (a' := ?_) #[true, true, true, true, true, true, true, false, false] rfl rfl (any_of HT_.out (by kernel_rfl)) (fun _ _ _ h => h) (Or.inl ⟨by rfl, ?_⟩) ?_ ?_
            rotate_left
            · intro w'
              go_simp
              with_reducible rfl
            rotate_left
            · simp only [Act.put, List.setIfInBounds_toArray, List.set_cons_zero, List.set_cons_succ, i64_w, i32_w]
              rfl
            refine pure_ (i := 7) (N := some 21) (v := ?_) (a' := ?_) #[true, true, true, true, true, true, true, true, false] rfl rfl (any_of HT_.out (by kernel_rfl)) (fun _ _ _ h => h) (Or.inl ⟨by rfl, ?_⟩) ?_ ?_
            rotate_left
            · intro w'
              go_simp
              with_reducible rfl
            rotate_left
            · simp only [Act.put, List.setIfInBounds_toArray, List.set_cons_zero, List.set_cons_succ, i64_w, i32_w]
              rfl
            refine last_ (i := 8) (N := none) #[true, true, true, true, true, true, true, true, true] rfl rfl (one_of HT_.out (by kernel_rfl)) (by decide) (fun K hK => ?_)
            have hs9 : w8.cell? ⟨gb164, 0, none⟩ = some (.int .i64 x165000_1) := (blk_cell BK164.out 0).trans rfl
            have hfs9 := blk_frozen BK164.out 0
            have hns9_0 := NB163_164.out
            have hms9_0 := NB164_163.out
            refine skip_ (w1 := ?_) (by rfl) rfl ?_ ?_
            rotate_left
            · go_simp
              rfl
            refine hK.out _ _ ?_
            clear hK K
            refine done_ (done_of HT_.out (by kernel_rfl)) ?_
            try go_wp2
            go_roundg k1
            case measure => have := HK1.out; omega
            case rel => exact ⟨(wrap64 (x6_1 + 1)), (wrap64 (x165000_1 + (rd l0 x6_1))), (by first | rfl | (simp; done) | (simp [*]; done)), H', ⟨by have := HK1.out; omega⟩, ⟨by (with_reducible repeat (first | refine blk_drewN ?_ _ | refine blk_drew ?_ | refine blk_alloc ?_ _)); refine blk_far ?_ NB163_164.out _; (with_reducible repeat (first | refine blk_drewN ?_ _ | refine blk_drew ?_ | refine blk_alloc ?_ _)); exact BK163.out⟩, ⟨by (with_reducible repeat (first | refine blk_drewN ?_ _ | refine blk_drew ?_ | refine blk_alloc ?_ _)); refine blk_put (cs := #[.int .i64 x165000_1, .int .i64 0, .int .i64 0, .int .i64 0, .int .i64 0, .slice none 0 0]) ?_ 0 _ rfl; (with_reducible repeat (first | refine blk_drewN ?_ _ | refine blk_drew ?_ | refine blk_alloc ?_ _)); exact BK164.out⟩, ⟨by repeat (first | (with_reducible first | exact HB.out | apply below_alloc | apply pw_below_drewN | apply below_drew1 | refine below_set ?_ GE163.out | refine below_set ?_ GE164.out) | exact HB.out)⟩⟩
          · rw [if_neg c7] at H
            exact absurd H (by simp)
        · rw [if_neg c6] at H
          exact absurd H (by simp)
      · rw [if_neg c5] at H
        have c5b0 : decide (x6_1 < 12) = false := decide_eq_false c5
        clear c5
        have HC10 := Aside0.mk H
        clear H
        have hnb11 := NB164_163.out
        have hnc11 := NB163_164.out
        have hcz12_0 : wr.cell? ⟨gb164, 0, none⟩ = some (.int .i64 x165000_1) := (blk_cell BK164.out 0).trans rfl
        have hcz12_1 : wr.cell? ⟨gb164, 1, none⟩ = some (.int .i64 0) := (blk_cell BK164.out 1).trans rfl
        have hcz12_2 : wr.cell? ⟨gb164, 2, none⟩ = some (.int .i64 0) := (blk_cell BK164.out 2).trans rfl
        have hcz12_3 : wr.cell? ⟨gb164, 3, none⟩ = some (.int .i64 0) := (blk_cell BK164.out 3).trans rfl
        have hcz12_4 : wr.cell? ⟨gb164, 4, none⟩ = some (.int .i64 0) := (blk_cell BK164.out 4).trans rfl
        have hcz12_5 : wr.cell? ⟨gb164, 5, none⟩ = some (.slice none 0 0) := (blk_cell BK164.out 5).trans rfl
        have hfz12_0 := blk_frozen BK164.out 0
        have hfz12_1 := blk_frozen BK164.out 1
        have hfz12_2 := blk_frozen BK164.out 2
        have hfz12_3 := blk_frozen BK164.out 3
        have hfz12_4 := blk_frozen BK164.out 4
        have hfz12_5 := blk_frozen BK164.out 5
        go_upto_if 29 with (fail)
        go_cut [] (fun wc => ∃ (kq : Nat) (x165001_9 : Int), Aside0 (trivetref15_Analyze.j1 kq l0 a1 x165000_1 x165001_9 0 0 0 = some (r1, r2, r3, r4, r5, r6)) ∧ Aside0 (kq ≤ k1) ∧ Aside0 (wc.heap[gb163]? = some (.cells #[.int .i64 0, .int .i64 0, .int .i64 0, .int .i64 0, .int .i64 0, (.slice none 0 0)] 38 (0, 0))) ∧ Aside0 (wc.heap[gb164]? = some (.cells #[.int .i64 x165000_1, .int .i64 x165001_9, .int .i64 0, .int .i64 0, .int .i64 0, (.slice none 0 0)] 38 (0, 0))) ∧ Aside0 (Below w.heap.size w wc))
        case first =>
          have H := HC10.out
          clear HC10
          by_cases c13 : (Int.tmod x165000_1 12) > 0
          · rw [if_pos c13] at H
            have c13b0 : decide (0 < (Int.tmod x165000_1 12)) = true := decide_eq_true c13
            clear c13
            (first | rw [c13b0] | (simp only [i64_w, i32_w]; rw [c13b0]) | skip)
            have H' := Aside0.mk H
            clear H
            have hnb14 := NB164_163.out
            have hnc14 := NB163_164.out
            have hcz15_0 : wr.cell? ⟨gb164, 0, none⟩ = some (.int .i64 x165000_1) := (blk_cell BK164.out 0).trans rfl
            have hcz15_1 : wr.cell? ⟨gb164, 1, none⟩ = some (.int .i64 0) := (blk_cell BK164.out 1).trans rfl
            have hcz15_2 : wr.cell? ⟨gb164, 2, none⟩ = some (.int .i64 0) := (blk_cell BK164.out 2).trans rfl
            have hcz15_3 : wr.cell? ⟨gb164, 3, none⟩ = some (.int .i64 0) := (blk_cell BK164.out 3).trans rfl
            have hcz15_4 : wr.cell? ⟨gb164, 4, none⟩ = some (.int .i64 0) := (blk_cell BK164.out 4).trans rfl
            have hcz15_5 : wr.cell? ⟨gb164, 5, none⟩ = some (.slice none 0 0) := (blk_cell BK164.out 5).trans rfl
            have hfz15_0 := blk_frozen BK164.out 0
            have hfz15_1 := blk_frozen BK164.out 1
            have hfz15_2 := blk_frozen BK164.out 2
            have hfz15_3 := blk_frozen BK164.out 3
            have hfz15_4 := blk_frozen BK164.out 4
            have hfz15_5 := blk_frozen BK164.out 5
            go_wp2
            go_meet
            case rel => exact ⟨_, (wrap64 ((wrap64 (Int.tdiv x165000_1 12)) + 1)), H', ⟨by have := HK1.out; first | omega | exact Nat.le_refl _⟩, ⟨by (with_reducible repeat (first | refine blk_drewN ?_ _ | refine blk_drew ?_ | refine blk_alloc ?_ _)); refine blk_far ?_ NB163_164.out _; (with_reducible repeat (first | refine blk_drewN ?_ _ | refine blk_drew ?_ | refine blk_alloc ?_ _)); refine blk_far ?_ NB163_164.out _; (with_reducible repeat (first | refine blk_drewN ?_ _ | refine blk_drew ?_ | refine blk_alloc ?_ _)); exact BK163.out⟩, ⟨by (with_reducible repeat (first | refine blk_drewN ?_ _ | refine blk_drew ?_ | refine blk_alloc ?_ _)); refine blk_put (cs := #[.int .i64 x165000_1, .int .i64 (wrap64 (Int.tdiv x165000_1 12)), .int .i64 0, .int .i64 0, .int .i64 0, .slice none 0 0]) ?_ 1 _ rfl; (with_reducible repeat (first | refine blk_drewN ?_ _ | refine blk_drew ?_ | refine blk_alloc ?_ _)); refine blk_put (cs := #[.int .i64 x165000_1, .int .i64 0, .int .i64 0, .int .i64 0, .int .i64 0, .slice none 0 0]) ?_ 1 _ rfl; (with_reducible repeat (first | refine blk_drewN ?_ _ | refine blk_drew ?_ | refine blk_alloc ?_ _)); exact BK164.out⟩, ⟨by repeat (first | (with_reducible first | exact HB.out | apply below_alloc | apply pw_below_drewN | apply below_drew1 | refine below_set ?_ GE163.out | refine below_set ?_ GE164.out) | exact HB.out)⟩⟩
          · rw [if_neg c13] at H
            have c13b0 : decide (0 < (Int.tmod x165000_1 12)) = false := decide_eq_false c13
            clear c13
            (first | rw [c13b0] | (simp only [i64_w, i32_w]; rw [c13b0]) | skip)
            have H' := Aside0.mk H
            clear H
            go_wp2
            go_meet
            case rel => exact ⟨_, (wrap64 (Int.tdiv x165000_1 12)), H', ⟨by have := HK1.out; first | omega | exact Nat.le_refl _⟩, ⟨by (with_reducible repeat (first | refine blk_drewN ?_ _ | refine blk_drew ?_ | refine blk_alloc ?_ _)); refine blk_far ?_ NB163_164.out _; (with_reducible repeat (first | refine blk_drewN ?_ _ | refine blk_drew ?_ | refine blk_alloc ?_ _)); exact BK163.out⟩, ⟨by (with_reducible repeat (first | refine blk_drewN ?_ _ | refine blk_drew ?_ | refine blk_alloc ?_ _)); refine blk_put (cs := #[.int .i64 x165000_1, .int .i64 0, .int .i64 0, .int .i64 0, .int .i64 0, .slice none 0 0]) ?_ 1 _ rfl; (with_reducible repeat (first | refine blk_drewN ?_ _ | refine blk_drew ?_ | refine blk_alloc ?_ _)); exact BK164.out⟩, ⟨by repeat (first | (with_reducible first | exact HB.out | apply below_alloc | apply pw_below_drewN | apply below_drew1 | refine below_set ?_ GE163.out | refine below_set ?_ GE164.out) | exact HB.out)⟩⟩
        case rest =>
          clear HC10
          try clear c1
          try clear p1
          try clear q1
          try clear hx1
          try clear c2
          try clear p2
          try clear c5
          try clear c5b0
          try clear c6
          try clear c6b0
          try clear p6
          try clear c7
          try clear c7b0
          try clear c11
          try clear c13
          try clear c13b0
          try clear c14
          try clear hcz12_0
          try clear hcz12_1
          try clear hcz12_2
          try clear hcz12_3
          try clear hcz12_4
          try clear hcz12_5
          try clear hcz15_0
          try clear hcz15_1
          try clear hcz15_2
          try clear hcz15_3
          try clear hcz15_4
          try clear hcz15_5
          try clear hfz12_0
          try clear hfz12_1
          try clear hfz12_2
          try clear hfz12_3
          try clear hfz12_4
          try clear hfz12_5
          try clear hfz15_0
          try clear hfz15_1
          try clear hfz15_2
          try clear hfz15_3
          try clear hfz15_4
          try clear hfz15_5
          try clear hx165_0
          try clear p165
          try clear p2
          try clear q165
          obtain ⟨kq, x165001_9, HA, HJ9, BK163, BK164, HB⟩ := hcut
          cases kq with
          | zero => exact absurd HA.out (by simp [trivetref15_Analyze.j1])
          | succ kj9 =>
            have H := HA.out
            clear HA
            simp only [trivetref15_Analyze.j1] at H
            have HC16 := Aside0.mk H
            clear H
            have hnb17 := NB164_163.out
            have hnc17 := NB163_164.out
            have hcz18_0 : wc.cell? ⟨gb164, 0, none⟩ = some (.int .i64 x165000_1) := (blk_cell BK164.out 0).trans rfl
            have hcz18_1 : wc.cell? ⟨gb164, 1, none⟩ = some (.int .i64 x165001_9) := (blk_cell BK164.out 1).trans rfl
            have hcz18_2 : wc.cell? ⟨gb164, 2, none⟩ = some (.int .i64 0) := (blk_cell BK164.out 2).trans rfl
            have hcz18_3 : wc.cell? ⟨gb164, 3, none⟩ = some (.int .i64 0) := (blk_cell BK164.out 3).trans rfl
            have hcz18_4 : wc.cell? ⟨gb164, 4, none⟩ = some (.int .i64 0) := (blk_cell BK164.out 4).trans rfl
            have hcz18_5 : wc.cell? ⟨gb164, 5, none⟩ = some (.slice none 0 0) := (blk_cell BK164.out 5).trans rfl
            have hfz18_0 := blk_frozen BK164.out 0
            have hfz18_1 := blk_frozen BK164.out 1
            have hfz18_2 := blk_frozen BK164.out 2
            have hfz18_3 := blk_frozen BK164.out 3
            have hfz18_4 := blk_frozen BK164.out 4
            have hfz18_5 := blk_frozen BK164.out 5
            go_upto_if 41 with (fail)
            go_cut [] (fun wc => ∃ (kq : Nat) (x165002_15 : Int), Aside0 (trivetref15_Analyze.j2 kq l0 x165000_1 x165001_9 x165002_15 0 0 = some (r1, r2, r3, r4, r5, r6)) ∧ Aside0 (kq ≤ kj9) ∧ Aside0 (wc.heap[gb163]? = some (.cells #[.int .i64 0, .int .i64 0, .int .i64 0, .int .i64 0, .int .i64 0, (.slice none 0 0)] 38 (0, 0))) ∧ Aside0 (wc.heap[gb164]? = some (.cells #[.int .i64 x165000_1, .int .i64 x165001_9, .int .i64 x165002_15, .int .i64 0, .int .i64 0, (.slice none 0 0)] 38 (0, 0))) ∧ Aside0 (Below w.heap.size w wc))
            case first =>
              have H := HC16.out
              clear HC16
              by_cases c19 : a1 < (wrap64 (Int.tdiv x165000_1 6))
              · rw [if_pos c19] at H
                have c19b0 : decide (a1 < (wrap64 (Int.tdiv x165000_1 6))) = true := decide_eq_true c19
                clear c19
                (first | rw [c19b0] | (simp only [i64_w, i32_w]; rw [c19b0]) | skip)
                have H' := Aside0.mk H
                clear H
                have hnb20 := NB164_163.out
                have hnc20 := NB163_164.out
                have hcz21_0 : wc.cell? ⟨gb164, 0, none⟩ = some (.int .i64 x165000_1) := (blk_cell BK164.out 0).trans rfl
                have hcz21_1 : wc.cell? ⟨gb164, 1, none⟩ = some (.int .i64 x165001_9) := (blk_cell BK164.out 1).trans rfl
                have hcz21_2 : wc.cell? ⟨gb164, 2, none⟩ = some (.int .i64 0) := (blk_cell BK164.out 2).trans rfl
                have hcz21_3 : wc.cell? ⟨gb164, 3, none⟩ = some (.int .i64 0) := (blk_cell BK164.out 3).trans rfl
                have hcz21_4 : wc.cell? ⟨gb164, 4, none⟩ = some (.int .i64 0) := (blk_cell BK164.out 4).trans rfl
                have hcz21_5 : wc.cell? ⟨gb164, 5, none⟩ = some (.slice none 0 0) := (blk_cell BK164.out 5).trans rfl
                have hfz21_0 := blk_frozen BK164.out 0
                have hfz21_1 := blk_frozen BK164.out 1
                have hfz21_2 := blk_frozen BK164.out 2
                have hfz21_3 := blk_frozen BK164.out 3
                have hfz21_4 := blk_frozen BK164.out 4
                have hfz21_5 := blk_frozen BK164.out 5
                go_wp2
                go_meet
                case rel => exact ⟨_, (a1), H', ⟨by have := HK1.out; have := HJ9.out; first | omega | exact Nat.le_refl _⟩, ⟨by (with_reducible repeat (first | refine blk_drewN ?_ _ | refine blk_drew ?_ | refine blk_alloc ?_ _)); refine blk_far ?_ NB163_164.out _; (with_reducible repeat (first | refine blk_drewN ?_ _ | refine blk_drew ?_ | refine blk_alloc ?_ _)); refine blk_far ?_ NB163_164.out _; (with_reducible repeat (first | refine blk_drewN ?_ _ | refine blk_drew ?_ | refine blk_alloc ?_ _)); exact BK163.out⟩, ⟨by (with_reducible repeat (first | refine blk_drewN ?_ _ | refine blk_drew ?_ | refine blk_alloc ?_ _)); refine blk_put (cs := #[.int .i64 x165000_1, .int .i64 x165001_9, .int .i64 (wrap64 (Int.tdiv x165000_1 6)), .int .i64 0, .int .i64 0, .slice none 0 0]) ?_ 2 _ rfl; (with_reducible repeat (first | refine blk_drewN ?_ _ | refine blk_drew ?_ | refine blk_alloc ?_ _)); refine blk_put (cs := #[.int .i64 x165000_1, .int .i64 x165001_9, .int .i64 0, .int .i64 0, .int .i64 0, .slice none 0 0]) ?_ 2 _ rfl; (with_reducible repeat (first | refine blk_drewN ?_ _ | refine blk_drew ?_ | refine blk_alloc ?_ _)); exact BK164.out⟩, ⟨by repeat (first | (with_reducible first | exact HB.out | apply below_alloc | apply pw_below_drewN | apply below_drew1 | refine below_set ?_ GE163.out | refine below_set ?_ GE164.out) | exact HB.out)⟩⟩
              · rw [if_neg c19] at H
                have c19b0 : decide (a1 < (wrap64 (Int.tdiv x165000_1 6))) = false := decide_eq_false c19
                clear c19
                (first | rw [c19b0] | (simp only [i64_w, i32_w]; rw [c19b0]) | skip)
                have H' := Aside0.mk H
                clear H
                go_wp2
                go_meet
                case rel => exact ⟨_, (wrap64 (Int.tdiv x165000_1 6)), H', ⟨by have := HK1.out; have := HJ9.out; first | omega | exact Nat.le_refl _⟩, ⟨by (with_reducible repeat (first | refine blk_drewN ?_ _ | refine blk_drew ?_ | refine blk_alloc ?_ _)); refine blk_far ?_ NB163_164.out _; (with_reducible repeat (first | refine blk_drewN ?_ _ | refine blk_drew ?_ | refine blk_alloc ?_ _)); exact BK163.out⟩, ⟨by (with_reducible repeat (first | refine blk_drewN ?_ _ | refine blk_drew ?_ | refine blk_alloc ?_ _)); refine blk_put (cs := #[.int .i64 x165000_1, .int .i64 x165001_9, .int .i64 0, .int .i64 0, .int .i64 0, .slice none 0 0]) ?_ 2 _ rfl; (with_reducible repeat (first | refine blk_drewN ?_ _ | refine blk_drew ?_ | refine blk_alloc ?_ _)); exact BK164.out⟩, ⟨by repeat (first | (with_reducible first | exact HB.out | apply below_alloc | apply pw_below_drewN | apply below_drew1 | refine below_set ?_ GE163.out | refine below_set ?_ GE164.out) | exact HB.out)⟩⟩
            case rest =>
              clear HC16
              try clear c1
              try clear p1
              try clear q1
              try clear hx1
              try clear c2
              try clear p2
              try clear c5
              try clear c5b0
              try clear c6
              try clear c6b0
              try clear p6
              try clear c7
              try clear c7b0
              try clear c11
              try clear c13
              try clear c13b0
              try clear c14
              try clear p16
              try clear q16
              try clear hx16
              try clear c17
              try clear c19
              try clear c19b0
              try clear c20
              try clear hcz12_0
              try clear hcz12_1
              try clear hcz12_2
              try clear hcz12_3
              try clear hcz12_4
              try clear hcz12_5
              try clear hcz15_0
              try clear hcz15_1
              try clear hcz15_2
              try clear hcz15_3
              try clear hcz15_4
              try clear hcz15_5
              try clear hcz18_0
              try clear hcz18_1
              try clear hcz18_2
              try clear hcz18_3
              try clear hcz18_4
              try clear hcz18_5
              try clear hcz21_0
              try clear hcz21_1
              try clear hcz21_2
              try clear hcz21_3
              try clear hcz21_4
              try clear hcz21_5
              try clear hfz12_0
              try clear hfz12_1
              try clear hfz12_2
              try clear hfz12_3
              try clear hfz12_4
              try clear hfz12_5
              try clear hfz15_0
              try clear hfz15_1
              try clear hfz15_2
              try clear hfz15_3
              try clear hfz15_4
              try clear hfz15_5
              try clear hfz18_0
              try clear hfz18_1
              try clear hfz18_2
              try clear hfz18_3
              try clear hfz18_4
              try clear hfz18_5
              try clear hfz21_0
              try clear hfz21_1
              try clear hfz21_2
              try clear hfz21_3
              try clear hfz21_4
              try clear hfz21_5
              try clear hx165_0
              try clear p1
              try clear p165
              try clear p2
              try clear p6
              try clear q1
              try clear q165
              obtain ⟨kq, x165002_15, HA, HJ15, BK163, BK164, HB⟩ := hcut
              cases kq with
              | zero => exact absurd HA.out (by simp [trivetref15_Analyze.j2])
              | succ kj15 =>
                have H := HA.out
                clear HA
                simp only [trivetref15_Analyze.j2] at H
                replace H := Option.bind_eq_some_iff.mp H
                obtain ⟨t166, A220, H⟩ := H
                replace H : (trivetref15_Analyze.l1 kj15 l0 t166 0 x165000_1 x165001_9 x165002_15 0 0) = some (r1, r2, r3, r4, r5, r6) := H
                have A22 := Aside0.mk A220
                clear A220
                have H' := Aside0.mk H
                clear H
                have hnb23 := NB164_163.out
                have hnc23 := NB163_164.out
                have hcz24_0 : wc.cell? ⟨gb164, 0, none⟩ = some (.int .i64 x165000_1) := (blk_cell BK164.out 0).trans rfl
                have hcz24_1 : wc.cell? ⟨gb164, 1, none⟩ = some (.int .i64 x165001_9) := (blk_cell BK164.out 1).trans rfl
                have hcz24_2 : wc.cell? ⟨gb164, 2, none⟩ = some (.int .i64 x165002_15) := (blk_cell BK164.out 2).trans rfl
                have hcz24_3 : wc.cell? ⟨gb164, 3, none⟩ = some (.int .i64 0) := (blk_cell BK164.out 3).trans rfl
                have hcz24_4 : wc.cell? ⟨gb164, 4, none⟩ = some (.int .i64 0) := (blk_cell BK164.out 4).trans rfl
                have hcz24_5 : wc.cell? ⟨gb164, 5, none⟩ = some (.slice none 0 0) := (blk_cell BK164.out 5).trans rfl
                have hfz24_0 := blk_frozen BK164.out 0
                have hfz24_1 := blk_frozen BK164.out 1
                have hfz24_2 := blk_frozen BK164.out 2
                have hfz24_3 := blk_frozen BK164.out 3
                have hfz24_4 := blk_frozen BK164.out 4
                have hfz24_5 := blk_frozen BK164.out 5
                go_wp2_with (first | ((with_reducible refine gate_callee (f := 23) rfl ?_); refine goesL_ (some 47) rfl rfl Try.func23 (by kernel_rfl) rfl #[.slice A0 l0.length c0, .int .i64 x165001_9, .int .i64 0] rfl (by (try simp only [List.map_toArray, List.map_cons, List.map_nil]); first | done | rfl | (simp only [List.length_drop, List.length_take]; rfl)) ?_; (with_reducible refine (trivetref15_Balances.calls kj15 _ _ l0 x165001_9 0 t166 _ ?side1 ?side2 A22.out).mono ?_); (case side1 => repeat (first | exact (Kd.C_below HR0.out HB.out) | (with_reducible refine Kd.C_alloc ?_ _) | (with_reducible refine Kd.C_drewN ?_ _) | (with_reducible refine Kd.C_drew ?_))); (case side2 => exact HC0.out); rintro e w25 ⟨v167, rfl, ho0, hb⟩; refine ⟨_, rfl, ?_⟩; have n0_ := Aside0.mk (Kd.R_lower ho0 (below_size (by repeat (first | (with_reducible first | exact HB.out | apply below_alloc | apply pw_below_drewN | apply below_drew1 | refine below_set ?_ GE163.out | refine below_set ?_ GE164.out) | exact HB.out)))); have n1_ := Aside0.mk (blk_below (g := gb163) (o := .cells #[.int .i64 0, .int .i64 0, .int .i64 0, .int .i64 0, .int .i64 0, .slice none 0 0] 38 (0, 0)) (by (with_reducible repeat (first | refine blk_drewN ?_ _ | refine blk_drew ?_ | refine blk_alloc ?_ _)); exact BK163.out) hb); have n2_ := Aside0.mk (blk_below (g := gb164) (o := .cells #[.int .i64 x165000_1, .int .i64 x165001_9, .int .i64 x165002_15, .int .i64 0, .int .i64 0, .slice none 0 0] 38 (0, 0)) (by (with_reducible repeat (first | refine blk_drewN ?_ _ | refine blk_drew ?_ | refine blk_alloc ?_ _)); exact BK164.out) hb); have n3_ := Aside0.mk (below_step (by repeat (first | (with_reducible first | exact HB.out | apply below_alloc | apply pw_below_drewN | apply below_drew1 | refine below_set ?_ GE163.out | refine below_set ?_ GE164.out) | exact HB.out)) hb); clear BK163; clear BK164; clear HB; have HO168 := n0_; have BK163 := n1_; have BK164 := n2_; have HB := n3_; clear n0_ n1_ n2_ n3_; (try clear hb); (try clear hb2); (try clear hk); (try clear hi); (try clear ho0)))
                go_loopg [8] kj15 (fun kq v8 w' => ∃ (x8_4 : Int) (x165003_4 : Int) (x165004_4 : Int), v8 = .int .i64 x8_4 ∧ Aside0 (trivetref15_Analyze.l1 kq l0 t166 x8_4 x165000_1 x165001_9 x165002_15 x165003_4 x165004_4 = some (r1, r2, r3, r4, r5, r6)) ∧ Aside0 (kq ≤ kj15) ∧ Aside0 (Kd.R (Kd.int .i64) 2 w' w.heap.size (fun _ => True) v167 t166) ∧ Aside0 (w'.heap[gb163]? = some (.cells #[.int .i64 0, .int .i64 0, .int .i64 0, .int .i64 0, .int .i64 0, (.slice none 0 0)] 38 (0, 0))) ∧ Aside0 (w'.heap[gb164]? = some (.cells #[.int .i64 x165000_1, .int .i64 x165001_9, .int .i64 x165002_15, .int .i64 x165003_4, .int .i64 x165004_4, (.slice none 0 0)] 38 (0, 0))) ∧ Aside0 (Below w.heap.size w w'))
                case atStart => exact ⟨(0), (0), (0), (by first | rfl | (simp; done) | (simp [*]; done)), H', ⟨Nat.le_refl _⟩, ⟨by (with_reducible repeat (first | apply Kd.R_alloc | apply Kd.R_drewN | apply Kd.R_drew)); exact HO168.out⟩, ⟨by (with_reducible repeat (first | refine blk_drewN ?_ _ | refine blk_drew ?_ | refine blk_alloc ?_ _)); exact BK163.out⟩, ⟨by (with_reducible repeat (first | refine blk_drewN ?_ _ | refine blk_drew ?_ | refine blk_alloc ?_ _)); exact BK164.out⟩, ⟨by repeat (first | (with_reducible first | exact HB.out | apply below_alloc | apply pw_below_drewN | apply below_drew1 | refine below_set ?_ GE163.out | refine below_set ?_ GE164.out) | exact HB.out)⟩⟩
                case round =>
                  clear H'
                  try clear c1
                  try clear p1
                  try clear q1
                  try clear hx1
                  try clear c2
                  try clear p2
                  try clear c5
                  try clear c5b0
                  try clear c6
                  try clear c6b0
                  try clear p6
                  try clear c7
                  try clear c7b0
                  try clear c11
                  try clear c13
                  try clear c13b0
                  try clear c14
                  try clear p16
                  try clear q16
                  try clear hx16
                  try clear c17
                  try clear c19
                  try clear c19b0
                  try clear c20
                  try clear c22
                  try clear c23
                  try clear hcz12_0
                  try clear hcz12_1
                  try clear hcz12_2
                  try clear hcz12_3
                  try clear hcz12_4
                  try clear hcz12_5
                  try clear hcz15_0
                  try clear hcz15_1
                  try clear hcz15_2
                  try clear hcz15_3
                  try clear hcz15_4
                  try clear hcz15_5
                  try clear hcz18_0
                  try clear hcz18_1
                  try clear hcz18_2
                  try clear hcz18_3
                  try clear hcz18_4
                  try clear hcz18_5
                  try clear hcz21_0
                  try clear hcz21_1
                  try clear hcz21_2
                  try clear hcz21_3
                  try clear hcz21_4
                  try clear hcz21_5
                  try clear hcz24_0
                  try clear hcz24_1
                  try clear hcz24_2
                  try clear hcz24_3
                  try clear hcz24_4
                  try clear hcz24_5
                  try clear hfz12_0
                  try clear hfz12_1
                  try clear hfz12_2
                  try clear hfz12_3
                  try clear hfz12_4
                  try clear hfz12_5
                  try clear hfz15_0
                  try clear hfz15_1
                  try clear hfz15_2
                  try clear hfz15_3
                  try clear hfz15_4
                  try clear hfz15_5
                  try clear hfz18_0
                  try clear hfz18_1
                  try clear hfz18_2
                  try clear hfz18_3
                  try clear hfz18_4
                  try clear hfz18_5
                  try clear hfz21_0
                  try clear hfz21_1
                  try clear hfz21_2
                  try clear hfz21_3
                  try clear hfz21_4
                  try clear hfz21_5
                  try clear hfz24_0
                  try clear hfz24_1
                  try clear hfz24_2
                  try clear hfz24_3
                  try clear hfz24_4
                  try clear hfz24_5
                  try clear hx165_0
                  try clear p1
                  try clear p16
                  try clear p165
                  try clear p2
                  try clear p6
                  try clear q1
                  try clear q16
                  try clear q165
                  obtain ⟨x8_4, x165003_4, x165004_4, rfl, HA, HK4, HO_7, BK163, BK164, HB⟩ := hrel
                  cases gk with
                  | zero => exact absurd HA.out (by simp [trivetref15_Analyze.l1])
                  | succ k4 =>
                    have H := HA.out
                    clear HA
                    simp only [trivetref15_Analyze.l1] at H
                    by_cases c26 : x8_4 < 12
                    · rw [if_pos c26] at H
                      have c26b0 : decide (x8_4 < 12) = true := decide_eq_true c26
                      clear c26
                      by_cases c27 : 0 ≤ x8_4
                      · rw [if_pos c27] at H
                        have c27b0 : decide (0 ≤ x8_4) = true := decide_eq_true c27
                        clear c27
                        by_cases c28 : x8_4 < (t166.length : Int)
                        · rw [if_pos c28] at H
                          have c28b0 : decide (x8_4 < (t166.length : Int)) = true := decide_eq_true c28
                          clear c28
                          by_cases c29 : x8_4 = 0
                          · rw [if_pos c29] at H
                            have c29b0 : (x8_4 == 0) = true := beq_iff_eq.mpr c29
                            have c29b1 : (x8_4 != 0) = false := bne_eq_false_iff_eq.mpr c29
                            clear c29
                            have H' := Aside0.mk H
                            clear H
                            try go_wp2
                            have n0_ := Aside0.mk (Kd.R_drew HO_7.out)
                            have n1_ := Aside0.mk (blk_drew BK163.out)
                            have n2_ := Aside0.mk (blk_drew BK164.out)
                            have n3_ := Aside0.mk (below_drew1 HB.out)
                            clear HO_7
                            clear BK163
                            clear BK164
                            clear HB
                            have HO_7 := n0_
                            have BK163 := n1_
                            have BK164 := n2_
                            have HB := n3_
                            clear n0_ n1_ n2_ n3_
                            obtain ⟨Ao31, co31, eo31⟩ := Kd.R_slice HO_7.out
                            (first | subst eo31 | (injection eo31 with f1_ f2_ f3_; have f4_ := f1_.symm; have f5_ := f3_.symm; clear f1_ f2_ f3_; subst f4_; subst f5_))
                            have p169 : 0 ≤ (x8_4 : Int) := of_decide_eq_true (by first | (with_reducible assumption) | assumption)
                            have q169 : x8_4 < (t166.length : Int) := of_decide_eq_true (by first | (with_reducible assumption) | assumption)
                            obtain ⟨ad169, e169, hx169_0⟩ := Kd.at_int (Kd.R_reads' HO_7.out).2.2 x8_4 p169 q169
                            cases e169
                            replace p169 := eq_true p169
                            replace q169 := eq_true q169
                            refine start_ (n := 8) (S := fun w' => w'.cell? ⟨gb164, 0, none⟩ = some (.int .i64 x165000_1) ∧ w'.cell? ⟨gb164, 1, none⟩ = some (.int .i64 x165001_9) ∧ w'.cell? ⟨gb164, 2, none⟩ = some (.int .i64 x165002_15) ∧ w'.cell? ⟨gb164, 3, none⟩ = some (.int .i64 x165003_4) ∧ w'.cell? ⟨gb164, 4, none⟩ = some (.int .i64 x165004_4) ∧ w'.cell? ⟨gb164, 5, none⟩ = some (.slice none 0 0) ∧ w'.cell? (ad169.add (x8_4).toNat) = some (.int .i64 (rd t166 x8_4))) (ds := []) #[false, false, false, false, false, false, false, false] (by kernel_rfl) rfl rfl ⟨(blk_cell BK164.out 0).trans rfl, (blk_cell BK164.out 1).trans rfl, (blk_cell BK164.out 2).trans rfl, (blk_cell BK164.out 3).trans rfl, (blk_cell BK164.out 4).trans rfl, (blk_cell BK164.out 5).trans rfl, hx169_0⟩ (fun hHeld => ?_); refine with_tabW trivetref15_Analyze.tab16 trivetref15_Analyze.bits16 (fun HT_ HW_ => ?_)
                            generalize wr.drew = w30 at HO_7 BK163 BK164 HB hx169_0 hHeld ⊢
                            refine pure_ (i := 0) (N := some 52) (v := ?_) (a' := ?_) #[true, false, false, false, false, false, false, false] rfl rfl (any_of HT_.out (by kernel_rfl)) (fun _ _ _ h => h) (Or.inl ⟨by rfl, ?_⟩) ?_ ?_
                            rotate_left
                            · intro w'
                              go_simp
                              with_reducible rfl
                            rotate_left
                            · simp only [Act.put, List.setIfInBounds_toArray, List.set_cons_zero, List.set_cons_succ, i64_w, i32_w]
                              rfl
                            refine pure_ (i := 2) (N := some 54) (v := ?_) (a' := ?_) #[true, false, true, false, false, false, false, false] rfl rfl (any_of HT_.out (by kernel_rfl)) (fun _ _ _ h => h) (Or.inl ⟨by rfl, ?_⟩) ?_ ?_
                            rotate_left
                            · intro w'
                              go_simp
                              with_reducible rfl
                            rotate_left
                            · simp only [Act.put, List.setIfInBounds_toArray, List.set_cons_zero, List.set_cons_succ, i64_w, i32_w]
                              rfl
                            refine pure_ (i := 3) (N := some 55) (v := ?_) (a' := ?_) #[true, false, true, true, false, false, false, false] rfl rfl (any_of HT_.out (by kernel_rfl)) (fun _ _ _ h => h) (Or.inl ⟨by rfl, ?_⟩) ?_ ?_
                            rotate_left
                            · intro w'
                              go_simp
                              with_reducible rfl
                            rotate_left
                            · simp only [Act.put, List.setIfInBounds_toArray, List.set_cons_zero, List.set_cons_succ, i64_w, i32_w]
                              rfl
                            refine pure_ (i := 4) (N := some 56) (v := ?_) (a' := ?_) #[true, false, true, true, true, false, false, false] rfl rfl (any_of HT_.out (by kernel_rfl)) (fun _ _ _ h => h) (Or.inl ⟨by rfl, ?_⟩) ?_ ?_
                            rotate_left
                            · intro w'
                              go_simp
                              with_reducible rfl
                            rotate_left
                            · simp only [Act.put, List.setIfInBounds_toArray, List.set_cons_zero, List.set_cons_succ, i64_w, i32_w]
                              rfl
                            refine take_ (i := 1) (N := some 53) (v := ?_) (a' := ?_) #[true, true, true, true, true, false, false, false] rfl rfl (take_ofW HT_.out HW_.out (by kernel_rfl)) (fun _ _ _ h => h) (Or.inl ⟨by rfl, ?_⟩) hHeld ?_ ?_
                            rotate_left
                            · rintro w' ⟨s0, s1, s2, s3, s4, s5, s6⟩
                              go_simp
                              with_reducible rfl
                            rotate_left
                            · simp only [Act.put, List.setIfInBounds_toArray, List.set_cons_zero, List.set_cons_succ, i64_w, i32_w]
                              rfl
                            refine take_ (i := 5) (N := some 57) (v := ?_) (a' := ?_) #[true, true, true, true, true, true, false, false] rfl rfl (take_ofW HT_.out HW_.out (by kernel_rfl)) (fun _ _ _ h => h) (Or.inl ⟨by rfl, ?_⟩) hHeld ?_ ?_
                            rotate_left
                            · rintro w' ⟨s0, s1, s2, s3, s4, s5, s6⟩
                              go_simp
                              with_reducible rfl
                            rotate_left
                            · simp only [Act.put, List.setIfInBounds_toArray, List.set_cons_zero, List.set_cons_succ, i64_w, i32_w]
                              rfl
                            refine pure_ (i := 6) (N := some 58) (v := ?_) (a' := ?_) #[true, true, true, true, true, true, true, false] rfl rfl (any_of HT_.out (by kernel_rfl)) (fun _ _ _ h => h) (Or.inl ⟨by rfl, ?_⟩) ?_ ?_
                            rotate_left
                            · intro w'
                              go_simp
                              with_reducible rfl
                            rotate_left
                            · simp only [Act.put, List.setIfInBounds_toArray, List.set_cons_zero, List.set_cons_succ, i64_w, i32_w]
                              rfl
                            refine pure_ (i := 7) (N := some 9) (v := ?_) (a' := ?_) #[true, true, true, true, true, true, true, true] rfl rfl (any_of HT_.out (by kernel_rfl)) (fun _ _ _ h => h) (Or.inl ⟨by rfl, ?_⟩) ?_ ?_
                            rotate_left
                            · intro w'
                              go_simp
                              with_reducible rfl
                            rotate_left
                            · simp only [Act.put, List.setIfInBounds_toArray, List.set_cons_zero, List.set_cons_succ, i64_w, i32_w]
                              rfl
                            refine done_ (done_of HT_.out (by kernel_rfl)) ?_
                            have hnb32 := NB164_163.out
                            have hnc32 := NB163_164.out
                            have hcz33_0 : w30.cell? ⟨gb164, 0, none⟩ = some (.int .i64 x165000_1) := (blk_cell BK164.out 0).trans rfl
                            have hcz33_1 : w30.cell? ⟨gb164, 1, none⟩ = some (.int .i64 x165001_9) := (blk_cell BK164.out 1).trans rfl
                            have hcz33_2 : w30.cell? ⟨gb164, 2, none⟩ = some (.int .i64 x165002_15) := (blk_cell BK164.out 2).trans rfl
                            have hcz33_3 : w30.cell? ⟨gb164, 3, none⟩ = some (.int .i64 x165003_4) := (blk_cell BK164.out 3).trans rfl
                            have hcz33_4 : w30.cell? ⟨gb164, 4, none⟩ = some (.int .i64 x165004_4) := (blk_cell BK164.out 4).trans rfl
                            have hcz33_5 : w30.cell? ⟨gb164, 5, none⟩ = some (.slice none 0 0) := (blk_cell BK164.out 5).trans rfl
                            have hfz33_0 := blk_frozen BK164.out 0
                            have hfz33_1 := blk_frozen BK164.out 1
                            have hfz33_2 := blk_frozen BK164.out 2
                            have hfz33_3 := blk_frozen BK164.out 3
                            have hfz33_4 := blk_frozen BK164.out 4
                            have hfz33_5 := blk_frozen BK164.out 5
                            try go_wp2
                            go_roundg k4
                            case measure => have := HK1.out; have := HJ9.out; have := HJ15.out; have := HK4.out; omega
                            case rel => exact ⟨(wrap64 (x8_4 + 1)), (wrap64 (x165002_15 - (rd t166 x8_4))), (x8_4), (by first | rfl | (simp; done) | (simp [*]; done)), H', ⟨by have := HK1.out; have := HJ9.out; have := HJ15.out; have := HK4.out; omega⟩, ⟨by (with_reducible repeat (first | apply Kd.R_alloc | apply Kd.R_drewN | apply Kd.R_drew)); exact Kd.R_mono (Kd.R_far (p := ⟨gb164, 4, none⟩) (Kd.R_far (p := ⟨gb164, 3, none⟩) (Kd.R_types HO_7.out BK164.out (by decide)) (fun _ hk => hk.2) (.int .i64 (wrap64 (x165002_15 - (rd t166 x8_4))))) (fun _ hk => hk.2) (.int .i64 x8_4)) (fun _ hk => trivial)⟩, ⟨by (with_reducible repeat (first | refine blk_drewN ?_ _ | refine blk_drew ?_ | refine blk_alloc ?_ _)); refine blk_far ?_ NB163_164.out _; (with_reducible repeat (first | refine blk_drewN ?_ _ | refine blk_drew ?_ | refine blk_alloc ?_ _)); refine blk_far ?_ NB163_164.out _; (with_reducible repeat (first | refine blk_drewN ?_ _ | refine blk_drew ?_ | refine blk_alloc ?_ _)); exact BK163.out⟩, ⟨by (with_reducible repeat (first | refine blk_drewN ?_ _ | refine blk_drew ?_ | refine blk_alloc ?_ _)); refine blk_put (cs := #[.int .i64 x165000_1, .int .i64 x165001_9, .int .i64 x165002_15, .int .i64 (wrap64 (x165002_15 - (rd t166 x8_4))), .int .i64 x165004_4, .slice none 0 0]) ?_ 4 _ rfl; (with_reducible repeat (first | refine blk_drewN ?_ _ | refine blk_drew ?_ | refine blk_alloc ?_ _)); refine blk_put (cs := #[.int .i64 x165000_1, .int .i64 x165001_9, .int .i64 x165002_15, .int .i64 x165003_4, .int .i64 x165004_4, .slice none 0 0]) ?_ 3 _ rfl; (with_reducible repeat (first | refine blk_drewN ?_ _ | refine blk_drew ?_ | refine blk_alloc ?_ _)); exact BK164.out⟩, ⟨by repeat (first | (with_reducible first | exact HB.out | apply below_alloc | apply pw_below_drewN | apply below_drew1 | refine below_set ?_ GE163.out | refine below_set ?_ GE164.out) | exact HB.out)⟩⟩
                          · rw [if_neg c29] at H
                            have c29b0 : (x8_4 == 0) = false := beq_eq_false_iff_ne.mpr c29
                            have c29b1 : (x8_4 != 0) = true := bne_iff_ne.mpr c29
                            by_cases c34 : (wrap64 (x165002_15 - (rd t166 x8_4))) > x165003_4
                            · rw [if_pos c34] at H
                              have c34b0 : decide (x165003_4 < (wrap64 (x165002_15 - (rd t166 x8_4)))) = true := decide_eq_true c34
                              clear c34
                              have H' := Aside0.mk H
                              clear H
                              try go_wp2
                              have n0_ := Aside0.mk (Kd.R_drew HO_7.out)
                              have n1_ := Aside0.mk (blk_drew BK163.out)
                              have n2_ := Aside0.mk (blk_drew BK164.out)
                              have n3_ := Aside0.mk (below_drew1 HB.out)
                              clear HO_7
                              clear BK163
                              clear BK164
                              clear HB
                              have HO_7 := n0_
                              have BK163 := n1_
                              have BK164 := n2_
                              have HB := n3_
                              clear n0_ n1_ n2_ n3_
                              obtain ⟨Ao36, co36, eo36⟩ := Kd.R_slice HO_7.out
                              (first | subst eo36 | (injection eo36 with f1_ f2_ f3_; have f4_ := f1_.symm; have f5_ := f3_.symm; clear f1_ f2_ f3_; subst f4_; subst f5_))
                              have p169 : 0 ≤ (x8_4 : Int) := of_decide_eq_true (by first | (with_reducible assumption) | assumption)
                              have q169 : x8_4 < (t166.length : Int) := of_decide_eq_true (by first | (with_reducible assumption) | assumption)
                              obtain ⟨ad169, e169, hx169_0⟩ := Kd.at_int (Kd.R_reads' HO_7.out).2.2 x8_4 p169 q169
                              cases e169
                              replace p169 := eq_true p169
                              replace q169 := eq_true q169
                              refine start_ (n := 8) (S := fun w' => w'.cell? ⟨gb164, 0, none⟩ = some (.int .i64 x165000_1) ∧ w'.cell? ⟨gb164, 1, none⟩ = some (.int .i64 x165001_9) ∧ w'.cell? ⟨gb164, 2, none⟩ = some (.int .i64 x165002_15) ∧ w'.cell? ⟨gb164, 3, none⟩ = some (.int .i64 x165003_4) ∧ w'.cell? ⟨gb164, 4, none⟩ = some (.int .i64 x165004_4) ∧ w'.cell? ⟨gb164, 5, none⟩ = some (.slice none 0 0) ∧ w'.cell? (ad169.add (x8_4).toNat) = some (.int .i64 (rd t166 x8_4))) (ds := []) #[false, false, false, false, false, false, false, false] (by kernel_rfl) rfl rfl ⟨(blk_cell BK164.out 0).trans rfl, (blk_cell BK164.out 1).trans rfl, (blk_cell BK164.out 2).trans rfl, (blk_cell BK164.out 3).trans rfl, (blk_cell BK164.out 4).trans rfl, (blk_cell BK164.out 5).trans rfl, hx169_0⟩ (fun hHeld => ?_); refine with_tabW trivetref15_Analyze.tab16 trivetref15_Analyze.bits16 (fun HT_ HW_ => ?_)
                              generalize wr.drew = w35 at HO_7 BK163 BK164 HB hx169_0 hHeld ⊢
                              refine pure_ (i := 0) (N := some 52) (v := ?_) (a' := ?_) #[true, false, false, false, false, false, false, false] rfl rfl (any_of HT_.out (by kernel_rfl)) (fun _ _ _ h => h) (Or.inl ⟨by rfl, ?_⟩) ?_ ?_
                              rotate_left
                              · intro w'
                                go_simp
                                with_reducible rfl
                              rotate_left
                              · simp only [Act.put, List.setIfInBounds_toArray, List.set_cons_zero, List.set_cons_succ, i64_w, i32_w]
                                rfl
                              refine pure_ (i := 2) (N := some 54) (v := ?_) (a' := ?_) #[true, false, true, false, false, false, false, false] rfl rfl (any_of HT_.out (by kernel_rfl)) (fun _ _ _ h => h) (Or.inl ⟨by rfl, ?_⟩) ?_ ?_
                              rotate_left
                              · intro w'
                                go_simp
                                with_reducible rfl
                              rotate_left
                              · simp only [Act.put, List.setIfInBounds_toArray, List.set_cons_zero, List.set_cons_succ, i64_w, i32_w]
                                rfl
                              refine pure_ (i := 3) (N := some 55) (v := ?_) (a' := ?_) #[true, false, true, true, false, false, false, false] rfl rfl (any_of HT_.out (by kernel_rfl)) (fun _ _ _ h => h) (Or.inl ⟨by rfl, ?_⟩) ?_ ?_
                              rotate_left
                              · intro w'
                                go_simp
                                with_reducible rfl
                              rotate_left
                              · simp only [Act.put, List.setIfInBounds_toArray, List.set_cons_zero, List.set_cons_succ, i64_w, i32_w]
                                rfl
                              refine pure_ (i := 4) (N := some 56) (v := ?_) (a' := ?_) #[true, false, true, true, true, false, false, false] rfl rfl (any_of HT_.out (by kernel_rfl)) (fun _ _ _ h => h) (Or.inl ⟨by rfl, ?_⟩) ?_ ?_
                              rotate_left
                              · intro w'
                                go_simp
                                with_reducible rfl
                              rotate_left
                              · simp only [Act.put, List.setIfInBounds_toArray, List.set_cons_zero, List.set_cons_succ, i64_w, i32_w]
                                rfl
                              refine take_ (i := 1) (N := some 53) (v := ?_) (a' := ?_) #[true, true, true, true, true, false, false, false] rfl rfl (take_ofW HT_.out HW_.out (by kernel_rfl)) (fun _ _ _ h => h) (Or.inl ⟨by rfl, ?_⟩) hHeld ?_ ?_
                              rotate_left
                              · rintro w' ⟨s0, s1, s2, s3, s4, s5, s6⟩
                                go_simp
                                with_reducible rfl
                              rotate_left
                              · simp only [Act.put, List.setIfInBounds_toArray, List.set_cons_zero, List.set_cons_succ, i64_w, i32_w]
                                rfl
                              refine take_ (i := 5) (N := some 57) (v := ?_) (a' := ?_) #[true, true, true, true, true, true, false, false] rfl rfl (take_ofW HT_.out HW_.out (by kernel_rfl)) (fun _ _ _ h => h) (Or.inl ⟨by rfl, ?_⟩) hHeld ?_ ?_
                              rotate_left
                              · rintro w' ⟨s0, s1, s2, s3, s4, s5, s6⟩
                                go_simp
                                with_reducible rfl
                              rotate_left
                              · simp only [Act.put, List.setIfInBounds_toArray, List.set_cons_zero, List.set_cons_succ, i64_w, i32_w]
                                rfl
                              refine pure_ (i := 6) (N := some 58) (v := ?_) (a' := ?_) #[true, true, true, true, true, true, true, false] rfl rfl (any_of HT_.out (by kernel_rfl)) (fun _ _ _ h => h) (Or.inl ⟨by rfl, ?_⟩) ?_ ?_
                              rotate_left
                              · intro w'
                                go_simp
                                with_reducible rfl
                              rotate_left
                              · simp only [Act.put, List.setIfInBounds_toArray, List.set_cons_zero, List.set_cons_succ, i64_w, i32_w]
                                rfl
                              refine pure_ (i := 7) (N := some 9) (v := ?_) (a' := ?_) #[true, true, true, true, true, true, true, true] rfl rfl (any_of HT_.out (by kernel_rfl)) (fun _ _ _ h => h) (Or.inl ⟨by rfl, ?_⟩) ?_ ?_
                              rotate_left
                              · intro w'
                                go_simp
                                with_reducible rfl
                              rotate_left
                              · simp only [Act.put, List.setIfInBounds_toArray, List.set_cons_zero, List.set_cons_succ, i64_w, i32_w]
                                rfl
                              refine done_ (done_of HT_.out (by kernel_rfl)) ?_
                              have hnb37 := NB164_163.out
                              have hnc37 := NB163_164.out
                              have hcz38_0 : w35.cell? ⟨gb164, 0, none⟩ = some (.int .i64 x165000_1) := (blk_cell BK164.out 0).trans rfl
                              have hcz38_1 : w35.cell? ⟨gb164, 1, none⟩ = some (.int .i64 x165001_9) := (blk_cell BK164.out 1).trans rfl
                              have hcz38_2 : w35.cell? ⟨gb164, 2, none⟩ = some (.int .i64 x165002_15) := (blk_cell BK164.out 2).trans rfl
                              have hcz38_3 : w35.cell? ⟨gb164, 3, none⟩ = some (.int .i64 x165003_4) := (blk_cell BK164.out 3).trans rfl
                              have hcz38_4 : w35.cell? ⟨gb164, 4, none⟩ = some (.int .i64 x165004_4) := (blk_cell BK164.out 4).trans rfl
                              have hcz38_5 : w35.cell? ⟨gb164, 5, none⟩ = some (.slice none 0 0) := (blk_cell BK164.out 5).trans rfl
                              have hfz38_0 := blk_frozen BK164.out 0
                              have hfz38_1 := blk_frozen BK164.out 1
                              have hfz38_2 := blk_frozen BK164.out 2
                              have hfz38_3 := blk_frozen BK164.out 3
                              have hfz38_4 := blk_frozen BK164.out 4
                              have hfz38_5 := blk_frozen BK164.out 5
                              try go_wp2
                              go_roundg k4
                              case measure => have := HK1.out; have := HJ9.out; have := HJ15.out; have := HK4.out; omega
                              case rel => exact ⟨(wrap64 (x8_4 + 1)), (wrap64 (x165002_15 - (rd t166 x8_4))), (x8_4), (by first | rfl | (simp; done) | (simp [*]; done)), H', ⟨by have := HK1.out; have := HJ9.out; have := HJ15.out; have := HK4.out; omega⟩, ⟨by (with_reducible repeat (first | apply Kd.R_alloc | apply Kd.R_drewN | apply Kd.R_drew)); exact Kd.R_mono (Kd.R_far (p := ⟨gb164, 4, none⟩) (Kd.R_far (p := ⟨gb164, 3, none⟩) (Kd.R_types HO_7.out BK164.out (by decide)) (fun _ hk => hk.2) (.int .i64 (wrap64 (x165002_15 - (rd t166 x8_4))))) (fun _ hk => hk.2) (.int .i64 x8_4)) (fun _ hk => trivial)⟩, ⟨by (with_reducible repeat (first | refine blk_drewN ?_ _ | refine blk_drew ?_ | refine blk_alloc ?_ _)); refine blk_far ?_ NB163_164.out _; (with_reducible repeat (first | refine blk_drewN ?_ _ | refine blk_drew ?_ | refine blk_alloc ?_ _)); refine blk_far ?_ NB163_164.out _; (with_reducible repeat (first | refine blk_drewN ?_ _ | refine blk_drew ?_ | refine blk_alloc ?_ _)); exact BK163.out⟩, ⟨by (with_reducible repeat (first | refine blk_drewN ?_ _ | refine blk_drew ?_ | refine blk_alloc ?_ _)); refine blk_put (cs := #[.int .i64 x165000_1, .int .i64 x165001_9, .int .i64 x165002_15, .int .i64 (wrap64 (x165002_15 - (rd t166 x8_4))), .int .i64 x165004_4, .slice none 0 0]) ?_ 4 _ rfl; (with_reducible repeat (first | refine blk_drewN ?_ _ | refine blk_drew ?_ | refine blk_alloc ?_ _)); refine blk_put (cs := #[.int .i64 x165000_1, .int .i64 x165001_9, .int .i64 x165002_15, .int .i64 x165003_4, .int .i64 x165004_4, .slice none 0 0]) ?_ 3 _ rfl; (with_reducible repeat (first | refine blk_drewN ?_ _ | refine blk_drew ?_ | refine blk_alloc ?_ _)); exact BK164.out⟩, ⟨by repeat (first | (with_reducible first | exact HB.out | apply below_alloc | apply pw_below_drewN | apply below_drew1 | refine below_set ?_ GE163.out | refine below_set ?_ GE164.out) | exact HB.out)⟩⟩
                            · rw [if_neg c34] at H
                              have c34b0 : decide (x165003_4 < (wrap64 (x165002_15 - (rd t166 x8_4)))) = false := decide_eq_false c34
                              clear c34
                              have H' := Aside0.mk H
                              clear H
                              try go_wp2
                              have n0_ := Aside0.mk (Kd.R_drew HO_7.out)
                              have n1_ := Aside0.mk (blk_drew BK163.out)
                              have n2_ := Aside0.mk (blk_drew BK164.out)
                              have n3_ := Aside0.mk (below_drew1 HB.out)
                              clear HO_7
                              clear BK163
                              clear BK164
                              clear HB
                              have HO_7 := n0_
                              have BK163 := n1_
                              have BK164 := n2_
                              have HB := n3_
                              clear n0_ n1_ n2_ n3_
                              obtain ⟨Ao40, co40, eo40⟩ := Kd.R_slice HO_7.out
                              (first | subst eo40 | (injection eo40 with f1_ f2_ f3_; have f4_ := f1_.symm; have f5_ := f3_.symm; clear f1_ f2_ f3_; subst f4_; subst f5_))
                              have p169 : 0 ≤ (x8_4 : Int) := of_decide_eq_true (by first | (with_reducible assumption) | assumption)
                              have q169 : x8_4 < (t166.length : Int) := of_decide_eq_true (by first | (with_reducible assumption) | assumption)
                              obtain ⟨ad169, e169, hx169_0⟩ := Kd.at_int (Kd.R_reads' HO_7.out).2.2 x8_4 p169 q169
                              cases e169
                              replace p169 := eq_true p169
                              replace q169 := eq_true q169
                              refine start_ (n := 8) (S := fun w' => w'.cell? ⟨gb164, 0, none⟩ = some (.int .i64 x165000_1) ∧ w'.cell? ⟨gb164, 1, none⟩ = some (.int .i64 x165001_9) ∧ w'.cell? ⟨gb164, 2, none⟩ = some (.int .i64 x165002_15) ∧ w'.cell? ⟨gb164, 3, none⟩ = some (.int .i64 x165003_4) ∧ w'.cell? ⟨gb164, 4, none⟩ = some (.int .i64 x165004_4) ∧ w'.cell? ⟨gb164, 5, none⟩ = some (.slice none 0 0) ∧ w'.cell? (ad169.add (x8_4).toNat) = some (.int .i64 (rd t166 x8_4))) (ds := []) #[false, false, false, false, false, false, false, false] (by kernel_rfl) rfl rfl ⟨(blk_cell BK164.out 0).trans rfl, (blk_cell BK164.out 1).trans rfl, (blk_cell BK164.out 2).trans rfl, (blk_cell BK164.out 3).trans rfl, (blk_cell BK164.out 4).trans rfl, (blk_cell BK164.out 5).trans rfl, hx169_0⟩ (fun hHeld => ?_); refine with_tabW trivetref15_Analyze.tab16 trivetref15_Analyze.bits16 (fun HT_ HW_ => ?_)
                              generalize wr.drew = w39 at HO_7 BK163 BK164 HB hx169_0 hHeld ⊢
                              refine pure_ (i := 0) (N := some 52) (v := ?_) (a' := ?_) #[true, false, false, false, false, false, false, false] rfl rfl (any_of HT_.out (by kernel_rfl)) (fun _ _ _ h => h) (Or.inl ⟨by rfl, ?_⟩) ?_ ?_
                              rotate_left
                              · intro w'
                                go_simp
                                with_reducible rfl
                              rotate_left
                              · simp only [Act.put, List.setIfInBounds_toArray, List.set_cons_zero, List.set_cons_succ, i64_w, i32_w]
                                rfl
                              refine pure_ (i := 2) (N := some 54) (v := ?_) (a' := ?_) #[true, false, true, false, false, false, false, false] rfl rfl (any_of HT_.out (by kernel_rfl)) (fun _ _ _ h => h) (Or.inl ⟨by rfl, ?_⟩) ?_ ?_
                              rotate_left
                              · intro w'
                                go_simp
                                with_reducible rfl
                              rotate_left
                              · simp only [Act.put, List.setIfInBounds_toArray, List.set_cons_zero, List.set_cons_succ, i64_w, i32_w]
                                rfl
                              refine pure_ (i := 3) (N := some 55) (v := ?_) (a' := ?_) #[true, false, true, true, false, false, false, false] rfl rfl (any_of HT_.out (by kernel_rfl)) (fun _ _ _ h => h) (Or.inl ⟨by rfl, ?_⟩) ?_ ?_
                              rotate_left
                              · intro w'
                                go_simp
                                with_reducible rfl
                              rotate_left
                              · simp only [Act.put, List.setIfInBounds_toArray, List.set_cons_zero, List.set_cons_succ, i64_w, i32_w]
                                rfl
                              refine pure_ (i := 4) (N := some 56) (v := ?_) (a' := ?_) #[true, false, true, true, true, false, false, false] rfl rfl (any_of HT_.out (by kernel_rfl)) (fun _ _ _ h => h) (Or.inl ⟨by rfl, ?_⟩) ?_ ?_
                              rotate_left
                              · intro w'
                                go_simp
                                with_reducible rfl
                              rotate_left
                              · simp only [Act.put, List.setIfInBounds_toArray, List.set_cons_zero, List.set_cons_succ, i64_w, i32_w]
                                rfl
                              refine take_ (i := 1) (N := some 53) (v := ?_) (a' := ?_) #[true, true, true, true, true, false, false, false] rfl rfl (take_ofW HT_.out HW_.out (by kernel_rfl)) (fun _ _ _ h => h) (Or.inl ⟨by rfl, ?_⟩) hHeld ?_ ?_
                              rotate_left
                              · rintro w' ⟨s0, s1, s2, s3, s4, s5, s6⟩
                                go_simp
                                with_reducible rfl
                              rotate_left
                              · simp only [Act.put, List.setIfInBounds_toArray, List.set_cons_zero, List.set_cons_succ, i64_w, i32_w]
                                rfl
                              refine take_ (i := 5) (N := some 57) (v := ?_) (a' := ?_) #[true, true, true, true, true, true, false, false] rfl rfl (take_ofW HT_.out HW_.out (by kernel_rfl)) (fun _ _ _ h => h) (Or.inl ⟨by rfl, ?_⟩) hHeld ?_ ?_
                              rotate_left
                              · rintro w' ⟨s0, s1, s2, s3, s4, s5, s6⟩
                                go_simp
                                with_reducible rfl
                              rotate_left
                              · simp only [Act.put, List.setIfInBounds_toArray, List.set_cons_zero, List.set_cons_succ, i64_w, i32_w]
                                rfl
                              refine pure_ (i := 6) (N := some 58) (v := ?_) (a' := ?_) #[true, true, true, true, true, true, true, false] rfl rfl (any_of HT_.out (by kernel_rfl)) (fun _ _ _ h => h) (Or.inl ⟨by rfl, ?_⟩) ?_ ?_
                              rotate_left
                              · intro w'
                                go_simp
                                with_reducible rfl
                              rotate_left
                              · simp only [Act.put, List.setIfInBounds_toArray, List.set_cons_zero, List.set_cons_succ, i64_w, i32_w]
                                rfl
                              refine pure_ (i := 7) (N := some 9) (v := ?_) (a' := ?_) #[true, true, true, true, true, true, true, true] rfl rfl (any_of HT_.out (by kernel_rfl)) (fun _ _ _ h => h) (Or.inl ⟨by rfl, ?_⟩) ?_ ?_
                              rotate_left
                              · intro w'
                                go_simp
                                with_reducible rfl
                              rotate_left
                              · simp only [Act.put, List.setIfInBounds_toArray, List.set_cons_zero, List.set_cons_succ, i64_w, i32_w]
                                rfl
                              refine done_ (done_of HT_.out (by kernel_rfl)) ?_
                              have hnb41 := NB164_163.out
                              have hnc41 := NB163_164.out
                              have hcz42_0 : w39.cell? ⟨gb164, 0, none⟩ = some (.int .i64 x165000_1) := (blk_cell BK164.out 0).trans rfl
                              have hcz42_1 : w39.cell? ⟨gb164, 1, none⟩ = some (.int .i64 x165001_9) := (blk_cell BK164.out 1).trans rfl
                              have hcz42_2 : w39.cell? ⟨gb164, 2, none⟩ = some (.int .i64 x165002_15) := (blk_cell BK164.out 2).trans rfl
                              have hcz42_3 : w39.cell? ⟨gb164, 3, none⟩ = some (.int .i64 x165003_4) := (blk_cell BK164.out 3).trans rfl
                              have hcz42_4 : w39.cell? ⟨gb164, 4, none⟩ = some (.int .i64 x165004_4) := (blk_cell BK164.out 4).trans rfl
                              have hcz42_5 : w39.cell? ⟨gb164, 5, none⟩ = some (.slice none 0 0) := (blk_cell BK164.out 5).trans rfl
                              have hfz42_0 := blk_frozen BK164.out 0
                              have hfz42_1 := blk_frozen BK164.out 1
                              have hfz42_2 := blk_frozen BK164.out 2
                              have hfz42_3 := blk_frozen BK164.out 3
                              have hfz42_4 := blk_frozen BK164.out 4
                              have hfz42_5 := blk_frozen BK164.out 5
                              try go_wp2
                              go_roundg k4
                              case measure => have := HK1.out; have := HJ9.out; have := HJ15.out; have := HK4.out; omega
                              case rel => exact ⟨(wrap64 (x8_4 + 1)), (x165003_4), (x165004_4), (by first | rfl | (simp; done) | (simp [*]; done)), H', ⟨by have := HK1.out; have := HJ9.out; have := HJ15.out; have := HK4.out; omega⟩, ⟨by (with_reducible repeat (first | apply Kd.R_alloc | apply Kd.R_drewN | apply Kd.R_drew)); exact HO_7.out⟩, ⟨by (with_reducible repeat (first | refine blk_drewN ?_ _ | refine blk_drew ?_ | refine blk_alloc ?_ _)); exact BK163.out⟩, ⟨by (with_reducible repeat (first | refine blk_drewN ?_ _ | refine blk_drew ?_ | refine blk_alloc ?_ _)); exact BK164.out⟩, ⟨by repeat (first | (with_reducible first | exact HB.out | apply below_alloc | apply pw_below_drewN | apply below_drew1 | refine below_set ?_ GE163.out | refine below_set ?_ GE164.out) | exact HB.out)⟩⟩
                        · rw [if_neg c28] at H
                          exact absurd H (by simp)
                      · rw [if_neg c27] at H
                        exact absurd H (by simp)
                    · rw [if_neg c26] at H
                      have c26b0 : decide (x8_4 < 12) = false := decide_eq_false c26
                      clear c26
                      replace H := Option.bind_eq_some_iff.mp H
                      obtain ⟨t170, A430, H⟩ := H
                      replace H : (some (x165000_1, x165001_9, x165002_15, x165003_4, x165004_4, t170)) = some (r1, r2, r3, r4, r5, r6) := H
                      have A43 := Aside0.mk A430
                      clear A430
                      simp only [Option.some.injEq, Prod.mk.injEq] at H
                      obtain ⟨rfl, rfl, rfl, rfl, rfl, rfl⟩ := H
                      have hnb44 := NB164_163.out
                      have hnc44 := NB163_164.out
                      have hcz45_0 : wr.cell? ⟨gb164, 0, none⟩ = some (.int .i64 x165000_1) := (blk_cell BK164.out 0).trans rfl
                      have hcz45_1 : wr.cell? ⟨gb164, 1, none⟩ = some (.int .i64 x165001_9) := (blk_cell BK164.out 1).trans rfl
                      have hcz45_2 : wr.cell? ⟨gb164, 2, none⟩ = some (.int .i64 x165002_15) := (blk_cell BK164.out 2).trans rfl
                      have hcz45_3 : wr.cell? ⟨gb164, 3, none⟩ = some (.int .i64 x165003_4) := (blk_cell BK164.out 3).trans rfl
                      have hcz45_4 : wr.cell? ⟨gb164, 4, none⟩ = some (.int .i64 x165004_4) := (blk_cell BK164.out 4).trans rfl
                      have hcz45_5 : wr.cell? ⟨gb164, 5, none⟩ = some (.slice none 0 0) := (blk_cell BK164.out 5).trans rfl
                      have hfz45_0 := blk_frozen BK164.out 0
                      have hfz45_1 := blk_frozen BK164.out 1
                      have hfz45_2 := blk_frozen BK164.out 2
                      have hfz45_3 := blk_frozen BK164.out 3
                      have hfz45_4 := blk_frozen BK164.out 4
                      have hfz45_5 := blk_frozen BK164.out 5
                      go_wp2_with (first | ((with_reducible refine gate_callee (f := 23) rfl ?_); refine goesL_ (some 76) rfl rfl Try.func23 (by kernel_rfl) rfl #[.slice A0 l0.length c0, .int .i64 x165001_9, .int .i64 x165003_4] rfl (by (try simp only [List.map_toArray, List.map_cons, List.map_nil]); first | done | rfl | (simp only [List.length_drop, List.length_take]; rfl)) ?_; (with_reducible refine (trivetref15_Balances.calls k4 _ _ l0 x165001_9 x165003_4 t170 _ ?side1 ?side2 A43.out).mono ?_); (case side1 => repeat (first | exact (Kd.C_below HR0.out HB.out) | (with_reducible refine Kd.C_alloc ?_ _) | (with_reducible refine Kd.C_drewN ?_ _) | (with_reducible refine Kd.C_drew ?_))); (case side2 => exact HC0.out); rintro e w46 ⟨v171, rfl, ho0, hb⟩; refine ⟨_, rfl, ?_⟩; have n0_ := Aside0.mk (Kd.R_elder' (by (with_reducible repeat (first | apply Kd.R_alloc | apply Kd.R_drewN | apply Kd.R_drew)); exact HO_7.out) (Kd.R_base ho0) hb); have n1_ := Aside0.mk (Kd.R_lower (Kd.R_new' ho0 (Kd.R_lt (by (with_reducible repeat (first | apply Kd.R_alloc | apply Kd.R_drewN | apply Kd.R_drew)); exact HO_7.out))) (below_size (by repeat (first | (with_reducible first | exact HB.out | apply below_alloc | apply pw_below_drewN | apply below_drew1 | refine below_set ?_ GE163.out | refine below_set ?_ GE164.out) | exact HB.out)))); have n2_ := Aside0.mk (blk_below (g := gb163) (o := .cells #[.int .i64 0, .int .i64 0, .int .i64 0, .int .i64 0, .int .i64 0, .slice none 0 0] 38 (0, 0)) (by (with_reducible repeat (first | refine blk_drewN ?_ _ | refine blk_drew ?_ | refine blk_alloc ?_ _)); exact BK163.out) hb); have n3_ := Aside0.mk (blk_below (g := gb164) (o := .cells #[.int .i64 x165000_1, .int .i64 x165001_9, .int .i64 x165002_15, .int .i64 x165003_4, .int .i64 x165004_4, .slice none 0 0] 38 (0, 0)) (by (with_reducible repeat (first | refine blk_drewN ?_ _ | refine blk_drew ?_ | refine blk_alloc ?_ _)); exact BK164.out) hb); have n4_ := Aside0.mk (below_step (by repeat (first | (with_reducible first | exact HB.out | apply below_alloc | apply pw_below_drewN | apply below_drew1 | refine below_set ?_ GE163.out | refine below_set ?_ GE164.out) | exact HB.out)) hb); clear HO_7; clear BK163; clear BK164; clear HB; have HO_7 := n0_; have HO172 := n1_; have BK163 := n2_; have BK164 := n3_; have HB := n4_; clear n0_ n1_ n2_ n3_ n4_; (try clear hb); (try clear hb2); (try clear hk); (try clear hi); (try clear ho0); obtain ⟨Ao47, co47, eo47⟩ := Kd.R_slice HO172.out; subst eo47; have hcz48_0 : w46.cell? ⟨gb164, 0, none⟩ = some (.int .i64 x165000_1) := (blk_cell BK164.out 0).trans rfl; have hcz48_1 : w46.cell? ⟨gb164, 1, none⟩ = some (.int .i64 x165001_9) := (blk_cell BK164.out 1).trans rfl; have hcz48_2 : w46.cell? ⟨gb164, 2, none⟩ = some (.int .i64 x165002_15) := (blk_cell BK164.out 2).trans rfl; have hcz48_3 : w46.cell? ⟨gb164, 3, none⟩ = some (.int .i64 x165003_4) := (blk_cell BK164.out 3).trans rfl; have hcz48_4 : w46.cell? ⟨gb164, 4, none⟩ = some (.int .i64 x165004_4) := (blk_cell BK164.out 4).trans rfl; have hcz48_5 : w46.cell? ⟨gb164, 5, none⟩ = some (.slice none 0 0) := (blk_cell BK164.out 5).trans rfl; have hfz48_0 := blk_frozen BK164.out 0; have hfz48_1 := blk_frozen BK164.out 1; have hfz48_2 := blk_frozen BK164.out 2; have hfz48_3 := blk_frozen BK164.out 3; have hfz48_4 := blk_frozen BK164.out 4; have hfz48_5 := blk_frozen BK164.out 5; have hcz49_0 : w46.cell? ⟨gb163, 0, none⟩ = some (.int .i64 0) := (blk_cell BK163.out 0).trans rfl; have hcz49_1 : w46.cell? ⟨gb163, 1, none⟩ = some (.int .i64 0) := (blk_cell BK163.out 1).trans rfl; have hcz49_2 : w46.cell? ⟨gb163, 2, none⟩ = some (.int .i64 0) := (blk_cell BK163.out 2).trans rfl; have hcz49_3 : w46.cell? ⟨gb163, 3, none⟩ = some (.int .i64 0) := (blk_cell BK163.out 3).trans rfl; have hcz49_4 : w46.cell? ⟨gb163, 4, none⟩ = some (.int .i64 0) := (blk_cell BK163.out 4).trans rfl; have hcz49_5 : w46.cell? ⟨gb163, 5, none⟩ = some (.slice none 0 0) := (blk_cell BK163.out 5).trans rfl; have hfz49_0 := blk_frozen BK163.out 0; have hfz49_1 := blk_frozen BK163.out 1; have hfz49_2 := blk_frozen BK163.out 2; have hfz49_3 := blk_frozen BK163.out 3; have hfz49_4 := blk_frozen BK163.out 4; have hfz49_5 := blk_frozen BK163.out 5))
                      refine bodyPost_ret (results_cell_row rfl _ _ gb163 38 #[.int .i64 x165000_1, .int .i64 x165001_9, .int .i64 x165002_15, .int .i64 x165003_4, .int .i64 x165004_4, .slice Ao47 t170.length co47] (0, 0) _ rfl (by (with_reducible repeat (first | refine blk_drewN ?_ _ | refine blk_drew ?_ | refine blk_alloc ?_ _)); refine blk_put (cs := #[.int .i64 x165000_1, .int .i64 x165001_9, .int .i64 x165002_15, .int .i64 x165003_4, .int .i64 x165004_4, .slice none 0 0]) ?_ 5 _ rfl; (with_reducible repeat (first | refine blk_drewN ?_ _ | refine blk_drew ?_ | refine blk_alloc ?_ _)); refine blk_put (cs := #[.int .i64 x165000_1, .int .i64 x165001_9, .int .i64 x165002_15, .int .i64 x165003_4, .int .i64 0, .slice none 0 0]) ?_ 4 _ rfl; (with_reducible repeat (first | refine blk_drewN ?_ _ | refine blk_drew ?_ | refine blk_alloc ?_ _)); refine blk_put (cs := #[.int .i64 x165000_1, .int .i64 x165001_9, .int .i64 x165002_15, .int .i64 0, .int .i64 0, .slice none 0 0]) ?_ 3 _ rfl; (with_reducible repeat (first | refine blk_drewN ?_ _ | refine blk_drew ?_ | refine blk_alloc ?_ _)); refine blk_put (cs := #[.int .i64 x165000_1, .int .i64 x165001_9, .int .i64 0, .int .i64 0, .int .i64 0, .slice none 0 0]) ?_ 2 _ rfl; (with_reducible repeat (first | refine blk_drewN ?_ _ | refine blk_drew ?_ | refine blk_alloc ?_ _)); refine blk_put (cs := #[.int .i64 x165000_1, .int .i64 0, .int .i64 0, .int .i64 0, .int .i64 0, .slice none 0 0]) ?_ 1 _ rfl; (with_reducible repeat (first | refine blk_drewN ?_ _ | refine blk_drew ?_ | refine blk_alloc ?_ _)); refine blk_put (cs := #[.int .i64 0, .int .i64 0, .int .i64 0, .int .i64 0, .int .i64 0, .slice none 0 0]) ?_ 0 _ rfl; (with_reducible repeat (first | refine blk_drewN ?_ _ | refine blk_drew ?_ | refine blk_alloc ?_ _)); refine blk_far ?_ NB163_164.out _; (with_reducible repeat (first | refine blk_drewN ?_ _ | refine blk_drew ?_ | refine blk_alloc ?_ _)); exact BK163.out) Try.underlying38 rfl (by kernel_rfl)) rfl ?_
                      exact ⟨_, by first | rfl | (simp [errW_none, errW_some] <;> rfl) | (simp [*, errW_none, errW_some] <;> rfl), by (with_reducible repeat (first | apply Kd.R_alloc | apply Kd.R_drewN | apply Kd.R_drew)); exact Kd.R_mono (Kd.R_far (p := ⟨gb163, 5, none⟩) (Kd.R_far (p := ⟨gb163, 4, none⟩) (Kd.R_far (p := ⟨gb163, 3, none⟩) (Kd.R_far (p := ⟨gb163, 2, none⟩) (Kd.R_far (p := ⟨gb163, 1, none⟩) (Kd.R_far (p := ⟨gb163, 0, none⟩) (Kd.R_far (p := ⟨gb164, 5, none⟩) (Kd.R_types (Kd.R_types HO172.out BK164.out (by decide)) BK163.out (by decide)) (fun _ hk => hk.1.2) (.slice Ao47 t170.length co47)) (fun _ hk => hk.2) (.int .i64 x165000_1)) (fun _ hk => hk.2) (.int .i64 x165001_9)) (fun _ hk => hk.2) (.int .i64 x165002_15)) (fun _ hk => hk.2) (.int .i64 x165003_4)) (fun _ hk => hk.2) (.int .i64 x165004_4)) (fun _ hk => hk.2) (.slice Ao47 t170.length co47)) (fun _ hk => trivial), by repeat (first | (with_reducible first | exact HB.out | apply below_alloc | apply pw_below_drewN | apply below_drew1 | refine below_set ?_ GE163.out | refine below_set ?_ GE164.out) | exact HB.out)⟩

end Go.Proofs.Ytmklhkaaaegmgaa.PAnalysisTells
