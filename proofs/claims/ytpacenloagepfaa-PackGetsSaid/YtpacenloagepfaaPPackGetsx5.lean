-- written for this claim by a program of this session (wip/inject.py), which drives the kit's print
import Derived.Test.YtpacenloagepfaaPPackGetsx0
import Derived.Test.YtpacenloagepfaaPPackGetsx2
import Derived.Test.YtpacenloagepfaaPPackGetsx4
namespace Go.Proofs.Ytpacenloagepfaa.PPackGets
open Go.RowKit Go.Proofs.YtpacenloagepfaaW.PrintWords Go.Proofs.YtpacenloagepfaaW.PrintLast Go.Proofs.YtpacenloagepfaaW.PrintMore
attribute [local go_sem] max2_int min2_int max_two min_two max_three min_three max_four min_four   -- for this text's walks alone
set_option linter.unusedVariables false
set_option linter.unusedSimpArgs false

set_option linter.unnecessarySimpa false
attribute [local go_sem high] errEqI errNeI errEqL errNeL errEqR errNeR
/-! ### trivetref06_Same: function 12 -/
mutual
def trivetref06_Same.j0 : Nat → Bool → Int → Int → Int → List Int → Int → Int → Int → List Int → Option (Bool)
  | 0, _, _, _, _, _, _, _, _, _ => none
  | k + 1, x33, x177000, x177001, x177002, x177003, x178000, x178001, x178002, x178003 => if x33 = true then (some false) else (trivetref06_Same.l0 k 0 x177000 x177001 x177002 x177003 x178000 x178001 x178002 x178003)
def trivetref06_Same.l0 : Nat → Int → Int → Int → Int → List Int → Int → Int → Int → List Int → Option (Bool)
  | 0, _, _, _, _, _, _, _, _, _ => none
  | k + 1, x5, x177000, x177001, x177002, x177003, x178000, x178001, x178002, x178003 => if x5 < (x177003.length : Int) then (if 0 ≤ x5 then (if x5 < (x178003.length : Int) then (if (rd x177003 x5) = (rd x178003 x5) then (trivetref06_Same.l0 k (wrap64 (x5 + 1)) x177000 x177001 x177002 x177003 x178000 x178001 x178002 x178003) else (some false)) else (none)) else (none)) else (some true)
end
def trivetref06_Same.f (k : Nat) (a0_0 : Int) (a0_1 : Int) (a0_2 : Int) (l0_3 : List Int) (a1_0 : Int) (a1_1 : Int) (a1_2 : Int) (l1_3 : List Int) : Option (Bool) := if a0_0 = a1_0 then (if a0_1 = a1_1 then (if a0_2 = a1_2 then (trivetref06_Same.j0 k ((l0_3.length : Int) != (l1_3.length : Int)) a0_0 a0_1 a0_2 l0_3 a1_0 a1_1 a1_2 l1_3) else (trivetref06_Same.j0 k true a0_0 a0_1 a0_2 l0_3 a1_0 a1_1 a1_2 l1_3)) else (trivetref06_Same.j0 k true a0_0 a0_1 a0_2 l0_3 a1_0 a1_1 a1_2 l1_3)) else (trivetref06_Same.j0 k true a0_0 a0_1 a0_2 l0_3 a1_0 a1_1 a1_2 l1_3)
theorem trivetref06_Same.mono_l : ∀ k, (∀ y0 y1 y2 y3 y4 y5 y6 y7 y8, LeO (trivetref06_Same.j0 k y0 y1 y2 y3 y4 y5 y6 y7 y8) (trivetref06_Same.j0 (k + 1) y0 y1 y2 y3 y4 y5 y6 y7 y8)) ∧ (∀ y0 y1 y2 y3 y4 y5 y6 y7 y8, LeO (trivetref06_Same.l0 k y0 y1 y2 y3 y4 y5 y6 y7 y8) (trivetref06_Same.l0 (k + 1) y0 y1 y2 y3 y4 y5 y6 y7 y8))
  | 0 => ⟨fun _ _ _ _ _ _ _ _ _ r h => by simp [trivetref06_Same.j0] at h, fun _ _ _ _ _ _ _ _ _ r h => by simp [trivetref06_Same.l0] at h⟩
  | k + 1 => by
    obtain ⟨ih0, ih1⟩ := trivetref06_Same.mono_l k
    refine ⟨?_, ?_⟩
    · intro y0 y1 y2 y3 y4 y5 y6 y7 y8
      unfold trivetref06_Same.j0
      repeat' first
      | (with_reducible exact ih0 _ _ _ _ _ _ _ _ _)
      | (with_reducible exact ih1 _ _ _ _ _ _ _ _ _)
      | (with_reducible exact LeO.refl _)
      | (with_reducible exact LeO.none _)
      | (with_reducible refine LeO.ite ?_ ?_)
      | (with_reducible refine LeO.bind ?_ (fun _ => ?_))
      | exact ih0 _ _ _ _ _ _ _ _ _
      | exact ih1 _ _ _ _ _ _ _ _ _
      | exact LeO.none _
      | refine LeO.ite ?_ ?_
      | refine LeO.bind ?_ (fun _ => ?_)
    · intro y0 y1 y2 y3 y4 y5 y6 y7 y8
      unfold trivetref06_Same.l0
      repeat' first
      | (with_reducible exact ih0 _ _ _ _ _ _ _ _ _)
      | (with_reducible exact ih1 _ _ _ _ _ _ _ _ _)
      | (with_reducible exact LeO.refl _)
      | (with_reducible exact LeO.none _)
      | (with_reducible refine LeO.ite ?_ ?_)
      | (with_reducible refine LeO.bind ?_ (fun _ => ?_))
      | exact ih0 _ _ _ _ _ _ _ _ _
      | exact ih1 _ _ _ _ _ _ _ _ _
      | exact LeO.none _
      | refine LeO.ite ?_ ?_
      | refine LeO.bind ?_ (fun _ => ?_)
theorem trivetref06_Same.mono : ∀ a0 a1 a2 a3 a4 a5 a6 a7 k, LeO (trivetref06_Same.f k a0 a1 a2 a3 a4 a5 a6 a7) (trivetref06_Same.f (k + 1) a0 a1 a2 a3 a4 a5 a6 a7) := by
  intro a0 a1 a2 a3 a4 a5 a6 a7 k
  obtain ⟨ih0, ih1⟩ := trivetref06_Same.mono_l k
  unfold trivetref06_Same.f
  repeat' first
      | (with_reducible exact ih0 _ _ _ _ _ _ _ _ _)
      | (with_reducible exact ih1 _ _ _ _ _ _ _ _ _)
      | (with_reducible exact LeO.refl _)
      | (with_reducible exact LeO.none _)
      | (with_reducible refine LeO.ite ?_ ?_)
      | (with_reducible refine LeO.bind ?_ (fun _ => ?_))
      | exact ih0 _ _ _ _ _ _ _ _ _
      | exact ih1 _ _ _ _ _ _ _ _ _
      | exact LeO.none _
      | refine LeO.ite ?_ ?_
      | refine LeO.bind ?_ (fun _ => ?_)
set_option maxHeartbeats 8000000 in
set_option maxRecDepth 100000 in
theorem trivetref06_Same.calls (k : Nat) (a0_0 : Int) (a0_1 : Int) (a0_2 : Int) (A0_3 : Option Addr) (c0_3 : Nat) (l0_3 : List Int) (a1_0 : Int) (a1_1 : Int) (a1_2 : Int) (A1_3 : Option Addr) (c1_3 : Nat) (l1_3 : List Int) (r : Bool) (w : World) (hr0_3 : Kd.C (Kd.int .i64) w A0_3 l0_3.length l0_3) (hc0_3 : l0_3.length ≤ c0_3) (hr1_3 : Kd.C (Kd.int .i64) w A1_3 l1_3.length l1_3) (hc1_3 : l1_3.length ≤ c1_3) (h : trivetref06_Same.f k a0_0 a0_1 a0_2 l0_3 a1_0 a1_1 a1_2 l1_3 = some r) :
    Calls Try.prog 12 #[.agg #[.int .i64 a0_0, .int .i64 a0_1, .int .i64 a0_2, .slice A0_3 l0_3.length c0_3], .agg #[.int .i64 a1_0, .int .i64 a1_1, .int .i64 a1_2, .slice A1_3 l1_3.length c1_3]] w fun e w' => e = .returned (.bool r) ∧ Below w.heap.size w w' := by
  have hu24 := Try.underlying24
  have HR0_3 := Aside0.mk hr0_3
  have HC0_3 := Aside0.mk hc0_3
  clear hr0_3 hc0_3
  have HR1_3 := Aside0.mk hr1_3
  have HC1_3 := Aside0.mk hc1_3
  clear hr1_3 hc1_3
  have HB := Aside0.mk (Below.refl w.heap.size w)
  have H : (if a0_0 = a1_0 then (if a0_1 = a1_1 then (if a0_2 = a1_2 then (trivetref06_Same.j0 k ((l0_3.length : Int) != (l1_3.length : Int)) a0_0 a0_1 a0_2 l0_3 a1_0 a1_1 a1_2 l1_3) else (trivetref06_Same.j0 k true a0_0 a0_1 a0_2 l0_3 a1_0 a1_1 a1_2 l1_3)) else (trivetref06_Same.j0 k true a0_0 a0_1 a0_2 l0_3 a1_0 a1_1 a1_2 l1_3)) else (trivetref06_Same.j0 k true a0_0 a0_1 a0_2 l0_3 a1_0 a1_1 a1_2 l1_3)) = some r := h
  clear h
  have HC3 := Aside0.mk H
  clear H
  go_enter Try.func12, Try.ntmps12
  go_upto_region 1 with (first | ((with_reducible refine gate_dst (N := 2) rfl ?_); (try (refine gate_guard (by rfl) ?_; dsimp only)); refine box_event ?hg (N := 2) ?hd (cs := #[.int .i64 a0_0, .int .i64 a0_1, .int .i64 a0_2, .slice A0_3 l0_3.length c0_3]) (t := 24) ?hr ?_; (case hd => rfl); (case hg => rfl); (case hr => first | (go_simp; done) | (go_simp; rfl)); intro gb176 hg w4 hbox hb; have n0_ := Aside0.mk (below_step (by repeat (first | (with_reducible first | exact HB.out | apply below_alloc | apply pw_below_drewN | apply below_drew1) | exact HB.out)) hb); have n1_ := Aside0.mk (hbox); have n2_ := Aside0.mk ((by rw [hg]; exact (below_size (by repeat (first | (with_reducible first | exact HB.out | apply below_alloc | apply pw_below_drewN | apply below_drew1) | exact HB.out))) : w.heap.size ≤ gb176)); have n3_ := Aside0.mk ((by rw [hg]; exact (below_size (by repeat (first | (with_reducible first | exact HB.out | apply below_alloc | apply pw_below_drewN | apply below_drew1) | exact HB.out))) : w.heap.size ≤ gb176)); clear HB; have HB := n0_; have BK176 := n1_; have GW176 := n2_; have GE176 := n3_; clear n0_ n1_ n2_ n3_; clear hb hbox hg) | ((with_reducible refine gate_dst (N := 3) rfl ?_); (try (refine gate_guard (by rfl) ?_; dsimp only)); refine box_event ?hg (N := 3) ?hd (cs := #[.int .i64 a1_0, .int .i64 a1_1, .int .i64 a1_2, .slice A1_3 l1_3.length c1_3]) (t := 24) ?hr ?_; (case hd => rfl); (case hg => rfl); (case hr => first | (go_simp; done) | (go_simp; rfl)); intro gb177 hg w5 hbox hb; have n0_ := Aside0.mk (blk_below (g := gb176) (o := .cells #[.int .i64 a0_0, .int .i64 a0_1, .int .i64 a0_2, .slice A0_3 l0_3.length c0_3] 24 (0, 0)) (by (with_reducible repeat (first | refine blk_drewN ?_ _ | refine blk_drew ?_ | refine blk_alloc ?_ _)); exact BK176.out) hb); have n1_ := Aside0.mk (below_step (by repeat (first | (with_reducible first | exact HB.out | apply below_alloc | apply pw_below_drewN | apply below_drew1 | refine below_set ?_ GE176.out) | exact HB.out)) hb); have n2_ := Aside0.mk (hbox); have n3_ := Aside0.mk ((by rw [hg]; exact (below_size (by repeat (first | (with_reducible first | exact HB.out | apply below_alloc | apply pw_below_drewN | apply below_drew1 | refine below_set ?_ GE176.out) | exact HB.out))) : w.heap.size ≤ gb177)); have n4_ := Aside0.mk ((by rw [hg]; exact (below_size (by repeat (first | (with_reducible first | exact HB.out | apply below_alloc | apply pw_below_drewN | apply below_drew1 | refine below_set ?_ GE176.out) | exact HB.out))) : w.heap.size ≤ gb177)); have n5_ := Aside0.mk ((by rw [hg]; exact Nat.ne_of_lt (blk_lt (g := gb176) (o := .cells #[.int .i64 a0_0, .int .i64 a0_1, .int .i64 a0_2, .slice A0_3 l0_3.length c0_3] 24 (0, 0)) (by (with_reducible repeat (first | refine blk_drewN ?_ _ | refine blk_drew ?_ | refine blk_alloc ?_ _)); exact BK176.out)) : gb176 ≠ gb177)); have n6_ := Aside0.mk ((by rw [hg]; exact Nat.ne_of_gt (blk_lt (g := gb176) (o := .cells #[.int .i64 a0_0, .int .i64 a0_1, .int .i64 a0_2, .slice A0_3 l0_3.length c0_3] 24 (0, 0)) (by (with_reducible repeat (first | refine blk_drewN ?_ _ | refine blk_drew ?_ | refine blk_alloc ?_ _)); exact BK176.out)) : gb177 ≠ gb176)); clear BK176; clear HB; have BK176 := n0_; have HB := n1_; have BK177 := n2_; have GW177 := n3_; have GE177 := n4_; have NB176_177 := n5_; have NB177_176 := n6_; clear n0_ n1_ n2_ n3_ n4_ n5_ n6_; clear hb hbox hg))
  repeat (go_quiet (first | ((with_reducible refine gate_dst (N := 2) rfl ?_); (try (refine gate_guard (by rfl) ?_; dsimp only)); refine box_event ?hg (N := 2) ?hd (cs := #[.int .i64 a0_0, .int .i64 a0_1, .int .i64 a0_2, .slice A0_3 l0_3.length c0_3]) (t := 24) ?hr ?_; (case hd => rfl); (case hg => rfl); (case hr => first | (go_simp; done) | (go_simp; rfl)); intro gb176 hg w4 hbox hb; have n0_ := Aside0.mk (below_step (by repeat (first | (with_reducible first | exact HB.out | apply below_alloc | apply pw_below_drewN | apply below_drew1) | exact HB.out)) hb); have n1_ := Aside0.mk (hbox); have n2_ := Aside0.mk ((by rw [hg]; exact (below_size (by repeat (first | (with_reducible first | exact HB.out | apply below_alloc | apply pw_below_drewN | apply below_drew1) | exact HB.out))) : w.heap.size ≤ gb176)); have n3_ := Aside0.mk ((by rw [hg]; exact (below_size (by repeat (first | (with_reducible first | exact HB.out | apply below_alloc | apply pw_below_drewN | apply below_drew1) | exact HB.out))) : w.heap.size ≤ gb176)); clear HB; have HB := n0_; have BK176 := n1_; have GW176 := n2_; have GE176 := n3_; clear n0_ n1_ n2_ n3_; clear hb hbox hg) | ((with_reducible refine gate_dst (N := 3) rfl ?_); (try (refine gate_guard (by rfl) ?_; dsimp only)); refine box_event ?hg (N := 3) ?hd (cs := #[.int .i64 a1_0, .int .i64 a1_1, .int .i64 a1_2, .slice A1_3 l1_3.length c1_3]) (t := 24) ?hr ?_; (case hd => rfl); (case hg => rfl); (case hr => first | (go_simp; done) | (go_simp; rfl)); intro gb177 hg w5 hbox hb; have n0_ := Aside0.mk (blk_below (g := gb176) (o := .cells #[.int .i64 a0_0, .int .i64 a0_1, .int .i64 a0_2, .slice A0_3 l0_3.length c0_3] 24 (0, 0)) (by (with_reducible repeat (first | refine blk_drewN ?_ _ | refine blk_drew ?_ | refine blk_alloc ?_ _)); exact BK176.out) hb); have n1_ := Aside0.mk (below_step (by repeat (first | (with_reducible first | exact HB.out | apply below_alloc | apply pw_below_drewN | apply below_drew1 | refine below_set ?_ GE176.out) | exact HB.out)) hb); have n2_ := Aside0.mk (hbox); have n3_ := Aside0.mk ((by rw [hg]; exact (below_size (by repeat (first | (with_reducible first | exact HB.out | apply below_alloc | apply pw_below_drewN | apply below_drew1 | refine below_set ?_ GE176.out) | exact HB.out))) : w.heap.size ≤ gb177)); have n4_ := Aside0.mk ((by rw [hg]; exact (below_size (by repeat (first | (with_reducible first | exact HB.out | apply below_alloc | apply pw_below_drewN | apply below_drew1 | refine below_set ?_ GE176.out) | exact HB.out))) : w.heap.size ≤ gb177)); have n5_ := Aside0.mk ((by rw [hg]; exact Nat.ne_of_lt (blk_lt (g := gb176) (o := .cells #[.int .i64 a0_0, .int .i64 a0_1, .int .i64 a0_2, .slice A0_3 l0_3.length c0_3] 24 (0, 0)) (by (with_reducible repeat (first | refine blk_drewN ?_ _ | refine blk_drew ?_ | refine blk_alloc ?_ _)); exact BK176.out)) : gb176 ≠ gb177)); have n6_ := Aside0.mk ((by rw [hg]; exact Nat.ne_of_gt (blk_lt (g := gb176) (o := .cells #[.int .i64 a0_0, .int .i64 a0_1, .int .i64 a0_2, .slice A0_3 l0_3.length c0_3] 24 (0, 0)) (by (with_reducible repeat (first | refine blk_drewN ?_ _ | refine blk_drew ?_ | refine blk_alloc ?_ _)); exact BK176.out)) : gb177 ≠ gb176)); clear BK176; clear HB; have BK176 := n0_; have HB := n1_; have BK177 := n2_; have GW177 := n3_; have GE177 := n4_; have NB176_177 := n5_; have NB177_176 := n6_; clear n0_ n1_ n2_ n3_ n4_ n5_ n6_; clear hb hbox hg)); go_upto_region 1 with (first | ((with_reducible refine gate_dst (N := 2) rfl ?_); (try (refine gate_guard (by rfl) ?_; dsimp only)); refine box_event ?hg (N := 2) ?hd (cs := #[.int .i64 a0_0, .int .i64 a0_1, .int .i64 a0_2, .slice A0_3 l0_3.length c0_3]) (t := 24) ?hr ?_; (case hd => rfl); (case hg => rfl); (case hr => first | (go_simp; done) | (go_simp; rfl)); intro gb176 hg w4 hbox hb; have n0_ := Aside0.mk (below_step (by repeat (first | (with_reducible first | exact HB.out | apply below_alloc | apply pw_below_drewN | apply below_drew1) | exact HB.out)) hb); have n1_ := Aside0.mk (hbox); have n2_ := Aside0.mk ((by rw [hg]; exact (below_size (by repeat (first | (with_reducible first | exact HB.out | apply below_alloc | apply pw_below_drewN | apply below_drew1) | exact HB.out))) : w.heap.size ≤ gb176)); have n3_ := Aside0.mk ((by rw [hg]; exact (below_size (by repeat (first | (with_reducible first | exact HB.out | apply below_alloc | apply pw_below_drewN | apply below_drew1) | exact HB.out))) : w.heap.size ≤ gb176)); clear HB; have HB := n0_; have BK176 := n1_; have GW176 := n2_; have GE176 := n3_; clear n0_ n1_ n2_ n3_; clear hb hbox hg) | ((with_reducible refine gate_dst (N := 3) rfl ?_); (try (refine gate_guard (by rfl) ?_; dsimp only)); refine box_event ?hg (N := 3) ?hd (cs := #[.int .i64 a1_0, .int .i64 a1_1, .int .i64 a1_2, .slice A1_3 l1_3.length c1_3]) (t := 24) ?hr ?_; (case hd => rfl); (case hg => rfl); (case hr => first | (go_simp; done) | (go_simp; rfl)); intro gb177 hg w5 hbox hb; have n0_ := Aside0.mk (blk_below (g := gb176) (o := .cells #[.int .i64 a0_0, .int .i64 a0_1, .int .i64 a0_2, .slice A0_3 l0_3.length c0_3] 24 (0, 0)) (by (with_reducible repeat (first | refine blk_drewN ?_ _ | refine blk_drew ?_ | refine blk_alloc ?_ _)); exact BK176.out) hb); have n1_ := Aside0.mk (below_step (by repeat (first | (with_reducible first | exact HB.out | apply below_alloc | apply pw_below_drewN | apply below_drew1 | refine below_set ?_ GE176.out) | exact HB.out)) hb); have n2_ := Aside0.mk (hbox); have n3_ := Aside0.mk ((by rw [hg]; exact (below_size (by repeat (first | (with_reducible first | exact HB.out | apply below_alloc | apply pw_below_drewN | apply below_drew1 | refine below_set ?_ GE176.out) | exact HB.out))) : w.heap.size ≤ gb177)); have n4_ := Aside0.mk ((by rw [hg]; exact (below_size (by repeat (first | (with_reducible first | exact HB.out | apply below_alloc | apply pw_below_drewN | apply below_drew1 | refine below_set ?_ GE176.out) | exact HB.out))) : w.heap.size ≤ gb177)); have n5_ := Aside0.mk ((by rw [hg]; exact Nat.ne_of_lt (blk_lt (g := gb176) (o := .cells #[.int .i64 a0_0, .int .i64 a0_1, .int .i64 a0_2, .slice A0_3 l0_3.length c0_3] 24 (0, 0)) (by (with_reducible repeat (first | refine blk_drewN ?_ _ | refine blk_drew ?_ | refine blk_alloc ?_ _)); exact BK176.out)) : gb176 ≠ gb177)); have n6_ := Aside0.mk ((by rw [hg]; exact Nat.ne_of_gt (blk_lt (g := gb176) (o := .cells #[.int .i64 a0_0, .int .i64 a0_1, .int .i64 a0_2, .slice A0_3 l0_3.length c0_3] 24 (0, 0)) (by (with_reducible repeat (first | refine blk_drewN ?_ _ | refine blk_drew ?_ | refine blk_alloc ?_ _)); exact BK176.out)) : gb177 ≠ gb176)); clear BK176; clear HB; have BK176 := n0_; have HB := n1_; have BK177 := n2_; have GW177 := n3_; have GE177 := n4_; have NB176_177 := n5_; have NB177_176 := n6_; clear n0_ n1_ n2_ n3_ n4_ n5_ n6_; clear hb hbox hg)))
  (try simp only [Act.put, List.setIfInBounds_toArray, List.set_cons_zero, List.set_cons_succ])
  go_cut [33] (fun v33 wc => ∃ (kq : Nat) (x33_2 : Bool), v33 = .bool x33_2 ∧ Aside0 (trivetref06_Same.j0 kq x33_2 a0_0 a0_1 a0_2 l0_3 a1_0 a1_1 a1_2 l1_3 = some r) ∧ Aside0 (kq ≤ k) ∧ Aside0 (wc.heap[gb176]? = some (.cells #[.int .i64 a0_0, .int .i64 a0_1, .int .i64 a0_2, (.slice A0_3 l0_3.length c0_3)] 24 (0, 0))) ∧ Aside0 (wc.heap[gb177]? = some (.cells #[.int .i64 a1_0, .int .i64 a1_1, .int .i64 a1_2, (.slice A1_3 l1_3.length c1_3)] 24 (0, 0))) ∧ Aside0 (Below w.heap.size w wc))
  case first =>
    have H := HC3.out
    clear HC3
    by_cases c6 : a0_0 = a1_0
    · rw [if_pos c6] at H
      have c6b0 : (a0_0 == a1_0) = true := beq_iff_eq.mpr c6
      have c6b1 : (a0_0 != a1_0) = false := bne_eq_false_iff_eq.mpr c6
      clear c6
      (first | rw [c6b0] | (simp only [i64_w, i32_w]; rw [c6b0]) | skip)
      by_cases c7 : a0_1 = a1_1
      · rw [if_pos c7] at H
        have c7b0 : (a0_1 == a1_1) = true := beq_iff_eq.mpr c7
        have c7b1 : (a0_1 != a1_1) = false := bne_eq_false_iff_eq.mpr c7
        clear c7
        by_cases c8 : a0_2 = a1_2
        · rw [if_pos c8] at H
          have c8b0 : (a0_2 == a1_2) = true := beq_iff_eq.mpr c8
          have c8b1 : (a0_2 != a1_2) = false := bne_eq_false_iff_eq.mpr c8
          clear c8
          have H' := Aside0.mk H
          clear H
          have hnb9 := NB176_177.out
          have hnc9 := NB177_176.out
          have hcz10_0 : w5.cell? ⟨gb176, 0, none⟩ = some (.int .i64 a0_0) := (blk_cell BK176.out 0).trans rfl
          have hcz10_1 : w5.cell? ⟨gb176, 1, none⟩ = some (.int .i64 a0_1) := (blk_cell BK176.out 1).trans rfl
          have hcz10_2 : w5.cell? ⟨gb176, 2, none⟩ = some (.int .i64 a0_2) := (blk_cell BK176.out 2).trans rfl
          have hcz10_3 : w5.cell? ⟨gb176, 3, none⟩ = some (.slice A0_3 l0_3.length c0_3) := (blk_cell BK176.out 3).trans rfl
          have hfz10_0 := blk_frozen BK176.out 0
          have hfz10_1 := blk_frozen BK176.out 1
          have hfz10_2 := blk_frozen BK176.out 2
          have hfz10_3 := blk_frozen BK176.out 3
          have hcz11_0 : w5.cell? ⟨gb177, 0, none⟩ = some (.int .i64 a1_0) := (blk_cell BK177.out 0).trans rfl
          have hcz11_1 : w5.cell? ⟨gb177, 1, none⟩ = some (.int .i64 a1_1) := (blk_cell BK177.out 1).trans rfl
          have hcz11_2 : w5.cell? ⟨gb177, 2, none⟩ = some (.int .i64 a1_2) := (blk_cell BK177.out 2).trans rfl
          have hcz11_3 : w5.cell? ⟨gb177, 3, none⟩ = some (.slice A1_3 l1_3.length c1_3) := (blk_cell BK177.out 3).trans rfl
          have hfz11_0 := blk_frozen BK177.out 0
          have hfz11_1 := blk_frozen BK177.out 1
          have hfz11_2 := blk_frozen BK177.out 2
          have hfz11_3 := blk_frozen BK177.out 3
          go_wp2
          repeat (go_quiet (fail); try go_wp2)
          go_meet
          case rel => exact ⟨_, (((l0_3.length : Int) != (l1_3.length : Int))), (by first | rfl | (simp; done) | (simp [*]; done)), H', ⟨by first | omega | exact Nat.le_refl _⟩, ⟨by (with_reducible repeat (first | refine blk_drewN ?_ _ | refine blk_drew ?_ | refine blk_alloc ?_ _)); exact BK176.out⟩, ⟨by (with_reducible repeat (first | refine blk_drewN ?_ _ | refine blk_drew ?_ | refine blk_alloc ?_ _)); exact BK177.out⟩, ⟨by repeat (first | (with_reducible first | exact HB.out | apply below_alloc | apply pw_below_drewN | apply below_drew1 | refine below_set ?_ GE176.out | refine below_set ?_ GE177.out) | exact HB.out)⟩⟩
        · rw [if_neg c8] at H
          have c8b0 : (a0_2 == a1_2) = false := beq_eq_false_iff_ne.mpr c8
          have c8b1 : (a0_2 != a1_2) = true := bne_iff_ne.mpr c8
          have H' := Aside0.mk H
          clear H
          have hnb12 := NB176_177.out
          have hnc12 := NB177_176.out
          have hcz13_0 : w5.cell? ⟨gb176, 0, none⟩ = some (.int .i64 a0_0) := (blk_cell BK176.out 0).trans rfl
          have hcz13_1 : w5.cell? ⟨gb176, 1, none⟩ = some (.int .i64 a0_1) := (blk_cell BK176.out 1).trans rfl
          have hcz13_2 : w5.cell? ⟨gb176, 2, none⟩ = some (.int .i64 a0_2) := (blk_cell BK176.out 2).trans rfl
          have hcz13_3 : w5.cell? ⟨gb176, 3, none⟩ = some (.slice A0_3 l0_3.length c0_3) := (blk_cell BK176.out 3).trans rfl
          have hfz13_0 := blk_frozen BK176.out 0
          have hfz13_1 := blk_frozen BK176.out 1
          have hfz13_2 := blk_frozen BK176.out 2
          have hfz13_3 := blk_frozen BK176.out 3
          have hcz14_0 : w5.cell? ⟨gb177, 0, none⟩ = some (.int .i64 a1_0) := (blk_cell BK177.out 0).trans rfl
          have hcz14_1 : w5.cell? ⟨gb177, 1, none⟩ = some (.int .i64 a1_1) := (blk_cell BK177.out 1).trans rfl
          have hcz14_2 : w5.cell? ⟨gb177, 2, none⟩ = some (.int .i64 a1_2) := (blk_cell BK177.out 2).trans rfl
          have hcz14_3 : w5.cell? ⟨gb177, 3, none⟩ = some (.slice A1_3 l1_3.length c1_3) := (blk_cell BK177.out 3).trans rfl
          have hfz14_0 := blk_frozen BK177.out 0
          have hfz14_1 := blk_frozen BK177.out 1
          have hfz14_2 := blk_frozen BK177.out 2
          have hfz14_3 := blk_frozen BK177.out 3
          go_wp2
          repeat (go_quiet (fail); try go_wp2)
          go_meet
          case rel => exact ⟨_, (true), (by first | rfl | (simp; done) | (simp [*]; done)), H', ⟨by first | omega | exact Nat.le_refl _⟩, ⟨by (with_reducible repeat (first | refine blk_drewN ?_ _ | refine blk_drew ?_ | refine blk_alloc ?_ _)); exact BK176.out⟩, ⟨by (with_reducible repeat (first | refine blk_drewN ?_ _ | refine blk_drew ?_ | refine blk_alloc ?_ _)); exact BK177.out⟩, ⟨by repeat (first | (with_reducible first | exact HB.out | apply below_alloc | apply pw_below_drewN | apply below_drew1 | refine below_set ?_ GE176.out | refine below_set ?_ GE177.out) | exact HB.out)⟩⟩
      · rw [if_neg c7] at H
        have c7b0 : (a0_1 == a1_1) = false := beq_eq_false_iff_ne.mpr c7
        have c7b1 : (a0_1 != a1_1) = true := bne_iff_ne.mpr c7
        have H' := Aside0.mk H
        clear H
        have hnb15 := NB176_177.out
        have hnc15 := NB177_176.out
        have hcz16_0 : w5.cell? ⟨gb176, 0, none⟩ = some (.int .i64 a0_0) := (blk_cell BK176.out 0).trans rfl
        have hcz16_1 : w5.cell? ⟨gb176, 1, none⟩ = some (.int .i64 a0_1) := (blk_cell BK176.out 1).trans rfl
        have hcz16_2 : w5.cell? ⟨gb176, 2, none⟩ = some (.int .i64 a0_2) := (blk_cell BK176.out 2).trans rfl
        have hcz16_3 : w5.cell? ⟨gb176, 3, none⟩ = some (.slice A0_3 l0_3.length c0_3) := (blk_cell BK176.out 3).trans rfl
        have hfz16_0 := blk_frozen BK176.out 0
        have hfz16_1 := blk_frozen BK176.out 1
        have hfz16_2 := blk_frozen BK176.out 2
        have hfz16_3 := blk_frozen BK176.out 3
        have hcz17_0 : w5.cell? ⟨gb177, 0, none⟩ = some (.int .i64 a1_0) := (blk_cell BK177.out 0).trans rfl
        have hcz17_1 : w5.cell? ⟨gb177, 1, none⟩ = some (.int .i64 a1_1) := (blk_cell BK177.out 1).trans rfl
        have hcz17_2 : w5.cell? ⟨gb177, 2, none⟩ = some (.int .i64 a1_2) := (blk_cell BK177.out 2).trans rfl
        have hcz17_3 : w5.cell? ⟨gb177, 3, none⟩ = some (.slice A1_3 l1_3.length c1_3) := (blk_cell BK177.out 3).trans rfl
        have hfz17_0 := blk_frozen BK177.out 0
        have hfz17_1 := blk_frozen BK177.out 1
        have hfz17_2 := blk_frozen BK177.out 2
        have hfz17_3 := blk_frozen BK177.out 3
        go_wp2
        repeat (go_quiet (fail); try go_wp2)
        go_meet
        case rel => exact ⟨_, (true), (by first | rfl | (simp; done) | (simp [*]; done)), H', ⟨by first | omega | exact Nat.le_refl _⟩, ⟨by (with_reducible repeat (first | refine blk_drewN ?_ _ | refine blk_drew ?_ | refine blk_alloc ?_ _)); exact BK176.out⟩, ⟨by (with_reducible repeat (first | refine blk_drewN ?_ _ | refine blk_drew ?_ | refine blk_alloc ?_ _)); exact BK177.out⟩, ⟨by repeat (first | (with_reducible first | exact HB.out | apply below_alloc | apply pw_below_drewN | apply below_drew1 | refine below_set ?_ GE176.out | refine below_set ?_ GE177.out) | exact HB.out)⟩⟩
    · rw [if_neg c6] at H
      have c6b0 : (a0_0 == a1_0) = false := beq_eq_false_iff_ne.mpr c6
      have c6b1 : (a0_0 != a1_0) = true := bne_iff_ne.mpr c6
      (first | rw [c6b0] | (simp only [i64_w, i32_w]; rw [c6b0]) | skip)
      have H' := Aside0.mk H
      clear H
      have hnb18 := NB176_177.out
      have hnc18 := NB177_176.out
      have hcz19_0 : w5.cell? ⟨gb176, 0, none⟩ = some (.int .i64 a0_0) := (blk_cell BK176.out 0).trans rfl
      have hcz19_1 : w5.cell? ⟨gb176, 1, none⟩ = some (.int .i64 a0_1) := (blk_cell BK176.out 1).trans rfl
      have hcz19_2 : w5.cell? ⟨gb176, 2, none⟩ = some (.int .i64 a0_2) := (blk_cell BK176.out 2).trans rfl
      have hcz19_3 : w5.cell? ⟨gb176, 3, none⟩ = some (.slice A0_3 l0_3.length c0_3) := (blk_cell BK176.out 3).trans rfl
      have hfz19_0 := blk_frozen BK176.out 0
      have hfz19_1 := blk_frozen BK176.out 1
      have hfz19_2 := blk_frozen BK176.out 2
      have hfz19_3 := blk_frozen BK176.out 3
      have hcz20_0 : w5.cell? ⟨gb177, 0, none⟩ = some (.int .i64 a1_0) := (blk_cell BK177.out 0).trans rfl
      have hcz20_1 : w5.cell? ⟨gb177, 1, none⟩ = some (.int .i64 a1_1) := (blk_cell BK177.out 1).trans rfl
      have hcz20_2 : w5.cell? ⟨gb177, 2, none⟩ = some (.int .i64 a1_2) := (blk_cell BK177.out 2).trans rfl
      have hcz20_3 : w5.cell? ⟨gb177, 3, none⟩ = some (.slice A1_3 l1_3.length c1_3) := (blk_cell BK177.out 3).trans rfl
      have hfz20_0 := blk_frozen BK177.out 0
      have hfz20_1 := blk_frozen BK177.out 1
      have hfz20_2 := blk_frozen BK177.out 2
      have hfz20_3 := blk_frozen BK177.out 3
      go_wp2
      repeat (go_quiet (fail); try go_wp2)
      go_meet
      case rel => exact ⟨_, (true), (by first | rfl | (simp; done) | (simp [*]; done)), H', ⟨by first | omega | exact Nat.le_refl _⟩, ⟨by (with_reducible repeat (first | refine blk_drewN ?_ _ | refine blk_drew ?_ | refine blk_alloc ?_ _)); exact BK176.out⟩, ⟨by (with_reducible repeat (first | refine blk_drewN ?_ _ | refine blk_drew ?_ | refine blk_alloc ?_ _)); exact BK177.out⟩, ⟨by repeat (first | (with_reducible first | exact HB.out | apply below_alloc | apply pw_below_drewN | apply below_drew1 | refine below_set ?_ GE176.out | refine below_set ?_ GE177.out) | exact HB.out)⟩⟩
  case rest =>
    clear HC3
    try clear c1
    try clear p2
    try clear c6
    try clear c6b0
    try clear c6b1
    try clear c7
    try clear c7b0
    try clear c7b1
    try clear c8
    try clear c8b0
    try clear c8b1
    try clear c9
    try clear c12
    try clear c15
    try clear c18
    try clear hcz10_0
    try clear hcz10_1
    try clear hcz10_2
    try clear hcz10_3
    try clear hcz11_0
    try clear hcz11_1
    try clear hcz11_2
    try clear hcz11_3
    try clear hcz13_0
    try clear hcz13_1
    try clear hcz13_2
    try clear hcz13_3
    try clear hcz14_0
    try clear hcz14_1
    try clear hcz14_2
    try clear hcz14_3
    try clear hcz16_0
    try clear hcz16_1
    try clear hcz16_2
    try clear hcz16_3
    try clear hcz17_0
    try clear hcz17_1
    try clear hcz17_2
    try clear hcz17_3
    try clear hcz19_0
    try clear hcz19_1
    try clear hcz19_2
    try clear hcz19_3
    try clear hcz20_0
    try clear hcz20_1
    try clear hcz20_2
    try clear hcz20_3
    try clear hfz10_0
    try clear hfz10_1
    try clear hfz10_2
    try clear hfz10_3
    try clear hfz11_0
    try clear hfz11_1
    try clear hfz11_2
    try clear hfz11_3
    try clear hfz13_0
    try clear hfz13_1
    try clear hfz13_2
    try clear hfz13_3
    try clear hfz14_0
    try clear hfz14_1
    try clear hfz14_2
    try clear hfz14_3
    try clear hfz16_0
    try clear hfz16_1
    try clear hfz16_2
    try clear hfz16_3
    try clear hfz17_0
    try clear hfz17_1
    try clear hfz17_2
    try clear hfz17_3
    try clear hfz19_0
    try clear hfz19_1
    try clear hfz19_2
    try clear hfz19_3
    try clear hfz20_0
    try clear hfz20_1
    try clear hfz20_2
    try clear hfz20_3
    obtain ⟨kq, x33_2, rfl, HA, HJ2, BK176, BK177, HB⟩ := hcut
    cases kq with
    | zero => exact absurd HA.out (by simp [trivetref06_Same.j0])
    | succ kj2 =>
      have H := HA.out
      clear HA
      simp only [trivetref06_Same.j0] at H
      by_cases c21 : x33_2 = true
      · subst c21
        have H1 : (some false) = some r := by rw [if_pos rfl] at H; exact H
        clear H
        have H := H1
        clear H1
        obtain rfl := Option.some.inj H
        go_wp2
        repeat (go_quiet (fail); try go_wp2)
        go_ret
        exact ⟨by first | rfl | (simp [errW_none, errW_some] <;> rfl) | (simp [*, errW_none, errW_some] <;> rfl), by repeat (first | (with_reducible first | exact HB.out | apply below_alloc | apply pw_below_drewN | apply below_drew1 | refine below_set ?_ GE176.out | refine below_set ?_ GE177.out) | exact HB.out)⟩
      · replace c21 := Bool.eq_false_iff.mpr c21
        subst c21
        have H1 : (trivetref06_Same.l0 kj2 0 a0_0 a0_1 a0_2 l0_3 a1_0 a1_1 a1_2 l1_3) = some r := by rw [if_neg (show ¬ (false = true) by decide)] at H; exact H
        clear H
        have H := H1
        clear H1
        have H' := Aside0.mk H
        clear H
        go_wp2
        repeat (go_quiet (fail); try go_wp2)
        go_loopg [5] kj2 (fun kq v5 w' => ∃ (x5_2 : Int), v5 = .int .i64 x5_2 ∧ Aside0 (trivetref06_Same.l0 kq x5_2 a0_0 a0_1 a0_2 l0_3 a1_0 a1_1 a1_2 l1_3 = some r) ∧ Aside0 (kq ≤ kj2) ∧ Aside0 (w'.heap[gb176]? = some (.cells #[.int .i64 a0_0, .int .i64 a0_1, .int .i64 a0_2, (.slice A0_3 l0_3.length c0_3)] 24 (0, 0))) ∧ Aside0 (w'.heap[gb177]? = some (.cells #[.int .i64 a1_0, .int .i64 a1_1, .int .i64 a1_2, (.slice A1_3 l1_3.length c1_3)] 24 (0, 0))) ∧ Aside0 (Below w.heap.size w w'))
        case atStart => exact ⟨(0), (by first | rfl | (simp; done) | (simp [*]; done)), H', ⟨Nat.le_refl _⟩, ⟨by (with_reducible repeat (first | refine blk_drewN ?_ _ | refine blk_drew ?_ | refine blk_alloc ?_ _)); exact BK176.out⟩, ⟨by (with_reducible repeat (first | refine blk_drewN ?_ _ | refine blk_drew ?_ | refine blk_alloc ?_ _)); exact BK177.out⟩, ⟨by repeat (first | (with_reducible first | exact HB.out | apply below_alloc | apply pw_below_drewN | apply below_drew1 | refine below_set ?_ GE176.out | refine below_set ?_ GE177.out) | exact HB.out)⟩⟩
        case round =>
          clear H'
          try clear c1
          try clear c2
          try clear p2
          try clear c6
          try clear c6b0
          try clear c6b1
          try clear c7
          try clear c7b0
          try clear c7b1
          try clear c8
          try clear c8b0
          try clear c8b1
          try clear c9
          try clear c12
          try clear c15
          try clear c18
          try clear c21
          try clear hcz10_0
          try clear hcz10_1
          try clear hcz10_2
          try clear hcz10_3
          try clear hcz11_0
          try clear hcz11_1
          try clear hcz11_2
          try clear hcz11_3
          try clear hcz13_0
          try clear hcz13_1
          try clear hcz13_2
          try clear hcz13_3
          try clear hcz14_0
          try clear hcz14_1
          try clear hcz14_2
          try clear hcz14_3
          try clear hcz16_0
          try clear hcz16_1
          try clear hcz16_2
          try clear hcz16_3
          try clear hcz17_0
          try clear hcz17_1
          try clear hcz17_2
          try clear hcz17_3
          try clear hcz19_0
          try clear hcz19_1
          try clear hcz19_2
          try clear hcz19_3
          try clear hcz20_0
          try clear hcz20_1
          try clear hcz20_2
          try clear hcz20_3
          try clear hfz10_0
          try clear hfz10_1
          try clear hfz10_2
          try clear hfz10_3
          try clear hfz11_0
          try clear hfz11_1
          try clear hfz11_2
          try clear hfz11_3
          try clear hfz13_0
          try clear hfz13_1
          try clear hfz13_2
          try clear hfz13_3
          try clear hfz14_0
          try clear hfz14_1
          try clear hfz14_2
          try clear hfz14_3
          try clear hfz16_0
          try clear hfz16_1
          try clear hfz16_2
          try clear hfz16_3
          try clear hfz17_0
          try clear hfz17_1
          try clear hfz17_2
          try clear hfz17_3
          try clear hfz19_0
          try clear hfz19_1
          try clear hfz19_2
          try clear hfz19_3
          try clear hfz20_0
          try clear hfz20_1
          try clear hfz20_2
          try clear hfz20_3
          try clear p2
          obtain ⟨x5_2, rfl, HA, HK2, BK176, BK177, HB⟩ := hrel
          cases gk with
          | zero => exact absurd HA.out (by simp [trivetref06_Same.l0])
          | succ k2 =>
            have H := HA.out
            clear HA
            simp only [trivetref06_Same.l0] at H
            by_cases c22 : x5_2 < (l0_3.length : Int)
            · rw [if_pos c22] at H
              have c22b0 : decide (x5_2 < (l0_3.length : Int)) = true := decide_eq_true c22
              clear c22
              by_cases c23 : 0 ≤ x5_2
              · rw [if_pos c23] at H
                have c23b0 : decide (0 ≤ x5_2) = true := decide_eq_true c23
                clear c23
                by_cases c24 : x5_2 < (l1_3.length : Int)
                · rw [if_pos c24] at H
                  have c24b0 : decide (x5_2 < (l1_3.length : Int)) = true := decide_eq_true c24
                  clear c24
                  by_cases c25 : (rd l0_3 x5_2) = (rd l1_3 x5_2)
                  · rw [if_pos c25] at H
                    have c25b0 : ((rd l0_3 x5_2) == (rd l1_3 x5_2)) = true := beq_iff_eq.mpr c25
                    have c25b1 : ((rd l0_3 x5_2) != (rd l1_3 x5_2)) = false := bne_eq_false_iff_eq.mpr c25
                    clear c25
                    have H' := Aside0.mk H
                    clear H
                    have hnb26 := NB176_177.out
                    have hnc26 := NB177_176.out
                    have hcz27_0 : wr.cell? ⟨gb176, 0, none⟩ = some (.int .i64 a0_0) := (blk_cell BK176.out 0).trans rfl
                    have hcz27_1 : wr.cell? ⟨gb176, 1, none⟩ = some (.int .i64 a0_1) := (blk_cell BK176.out 1).trans rfl
                    have hcz27_2 : wr.cell? ⟨gb176, 2, none⟩ = some (.int .i64 a0_2) := (blk_cell BK176.out 2).trans rfl
                    have hcz27_3 : wr.cell? ⟨gb176, 3, none⟩ = some (.slice A0_3 l0_3.length c0_3) := (blk_cell BK176.out 3).trans rfl
                    have hfz27_0 := blk_frozen BK176.out 0
                    have hfz27_1 := blk_frozen BK176.out 1
                    have hfz27_2 := blk_frozen BK176.out 2
                    have hfz27_3 := blk_frozen BK176.out 3
                    have p178 : 0 ≤ (x5_2 : Int) := of_decide_eq_true (by first | (with_reducible assumption) | assumption)
                    have q178 : x5_2 < (l0_3.length : Int) := of_decide_eq_true (by first | (with_reducible assumption) | assumption)
                    obtain ⟨ad178, e178, hx178_0⟩ := Kd.at_int HR0_3.out x5_2 p178 q178
                    cases e178
                    replace hx178_0 := (HB.out.cell (World.block_lt_of_cell? w _ hx178_0)).trans hx178_0
                    replace p178 := eq_true p178
                    replace q178 := eq_true q178
                    have hcz28_0 : wr.cell? ⟨gb177, 0, none⟩ = some (.int .i64 a1_0) := (blk_cell BK177.out 0).trans rfl
                    have hcz28_1 : wr.cell? ⟨gb177, 1, none⟩ = some (.int .i64 a1_1) := (blk_cell BK177.out 1).trans rfl
                    have hcz28_2 : wr.cell? ⟨gb177, 2, none⟩ = some (.int .i64 a1_2) := (blk_cell BK177.out 2).trans rfl
                    have hcz28_3 : wr.cell? ⟨gb177, 3, none⟩ = some (.slice A1_3 l1_3.length c1_3) := (blk_cell BK177.out 3).trans rfl
                    have hfz28_0 := blk_frozen BK177.out 0
                    have hfz28_1 := blk_frozen BK177.out 1
                    have hfz28_2 := blk_frozen BK177.out 2
                    have hfz28_3 := blk_frozen BK177.out 3
                    have p179 : 0 ≤ (x5_2 : Int) := of_decide_eq_true (by first | (with_reducible assumption) | assumption)
                    have q179 : x5_2 < (l1_3.length : Int) := of_decide_eq_true (by first | (with_reducible assumption) | assumption)
                    obtain ⟨ad179, e179, hx179_0⟩ := Kd.at_int HR1_3.out x5_2 p179 q179
                    cases e179
                    replace hx179_0 := (HB.out.cell (World.block_lt_of_cell? w _ hx179_0)).trans hx179_0
                    replace p179 := eq_true p179
                    replace q179 := eq_true q179
                    go_wp2
                    repeat (go_quiet (fail); try go_wp2)
                    go_roundg k2
                    case measure => have := HJ2.out; have := HK2.out; omega
                    case rel => exact ⟨(wrap64 (x5_2 + 1)), (by first | rfl | (simp; done) | (simp [*]; done)), H', ⟨by have := HJ2.out; have := HK2.out; omega⟩, ⟨by (with_reducible repeat (first | refine blk_drewN ?_ _ | refine blk_drew ?_ | refine blk_alloc ?_ _)); exact BK176.out⟩, ⟨by (with_reducible repeat (first | refine blk_drewN ?_ _ | refine blk_drew ?_ | refine blk_alloc ?_ _)); exact BK177.out⟩, ⟨by repeat (first | (with_reducible first | exact HB.out | apply below_alloc | apply pw_below_drewN | apply below_drew1 | refine below_set ?_ GE176.out | refine below_set ?_ GE177.out) | exact HB.out)⟩⟩
                  · rw [if_neg c25] at H
                    have c25b0 : ((rd l0_3 x5_2) == (rd l1_3 x5_2)) = false := beq_eq_false_iff_ne.mpr c25
                    have c25b1 : ((rd l0_3 x5_2) != (rd l1_3 x5_2)) = true := bne_iff_ne.mpr c25
                    obtain rfl := Option.some.inj H
                    have hnb29 := NB176_177.out
                    have hnc29 := NB177_176.out
                    have hcz30_0 : wr.cell? ⟨gb176, 0, none⟩ = some (.int .i64 a0_0) := (blk_cell BK176.out 0).trans rfl
                    have hcz30_1 : wr.cell? ⟨gb176, 1, none⟩ = some (.int .i64 a0_1) := (blk_cell BK176.out 1).trans rfl
                    have hcz30_2 : wr.cell? ⟨gb176, 2, none⟩ = some (.int .i64 a0_2) := (blk_cell BK176.out 2).trans rfl
                    have hcz30_3 : wr.cell? ⟨gb176, 3, none⟩ = some (.slice A0_3 l0_3.length c0_3) := (blk_cell BK176.out 3).trans rfl
                    have hfz30_0 := blk_frozen BK176.out 0
                    have hfz30_1 := blk_frozen BK176.out 1
                    have hfz30_2 := blk_frozen BK176.out 2
                    have hfz30_3 := blk_frozen BK176.out 3
                    have p178 : 0 ≤ (x5_2 : Int) := of_decide_eq_true (by first | (with_reducible assumption) | assumption)
                    have q178 : x5_2 < (l0_3.length : Int) := of_decide_eq_true (by first | (with_reducible assumption) | assumption)
                    obtain ⟨ad178, e178, hx178_0⟩ := Kd.at_int HR0_3.out x5_2 p178 q178
                    cases e178
                    replace hx178_0 := (HB.out.cell (World.block_lt_of_cell? w _ hx178_0)).trans hx178_0
                    replace p178 := eq_true p178
                    replace q178 := eq_true q178
                    have hcz31_0 : wr.cell? ⟨gb177, 0, none⟩ = some (.int .i64 a1_0) := (blk_cell BK177.out 0).trans rfl
                    have hcz31_1 : wr.cell? ⟨gb177, 1, none⟩ = some (.int .i64 a1_1) := (blk_cell BK177.out 1).trans rfl
                    have hcz31_2 : wr.cell? ⟨gb177, 2, none⟩ = some (.int .i64 a1_2) := (blk_cell BK177.out 2).trans rfl
                    have hcz31_3 : wr.cell? ⟨gb177, 3, none⟩ = some (.slice A1_3 l1_3.length c1_3) := (blk_cell BK177.out 3).trans rfl
                    have hfz31_0 := blk_frozen BK177.out 0
                    have hfz31_1 := blk_frozen BK177.out 1
                    have hfz31_2 := blk_frozen BK177.out 2
                    have hfz31_3 := blk_frozen BK177.out 3
                    have p179 : 0 ≤ (x5_2 : Int) := of_decide_eq_true (by first | (with_reducible assumption) | assumption)
                    have q179 : x5_2 < (l1_3.length : Int) := of_decide_eq_true (by first | (with_reducible assumption) | assumption)
                    obtain ⟨ad179, e179, hx179_0⟩ := Kd.at_int HR1_3.out x5_2 p179 q179
                    cases e179
                    replace hx179_0 := (HB.out.cell (World.block_lt_of_cell? w _ hx179_0)).trans hx179_0
                    replace p179 := eq_true p179
                    replace q179 := eq_true q179
                    go_wp2
                    repeat (go_quiet (fail); try go_wp2)
                    go_ret
                    exact ⟨by first | rfl | (simp [errW_none, errW_some] <;> rfl) | (simp [*, errW_none, errW_some] <;> rfl), by repeat (first | (with_reducible first | exact HB.out | apply below_alloc | apply pw_below_drewN | apply below_drew1 | refine below_set ?_ GE176.out | refine below_set ?_ GE177.out) | exact HB.out)⟩
                · rw [if_neg c24] at H
                  exact absurd H (by simp)
              · rw [if_neg c23] at H
                exact absurd H (by simp)
            · rw [if_neg c22] at H
              have c22b0 : decide (x5_2 < (l0_3.length : Int)) = false := decide_eq_false c22
              clear c22
              obtain rfl := Option.some.inj H
              have hnb32 := NB176_177.out
              have hnc32 := NB177_176.out
              have hcz33_0 : wr.cell? ⟨gb176, 0, none⟩ = some (.int .i64 a0_0) := (blk_cell BK176.out 0).trans rfl
              have hcz33_1 : wr.cell? ⟨gb176, 1, none⟩ = some (.int .i64 a0_1) := (blk_cell BK176.out 1).trans rfl
              have hcz33_2 : wr.cell? ⟨gb176, 2, none⟩ = some (.int .i64 a0_2) := (blk_cell BK176.out 2).trans rfl
              have hcz33_3 : wr.cell? ⟨gb176, 3, none⟩ = some (.slice A0_3 l0_3.length c0_3) := (blk_cell BK176.out 3).trans rfl
              have hfz33_0 := blk_frozen BK176.out 0
              have hfz33_1 := blk_frozen BK176.out 1
              have hfz33_2 := blk_frozen BK176.out 2
              have hfz33_3 := blk_frozen BK176.out 3
              go_wp2
              repeat (go_quiet (fail); try go_wp2)
              go_ret
              exact ⟨by first | rfl | (simp [errW_none, errW_some] <;> rfl) | (simp [*, errW_none, errW_some] <;> rfl), by repeat (first | (with_reducible first | exact HB.out | apply below_alloc | apply pw_below_drewN | apply below_drew1 | refine below_set ?_ GE176.out | refine below_set ?_ GE177.out) | exact HB.out)⟩

/-! ### trivetlaw06_PackGets: function 4 -/
def trivetlaw06_PackGets.f (k : Nat) (l0 : List Int) : Option (Bool) := (trivetlaw06_up.f k).bind fun t180 => (if (l0.length : Int) > 1000 then (some t180) else ((pack_Get.f l0).bind fun bt181 => ((trivetref06_Get.f k l0).bind fun bt189 => (if bt189.2.2.2.2 = true then (if t180 = true then (if bt181.2.2.2.2.isNone = true then ((trivetref06_Same.f k bt181.1 bt181.2.1 bt181.2.2.1 bt181.2.2.2.1 bt189.1 bt189.2.1 bt189.2.2.1 bt189.2.2.2.1).bind fun t198 => (some t198)) else (some false)) else (some false)) else (if t180 = true then (if bt181.2.2.2.2.isNone = true then (some false) else (if (bt181.2.2.2.2.getD 0) = 2 then ((trivetref06_Same.f k bt181.1 bt181.2.1 bt181.2.2.1 bt181.2.2.2.1 0 0 0 ([] : List Int)).bind fun t200 => (some t200)) else (some false))) else (some false))))))
theorem trivetlaw06_PackGets.mono : ∀ a0 k, LeO (trivetlaw06_PackGets.f k a0) (trivetlaw06_PackGets.f (k + 1) a0) := by
  intro a0 k
  unfold trivetlaw06_PackGets.f
  repeat' first
      | (with_reducible exact trivetlaw06_up.mono _)
      | (with_reducible exact trivetref06_Get.mono _ _)
      | (with_reducible exact trivetref06_Same.mono _ _ _ _ _ _ _ _ _)
      | (with_reducible exact LeO.refl _)
      | (with_reducible exact LeO.none _)
      | (with_reducible refine LeO.ite ?_ ?_)
      | (with_reducible refine LeO.bind ?_ (fun _ => ?_))
      | exact trivetlaw06_up.mono _
      | exact trivetref06_Get.mono _ _
      | exact trivetref06_Same.mono _ _ _ _ _ _ _ _ _
      | exact LeO.none _
      | refine LeO.ite ?_ ?_
      | refine LeO.bind ?_ (fun _ => ?_)
set_option maxHeartbeats 8000000 in
set_option maxRecDepth 100000 in
theorem trivetlaw06_PackGets.calls (k : Nat) (A0 : Option Addr) (c0 : Nat) (l0 : List Int) (r : Bool) (w : World) (hr0 : Kd.C (Kd.int .u8) w A0 l0.length l0) (hc0 : l0.length ≤ c0) (h : trivetlaw06_PackGets.f k l0 = some r) :
    Calls Try.prog 4 #[.slice A0 l0.length c0] w fun e w' => e = .returned (.bool r) ∧ Below w.heap.size w w' := by
  have hu24 := Try.underlying24
  have hu28 := Try.underlying28
  have hu31 := Try.underlying31
  have HR0 := Aside0.mk hr0
  have HC0 := Aside0.mk hc0
  clear hr0 hc0
  have HB := Aside0.mk (Below.refl w.heap.size w)
  have H : ((trivetlaw06_up.f k).bind fun t180 => (if (l0.length : Int) > 1000 then (some t180) else ((pack_Get.f l0).bind fun bt181 => ((trivetref06_Get.f k l0).bind fun bt189 => (if bt189.2.2.2.2 = true then (if t180 = true then (if bt181.2.2.2.2.isNone = true then ((trivetref06_Same.f k bt181.1 bt181.2.1 bt181.2.2.1 bt181.2.2.2.1 bt189.1 bt189.2.1 bt189.2.2.1 bt189.2.2.2.1).bind fun t198 => (some t198)) else (some false)) else (some false)) else (if t180 = true then (if bt181.2.2.2.2.isNone = true then (some false) else (if (bt181.2.2.2.2.getD 0) = 2 then ((trivetref06_Same.f k bt181.1 bt181.2.1 bt181.2.2.1 bt181.2.2.2.1 0 0 0 ([] : List Int)).bind fun t200 => (some t200)) else (some false))) else (some false))))))) = some r := h
  clear h
  replace H := Option.bind_eq_some_iff.mp H
  obtain ⟨t180, A20, H⟩ := H
  replace H : (if (l0.length : Int) > 1000 then (some t180) else ((pack_Get.f l0).bind fun bt181 => ((trivetref06_Get.f k l0).bind fun bt189 => (if bt189.2.2.2.2 = true then (if t180 = true then (if bt181.2.2.2.2.isNone = true then ((trivetref06_Same.f k bt181.1 bt181.2.1 bt181.2.2.1 bt181.2.2.2.1 bt189.1 bt189.2.1 bt189.2.2.1 bt189.2.2.2.1).bind fun t198 => (some t198)) else (some false)) else (some false)) else (if t180 = true then (if bt181.2.2.2.2.isNone = true then (some false) else (if (bt181.2.2.2.2.getD 0) = 2 then ((trivetref06_Same.f k bt181.1 bt181.2.1 bt181.2.2.1 bt181.2.2.2.1 0 0 0 ([] : List Int)).bind fun t200 => (some t200)) else (some false))) else (some false)))))) = some r := H
  have A2 := Aside0.mk A20
  clear A20
  by_cases c3 : (l0.length : Int) > 1000
  · rw [if_pos c3] at H
    have c3b0 : decide (1000 < (l0.length : Int)) = true := decide_eq_true c3
    have c3b1 : decide (1000 < l0.length) = true := decide_eq_true (by omega)
    clear c3
    obtain rfl := Option.some.inj H
    go_enter Try.func4, Try.ntmps4
    go_wp2_with (first | ((with_reducible refine gate_callee (f := 7) rfl ?_); refine goesL_ (some 8) rfl rfl Try.func7 (by kernel_rfl) rfl #[] rfl (by (try simp only [List.map_toArray, List.map_cons, List.map_nil]); first | done | rfl | (simp only [List.length_drop, List.length_take]; rfl)) ?_; (with_reducible refine (trivetlaw06_up.calls k  t180 _ A2.out).mono ?_); rintro e w4 ⟨rfl, hb⟩; refine ⟨_, rfl, ?_⟩; have n0_ := Aside0.mk (below_step (by repeat (first | (with_reducible first | exact HB.out | apply below_alloc | apply pw_below_drewN | apply below_drew1) | exact HB.out)) hb); clear HB; have HB := n0_; clear n0_; (try clear hb); (try clear hb2); (try clear hk); (try clear hi)))
    go_ret
    exact ⟨by first | rfl | (simp [errW_none, errW_some] <;> rfl) | (simp [*, errW_none, errW_some] <;> rfl), by repeat (first | (with_reducible first | exact HB.out | apply below_alloc | apply pw_below_drewN | apply below_drew1) | exact HB.out)⟩
  · rw [if_neg c3] at H
    have c3b0 : decide (1000 < (l0.length : Int)) = false := decide_eq_false c3
    have c3b1 : decide (1000 < l0.length) = false := decide_eq_false (by omega)
    clear c3
    replace H := Option.bind_eq_some_iff.mp H
    obtain ⟨⟨t181, t182, t183, t184, t187⟩, A50, H⟩ := H
    replace H : ((trivetref06_Get.f k l0).bind fun bt189 => (if bt189.2.2.2.2 = true then (if t180 = true then (if t187.isNone = true then ((trivetref06_Same.f k t181 t182 t183 t184 bt189.1 bt189.2.1 bt189.2.2.1 bt189.2.2.2.1).bind fun t198 => (some t198)) else (some false)) else (some false)) else (if t180 = true then (if t187.isNone = true then (some false) else (if (t187.getD 0) = 2 then ((trivetref06_Same.f k t181 t182 t183 t184 0 0 0 ([] : List Int)).bind fun t200 => (some t200)) else (some false))) else (some false)))) = some r := H
    have A5 := Aside0.mk A50
    clear A50
    replace H := Option.bind_eq_some_iff.mp H
    obtain ⟨⟨t189, t190, t191, t192, t195⟩, A60, H⟩ := H
    replace H : (if t195 = true then (if t180 = true then (if t187.isNone = true then ((trivetref06_Same.f k t181 t182 t183 t184 t189 t190 t191 t192).bind fun t198 => (some t198)) else (some false)) else (some false)) else (if t180 = true then (if t187.isNone = true then (some false) else (if (t187.getD 0) = 2 then ((trivetref06_Same.f k t181 t182 t183 t184 0 0 0 ([] : List Int)).bind fun t200 => (some t200)) else (some false))) else (some false))) = some r := H
    have A6 := Aside0.mk A60
    clear A60
    by_cases c7 : t195 = true
    · subst c7
      have H1 : (if t180 = true then (if t187.isNone = true then ((trivetref06_Same.f k t181 t182 t183 t184 t189 t190 t191 t192).bind fun t198 => (some t198)) else (some false)) else (some false)) = some r := by rw [if_pos rfl] at H; exact H
      clear H
      have H := H1
      clear H1
      by_cases c8 : t180 = true
      · subst c8
        have H1 : (if t187.isNone = true then ((trivetref06_Same.f k t181 t182 t183 t184 t189 t190 t191 t192).bind fun t198 => (some t198)) else (some false)) = some r := by rw [if_pos rfl] at H; exact H
        clear H
        have H := H1
        clear H1
        rcases t187 with _ | q197
        · have H1 : ((trivetref06_Same.f k t181 t182 t183 t184 t189 t190 t191 t192).bind fun t198 => (some t198)) = some r := by rw [if_pos (show (none : Option Int).isNone = true by rfl)] at H; exact H
          clear H
          have H := H1
          clear H1
          try simp only [errW_none, errW_some]
          replace H := Option.bind_eq_some_iff.mp H
          obtain ⟨t198, A90, H⟩ := H
          replace H : (some t198) = some r := H
          have A9 := Aside0.mk A90
          clear A90
          obtain rfl := Option.some.inj H
          go_enter Try.func4, Try.ntmps4
          go_wp2_with (first | ((with_reducible refine gate_callee (f := 7) rfl ?_); refine goesL_ (some 8) rfl rfl Try.func7 (by kernel_rfl) rfl #[] rfl (by (try simp only [List.map_toArray, List.map_cons, List.map_nil]); first | done | rfl | (simp only [List.length_drop, List.length_take]; rfl)) ?_; (with_reducible refine (trivetlaw06_up.calls k  true _ A2.out).mono ?_); rintro e w10 ⟨rfl, hb⟩; refine ⟨_, rfl, ?_⟩; have n0_ := Aside0.mk (below_step (by repeat (first | (with_reducible first | exact HB.out | apply below_alloc | apply pw_below_drewN | apply below_drew1) | exact HB.out)) hb); clear HB; have HB := n0_; clear n0_; (try clear hb); (try clear hb2); (try clear hk); (try clear hi)) | ((with_reducible refine gate_callee (f := 10) rfl ?_); refine goesL_ (some 15) rfl rfl Try.func10 (by kernel_rfl) rfl #[.slice A0 l0.length c0] rfl (by (try simp only [List.map_toArray, List.map_cons, List.map_nil]); first | done | rfl | (simp only [List.length_drop, List.length_take]; rfl)) ?_; (with_reducible refine (pack_Get.calls _ _ l0 t181 t182 t183 t184 none _ ?side1 ?side2 A5.out).mono ?_); (case side1 => repeat (first | exact (Kd.C_below HR0.out HB.out) | (with_reducible refine Kd.C_alloc ?_ _) | (with_reducible refine Kd.C_drewN ?_ _) | (with_reducible refine Kd.C_drew ?_))); (case side2 => exact HC0.out); rintro e w11 ⟨v185, rfl, ho0, hb⟩; refine ⟨_, rfl, ?_⟩; have n0_ := Aside0.mk (Kd.R_lower ho0 (below_size (by repeat (first | (with_reducible first | exact HB.out | apply below_alloc | apply pw_below_drewN | apply below_drew1) | exact HB.out)))); have n1_ := Aside0.mk (below_step (by repeat (first | (with_reducible first | exact HB.out | apply below_alloc | apply pw_below_drewN | apply below_drew1) | exact HB.out)) hb); clear HB; have HO186 := n0_; have HB := n1_; clear n0_ n1_; (try clear hb); (try clear hb2); (try clear hk); (try clear hi); (try clear ho0); (try simp only [errW_none, errW_some])) | ((with_reducible refine gate_dst (N := 4) rfl ?_); refine box_event ?hg (N := 4) ?hd (cs := #[.int .i64 0, .int .i64 0, .int .i64 0, .slice none 0 0]) (t := 24) ?hr ?_; (case hd => rfl); (case hg => rfl); (case hr => first | (go_simp; done) | (go_simp; rfl)); intro gb188 hg w12 hbox hb; have n0_ := Aside0.mk (Kd.R_below (by (with_reducible repeat (first | apply Kd.R_alloc | apply Kd.R_drewN | apply Kd.R_drew)); exact HO186.out) hb); have n1_ := Aside0.mk (below_step (by repeat (first | (with_reducible first | exact HB.out | apply below_alloc | apply pw_below_drewN | apply below_drew1) | exact HB.out)) hb); have n2_ := Aside0.mk (hbox); have n3_ := Aside0.mk ((by rw [hg]; exact (below_size (by repeat (first | (with_reducible first | exact HB.out | apply below_alloc | apply pw_below_drewN | apply below_drew1) | exact HB.out))) : w.heap.size ≤ gb188)); have n4_ := Aside0.mk ((by rw [hg]; exact (below_size (by repeat (first | (with_reducible first | exact HB.out | apply below_alloc | apply pw_below_drewN | apply below_drew1) | exact HB.out))) : w.heap.size ≤ gb188)); clear HO186; clear HB; have HO186 := n0_; have HB := n1_; have BK188 := n2_; have GW188 := n3_; have GE188 := n4_; clear n0_ n1_ n2_ n3_ n4_; clear hb hbox hg; have hcz13_0 : w12.cell? ⟨gb188, 0, none⟩ = some (.int .i64 0) := (blk_cell BK188.out 0).trans rfl; have hcz13_1 : w12.cell? ⟨gb188, 1, none⟩ = some (.int .i64 0) := (blk_cell BK188.out 1).trans rfl; have hcz13_2 : w12.cell? ⟨gb188, 2, none⟩ = some (.int .i64 0) := (blk_cell BK188.out 2).trans rfl; have hcz13_3 : w12.cell? ⟨gb188, 3, none⟩ = some (.slice none 0 0) := (blk_cell BK188.out 3).trans rfl; have hfz13_0 := blk_frozen BK188.out 0; have hfz13_1 := blk_frozen BK188.out 1; have hfz13_2 := blk_frozen BK188.out 2; have hfz13_3 := blk_frozen BK188.out 3; obtain ⟨Ao14, co14, eo14⟩ := Kd.R_slice HO186.out; subst eo14) | ((with_reducible refine gate_callee (f := 11) rfl ?_); refine goesL_ (some 20) rfl rfl Try.func11 (by kernel_rfl) rfl #[.slice A0 l0.length c0] rfl (by (try simp only [List.map_toArray, List.map_cons, List.map_nil]); first | done | rfl | (simp only [List.length_drop, List.length_take]; rfl)) ?_; (with_reducible refine (trivetref06_Get.calls k _ _ l0 t189 t190 t191 t192 true _ ?side1 ?side2 A6.out).mono ?_); (case side1 => exact Kd.C_below HR0.out (by repeat (first | (with_reducible first | exact HB.out | apply below_alloc | apply pw_below_drewN | apply below_drew1 | refine below_set ?_ GE188.out) | exact HB.out))); (case side2 => exact HC0.out); rintro e w15 ⟨v193, rfl, ho0, hb⟩; refine ⟨_, rfl, ?_⟩; have n0_ := Aside0.mk (Kd.R_elder' (by (with_reducible repeat (first | apply Kd.R_alloc | apply Kd.R_drewN | apply Kd.R_drew)); exact (Kd.R_mono (Kd.R_far (p := ⟨gb188, 3, none⟩) (Kd.R_far (p := ⟨gb188, 2, none⟩) (Kd.R_far (p := ⟨gb188, 1, none⟩) (Kd.R_far (p := ⟨gb188, 0, none⟩) (Kd.R_types HO186.out BK188.out (by decide)) (fun _ hk => hk.2) (.int .i64 t181)) (fun _ hk => hk.2) (.int .i64 t182)) (fun _ hk => hk.2) (.int .i64 t183)) (fun _ hk => hk.2) (.slice Ao14 t184.length co14)) (fun _ h_ => h_.1))) (Kd.R_base ho0) hb); have n1_ := Aside0.mk (Kd.R_lower (Kd.R_new' ho0 (Kd.R_lt (by (with_reducible repeat (first | apply Kd.R_alloc | apply Kd.R_drewN | apply Kd.R_drew)); exact (Kd.R_mono (Kd.R_far (p := ⟨gb188, 3, none⟩) (Kd.R_far (p := ⟨gb188, 2, none⟩) (Kd.R_far (p := ⟨gb188, 1, none⟩) (Kd.R_far (p := ⟨gb188, 0, none⟩) (Kd.R_types HO186.out BK188.out (by decide)) (fun _ hk => hk.2) (.int .i64 t181)) (fun _ hk => hk.2) (.int .i64 t182)) (fun _ hk => hk.2) (.int .i64 t183)) (fun _ hk => hk.2) (.slice Ao14 t184.length co14)) (fun _ h_ => h_.1))))) (below_size (by repeat (first | (with_reducible first | exact HB.out | apply below_alloc | apply pw_below_drewN | apply below_drew1 | refine below_set ?_ GE188.out) | exact HB.out)))); have n2_ := Aside0.mk (blk_below (g := gb188) (o := .cells #[.int .i64 t181, .int .i64 t182, .int .i64 t183, .slice Ao14 t184.length co14] 24 (0, 0)) (by (with_reducible repeat (first | refine blk_drewN ?_ _ | refine blk_drew ?_ | refine blk_alloc ?_ _)); refine blk_put (cs := #[.int .i64 t181, .int .i64 t182, .int .i64 t183, .slice none 0 0]) ?_ 3 _ rfl; (with_reducible repeat (first | refine blk_drewN ?_ _ | refine blk_drew ?_ | refine blk_alloc ?_ _)); refine blk_put (cs := #[.int .i64 t181, .int .i64 t182, .int .i64 0, .slice none 0 0]) ?_ 2 _ rfl; (with_reducible repeat (first | refine blk_drewN ?_ _ | refine blk_drew ?_ | refine blk_alloc ?_ _)); refine blk_put (cs := #[.int .i64 t181, .int .i64 0, .int .i64 0, .slice none 0 0]) ?_ 1 _ rfl; (with_reducible repeat (first | refine blk_drewN ?_ _ | refine blk_drew ?_ | refine blk_alloc ?_ _)); refine blk_put (cs := #[.int .i64 0, .int .i64 0, .int .i64 0, .slice none 0 0]) ?_ 0 _ rfl; (with_reducible repeat (first | refine blk_drewN ?_ _ | refine blk_drew ?_ | refine blk_alloc ?_ _)); exact BK188.out) hb); have n3_ := Aside0.mk (below_step (by repeat (first | (with_reducible first | exact HB.out | apply below_alloc | apply pw_below_drewN | apply below_drew1 | refine below_set ?_ GE188.out) | exact HB.out)) hb); clear HO186; clear BK188; clear HB; have HO186 := n0_; have HO194 := n1_; have BK188 := n2_; have HB := n3_; clear n0_ n1_ n2_ n3_; (try clear hb); (try clear hb2); (try clear hk); (try clear hi); (try clear ho0)) | ((with_reducible refine gate_dst (N := 6) rfl ?_); refine box_event ?hg (N := 6) ?hd (cs := #[.int .i64 0, .int .i64 0, .int .i64 0, .slice none 0 0]) (t := 24) ?hr ?_; (case hd => rfl); (case hg => rfl); (case hr => first | (go_simp; done) | (go_simp; rfl)); intro gb196 hg w16 hbox hb; have n0_ := Aside0.mk (Kd.R_below (by (with_reducible repeat (first | apply Kd.R_alloc | apply Kd.R_drewN | apply Kd.R_drew)); exact HO186.out) hb); have n1_ := Aside0.mk (Kd.R_below (by (with_reducible repeat (first | apply Kd.R_alloc | apply Kd.R_drewN | apply Kd.R_drew)); exact HO194.out) hb); have n2_ := Aside0.mk (blk_below (g := gb188) (o := .cells #[.int .i64 t181, .int .i64 t182, .int .i64 t183, .slice Ao14 t184.length co14] 24 (0, 0)) (by (with_reducible repeat (first | refine blk_drewN ?_ _ | refine blk_drew ?_ | refine blk_alloc ?_ _)); exact BK188.out) hb); have n3_ := Aside0.mk (below_step (by repeat (first | (with_reducible first | exact HB.out | apply below_alloc | apply pw_below_drewN | apply below_drew1 | refine below_set ?_ GE188.out) | exact HB.out)) hb); have n4_ := Aside0.mk (hbox); have n5_ := Aside0.mk ((by rw [hg]; exact (below_size (by repeat (first | (with_reducible first | exact HB.out | apply below_alloc | apply pw_below_drewN | apply below_drew1 | refine below_set ?_ GE188.out) | exact HB.out))) : w.heap.size ≤ gb196)); have n6_ := Aside0.mk ((by rw [hg]; exact (below_size (by repeat (first | (with_reducible first | exact HB.out | apply below_alloc | apply pw_below_drewN | apply below_drew1 | refine below_set ?_ GE188.out) | exact HB.out))) : w.heap.size ≤ gb196)); have n7_ := Aside0.mk ((by rw [hg]; exact Nat.ne_of_lt (blk_lt (g := gb188) (o := .cells #[.int .i64 t181, .int .i64 t182, .int .i64 t183, .slice Ao14 t184.length co14] 24 (0, 0)) (by (with_reducible repeat (first | refine blk_drewN ?_ _ | refine blk_drew ?_ | refine blk_alloc ?_ _)); exact BK188.out)) : gb188 ≠ gb196)); have n8_ := Aside0.mk ((by rw [hg]; exact Nat.ne_of_gt (blk_lt (g := gb188) (o := .cells #[.int .i64 t181, .int .i64 t182, .int .i64 t183, .slice Ao14 t184.length co14] 24 (0, 0)) (by (with_reducible repeat (first | refine blk_drewN ?_ _ | refine blk_drew ?_ | refine blk_alloc ?_ _)); exact BK188.out)) : gb196 ≠ gb188)); clear HO186; clear HO194; clear BK188; clear HB; have HO186 := n0_; have HO194 := n1_; have BK188 := n2_; have HB := n3_; have BK196 := n4_; have GW196 := n5_; have GE196 := n6_; have NB188_196 := n7_; have NB196_188 := n8_; clear n0_ n1_ n2_ n3_ n4_ n5_ n6_ n7_ n8_; clear hb hbox hg; have hnb17 := NB196_188.out; have hnc17 := NB188_196.out; have hcz18_0 : w16.cell? ⟨gb196, 0, none⟩ = some (.int .i64 0) := (blk_cell BK196.out 0).trans rfl; have hcz18_1 : w16.cell? ⟨gb196, 1, none⟩ = some (.int .i64 0) := (blk_cell BK196.out 1).trans rfl; have hcz18_2 : w16.cell? ⟨gb196, 2, none⟩ = some (.int .i64 0) := (blk_cell BK196.out 2).trans rfl; have hcz18_3 : w16.cell? ⟨gb196, 3, none⟩ = some (.slice none 0 0) := (blk_cell BK196.out 3).trans rfl; have hfz18_0 := blk_frozen BK196.out 0; have hfz18_1 := blk_frozen BK196.out 1; have hfz18_2 := blk_frozen BK196.out 2; have hfz18_3 := blk_frozen BK196.out 3; obtain ⟨Ao19, co19, eo19⟩ := Kd.R_slice HO194.out; subst eo19; have hcz20_0 : w16.cell? ⟨gb188, 0, none⟩ = some (.int .i64 t181) := (blk_cell BK188.out 0).trans rfl; have hcz20_1 : w16.cell? ⟨gb188, 1, none⟩ = some (.int .i64 t182) := (blk_cell BK188.out 1).trans rfl; have hcz20_2 : w16.cell? ⟨gb188, 2, none⟩ = some (.int .i64 t183) := (blk_cell BK188.out 2).trans rfl; have hcz20_3 : w16.cell? ⟨gb188, 3, none⟩ = some (.slice Ao14 t184.length co14) := (blk_cell BK188.out 3).trans rfl; have hfz20_0 := blk_frozen BK188.out 0; have hfz20_1 := blk_frozen BK188.out 1; have hfz20_2 := blk_frozen BK188.out 2; have hfz20_3 := blk_frozen BK188.out 3) | (go_at_call 12; (with_reducible refine (trivetref06_Same.calls k t181 t182 t183 _ _ t184 t189 t190 t191 _ _ t192 t198 _ ?side1 ?side2 ?side3 ?side4 A9.out).mono ?_); (case side1 => refine (Kd.R_reads' (e := 2) (base := w.heap.size) (ok := fun k_ => (True ∧ some k_ ≠ (.slice Ao19 t192.length co19 : Value).ownBlock)) (n := t184.length) (c := co14) ?_).2.2; exact (by (with_reducible repeat (first | apply Kd.R_alloc | apply Kd.R_drewN | apply Kd.R_drew)); exact (Kd.R_mono (Kd.R_far (p := ⟨gb196, 3, none⟩) (Kd.R_far (p := ⟨gb196, 2, none⟩) (Kd.R_far (p := ⟨gb196, 1, none⟩) (Kd.R_far (p := ⟨gb196, 0, none⟩) (Kd.R_types HO186.out BK196.out (by decide)) (fun _ hk => hk.2) (.int .i64 t189)) (fun _ hk => hk.2) (.int .i64 t190)) (fun _ hk => hk.2) (.int .i64 t191)) (fun _ hk => hk.2) (.slice Ao19 t192.length co19)) (fun _ h_ => h_.1)))); (case side2 => exact (Kd.R_reads' HO186.out).2.1); (case side3 => refine (Kd.R_reads' (e := 2) (base := w.heap.size) (ok := fun k_ => (True ∧ some k_ ≠ (.slice Ao14 t184.length co14 : Value).ownBlock)) (n := t192.length) (c := co19) ?_).2.2; exact (by (with_reducible repeat (first | apply Kd.R_alloc | apply Kd.R_drewN | apply Kd.R_drew)); exact (Kd.R_mono (Kd.R_far (p := ⟨gb196, 3, none⟩) (Kd.R_far (p := ⟨gb196, 2, none⟩) (Kd.R_far (p := ⟨gb196, 1, none⟩) (Kd.R_far (p := ⟨gb196, 0, none⟩) (Kd.R_types HO194.out BK196.out (by decide)) (fun _ hk => hk.2) (.int .i64 t189)) (fun _ hk => hk.2) (.int .i64 t190)) (fun _ hk => hk.2) (.int .i64 t191)) (fun _ hk => hk.2) (.slice Ao19 t192.length co19)) (fun _ h_ => h_.1)))); (case side4 => exact (Kd.R_reads' HO194.out).2.1); rintro e w21 ⟨rfl, hb⟩; have n0_ := Aside0.mk (Kd.R_below (by (with_reducible repeat (first | apply Kd.R_alloc | apply Kd.R_drewN | apply Kd.R_drew)); exact (Kd.R_mono (Kd.R_far (p := ⟨gb196, 3, none⟩) (Kd.R_far (p := ⟨gb196, 2, none⟩) (Kd.R_far (p := ⟨gb196, 1, none⟩) (Kd.R_far (p := ⟨gb196, 0, none⟩) (Kd.R_types HO186.out BK196.out (by decide)) (fun _ hk => hk.2) (.int .i64 t189)) (fun _ hk => hk.2) (.int .i64 t190)) (fun _ hk => hk.2) (.int .i64 t191)) (fun _ hk => hk.2) (.slice Ao19 t192.length co19)) (fun _ h_ => h_.1))) hb); have n1_ := Aside0.mk (Kd.R_below (by (with_reducible repeat (first | apply Kd.R_alloc | apply Kd.R_drewN | apply Kd.R_drew)); exact (Kd.R_mono (Kd.R_far (p := ⟨gb196, 3, none⟩) (Kd.R_far (p := ⟨gb196, 2, none⟩) (Kd.R_far (p := ⟨gb196, 1, none⟩) (Kd.R_far (p := ⟨gb196, 0, none⟩) (Kd.R_types HO194.out BK196.out (by decide)) (fun _ hk => hk.2) (.int .i64 t189)) (fun _ hk => hk.2) (.int .i64 t190)) (fun _ hk => hk.2) (.int .i64 t191)) (fun _ hk => hk.2) (.slice Ao19 t192.length co19)) (fun _ h_ => h_.1))) hb); have n2_ := Aside0.mk (blk_below (g := gb188) (o := .cells #[.int .i64 t181, .int .i64 t182, .int .i64 t183, .slice Ao14 t184.length co14] 24 (0, 0)) (by (with_reducible repeat (first | refine blk_drewN ?_ _ | refine blk_drew ?_ | refine blk_alloc ?_ _)); refine blk_far ?_ NB188_196.out _; (with_reducible repeat (first | refine blk_drewN ?_ _ | refine blk_drew ?_ | refine blk_alloc ?_ _)); refine blk_far ?_ NB188_196.out _; (with_reducible repeat (first | refine blk_drewN ?_ _ | refine blk_drew ?_ | refine blk_alloc ?_ _)); refine blk_far ?_ NB188_196.out _; (with_reducible repeat (first | refine blk_drewN ?_ _ | refine blk_drew ?_ | refine blk_alloc ?_ _)); refine blk_far ?_ NB188_196.out _; (with_reducible repeat (first | refine blk_drewN ?_ _ | refine blk_drew ?_ | refine blk_alloc ?_ _)); exact BK188.out) hb); have n3_ := Aside0.mk (blk_below (g := gb196) (o := .cells #[.int .i64 t189, .int .i64 t190, .int .i64 t191, .slice Ao19 t192.length co19] 24 (0, 0)) (by (with_reducible repeat (first | refine blk_drewN ?_ _ | refine blk_drew ?_ | refine blk_alloc ?_ _)); refine blk_put (cs := #[.int .i64 t189, .int .i64 t190, .int .i64 t191, .slice none 0 0]) ?_ 3 _ rfl; (with_reducible repeat (first | refine blk_drewN ?_ _ | refine blk_drew ?_ | refine blk_alloc ?_ _)); refine blk_put (cs := #[.int .i64 t189, .int .i64 t190, .int .i64 0, .slice none 0 0]) ?_ 2 _ rfl; (with_reducible repeat (first | refine blk_drewN ?_ _ | refine blk_drew ?_ | refine blk_alloc ?_ _)); refine blk_put (cs := #[.int .i64 t189, .int .i64 0, .int .i64 0, .slice none 0 0]) ?_ 1 _ rfl; (with_reducible repeat (first | refine blk_drewN ?_ _ | refine blk_drew ?_ | refine blk_alloc ?_ _)); refine blk_put (cs := #[.int .i64 0, .int .i64 0, .int .i64 0, .slice none 0 0]) ?_ 0 _ rfl; (with_reducible repeat (first | refine blk_drewN ?_ _ | refine blk_drew ?_ | refine blk_alloc ?_ _)); exact BK196.out) hb); have n4_ := Aside0.mk (below_step (by repeat (first | (with_reducible first | exact HB.out | apply below_alloc | apply pw_below_drewN | apply below_drew1 | refine below_set ?_ GE188.out | refine below_set ?_ GE196.out) | exact HB.out)) hb); clear HO186; clear HO194; clear BK188; clear BK196; clear HB; have HO186 := n0_; have HO194 := n1_; have BK188 := n2_; have BK196 := n3_; have HB := n4_; clear n0_ n1_ n2_ n3_ n4_; (try clear hb); (try clear hb2); (try clear hk); (try clear hi)))
          go_ret
          exact ⟨by first | rfl | (simp [errW_none, errW_some] <;> rfl) | (simp [*, errW_none, errW_some] <;> rfl), by repeat (first | (with_reducible first | exact HB.out | apply below_alloc | apply pw_below_drewN | apply below_drew1 | refine below_set ?_ GE188.out | refine below_set ?_ GE196.out) | exact HB.out)⟩
        · have H1 : (some false) = some r := by rw [if_neg (show ¬ (some q197).isNone = true by simp)] at H; exact H
          clear H
          have H := H1
          clear H1
          try simp only [errW_none, errW_some]
          obtain rfl := Option.some.inj H
          go_enter Try.func4, Try.ntmps4
          go_wp2_with (first | ((with_reducible refine gate_callee (f := 7) rfl ?_); refine goesL_ (some 8) rfl rfl Try.func7 (by kernel_rfl) rfl #[] rfl (by (try simp only [List.map_toArray, List.map_cons, List.map_nil]); first | done | rfl | (simp only [List.length_drop, List.length_take]; rfl)) ?_; (with_reducible refine (trivetlaw06_up.calls k  true _ A2.out).mono ?_); rintro e w22 ⟨rfl, hb⟩; refine ⟨_, rfl, ?_⟩; have n0_ := Aside0.mk (below_step (by repeat (first | (with_reducible first | exact HB.out | apply below_alloc | apply pw_below_drewN | apply below_drew1) | exact HB.out)) hb); clear HB; have HB := n0_; clear n0_; (try clear hb); (try clear hb2); (try clear hk); (try clear hi)) | ((with_reducible refine gate_callee (f := 10) rfl ?_); refine goesL_ (some 15) rfl rfl Try.func10 (by kernel_rfl) rfl #[.slice A0 l0.length c0] rfl (by (try simp only [List.map_toArray, List.map_cons, List.map_nil]); first | done | rfl | (simp only [List.length_drop, List.length_take]; rfl)) ?_; (with_reducible refine (pack_Get.calls _ _ l0 t181 t182 t183 t184 (some q197) _ ?side1 ?side2 A5.out).mono ?_); (case side1 => repeat (first | exact (Kd.C_below HR0.out HB.out) | (with_reducible refine Kd.C_alloc ?_ _) | (with_reducible refine Kd.C_drewN ?_ _) | (with_reducible refine Kd.C_drew ?_))); (case side2 => exact HC0.out); rintro e w23 ⟨v185, rfl, ho0, hb⟩; refine ⟨_, rfl, ?_⟩; have n0_ := Aside0.mk (Kd.R_lower ho0 (below_size (by repeat (first | (with_reducible first | exact HB.out | apply below_alloc | apply pw_below_drewN | apply below_drew1) | exact HB.out)))); have n1_ := Aside0.mk (below_step (by repeat (first | (with_reducible first | exact HB.out | apply below_alloc | apply pw_below_drewN | apply below_drew1) | exact HB.out)) hb); clear HB; have HO186 := n0_; have HB := n1_; clear n0_ n1_; (try clear hb); (try clear hb2); (try clear hk); (try clear hi); (try clear ho0); (try simp only [errW_none, errW_some])) | ((with_reducible refine gate_dst (N := 4) rfl ?_); refine box_event ?hg (N := 4) ?hd (cs := #[.int .i64 0, .int .i64 0, .int .i64 0, .slice none 0 0]) (t := 24) ?hr ?_; (case hd => rfl); (case hg => rfl); (case hr => first | (go_simp; done) | (go_simp; rfl)); intro gb188 hg w24 hbox hb; have n0_ := Aside0.mk (Kd.R_below (by (with_reducible repeat (first | apply Kd.R_alloc | apply Kd.R_drewN | apply Kd.R_drew)); exact HO186.out) hb); have n1_ := Aside0.mk (below_step (by repeat (first | (with_reducible first | exact HB.out | apply below_alloc | apply pw_below_drewN | apply below_drew1) | exact HB.out)) hb); have n2_ := Aside0.mk (hbox); have n3_ := Aside0.mk ((by rw [hg]; exact (below_size (by repeat (first | (with_reducible first | exact HB.out | apply below_alloc | apply pw_below_drewN | apply below_drew1) | exact HB.out))) : w.heap.size ≤ gb188)); have n4_ := Aside0.mk ((by rw [hg]; exact (below_size (by repeat (first | (with_reducible first | exact HB.out | apply below_alloc | apply pw_below_drewN | apply below_drew1) | exact HB.out))) : w.heap.size ≤ gb188)); clear HO186; clear HB; have HO186 := n0_; have HB := n1_; have BK188 := n2_; have GW188 := n3_; have GE188 := n4_; clear n0_ n1_ n2_ n3_ n4_; clear hb hbox hg; have hcz25_0 : w24.cell? ⟨gb188, 0, none⟩ = some (.int .i64 0) := (blk_cell BK188.out 0).trans rfl; have hcz25_1 : w24.cell? ⟨gb188, 1, none⟩ = some (.int .i64 0) := (blk_cell BK188.out 1).trans rfl; have hcz25_2 : w24.cell? ⟨gb188, 2, none⟩ = some (.int .i64 0) := (blk_cell BK188.out 2).trans rfl; have hcz25_3 : w24.cell? ⟨gb188, 3, none⟩ = some (.slice none 0 0) := (blk_cell BK188.out 3).trans rfl; have hfz25_0 := blk_frozen BK188.out 0; have hfz25_1 := blk_frozen BK188.out 1; have hfz25_2 := blk_frozen BK188.out 2; have hfz25_3 := blk_frozen BK188.out 3; obtain ⟨Ao26, co26, eo26⟩ := Kd.R_slice HO186.out; subst eo26) | ((with_reducible refine gate_callee (f := 11) rfl ?_); refine goesL_ (some 20) rfl rfl Try.func11 (by kernel_rfl) rfl #[.slice A0 l0.length c0] rfl (by (try simp only [List.map_toArray, List.map_cons, List.map_nil]); first | done | rfl | (simp only [List.length_drop, List.length_take]; rfl)) ?_; (with_reducible refine (trivetref06_Get.calls k _ _ l0 t189 t190 t191 t192 true _ ?side1 ?side2 A6.out).mono ?_); (case side1 => exact Kd.C_below HR0.out (by repeat (first | (with_reducible first | exact HB.out | apply below_alloc | apply pw_below_drewN | apply below_drew1 | refine below_set ?_ GE188.out) | exact HB.out))); (case side2 => exact HC0.out); rintro e w27 ⟨v193, rfl, ho0, hb⟩; refine ⟨_, rfl, ?_⟩; have n0_ := Aside0.mk (Kd.R_elder' (by (with_reducible repeat (first | apply Kd.R_alloc | apply Kd.R_drewN | apply Kd.R_drew)); exact (Kd.R_mono (Kd.R_far (p := ⟨gb188, 3, none⟩) (Kd.R_far (p := ⟨gb188, 2, none⟩) (Kd.R_far (p := ⟨gb188, 1, none⟩) (Kd.R_far (p := ⟨gb188, 0, none⟩) (Kd.R_types HO186.out BK188.out (by decide)) (fun _ hk => hk.2) (.int .i64 t181)) (fun _ hk => hk.2) (.int .i64 t182)) (fun _ hk => hk.2) (.int .i64 t183)) (fun _ hk => hk.2) (.slice Ao26 t184.length co26)) (fun _ h_ => h_.1))) (Kd.R_base ho0) hb); have n1_ := Aside0.mk (Kd.R_lower (Kd.R_new' ho0 (Kd.R_lt (by (with_reducible repeat (first | apply Kd.R_alloc | apply Kd.R_drewN | apply Kd.R_drew)); exact (Kd.R_mono (Kd.R_far (p := ⟨gb188, 3, none⟩) (Kd.R_far (p := ⟨gb188, 2, none⟩) (Kd.R_far (p := ⟨gb188, 1, none⟩) (Kd.R_far (p := ⟨gb188, 0, none⟩) (Kd.R_types HO186.out BK188.out (by decide)) (fun _ hk => hk.2) (.int .i64 t181)) (fun _ hk => hk.2) (.int .i64 t182)) (fun _ hk => hk.2) (.int .i64 t183)) (fun _ hk => hk.2) (.slice Ao26 t184.length co26)) (fun _ h_ => h_.1))))) (below_size (by repeat (first | (with_reducible first | exact HB.out | apply below_alloc | apply pw_below_drewN | apply below_drew1 | refine below_set ?_ GE188.out) | exact HB.out)))); have n2_ := Aside0.mk (blk_below (g := gb188) (o := .cells #[.int .i64 t181, .int .i64 t182, .int .i64 t183, .slice Ao26 t184.length co26] 24 (0, 0)) (by (with_reducible repeat (first | refine blk_drewN ?_ _ | refine blk_drew ?_ | refine blk_alloc ?_ _)); refine blk_put (cs := #[.int .i64 t181, .int .i64 t182, .int .i64 t183, .slice none 0 0]) ?_ 3 _ rfl; (with_reducible repeat (first | refine blk_drewN ?_ _ | refine blk_drew ?_ | refine blk_alloc ?_ _)); refine blk_put (cs := #[.int .i64 t181, .int .i64 t182, .int .i64 0, .slice none 0 0]) ?_ 2 _ rfl; (with_reducible repeat (first | refine blk_drewN ?_ _ | refine blk_drew ?_ | refine blk_alloc ?_ _)); refine blk_put (cs := #[.int .i64 t181, .int .i64 0, .int .i64 0, .slice none 0 0]) ?_ 1 _ rfl; (with_reducible repeat (first | refine blk_drewN ?_ _ | refine blk_drew ?_ | refine blk_alloc ?_ _)); refine blk_put (cs := #[.int .i64 0, .int .i64 0, .int .i64 0, .slice none 0 0]) ?_ 0 _ rfl; (with_reducible repeat (first | refine blk_drewN ?_ _ | refine blk_drew ?_ | refine blk_alloc ?_ _)); exact BK188.out) hb); have n3_ := Aside0.mk (below_step (by repeat (first | (with_reducible first | exact HB.out | apply below_alloc | apply pw_below_drewN | apply below_drew1 | refine below_set ?_ GE188.out) | exact HB.out)) hb); clear HO186; clear BK188; clear HB; have HO186 := n0_; have HO194 := n1_; have BK188 := n2_; have HB := n3_; clear n0_ n1_ n2_ n3_; (try clear hb); (try clear hb2); (try clear hk); (try clear hi); (try clear ho0)) | ((with_reducible refine gate_dst (N := 6) rfl ?_); refine box_event ?hg (N := 6) ?hd (cs := #[.int .i64 0, .int .i64 0, .int .i64 0, .slice none 0 0]) (t := 24) ?hr ?_; (case hd => rfl); (case hg => rfl); (case hr => first | (go_simp; done) | (go_simp; rfl)); intro gb196 hg w28 hbox hb; have n0_ := Aside0.mk (Kd.R_below (by (with_reducible repeat (first | apply Kd.R_alloc | apply Kd.R_drewN | apply Kd.R_drew)); exact HO186.out) hb); have n1_ := Aside0.mk (Kd.R_below (by (with_reducible repeat (first | apply Kd.R_alloc | apply Kd.R_drewN | apply Kd.R_drew)); exact HO194.out) hb); have n2_ := Aside0.mk (blk_below (g := gb188) (o := .cells #[.int .i64 t181, .int .i64 t182, .int .i64 t183, .slice Ao26 t184.length co26] 24 (0, 0)) (by (with_reducible repeat (first | refine blk_drewN ?_ _ | refine blk_drew ?_ | refine blk_alloc ?_ _)); exact BK188.out) hb); have n3_ := Aside0.mk (below_step (by repeat (first | (with_reducible first | exact HB.out | apply below_alloc | apply pw_below_drewN | apply below_drew1 | refine below_set ?_ GE188.out) | exact HB.out)) hb); have n4_ := Aside0.mk (hbox); have n5_ := Aside0.mk ((by rw [hg]; exact (below_size (by repeat (first | (with_reducible first | exact HB.out | apply below_alloc | apply pw_below_drewN | apply below_drew1 | refine below_set ?_ GE188.out) | exact HB.out))) : w.heap.size ≤ gb196)); have n6_ := Aside0.mk ((by rw [hg]; exact (below_size (by repeat (first | (with_reducible first | exact HB.out | apply below_alloc | apply pw_below_drewN | apply below_drew1 | refine below_set ?_ GE188.out) | exact HB.out))) : w.heap.size ≤ gb196)); have n7_ := Aside0.mk ((by rw [hg]; exact Nat.ne_of_lt (blk_lt (g := gb188) (o := .cells #[.int .i64 t181, .int .i64 t182, .int .i64 t183, .slice Ao26 t184.length co26] 24 (0, 0)) (by (with_reducible repeat (first | refine blk_drewN ?_ _ | refine blk_drew ?_ | refine blk_alloc ?_ _)); exact BK188.out)) : gb188 ≠ gb196)); have n8_ := Aside0.mk ((by rw [hg]; exact Nat.ne_of_gt (blk_lt (g := gb188) (o := .cells #[.int .i64 t181, .int .i64 t182, .int .i64 t183, .slice Ao26 t184.length co26] 24 (0, 0)) (by (with_reducible repeat (first | refine blk_drewN ?_ _ | refine blk_drew ?_ | refine blk_alloc ?_ _)); exact BK188.out)) : gb196 ≠ gb188)); clear HO186; clear HO194; clear BK188; clear HB; have HO186 := n0_; have HO194 := n1_; have BK188 := n2_; have HB := n3_; have BK196 := n4_; have GW196 := n5_; have GE196 := n6_; have NB188_196 := n7_; have NB196_188 := n8_; clear n0_ n1_ n2_ n3_ n4_ n5_ n6_ n7_ n8_; clear hb hbox hg; have hnb29 := NB196_188.out; have hnc29 := NB188_196.out; have hcz30_0 : w28.cell? ⟨gb196, 0, none⟩ = some (.int .i64 0) := (blk_cell BK196.out 0).trans rfl; have hcz30_1 : w28.cell? ⟨gb196, 1, none⟩ = some (.int .i64 0) := (blk_cell BK196.out 1).trans rfl; have hcz30_2 : w28.cell? ⟨gb196, 2, none⟩ = some (.int .i64 0) := (blk_cell BK196.out 2).trans rfl; have hcz30_3 : w28.cell? ⟨gb196, 3, none⟩ = some (.slice none 0 0) := (blk_cell BK196.out 3).trans rfl; have hfz30_0 := blk_frozen BK196.out 0; have hfz30_1 := blk_frozen BK196.out 1; have hfz30_2 := blk_frozen BK196.out 2; have hfz30_3 := blk_frozen BK196.out 3; obtain ⟨Ao31, co31, eo31⟩ := Kd.R_slice HO194.out; subst eo31))
          go_ret
          exact ⟨by first | rfl | (simp [errW_none, errW_some] <;> rfl) | (simp [*, errW_none, errW_some] <;> rfl), by repeat (first | (with_reducible first | exact HB.out | apply below_alloc | apply pw_below_drewN | apply below_drew1 | refine below_set ?_ GE188.out | refine below_set ?_ GE196.out) | exact HB.out)⟩
      · replace c8 := Bool.eq_false_iff.mpr c8
        subst c8
        have H1 : (some false) = some r := by rw [if_neg (show ¬ (false = true) by decide)] at H; exact H
        clear H
        have H := H1
        clear H1
        obtain rfl := Option.some.inj H
        go_enter Try.func4, Try.ntmps4
        go_wp2_with (first | ((with_reducible refine gate_callee (f := 7) rfl ?_); refine goesL_ (some 8) rfl rfl Try.func7 (by kernel_rfl) rfl #[] rfl (by (try simp only [List.map_toArray, List.map_cons, List.map_nil]); first | done | rfl | (simp only [List.length_drop, List.length_take]; rfl)) ?_; (with_reducible refine (trivetlaw06_up.calls k  false _ A2.out).mono ?_); rintro e w32 ⟨rfl, hb⟩; refine ⟨_, rfl, ?_⟩; have n0_ := Aside0.mk (below_step (by repeat (first | (with_reducible first | exact HB.out | apply below_alloc | apply pw_below_drewN | apply below_drew1) | exact HB.out)) hb); clear HB; have HB := n0_; clear n0_; (try clear hb); (try clear hb2); (try clear hk); (try clear hi)) | ((with_reducible refine gate_callee (f := 10) rfl ?_); refine goesL_ (some 15) rfl rfl Try.func10 (by kernel_rfl) rfl #[.slice A0 l0.length c0] rfl (by (try simp only [List.map_toArray, List.map_cons, List.map_nil]); first | done | rfl | (simp only [List.length_drop, List.length_take]; rfl)) ?_; (with_reducible refine (pack_Get.calls _ _ l0 t181 t182 t183 t184 t187 _ ?side1 ?side2 A5.out).mono ?_); (case side1 => repeat (first | exact (Kd.C_below HR0.out HB.out) | (with_reducible refine Kd.C_alloc ?_ _) | (with_reducible refine Kd.C_drewN ?_ _) | (with_reducible refine Kd.C_drew ?_))); (case side2 => exact HC0.out); rintro e w33 ⟨v185, rfl, ho0, hb⟩; refine ⟨_, rfl, ?_⟩; have n0_ := Aside0.mk (Kd.R_lower ho0 (below_size (by repeat (first | (with_reducible first | exact HB.out | apply below_alloc | apply pw_below_drewN | apply below_drew1) | exact HB.out)))); have n1_ := Aside0.mk (below_step (by repeat (first | (with_reducible first | exact HB.out | apply below_alloc | apply pw_below_drewN | apply below_drew1) | exact HB.out)) hb); clear HB; have HO186 := n0_; have HB := n1_; clear n0_ n1_; (try clear hb); (try clear hb2); (try clear hk); (try clear hi); (try clear ho0); (try simp only [errW_none, errW_some])) | ((with_reducible refine gate_dst (N := 4) rfl ?_); refine box_event ?hg (N := 4) ?hd (cs := #[.int .i64 0, .int .i64 0, .int .i64 0, .slice none 0 0]) (t := 24) ?hr ?_; (case hd => rfl); (case hg => rfl); (case hr => first | (go_simp; done) | (go_simp; rfl)); intro gb188 hg w34 hbox hb; have n0_ := Aside0.mk (Kd.R_below (by (with_reducible repeat (first | apply Kd.R_alloc | apply Kd.R_drewN | apply Kd.R_drew)); exact HO186.out) hb); have n1_ := Aside0.mk (below_step (by repeat (first | (with_reducible first | exact HB.out | apply below_alloc | apply pw_below_drewN | apply below_drew1) | exact HB.out)) hb); have n2_ := Aside0.mk (hbox); have n3_ := Aside0.mk ((by rw [hg]; exact (below_size (by repeat (first | (with_reducible first | exact HB.out | apply below_alloc | apply pw_below_drewN | apply below_drew1) | exact HB.out))) : w.heap.size ≤ gb188)); have n4_ := Aside0.mk ((by rw [hg]; exact (below_size (by repeat (first | (with_reducible first | exact HB.out | apply below_alloc | apply pw_below_drewN | apply below_drew1) | exact HB.out))) : w.heap.size ≤ gb188)); clear HO186; clear HB; have HO186 := n0_; have HB := n1_; have BK188 := n2_; have GW188 := n3_; have GE188 := n4_; clear n0_ n1_ n2_ n3_ n4_; clear hb hbox hg; have hcz35_0 : w34.cell? ⟨gb188, 0, none⟩ = some (.int .i64 0) := (blk_cell BK188.out 0).trans rfl; have hcz35_1 : w34.cell? ⟨gb188, 1, none⟩ = some (.int .i64 0) := (blk_cell BK188.out 1).trans rfl; have hcz35_2 : w34.cell? ⟨gb188, 2, none⟩ = some (.int .i64 0) := (blk_cell BK188.out 2).trans rfl; have hcz35_3 : w34.cell? ⟨gb188, 3, none⟩ = some (.slice none 0 0) := (blk_cell BK188.out 3).trans rfl; have hfz35_0 := blk_frozen BK188.out 0; have hfz35_1 := blk_frozen BK188.out 1; have hfz35_2 := blk_frozen BK188.out 2; have hfz35_3 := blk_frozen BK188.out 3; obtain ⟨Ao36, co36, eo36⟩ := Kd.R_slice HO186.out; subst eo36) | ((with_reducible refine gate_callee (f := 11) rfl ?_); refine goesL_ (some 20) rfl rfl Try.func11 (by kernel_rfl) rfl #[.slice A0 l0.length c0] rfl (by (try simp only [List.map_toArray, List.map_cons, List.map_nil]); first | done | rfl | (simp only [List.length_drop, List.length_take]; rfl)) ?_; (with_reducible refine (trivetref06_Get.calls k _ _ l0 t189 t190 t191 t192 true _ ?side1 ?side2 A6.out).mono ?_); (case side1 => exact Kd.C_below HR0.out (by repeat (first | (with_reducible first | exact HB.out | apply below_alloc | apply pw_below_drewN | apply below_drew1 | refine below_set ?_ GE188.out) | exact HB.out))); (case side2 => exact HC0.out); rintro e w37 ⟨v193, rfl, ho0, hb⟩; refine ⟨_, rfl, ?_⟩; have n0_ := Aside0.mk (Kd.R_elder' (by (with_reducible repeat (first | apply Kd.R_alloc | apply Kd.R_drewN | apply Kd.R_drew)); exact (Kd.R_mono (Kd.R_far (p := ⟨gb188, 3, none⟩) (Kd.R_far (p := ⟨gb188, 2, none⟩) (Kd.R_far (p := ⟨gb188, 1, none⟩) (Kd.R_far (p := ⟨gb188, 0, none⟩) (Kd.R_types HO186.out BK188.out (by decide)) (fun _ hk => hk.2) (.int .i64 t181)) (fun _ hk => hk.2) (.int .i64 t182)) (fun _ hk => hk.2) (.int .i64 t183)) (fun _ hk => hk.2) (.slice Ao36 t184.length co36)) (fun _ h_ => h_.1))) (Kd.R_base ho0) hb); have n1_ := Aside0.mk (Kd.R_lower (Kd.R_new' ho0 (Kd.R_lt (by (with_reducible repeat (first | apply Kd.R_alloc | apply Kd.R_drewN | apply Kd.R_drew)); exact (Kd.R_mono (Kd.R_far (p := ⟨gb188, 3, none⟩) (Kd.R_far (p := ⟨gb188, 2, none⟩) (Kd.R_far (p := ⟨gb188, 1, none⟩) (Kd.R_far (p := ⟨gb188, 0, none⟩) (Kd.R_types HO186.out BK188.out (by decide)) (fun _ hk => hk.2) (.int .i64 t181)) (fun _ hk => hk.2) (.int .i64 t182)) (fun _ hk => hk.2) (.int .i64 t183)) (fun _ hk => hk.2) (.slice Ao36 t184.length co36)) (fun _ h_ => h_.1))))) (below_size (by repeat (first | (with_reducible first | exact HB.out | apply below_alloc | apply pw_below_drewN | apply below_drew1 | refine below_set ?_ GE188.out) | exact HB.out)))); have n2_ := Aside0.mk (blk_below (g := gb188) (o := .cells #[.int .i64 t181, .int .i64 t182, .int .i64 t183, .slice Ao36 t184.length co36] 24 (0, 0)) (by (with_reducible repeat (first | refine blk_drewN ?_ _ | refine blk_drew ?_ | refine blk_alloc ?_ _)); refine blk_put (cs := #[.int .i64 t181, .int .i64 t182, .int .i64 t183, .slice none 0 0]) ?_ 3 _ rfl; (with_reducible repeat (first | refine blk_drewN ?_ _ | refine blk_drew ?_ | refine blk_alloc ?_ _)); refine blk_put (cs := #[.int .i64 t181, .int .i64 t182, .int .i64 0, .slice none 0 0]) ?_ 2 _ rfl; (with_reducible repeat (first | refine blk_drewN ?_ _ | refine blk_drew ?_ | refine blk_alloc ?_ _)); refine blk_put (cs := #[.int .i64 t181, .int .i64 0, .int .i64 0, .slice none 0 0]) ?_ 1 _ rfl; (with_reducible repeat (first | refine blk_drewN ?_ _ | refine blk_drew ?_ | refine blk_alloc ?_ _)); refine blk_put (cs := #[.int .i64 0, .int .i64 0, .int .i64 0, .slice none 0 0]) ?_ 0 _ rfl; (with_reducible repeat (first | refine blk_drewN ?_ _ | refine blk_drew ?_ | refine blk_alloc ?_ _)); exact BK188.out) hb); have n3_ := Aside0.mk (below_step (by repeat (first | (with_reducible first | exact HB.out | apply below_alloc | apply pw_below_drewN | apply below_drew1 | refine below_set ?_ GE188.out) | exact HB.out)) hb); clear HO186; clear BK188; clear HB; have HO186 := n0_; have HO194 := n1_; have BK188 := n2_; have HB := n3_; clear n0_ n1_ n2_ n3_; (try clear hb); (try clear hb2); (try clear hk); (try clear hi); (try clear ho0)) | ((with_reducible refine gate_dst (N := 6) rfl ?_); refine box_event ?hg (N := 6) ?hd (cs := #[.int .i64 0, .int .i64 0, .int .i64 0, .slice none 0 0]) (t := 24) ?hr ?_; (case hd => rfl); (case hg => rfl); (case hr => first | (go_simp; done) | (go_simp; rfl)); intro gb196 hg w38 hbox hb; have n0_ := Aside0.mk (Kd.R_below (by (with_reducible repeat (first | apply Kd.R_alloc | apply Kd.R_drewN | apply Kd.R_drew)); exact HO186.out) hb); have n1_ := Aside0.mk (Kd.R_below (by (with_reducible repeat (first | apply Kd.R_alloc | apply Kd.R_drewN | apply Kd.R_drew)); exact HO194.out) hb); have n2_ := Aside0.mk (blk_below (g := gb188) (o := .cells #[.int .i64 t181, .int .i64 t182, .int .i64 t183, .slice Ao36 t184.length co36] 24 (0, 0)) (by (with_reducible repeat (first | refine blk_drewN ?_ _ | refine blk_drew ?_ | refine blk_alloc ?_ _)); exact BK188.out) hb); have n3_ := Aside0.mk (below_step (by repeat (first | (with_reducible first | exact HB.out | apply below_alloc | apply pw_below_drewN | apply below_drew1 | refine below_set ?_ GE188.out) | exact HB.out)) hb); have n4_ := Aside0.mk (hbox); have n5_ := Aside0.mk ((by rw [hg]; exact (below_size (by repeat (first | (with_reducible first | exact HB.out | apply below_alloc | apply pw_below_drewN | apply below_drew1 | refine below_set ?_ GE188.out) | exact HB.out))) : w.heap.size ≤ gb196)); have n6_ := Aside0.mk ((by rw [hg]; exact (below_size (by repeat (first | (with_reducible first | exact HB.out | apply below_alloc | apply pw_below_drewN | apply below_drew1 | refine below_set ?_ GE188.out) | exact HB.out))) : w.heap.size ≤ gb196)); have n7_ := Aside0.mk ((by rw [hg]; exact Nat.ne_of_lt (blk_lt (g := gb188) (o := .cells #[.int .i64 t181, .int .i64 t182, .int .i64 t183, .slice Ao36 t184.length co36] 24 (0, 0)) (by (with_reducible repeat (first | refine blk_drewN ?_ _ | refine blk_drew ?_ | refine blk_alloc ?_ _)); exact BK188.out)) : gb188 ≠ gb196)); have n8_ := Aside0.mk ((by rw [hg]; exact Nat.ne_of_gt (blk_lt (g := gb188) (o := .cells #[.int .i64 t181, .int .i64 t182, .int .i64 t183, .slice Ao36 t184.length co36] 24 (0, 0)) (by (with_reducible repeat (first | refine blk_drewN ?_ _ | refine blk_drew ?_ | refine blk_alloc ?_ _)); exact BK188.out)) : gb196 ≠ gb188)); clear HO186; clear HO194; clear BK188; clear HB; have HO186 := n0_; have HO194 := n1_; have BK188 := n2_; have HB := n3_; have BK196 := n4_; have GW196 := n5_; have GE196 := n6_; have NB188_196 := n7_; have NB196_188 := n8_; clear n0_ n1_ n2_ n3_ n4_ n5_ n6_ n7_ n8_; clear hb hbox hg; have hnb39 := NB196_188.out; have hnc39 := NB188_196.out; have hcz40_0 : w38.cell? ⟨gb196, 0, none⟩ = some (.int .i64 0) := (blk_cell BK196.out 0).trans rfl; have hcz40_1 : w38.cell? ⟨gb196, 1, none⟩ = some (.int .i64 0) := (blk_cell BK196.out 1).trans rfl; have hcz40_2 : w38.cell? ⟨gb196, 2, none⟩ = some (.int .i64 0) := (blk_cell BK196.out 2).trans rfl; have hcz40_3 : w38.cell? ⟨gb196, 3, none⟩ = some (.slice none 0 0) := (blk_cell BK196.out 3).trans rfl; have hfz40_0 := blk_frozen BK196.out 0; have hfz40_1 := blk_frozen BK196.out 1; have hfz40_2 := blk_frozen BK196.out 2; have hfz40_3 := blk_frozen BK196.out 3; obtain ⟨Ao41, co41, eo41⟩ := Kd.R_slice HO194.out; subst eo41))
        go_ret
        exact ⟨by first | rfl | (simp [errW_none, errW_some] <;> rfl) | (simp [*, errW_none, errW_some] <;> rfl), by repeat (first | (with_reducible first | exact HB.out | apply below_alloc | apply pw_below_drewN | apply below_drew1 | refine below_set ?_ GE188.out | refine below_set ?_ GE196.out) | exact HB.out)⟩
    · replace c7 := Bool.eq_false_iff.mpr c7
      subst c7
      have H1 : (if t180 = true then (if t187.isNone = true then (some false) else (if (t187.getD 0) = 2 then ((trivetref06_Same.f k t181 t182 t183 t184 0 0 0 ([] : List Int)).bind fun t200 => (some t200)) else (some false))) else (some false)) = some r := by rw [if_neg (show ¬ (false = true) by decide)] at H; exact H
      clear H
      have H := H1
      clear H1
      by_cases c42 : t180 = true
      · subst c42
        have H1 : (if t187.isNone = true then (some false) else (if (t187.getD 0) = 2 then ((trivetref06_Same.f k t181 t182 t183 t184 0 0 0 ([] : List Int)).bind fun t200 => (some t200)) else (some false))) = some r := by rw [if_pos rfl] at H; exact H
        clear H
        have H := H1
        clear H1
        rcases t187 with _ | q199
        · have H1 : (some false) = some r := by rw [if_pos (show (none : Option Int).isNone = true by rfl)] at H; exact H
          clear H
          have H := H1
          clear H1
          try simp only [errW_none, errW_some]
          obtain rfl := Option.some.inj H
          go_enter Try.func4, Try.ntmps4
          go_wp2_with (first | ((with_reducible refine gate_callee (f := 7) rfl ?_); refine goesL_ (some 8) rfl rfl Try.func7 (by kernel_rfl) rfl #[] rfl (by (try simp only [List.map_toArray, List.map_cons, List.map_nil]); first | done | rfl | (simp only [List.length_drop, List.length_take]; rfl)) ?_; (with_reducible refine (trivetlaw06_up.calls k  true _ A2.out).mono ?_); rintro e w43 ⟨rfl, hb⟩; refine ⟨_, rfl, ?_⟩; have n0_ := Aside0.mk (below_step (by repeat (first | (with_reducible first | exact HB.out | apply below_alloc | apply pw_below_drewN | apply below_drew1) | exact HB.out)) hb); clear HB; have HB := n0_; clear n0_; (try clear hb); (try clear hb2); (try clear hk); (try clear hi)) | ((with_reducible refine gate_callee (f := 10) rfl ?_); refine goesL_ (some 15) rfl rfl Try.func10 (by kernel_rfl) rfl #[.slice A0 l0.length c0] rfl (by (try simp only [List.map_toArray, List.map_cons, List.map_nil]); first | done | rfl | (simp only [List.length_drop, List.length_take]; rfl)) ?_; (with_reducible refine (pack_Get.calls _ _ l0 t181 t182 t183 t184 none _ ?side1 ?side2 A5.out).mono ?_); (case side1 => repeat (first | exact (Kd.C_below HR0.out HB.out) | (with_reducible refine Kd.C_alloc ?_ _) | (with_reducible refine Kd.C_drewN ?_ _) | (with_reducible refine Kd.C_drew ?_))); (case side2 => exact HC0.out); rintro e w44 ⟨v185, rfl, ho0, hb⟩; refine ⟨_, rfl, ?_⟩; have n0_ := Aside0.mk (Kd.R_lower ho0 (below_size (by repeat (first | (with_reducible first | exact HB.out | apply below_alloc | apply pw_below_drewN | apply below_drew1) | exact HB.out)))); have n1_ := Aside0.mk (below_step (by repeat (first | (with_reducible first | exact HB.out | apply below_alloc | apply pw_below_drewN | apply below_drew1) | exact HB.out)) hb); clear HB; have HO186 := n0_; have HB := n1_; clear n0_ n1_; (try clear hb); (try clear hb2); (try clear hk); (try clear hi); (try clear ho0); (try simp only [errW_none, errW_some])) | ((with_reducible refine gate_dst (N := 4) rfl ?_); refine box_event ?hg (N := 4) ?hd (cs := #[.int .i64 0, .int .i64 0, .int .i64 0, .slice none 0 0]) (t := 24) ?hr ?_; (case hd => rfl); (case hg => rfl); (case hr => first | (go_simp; done) | (go_simp; rfl)); intro gb188 hg w45 hbox hb; have n0_ := Aside0.mk (Kd.R_below (by (with_reducible repeat (first | apply Kd.R_alloc | apply Kd.R_drewN | apply Kd.R_drew)); exact HO186.out) hb); have n1_ := Aside0.mk (below_step (by repeat (first | (with_reducible first | exact HB.out | apply below_alloc | apply pw_below_drewN | apply below_drew1) | exact HB.out)) hb); have n2_ := Aside0.mk (hbox); have n3_ := Aside0.mk ((by rw [hg]; exact (below_size (by repeat (first | (with_reducible first | exact HB.out | apply below_alloc | apply pw_below_drewN | apply below_drew1) | exact HB.out))) : w.heap.size ≤ gb188)); have n4_ := Aside0.mk ((by rw [hg]; exact (below_size (by repeat (first | (with_reducible first | exact HB.out | apply below_alloc | apply pw_below_drewN | apply below_drew1) | exact HB.out))) : w.heap.size ≤ gb188)); clear HO186; clear HB; have HO186 := n0_; have HB := n1_; have BK188 := n2_; have GW188 := n3_; have GE188 := n4_; clear n0_ n1_ n2_ n3_ n4_; clear hb hbox hg; have hcz46_0 : w45.cell? ⟨gb188, 0, none⟩ = some (.int .i64 0) := (blk_cell BK188.out 0).trans rfl; have hcz46_1 : w45.cell? ⟨gb188, 1, none⟩ = some (.int .i64 0) := (blk_cell BK188.out 1).trans rfl; have hcz46_2 : w45.cell? ⟨gb188, 2, none⟩ = some (.int .i64 0) := (blk_cell BK188.out 2).trans rfl; have hcz46_3 : w45.cell? ⟨gb188, 3, none⟩ = some (.slice none 0 0) := (blk_cell BK188.out 3).trans rfl; have hfz46_0 := blk_frozen BK188.out 0; have hfz46_1 := blk_frozen BK188.out 1; have hfz46_2 := blk_frozen BK188.out 2; have hfz46_3 := blk_frozen BK188.out 3; obtain ⟨Ao47, co47, eo47⟩ := Kd.R_slice HO186.out; subst eo47) | ((with_reducible refine gate_callee (f := 11) rfl ?_); refine goesL_ (some 20) rfl rfl Try.func11 (by kernel_rfl) rfl #[.slice A0 l0.length c0] rfl (by (try simp only [List.map_toArray, List.map_cons, List.map_nil]); first | done | rfl | (simp only [List.length_drop, List.length_take]; rfl)) ?_; (with_reducible refine (trivetref06_Get.calls k _ _ l0 t189 t190 t191 t192 false _ ?side1 ?side2 A6.out).mono ?_); (case side1 => exact Kd.C_below HR0.out (by repeat (first | (with_reducible first | exact HB.out | apply below_alloc | apply pw_below_drewN | apply below_drew1 | refine below_set ?_ GE188.out) | exact HB.out))); (case side2 => exact HC0.out); rintro e w48 ⟨v193, rfl, ho0, hb⟩; refine ⟨_, rfl, ?_⟩; have n0_ := Aside0.mk (Kd.R_elder' (by (with_reducible repeat (first | apply Kd.R_alloc | apply Kd.R_drewN | apply Kd.R_drew)); exact (Kd.R_mono (Kd.R_far (p := ⟨gb188, 3, none⟩) (Kd.R_far (p := ⟨gb188, 2, none⟩) (Kd.R_far (p := ⟨gb188, 1, none⟩) (Kd.R_far (p := ⟨gb188, 0, none⟩) (Kd.R_types HO186.out BK188.out (by decide)) (fun _ hk => hk.2) (.int .i64 t181)) (fun _ hk => hk.2) (.int .i64 t182)) (fun _ hk => hk.2) (.int .i64 t183)) (fun _ hk => hk.2) (.slice Ao47 t184.length co47)) (fun _ h_ => h_.1))) (Kd.R_base ho0) hb); have n1_ := Aside0.mk (Kd.R_lower (Kd.R_new' ho0 (Kd.R_lt (by (with_reducible repeat (first | apply Kd.R_alloc | apply Kd.R_drewN | apply Kd.R_drew)); exact (Kd.R_mono (Kd.R_far (p := ⟨gb188, 3, none⟩) (Kd.R_far (p := ⟨gb188, 2, none⟩) (Kd.R_far (p := ⟨gb188, 1, none⟩) (Kd.R_far (p := ⟨gb188, 0, none⟩) (Kd.R_types HO186.out BK188.out (by decide)) (fun _ hk => hk.2) (.int .i64 t181)) (fun _ hk => hk.2) (.int .i64 t182)) (fun _ hk => hk.2) (.int .i64 t183)) (fun _ hk => hk.2) (.slice Ao47 t184.length co47)) (fun _ h_ => h_.1))))) (below_size (by repeat (first | (with_reducible first | exact HB.out | apply below_alloc | apply pw_below_drewN | apply below_drew1 | refine below_set ?_ GE188.out) | exact HB.out)))); have n2_ := Aside0.mk (blk_below (g := gb188) (o := .cells #[.int .i64 t181, .int .i64 t182, .int .i64 t183, .slice Ao47 t184.length co47] 24 (0, 0)) (by (with_reducible repeat (first | refine blk_drewN ?_ _ | refine blk_drew ?_ | refine blk_alloc ?_ _)); refine blk_put (cs := #[.int .i64 t181, .int .i64 t182, .int .i64 t183, .slice none 0 0]) ?_ 3 _ rfl; (with_reducible repeat (first | refine blk_drewN ?_ _ | refine blk_drew ?_ | refine blk_alloc ?_ _)); refine blk_put (cs := #[.int .i64 t181, .int .i64 t182, .int .i64 0, .slice none 0 0]) ?_ 2 _ rfl; (with_reducible repeat (first | refine blk_drewN ?_ _ | refine blk_drew ?_ | refine blk_alloc ?_ _)); refine blk_put (cs := #[.int .i64 t181, .int .i64 0, .int .i64 0, .slice none 0 0]) ?_ 1 _ rfl; (with_reducible repeat (first | refine blk_drewN ?_ _ | refine blk_drew ?_ | refine blk_alloc ?_ _)); refine blk_put (cs := #[.int .i64 0, .int .i64 0, .int .i64 0, .slice none 0 0]) ?_ 0 _ rfl; (with_reducible repeat (first | refine blk_drewN ?_ _ | refine blk_drew ?_ | refine blk_alloc ?_ _)); exact BK188.out) hb); have n3_ := Aside0.mk (below_step (by repeat (first | (with_reducible first | exact HB.out | apply below_alloc | apply pw_below_drewN | apply below_drew1 | refine below_set ?_ GE188.out) | exact HB.out)) hb); clear HO186; clear BK188; clear HB; have HO186 := n0_; have HO194 := n1_; have BK188 := n2_; have HB := n3_; clear n0_ n1_ n2_ n3_; (try clear hb); (try clear hb2); (try clear hk); (try clear hi); (try clear ho0)) | ((with_reducible refine gate_dst (N := 6) rfl ?_); refine box_event ?hg (N := 6) ?hd (cs := #[.int .i64 0, .int .i64 0, .int .i64 0, .slice none 0 0]) (t := 24) ?hr ?_; (case hd => rfl); (case hg => rfl); (case hr => first | (go_simp; done) | (go_simp; rfl)); intro gb196 hg w49 hbox hb; have n0_ := Aside0.mk (Kd.R_below (by (with_reducible repeat (first | apply Kd.R_alloc | apply Kd.R_drewN | apply Kd.R_drew)); exact HO186.out) hb); have n1_ := Aside0.mk (Kd.R_below (by (with_reducible repeat (first | apply Kd.R_alloc | apply Kd.R_drewN | apply Kd.R_drew)); exact HO194.out) hb); have n2_ := Aside0.mk (blk_below (g := gb188) (o := .cells #[.int .i64 t181, .int .i64 t182, .int .i64 t183, .slice Ao47 t184.length co47] 24 (0, 0)) (by (with_reducible repeat (first | refine blk_drewN ?_ _ | refine blk_drew ?_ | refine blk_alloc ?_ _)); exact BK188.out) hb); have n3_ := Aside0.mk (below_step (by repeat (first | (with_reducible first | exact HB.out | apply below_alloc | apply pw_below_drewN | apply below_drew1 | refine below_set ?_ GE188.out) | exact HB.out)) hb); have n4_ := Aside0.mk (hbox); have n5_ := Aside0.mk ((by rw [hg]; exact (below_size (by repeat (first | (with_reducible first | exact HB.out | apply below_alloc | apply pw_below_drewN | apply below_drew1 | refine below_set ?_ GE188.out) | exact HB.out))) : w.heap.size ≤ gb196)); have n6_ := Aside0.mk ((by rw [hg]; exact (below_size (by repeat (first | (with_reducible first | exact HB.out | apply below_alloc | apply pw_below_drewN | apply below_drew1 | refine below_set ?_ GE188.out) | exact HB.out))) : w.heap.size ≤ gb196)); have n7_ := Aside0.mk ((by rw [hg]; exact Nat.ne_of_lt (blk_lt (g := gb188) (o := .cells #[.int .i64 t181, .int .i64 t182, .int .i64 t183, .slice Ao47 t184.length co47] 24 (0, 0)) (by (with_reducible repeat (first | refine blk_drewN ?_ _ | refine blk_drew ?_ | refine blk_alloc ?_ _)); exact BK188.out)) : gb188 ≠ gb196)); have n8_ := Aside0.mk ((by rw [hg]; exact Nat.ne_of_gt (blk_lt (g := gb188) (o := .cells #[.int .i64 t181, .int .i64 t182, .int .i64 t183, .slice Ao47 t184.length co47] 24 (0, 0)) (by (with_reducible repeat (first | refine blk_drewN ?_ _ | refine blk_drew ?_ | refine blk_alloc ?_ _)); exact BK188.out)) : gb196 ≠ gb188)); clear HO186; clear HO194; clear BK188; clear HB; have HO186 := n0_; have HO194 := n1_; have BK188 := n2_; have HB := n3_; have BK196 := n4_; have GW196 := n5_; have GE196 := n6_; have NB188_196 := n7_; have NB196_188 := n8_; clear n0_ n1_ n2_ n3_ n4_ n5_ n6_ n7_ n8_; clear hb hbox hg; have hnb50 := NB196_188.out; have hnc50 := NB188_196.out; have hcz51_0 : w49.cell? ⟨gb196, 0, none⟩ = some (.int .i64 0) := (blk_cell BK196.out 0).trans rfl; have hcz51_1 : w49.cell? ⟨gb196, 1, none⟩ = some (.int .i64 0) := (blk_cell BK196.out 1).trans rfl; have hcz51_2 : w49.cell? ⟨gb196, 2, none⟩ = some (.int .i64 0) := (blk_cell BK196.out 2).trans rfl; have hcz51_3 : w49.cell? ⟨gb196, 3, none⟩ = some (.slice none 0 0) := (blk_cell BK196.out 3).trans rfl; have hfz51_0 := blk_frozen BK196.out 0; have hfz51_1 := blk_frozen BK196.out 1; have hfz51_2 := blk_frozen BK196.out 2; have hfz51_3 := blk_frozen BK196.out 3; obtain ⟨Ao52, co52, eo52⟩ := Kd.R_slice HO194.out; subst eo52))
          go_ret
          exact ⟨by first | rfl | (simp [errW_none, errW_some] <;> rfl) | (simp [*, errW_none, errW_some] <;> rfl), by repeat (first | (with_reducible first | exact HB.out | apply below_alloc | apply pw_below_drewN | apply below_drew1 | refine below_set ?_ GE188.out | refine below_set ?_ GE196.out) | exact HB.out)⟩
        · have H1 : (if q199 = 2 then ((trivetref06_Same.f k t181 t182 t183 t184 0 0 0 ([] : List Int)).bind fun t200 => (some t200)) else (some false)) = some r := by rw [if_neg (show ¬ (some q199).isNone = true by simp)] at H; exact H
          clear H
          have H := H1
          clear H1
          try simp only [errW_none, errW_some]
          by_cases c53 : q199 = 2
          · rw [if_pos c53] at H
            have c53b0 : (q199 == 2) = true := beq_iff_eq.mpr c53
            have c53b1 : (q199 != 2) = false := bne_eq_false_iff_eq.mpr c53
            clear c53
            replace H := Option.bind_eq_some_iff.mp H
            obtain ⟨t200, A540, H⟩ := H
            replace H : (some t200) = some r := H
            have A54 := Aside0.mk A540
            clear A540
            obtain rfl := Option.some.inj H
            go_enter Try.func4, Try.ntmps4
            go_wp2_with (first | ((with_reducible refine gate_callee (f := 7) rfl ?_); refine goesL_ (some 8) rfl rfl Try.func7 (by kernel_rfl) rfl #[] rfl (by (try simp only [List.map_toArray, List.map_cons, List.map_nil]); first | done | rfl | (simp only [List.length_drop, List.length_take]; rfl)) ?_; (with_reducible refine (trivetlaw06_up.calls k  true _ A2.out).mono ?_); rintro e w55 ⟨rfl, hb⟩; refine ⟨_, rfl, ?_⟩; have n0_ := Aside0.mk (below_step (by repeat (first | (with_reducible first | exact HB.out | apply below_alloc | apply pw_below_drewN | apply below_drew1) | exact HB.out)) hb); clear HB; have HB := n0_; clear n0_; (try clear hb); (try clear hb2); (try clear hk); (try clear hi)) | ((with_reducible refine gate_callee (f := 10) rfl ?_); refine goesL_ (some 15) rfl rfl Try.func10 (by kernel_rfl) rfl #[.slice A0 l0.length c0] rfl (by (try simp only [List.map_toArray, List.map_cons, List.map_nil]); first | done | rfl | (simp only [List.length_drop, List.length_take]; rfl)) ?_; (with_reducible refine (pack_Get.calls _ _ l0 t181 t182 t183 t184 (some q199) _ ?side1 ?side2 A5.out).mono ?_); (case side1 => repeat (first | exact (Kd.C_below HR0.out HB.out) | (with_reducible refine Kd.C_alloc ?_ _) | (with_reducible refine Kd.C_drewN ?_ _) | (with_reducible refine Kd.C_drew ?_))); (case side2 => exact HC0.out); rintro e w56 ⟨v185, rfl, ho0, hb⟩; refine ⟨_, rfl, ?_⟩; have n0_ := Aside0.mk (Kd.R_lower ho0 (below_size (by repeat (first | (with_reducible first | exact HB.out | apply below_alloc | apply pw_below_drewN | apply below_drew1) | exact HB.out)))); have n1_ := Aside0.mk (below_step (by repeat (first | (with_reducible first | exact HB.out | apply below_alloc | apply pw_below_drewN | apply below_drew1) | exact HB.out)) hb); clear HB; have HO186 := n0_; have HB := n1_; clear n0_ n1_; (try clear hb); (try clear hb2); (try clear hk); (try clear hi); (try clear ho0); (try simp only [errW_none, errW_some])) | ((with_reducible refine gate_dst (N := 4) rfl ?_); refine box_event ?hg (N := 4) ?hd (cs := #[.int .i64 0, .int .i64 0, .int .i64 0, .slice none 0 0]) (t := 24) ?hr ?_; (case hd => rfl); (case hg => rfl); (case hr => first | (go_simp; done) | (go_simp; rfl)); intro gb188 hg w57 hbox hb; have n0_ := Aside0.mk (Kd.R_below (by (with_reducible repeat (first | apply Kd.R_alloc | apply Kd.R_drewN | apply Kd.R_drew)); exact HO186.out) hb); have n1_ := Aside0.mk (below_step (by repeat (first | (with_reducible first | exact HB.out | apply below_alloc | apply pw_below_drewN | apply below_drew1) | exact HB.out)) hb); have n2_ := Aside0.mk (hbox); have n3_ := Aside0.mk ((by rw [hg]; exact (below_size (by repeat (first | (with_reducible first | exact HB.out | apply below_alloc | apply pw_below_drewN | apply below_drew1) | exact HB.out))) : w.heap.size ≤ gb188)); have n4_ := Aside0.mk ((by rw [hg]; exact (below_size (by repeat (first | (with_reducible first | exact HB.out | apply below_alloc | apply pw_below_drewN | apply below_drew1) | exact HB.out))) : w.heap.size ≤ gb188)); clear HO186; clear HB; have HO186 := n0_; have HB := n1_; have BK188 := n2_; have GW188 := n3_; have GE188 := n4_; clear n0_ n1_ n2_ n3_ n4_; clear hb hbox hg; have hcz58_0 : w57.cell? ⟨gb188, 0, none⟩ = some (.int .i64 0) := (blk_cell BK188.out 0).trans rfl; have hcz58_1 : w57.cell? ⟨gb188, 1, none⟩ = some (.int .i64 0) := (blk_cell BK188.out 1).trans rfl; have hcz58_2 : w57.cell? ⟨gb188, 2, none⟩ = some (.int .i64 0) := (blk_cell BK188.out 2).trans rfl; have hcz58_3 : w57.cell? ⟨gb188, 3, none⟩ = some (.slice none 0 0) := (blk_cell BK188.out 3).trans rfl; have hfz58_0 := blk_frozen BK188.out 0; have hfz58_1 := blk_frozen BK188.out 1; have hfz58_2 := blk_frozen BK188.out 2; have hfz58_3 := blk_frozen BK188.out 3; obtain ⟨Ao59, co59, eo59⟩ := Kd.R_slice HO186.out; subst eo59) | ((with_reducible refine gate_callee (f := 11) rfl ?_); refine goesL_ (some 20) rfl rfl Try.func11 (by kernel_rfl) rfl #[.slice A0 l0.length c0] rfl (by (try simp only [List.map_toArray, List.map_cons, List.map_nil]); first | done | rfl | (simp only [List.length_drop, List.length_take]; rfl)) ?_; (with_reducible refine (trivetref06_Get.calls k _ _ l0 t189 t190 t191 t192 false _ ?side1 ?side2 A6.out).mono ?_); (case side1 => exact Kd.C_below HR0.out (by repeat (first | (with_reducible first | exact HB.out | apply below_alloc | apply pw_below_drewN | apply below_drew1 | refine below_set ?_ GE188.out) | exact HB.out))); (case side2 => exact HC0.out); rintro e w60 ⟨v193, rfl, ho0, hb⟩; refine ⟨_, rfl, ?_⟩; have n0_ := Aside0.mk (Kd.R_elder' (by (with_reducible repeat (first | apply Kd.R_alloc | apply Kd.R_drewN | apply Kd.R_drew)); exact (Kd.R_mono (Kd.R_far (p := ⟨gb188, 3, none⟩) (Kd.R_far (p := ⟨gb188, 2, none⟩) (Kd.R_far (p := ⟨gb188, 1, none⟩) (Kd.R_far (p := ⟨gb188, 0, none⟩) (Kd.R_types HO186.out BK188.out (by decide)) (fun _ hk => hk.2) (.int .i64 t181)) (fun _ hk => hk.2) (.int .i64 t182)) (fun _ hk => hk.2) (.int .i64 t183)) (fun _ hk => hk.2) (.slice Ao59 t184.length co59)) (fun _ h_ => h_.1))) (Kd.R_base ho0) hb); have n1_ := Aside0.mk (Kd.R_lower (Kd.R_new' ho0 (Kd.R_lt (by (with_reducible repeat (first | apply Kd.R_alloc | apply Kd.R_drewN | apply Kd.R_drew)); exact (Kd.R_mono (Kd.R_far (p := ⟨gb188, 3, none⟩) (Kd.R_far (p := ⟨gb188, 2, none⟩) (Kd.R_far (p := ⟨gb188, 1, none⟩) (Kd.R_far (p := ⟨gb188, 0, none⟩) (Kd.R_types HO186.out BK188.out (by decide)) (fun _ hk => hk.2) (.int .i64 t181)) (fun _ hk => hk.2) (.int .i64 t182)) (fun _ hk => hk.2) (.int .i64 t183)) (fun _ hk => hk.2) (.slice Ao59 t184.length co59)) (fun _ h_ => h_.1))))) (below_size (by repeat (first | (with_reducible first | exact HB.out | apply below_alloc | apply pw_below_drewN | apply below_drew1 | refine below_set ?_ GE188.out) | exact HB.out)))); have n2_ := Aside0.mk (blk_below (g := gb188) (o := .cells #[.int .i64 t181, .int .i64 t182, .int .i64 t183, .slice Ao59 t184.length co59] 24 (0, 0)) (by (with_reducible repeat (first | refine blk_drewN ?_ _ | refine blk_drew ?_ | refine blk_alloc ?_ _)); refine blk_put (cs := #[.int .i64 t181, .int .i64 t182, .int .i64 t183, .slice none 0 0]) ?_ 3 _ rfl; (with_reducible repeat (first | refine blk_drewN ?_ _ | refine blk_drew ?_ | refine blk_alloc ?_ _)); refine blk_put (cs := #[.int .i64 t181, .int .i64 t182, .int .i64 0, .slice none 0 0]) ?_ 2 _ rfl; (with_reducible repeat (first | refine blk_drewN ?_ _ | refine blk_drew ?_ | refine blk_alloc ?_ _)); refine blk_put (cs := #[.int .i64 t181, .int .i64 0, .int .i64 0, .slice none 0 0]) ?_ 1 _ rfl; (with_reducible repeat (first | refine blk_drewN ?_ _ | refine blk_drew ?_ | refine blk_alloc ?_ _)); refine blk_put (cs := #[.int .i64 0, .int .i64 0, .int .i64 0, .slice none 0 0]) ?_ 0 _ rfl; (with_reducible repeat (first | refine blk_drewN ?_ _ | refine blk_drew ?_ | refine blk_alloc ?_ _)); exact BK188.out) hb); have n3_ := Aside0.mk (below_step (by repeat (first | (with_reducible first | exact HB.out | apply below_alloc | apply pw_below_drewN | apply below_drew1 | refine below_set ?_ GE188.out) | exact HB.out)) hb); clear HO186; clear BK188; clear HB; have HO186 := n0_; have HO194 := n1_; have BK188 := n2_; have HB := n3_; clear n0_ n1_ n2_ n3_; (try clear hb); (try clear hb2); (try clear hk); (try clear hi); (try clear ho0)) | ((with_reducible refine gate_dst (N := 6) rfl ?_); refine box_event ?hg (N := 6) ?hd (cs := #[.int .i64 0, .int .i64 0, .int .i64 0, .slice none 0 0]) (t := 24) ?hr ?_; (case hd => rfl); (case hg => rfl); (case hr => first | (go_simp; done) | (go_simp; rfl)); intro gb196 hg w61 hbox hb; have n0_ := Aside0.mk (Kd.R_below (by (with_reducible repeat (first | apply Kd.R_alloc | apply Kd.R_drewN | apply Kd.R_drew)); exact HO186.out) hb); have n1_ := Aside0.mk (Kd.R_below (by (with_reducible repeat (first | apply Kd.R_alloc | apply Kd.R_drewN | apply Kd.R_drew)); exact HO194.out) hb); have n2_ := Aside0.mk (blk_below (g := gb188) (o := .cells #[.int .i64 t181, .int .i64 t182, .int .i64 t183, .slice Ao59 t184.length co59] 24 (0, 0)) (by (with_reducible repeat (first | refine blk_drewN ?_ _ | refine blk_drew ?_ | refine blk_alloc ?_ _)); exact BK188.out) hb); have n3_ := Aside0.mk (below_step (by repeat (first | (with_reducible first | exact HB.out | apply below_alloc | apply pw_below_drewN | apply below_drew1 | refine below_set ?_ GE188.out) | exact HB.out)) hb); have n4_ := Aside0.mk (hbox); have n5_ := Aside0.mk ((by rw [hg]; exact (below_size (by repeat (first | (with_reducible first | exact HB.out | apply below_alloc | apply pw_below_drewN | apply below_drew1 | refine below_set ?_ GE188.out) | exact HB.out))) : w.heap.size ≤ gb196)); have n6_ := Aside0.mk ((by rw [hg]; exact (below_size (by repeat (first | (with_reducible first | exact HB.out | apply below_alloc | apply pw_below_drewN | apply below_drew1 | refine below_set ?_ GE188.out) | exact HB.out))) : w.heap.size ≤ gb196)); have n7_ := Aside0.mk ((by rw [hg]; exact Nat.ne_of_lt (blk_lt (g := gb188) (o := .cells #[.int .i64 t181, .int .i64 t182, .int .i64 t183, .slice Ao59 t184.length co59] 24 (0, 0)) (by (with_reducible repeat (first | refine blk_drewN ?_ _ | refine blk_drew ?_ | refine blk_alloc ?_ _)); exact BK188.out)) : gb188 ≠ gb196)); have n8_ := Aside0.mk ((by rw [hg]; exact Nat.ne_of_gt (blk_lt (g := gb188) (o := .cells #[.int .i64 t181, .int .i64 t182, .int .i64 t183, .slice Ao59 t184.length co59] 24 (0, 0)) (by (with_reducible repeat (first | refine blk_drewN ?_ _ | refine blk_drew ?_ | refine blk_alloc ?_ _)); exact BK188.out)) : gb196 ≠ gb188)); clear HO186; clear HO194; clear BK188; clear HB; have HO186 := n0_; have HO194 := n1_; have BK188 := n2_; have HB := n3_; have BK196 := n4_; have GW196 := n5_; have GE196 := n6_; have NB188_196 := n7_; have NB196_188 := n8_; clear n0_ n1_ n2_ n3_ n4_ n5_ n6_ n7_ n8_; clear hb hbox hg; have hnb62 := NB196_188.out; have hnc62 := NB188_196.out; have hcz63_0 : w61.cell? ⟨gb196, 0, none⟩ = some (.int .i64 0) := (blk_cell BK196.out 0).trans rfl; have hcz63_1 : w61.cell? ⟨gb196, 1, none⟩ = some (.int .i64 0) := (blk_cell BK196.out 1).trans rfl; have hcz63_2 : w61.cell? ⟨gb196, 2, none⟩ = some (.int .i64 0) := (blk_cell BK196.out 2).trans rfl; have hcz63_3 : w61.cell? ⟨gb196, 3, none⟩ = some (.slice none 0 0) := (blk_cell BK196.out 3).trans rfl; have hfz63_0 := blk_frozen BK196.out 0; have hfz63_1 := blk_frozen BK196.out 1; have hfz63_2 := blk_frozen BK196.out 2; have hfz63_3 := blk_frozen BK196.out 3; obtain ⟨Ao64, co64, eo64⟩ := Kd.R_slice HO194.out; subst eo64; have hcz65_0 : w61.cell? ⟨gb188, 0, none⟩ = some (.int .i64 t181) := (blk_cell BK188.out 0).trans rfl; have hcz65_1 : w61.cell? ⟨gb188, 1, none⟩ = some (.int .i64 t182) := (blk_cell BK188.out 1).trans rfl; have hcz65_2 : w61.cell? ⟨gb188, 2, none⟩ = some (.int .i64 t183) := (blk_cell BK188.out 2).trans rfl; have hcz65_3 : w61.cell? ⟨gb188, 3, none⟩ = some (.slice Ao59 t184.length co59) := (blk_cell BK188.out 3).trans rfl; have hfz65_0 := blk_frozen BK188.out 0; have hfz65_1 := blk_frozen BK188.out 1; have hfz65_2 := blk_frozen BK188.out 2; have hfz65_3 := blk_frozen BK188.out 3) | (go_at_call 12; (refine (trivetref06_Same.calls k t181 t182 t183 _ _ t184 0 0 0 _ _ ([] : List Int) t200 _ ?side1 ?side2 ?side3 ?side4 A54.out).mono ?_); (case side1 => refine (Kd.R_reads' (e := 2) (base := w.heap.size) (ok := fun k_ => (True ∧ some k_ ≠ (.slice Ao64 t192.length co64 : Value).ownBlock)) (n := t184.length) (c := co59) ?_).2.2; exact (by (with_reducible repeat (first | apply Kd.R_alloc | apply Kd.R_drewN | apply Kd.R_drew)); exact (Kd.R_mono (Kd.R_far (p := ⟨gb196, 3, none⟩) (Kd.R_far (p := ⟨gb196, 2, none⟩) (Kd.R_far (p := ⟨gb196, 1, none⟩) (Kd.R_far (p := ⟨gb196, 0, none⟩) (Kd.R_types HO186.out BK196.out (by decide)) (fun _ hk => hk.2) (.int .i64 t189)) (fun _ hk => hk.2) (.int .i64 t190)) (fun _ hk => hk.2) (.int .i64 t191)) (fun _ hk => hk.2) (.slice Ao64 t192.length co64)) (fun _ h_ => h_.1)))); (case side2 => exact (Kd.R_reads' HO186.out).2.1); (case side3 => exact Kd.C_nil _ _); (case side4 => exact Nat.le_refl _); rintro e w66 ⟨rfl, hb⟩; have n0_ := Aside0.mk (Kd.R_below (by (with_reducible repeat (first | apply Kd.R_alloc | apply Kd.R_drewN | apply Kd.R_drew)); exact (Kd.R_mono (Kd.R_far (p := ⟨gb196, 3, none⟩) (Kd.R_far (p := ⟨gb196, 2, none⟩) (Kd.R_far (p := ⟨gb196, 1, none⟩) (Kd.R_far (p := ⟨gb196, 0, none⟩) (Kd.R_types HO186.out BK196.out (by decide)) (fun _ hk => hk.2) (.int .i64 t189)) (fun _ hk => hk.2) (.int .i64 t190)) (fun _ hk => hk.2) (.int .i64 t191)) (fun _ hk => hk.2) (.slice Ao64 t192.length co64)) (fun _ h_ => h_.1))) hb); have n1_ := Aside0.mk (Kd.R_below (by (with_reducible repeat (first | apply Kd.R_alloc | apply Kd.R_drewN | apply Kd.R_drew)); exact (Kd.R_mono (Kd.R_far (p := ⟨gb196, 3, none⟩) (Kd.R_far (p := ⟨gb196, 2, none⟩) (Kd.R_far (p := ⟨gb196, 1, none⟩) (Kd.R_far (p := ⟨gb196, 0, none⟩) (Kd.R_types HO194.out BK196.out (by decide)) (fun _ hk => hk.2) (.int .i64 t189)) (fun _ hk => hk.2) (.int .i64 t190)) (fun _ hk => hk.2) (.int .i64 t191)) (fun _ hk => hk.2) (.slice Ao64 t192.length co64)) (fun _ h_ => h_.1))) hb); have n2_ := Aside0.mk (blk_below (g := gb188) (o := .cells #[.int .i64 t181, .int .i64 t182, .int .i64 t183, .slice Ao59 t184.length co59] 24 (0, 0)) (by (with_reducible repeat (first | refine blk_drewN ?_ _ | refine blk_drew ?_ | refine blk_alloc ?_ _)); refine blk_far ?_ NB188_196.out _; (with_reducible repeat (first | refine blk_drewN ?_ _ | refine blk_drew ?_ | refine blk_alloc ?_ _)); refine blk_far ?_ NB188_196.out _; (with_reducible repeat (first | refine blk_drewN ?_ _ | refine blk_drew ?_ | refine blk_alloc ?_ _)); refine blk_far ?_ NB188_196.out _; (with_reducible repeat (first | refine blk_drewN ?_ _ | refine blk_drew ?_ | refine blk_alloc ?_ _)); refine blk_far ?_ NB188_196.out _; (with_reducible repeat (first | refine blk_drewN ?_ _ | refine blk_drew ?_ | refine blk_alloc ?_ _)); exact BK188.out) hb); have n3_ := Aside0.mk (blk_below (g := gb196) (o := .cells #[.int .i64 t189, .int .i64 t190, .int .i64 t191, .slice Ao64 t192.length co64] 24 (0, 0)) (by (with_reducible repeat (first | refine blk_drewN ?_ _ | refine blk_drew ?_ | refine blk_alloc ?_ _)); refine blk_put (cs := #[.int .i64 t189, .int .i64 t190, .int .i64 t191, .slice none 0 0]) ?_ 3 _ rfl; (with_reducible repeat (first | refine blk_drewN ?_ _ | refine blk_drew ?_ | refine blk_alloc ?_ _)); refine blk_put (cs := #[.int .i64 t189, .int .i64 t190, .int .i64 0, .slice none 0 0]) ?_ 2 _ rfl; (with_reducible repeat (first | refine blk_drewN ?_ _ | refine blk_drew ?_ | refine blk_alloc ?_ _)); refine blk_put (cs := #[.int .i64 t189, .int .i64 0, .int .i64 0, .slice none 0 0]) ?_ 1 _ rfl; (with_reducible repeat (first | refine blk_drewN ?_ _ | refine blk_drew ?_ | refine blk_alloc ?_ _)); refine blk_put (cs := #[.int .i64 0, .int .i64 0, .int .i64 0, .slice none 0 0]) ?_ 0 _ rfl; (with_reducible repeat (first | refine blk_drewN ?_ _ | refine blk_drew ?_ | refine blk_alloc ?_ _)); exact BK196.out) hb); have n4_ := Aside0.mk (below_step (by repeat (first | (with_reducible first | exact HB.out | apply below_alloc | apply pw_below_drewN | apply below_drew1 | refine below_set ?_ GE188.out | refine below_set ?_ GE196.out) | exact HB.out)) hb); clear HO186; clear HO194; clear BK188; clear BK196; clear HB; have HO186 := n0_; have HO194 := n1_; have BK188 := n2_; have BK196 := n3_; have HB := n4_; clear n0_ n1_ n2_ n3_ n4_; (try clear hb); (try clear hb2); (try clear hk); (try clear hi)))
            go_ret
            exact ⟨by first | rfl | (simp [errW_none, errW_some] <;> rfl) | (simp [*, errW_none, errW_some] <;> rfl), by repeat (first | (with_reducible first | exact HB.out | apply below_alloc | apply pw_below_drewN | apply below_drew1 | refine below_set ?_ GE188.out | refine below_set ?_ GE196.out) | exact HB.out)⟩
          · rw [if_neg c53] at H
            have c53b0 : (q199 == 2) = false := beq_eq_false_iff_ne.mpr c53
            have c53b1 : (q199 != 2) = true := bne_iff_ne.mpr c53
            obtain rfl := Option.some.inj H
            go_enter Try.func4, Try.ntmps4
            go_wp2_with (first | ((with_reducible refine gate_callee (f := 7) rfl ?_); refine goesL_ (some 8) rfl rfl Try.func7 (by kernel_rfl) rfl #[] rfl (by (try simp only [List.map_toArray, List.map_cons, List.map_nil]); first | done | rfl | (simp only [List.length_drop, List.length_take]; rfl)) ?_; (with_reducible refine (trivetlaw06_up.calls k  true _ A2.out).mono ?_); rintro e w67 ⟨rfl, hb⟩; refine ⟨_, rfl, ?_⟩; have n0_ := Aside0.mk (below_step (by repeat (first | (with_reducible first | exact HB.out | apply below_alloc | apply pw_below_drewN | apply below_drew1) | exact HB.out)) hb); clear HB; have HB := n0_; clear n0_; (try clear hb); (try clear hb2); (try clear hk); (try clear hi)) | ((with_reducible refine gate_callee (f := 10) rfl ?_); refine goesL_ (some 15) rfl rfl Try.func10 (by kernel_rfl) rfl #[.slice A0 l0.length c0] rfl (by (try simp only [List.map_toArray, List.map_cons, List.map_nil]); first | done | rfl | (simp only [List.length_drop, List.length_take]; rfl)) ?_; (with_reducible refine (pack_Get.calls _ _ l0 t181 t182 t183 t184 (some q199) _ ?side1 ?side2 A5.out).mono ?_); (case side1 => repeat (first | exact (Kd.C_below HR0.out HB.out) | (with_reducible refine Kd.C_alloc ?_ _) | (with_reducible refine Kd.C_drewN ?_ _) | (with_reducible refine Kd.C_drew ?_))); (case side2 => exact HC0.out); rintro e w68 ⟨v185, rfl, ho0, hb⟩; refine ⟨_, rfl, ?_⟩; have n0_ := Aside0.mk (Kd.R_lower ho0 (below_size (by repeat (first | (with_reducible first | exact HB.out | apply below_alloc | apply pw_below_drewN | apply below_drew1) | exact HB.out)))); have n1_ := Aside0.mk (below_step (by repeat (first | (with_reducible first | exact HB.out | apply below_alloc | apply pw_below_drewN | apply below_drew1) | exact HB.out)) hb); clear HB; have HO186 := n0_; have HB := n1_; clear n0_ n1_; (try clear hb); (try clear hb2); (try clear hk); (try clear hi); (try clear ho0); (try simp only [errW_none, errW_some])) | ((with_reducible refine gate_dst (N := 4) rfl ?_); refine box_event ?hg (N := 4) ?hd (cs := #[.int .i64 0, .int .i64 0, .int .i64 0, .slice none 0 0]) (t := 24) ?hr ?_; (case hd => rfl); (case hg => rfl); (case hr => first | (go_simp; done) | (go_simp; rfl)); intro gb188 hg w69 hbox hb; have n0_ := Aside0.mk (Kd.R_below (by (with_reducible repeat (first | apply Kd.R_alloc | apply Kd.R_drewN | apply Kd.R_drew)); exact HO186.out) hb); have n1_ := Aside0.mk (below_step (by repeat (first | (with_reducible first | exact HB.out | apply below_alloc | apply pw_below_drewN | apply below_drew1) | exact HB.out)) hb); have n2_ := Aside0.mk (hbox); have n3_ := Aside0.mk ((by rw [hg]; exact (below_size (by repeat (first | (with_reducible first | exact HB.out | apply below_alloc | apply pw_below_drewN | apply below_drew1) | exact HB.out))) : w.heap.size ≤ gb188)); have n4_ := Aside0.mk ((by rw [hg]; exact (below_size (by repeat (first | (with_reducible first | exact HB.out | apply below_alloc | apply pw_below_drewN | apply below_drew1) | exact HB.out))) : w.heap.size ≤ gb188)); clear HO186; clear HB; have HO186 := n0_; have HB := n1_; have BK188 := n2_; have GW188 := n3_; have GE188 := n4_; clear n0_ n1_ n2_ n3_ n4_; clear hb hbox hg; have hcz70_0 : w69.cell? ⟨gb188, 0, none⟩ = some (.int .i64 0) := (blk_cell BK188.out 0).trans rfl; have hcz70_1 : w69.cell? ⟨gb188, 1, none⟩ = some (.int .i64 0) := (blk_cell BK188.out 1).trans rfl; have hcz70_2 : w69.cell? ⟨gb188, 2, none⟩ = some (.int .i64 0) := (blk_cell BK188.out 2).trans rfl; have hcz70_3 : w69.cell? ⟨gb188, 3, none⟩ = some (.slice none 0 0) := (blk_cell BK188.out 3).trans rfl; have hfz70_0 := blk_frozen BK188.out 0; have hfz70_1 := blk_frozen BK188.out 1; have hfz70_2 := blk_frozen BK188.out 2; have hfz70_3 := blk_frozen BK188.out 3; obtain ⟨Ao71, co71, eo71⟩ := Kd.R_slice HO186.out; subst eo71) | ((with_reducible refine gate_callee (f := 11) rfl ?_); refine goesL_ (some 20) rfl rfl Try.func11 (by kernel_rfl) rfl #[.slice A0 l0.length c0] rfl (by (try simp only [List.map_toArray, List.map_cons, List.map_nil]); first | done | rfl | (simp only [List.length_drop, List.length_take]; rfl)) ?_; (with_reducible refine (trivetref06_Get.calls k _ _ l0 t189 t190 t191 t192 false _ ?side1 ?side2 A6.out).mono ?_); (case side1 => exact Kd.C_below HR0.out (by repeat (first | (with_reducible first | exact HB.out | apply below_alloc | apply pw_below_drewN | apply below_drew1 | refine below_set ?_ GE188.out) | exact HB.out))); (case side2 => exact HC0.out); rintro e w72 ⟨v193, rfl, ho0, hb⟩; refine ⟨_, rfl, ?_⟩; have n0_ := Aside0.mk (Kd.R_elder' (by (with_reducible repeat (first | apply Kd.R_alloc | apply Kd.R_drewN | apply Kd.R_drew)); exact (Kd.R_mono (Kd.R_far (p := ⟨gb188, 3, none⟩) (Kd.R_far (p := ⟨gb188, 2, none⟩) (Kd.R_far (p := ⟨gb188, 1, none⟩) (Kd.R_far (p := ⟨gb188, 0, none⟩) (Kd.R_types HO186.out BK188.out (by decide)) (fun _ hk => hk.2) (.int .i64 t181)) (fun _ hk => hk.2) (.int .i64 t182)) (fun _ hk => hk.2) (.int .i64 t183)) (fun _ hk => hk.2) (.slice Ao71 t184.length co71)) (fun _ h_ => h_.1))) (Kd.R_base ho0) hb); have n1_ := Aside0.mk (Kd.R_lower (Kd.R_new' ho0 (Kd.R_lt (by (with_reducible repeat (first | apply Kd.R_alloc | apply Kd.R_drewN | apply Kd.R_drew)); exact (Kd.R_mono (Kd.R_far (p := ⟨gb188, 3, none⟩) (Kd.R_far (p := ⟨gb188, 2, none⟩) (Kd.R_far (p := ⟨gb188, 1, none⟩) (Kd.R_far (p := ⟨gb188, 0, none⟩) (Kd.R_types HO186.out BK188.out (by decide)) (fun _ hk => hk.2) (.int .i64 t181)) (fun _ hk => hk.2) (.int .i64 t182)) (fun _ hk => hk.2) (.int .i64 t183)) (fun _ hk => hk.2) (.slice Ao71 t184.length co71)) (fun _ h_ => h_.1))))) (below_size (by repeat (first | (with_reducible first | exact HB.out | apply below_alloc | apply pw_below_drewN | apply below_drew1 | refine below_set ?_ GE188.out) | exact HB.out)))); have n2_ := Aside0.mk (blk_below (g := gb188) (o := .cells #[.int .i64 t181, .int .i64 t182, .int .i64 t183, .slice Ao71 t184.length co71] 24 (0, 0)) (by (with_reducible repeat (first | refine blk_drewN ?_ _ | refine blk_drew ?_ | refine blk_alloc ?_ _)); refine blk_put (cs := #[.int .i64 t181, .int .i64 t182, .int .i64 t183, .slice none 0 0]) ?_ 3 _ rfl; (with_reducible repeat (first | refine blk_drewN ?_ _ | refine blk_drew ?_ | refine blk_alloc ?_ _)); refine blk_put (cs := #[.int .i64 t181, .int .i64 t182, .int .i64 0, .slice none 0 0]) ?_ 2 _ rfl; (with_reducible repeat (first | refine blk_drewN ?_ _ | refine blk_drew ?_ | refine blk_alloc ?_ _)); refine blk_put (cs := #[.int .i64 t181, .int .i64 0, .int .i64 0, .slice none 0 0]) ?_ 1 _ rfl; (with_reducible repeat (first | refine blk_drewN ?_ _ | refine blk_drew ?_ | refine blk_alloc ?_ _)); refine blk_put (cs := #[.int .i64 0, .int .i64 0, .int .i64 0, .slice none 0 0]) ?_ 0 _ rfl; (with_reducible repeat (first | refine blk_drewN ?_ _ | refine blk_drew ?_ | refine blk_alloc ?_ _)); exact BK188.out) hb); have n3_ := Aside0.mk (below_step (by repeat (first | (with_reducible first | exact HB.out | apply below_alloc | apply pw_below_drewN | apply below_drew1 | refine below_set ?_ GE188.out) | exact HB.out)) hb); clear HO186; clear BK188; clear HB; have HO186 := n0_; have HO194 := n1_; have BK188 := n2_; have HB := n3_; clear n0_ n1_ n2_ n3_; (try clear hb); (try clear hb2); (try clear hk); (try clear hi); (try clear ho0)) | ((with_reducible refine gate_dst (N := 6) rfl ?_); refine box_event ?hg (N := 6) ?hd (cs := #[.int .i64 0, .int .i64 0, .int .i64 0, .slice none 0 0]) (t := 24) ?hr ?_; (case hd => rfl); (case hg => rfl); (case hr => first | (go_simp; done) | (go_simp; rfl)); intro gb196 hg w73 hbox hb; have n0_ := Aside0.mk (Kd.R_below (by (with_reducible repeat (first | apply Kd.R_alloc | apply Kd.R_drewN | apply Kd.R_drew)); exact HO186.out) hb); have n1_ := Aside0.mk (Kd.R_below (by (with_reducible repeat (first | apply Kd.R_alloc | apply Kd.R_drewN | apply Kd.R_drew)); exact HO194.out) hb); have n2_ := Aside0.mk (blk_below (g := gb188) (o := .cells #[.int .i64 t181, .int .i64 t182, .int .i64 t183, .slice Ao71 t184.length co71] 24 (0, 0)) (by (with_reducible repeat (first | refine blk_drewN ?_ _ | refine blk_drew ?_ | refine blk_alloc ?_ _)); exact BK188.out) hb); have n3_ := Aside0.mk (below_step (by repeat (first | (with_reducible first | exact HB.out | apply below_alloc | apply pw_below_drewN | apply below_drew1 | refine below_set ?_ GE188.out) | exact HB.out)) hb); have n4_ := Aside0.mk (hbox); have n5_ := Aside0.mk ((by rw [hg]; exact (below_size (by repeat (first | (with_reducible first | exact HB.out | apply below_alloc | apply pw_below_drewN | apply below_drew1 | refine below_set ?_ GE188.out) | exact HB.out))) : w.heap.size ≤ gb196)); have n6_ := Aside0.mk ((by rw [hg]; exact (below_size (by repeat (first | (with_reducible first | exact HB.out | apply below_alloc | apply pw_below_drewN | apply below_drew1 | refine below_set ?_ GE188.out) | exact HB.out))) : w.heap.size ≤ gb196)); have n7_ := Aside0.mk ((by rw [hg]; exact Nat.ne_of_lt (blk_lt (g := gb188) (o := .cells #[.int .i64 t181, .int .i64 t182, .int .i64 t183, .slice Ao71 t184.length co71] 24 (0, 0)) (by (with_reducible repeat (first | refine blk_drewN ?_ _ | refine blk_drew ?_ | refine blk_alloc ?_ _)); exact BK188.out)) : gb188 ≠ gb196)); have n8_ := Aside0.mk ((by rw [hg]; exact Nat.ne_of_gt (blk_lt (g := gb188) (o := .cells #[.int .i64 t181, .int .i64 t182, .int .i64 t183, .slice Ao71 t184.length co71] 24 (0, 0)) (by (with_reducible repeat (first | refine blk_drewN ?_ _ | refine blk_drew ?_ | refine blk_alloc ?_ _)); exact BK188.out)) : gb196 ≠ gb188)); clear HO186; clear HO194; clear BK188; clear HB; have HO186 := n0_; have HO194 := n1_; have BK188 := n2_; have HB := n3_; have BK196 := n4_; have GW196 := n5_; have GE196 := n6_; have NB188_196 := n7_; have NB196_188 := n8_; clear n0_ n1_ n2_ n3_ n4_ n5_ n6_ n7_ n8_; clear hb hbox hg; have hnb74 := NB196_188.out; have hnc74 := NB188_196.out; have hcz75_0 : w73.cell? ⟨gb196, 0, none⟩ = some (.int .i64 0) := (blk_cell BK196.out 0).trans rfl; have hcz75_1 : w73.cell? ⟨gb196, 1, none⟩ = some (.int .i64 0) := (blk_cell BK196.out 1).trans rfl; have hcz75_2 : w73.cell? ⟨gb196, 2, none⟩ = some (.int .i64 0) := (blk_cell BK196.out 2).trans rfl; have hcz75_3 : w73.cell? ⟨gb196, 3, none⟩ = some (.slice none 0 0) := (blk_cell BK196.out 3).trans rfl; have hfz75_0 := blk_frozen BK196.out 0; have hfz75_1 := blk_frozen BK196.out 1; have hfz75_2 := blk_frozen BK196.out 2; have hfz75_3 := blk_frozen BK196.out 3; obtain ⟨Ao76, co76, eo76⟩ := Kd.R_slice HO194.out; subst eo76))
            go_ret
            exact ⟨by first | rfl | (simp [errW_none, errW_some] <;> rfl) | (simp [*, errW_none, errW_some] <;> rfl), by repeat (first | (with_reducible first | exact HB.out | apply below_alloc | apply pw_below_drewN | apply below_drew1 | refine below_set ?_ GE188.out | refine below_set ?_ GE196.out) | exact HB.out)⟩
      · replace c42 := Bool.eq_false_iff.mpr c42
        subst c42
        have H1 : (some false) = some r := by rw [if_neg (show ¬ (false = true) by decide)] at H; exact H
        clear H
        have H := H1
        clear H1
        obtain rfl := Option.some.inj H
        go_enter Try.func4, Try.ntmps4
        go_wp2_with (first | ((with_reducible refine gate_callee (f := 7) rfl ?_); refine goesL_ (some 8) rfl rfl Try.func7 (by kernel_rfl) rfl #[] rfl (by (try simp only [List.map_toArray, List.map_cons, List.map_nil]); first | done | rfl | (simp only [List.length_drop, List.length_take]; rfl)) ?_; (with_reducible refine (trivetlaw06_up.calls k  false _ A2.out).mono ?_); rintro e w77 ⟨rfl, hb⟩; refine ⟨_, rfl, ?_⟩; have n0_ := Aside0.mk (below_step (by repeat (first | (with_reducible first | exact HB.out | apply below_alloc | apply pw_below_drewN | apply below_drew1) | exact HB.out)) hb); clear HB; have HB := n0_; clear n0_; (try clear hb); (try clear hb2); (try clear hk); (try clear hi)) | ((with_reducible refine gate_callee (f := 10) rfl ?_); refine goesL_ (some 15) rfl rfl Try.func10 (by kernel_rfl) rfl #[.slice A0 l0.length c0] rfl (by (try simp only [List.map_toArray, List.map_cons, List.map_nil]); first | done | rfl | (simp only [List.length_drop, List.length_take]; rfl)) ?_; (with_reducible refine (pack_Get.calls _ _ l0 t181 t182 t183 t184 t187 _ ?side1 ?side2 A5.out).mono ?_); (case side1 => repeat (first | exact (Kd.C_below HR0.out HB.out) | (with_reducible refine Kd.C_alloc ?_ _) | (with_reducible refine Kd.C_drewN ?_ _) | (with_reducible refine Kd.C_drew ?_))); (case side2 => exact HC0.out); rintro e w78 ⟨v185, rfl, ho0, hb⟩; refine ⟨_, rfl, ?_⟩; have n0_ := Aside0.mk (Kd.R_lower ho0 (below_size (by repeat (first | (with_reducible first | exact HB.out | apply below_alloc | apply pw_below_drewN | apply below_drew1) | exact HB.out)))); have n1_ := Aside0.mk (below_step (by repeat (first | (with_reducible first | exact HB.out | apply below_alloc | apply pw_below_drewN | apply below_drew1) | exact HB.out)) hb); clear HB; have HO186 := n0_; have HB := n1_; clear n0_ n1_; (try clear hb); (try clear hb2); (try clear hk); (try clear hi); (try clear ho0); (try simp only [errW_none, errW_some])) | ((with_reducible refine gate_dst (N := 4) rfl ?_); refine box_event ?hg (N := 4) ?hd (cs := #[.int .i64 0, .int .i64 0, .int .i64 0, .slice none 0 0]) (t := 24) ?hr ?_; (case hd => rfl); (case hg => rfl); (case hr => first | (go_simp; done) | (go_simp; rfl)); intro gb188 hg w79 hbox hb; have n0_ := Aside0.mk (Kd.R_below (by (with_reducible repeat (first | apply Kd.R_alloc | apply Kd.R_drewN | apply Kd.R_drew)); exact HO186.out) hb); have n1_ := Aside0.mk (below_step (by repeat (first | (with_reducible first | exact HB.out | apply below_alloc | apply pw_below_drewN | apply below_drew1) | exact HB.out)) hb); have n2_ := Aside0.mk (hbox); have n3_ := Aside0.mk ((by rw [hg]; exact (below_size (by repeat (first | (with_reducible first | exact HB.out | apply below_alloc | apply pw_below_drewN | apply below_drew1) | exact HB.out))) : w.heap.size ≤ gb188)); have n4_ := Aside0.mk ((by rw [hg]; exact (below_size (by repeat (first | (with_reducible first | exact HB.out | apply below_alloc | apply pw_below_drewN | apply below_drew1) | exact HB.out))) : w.heap.size ≤ gb188)); clear HO186; clear HB; have HO186 := n0_; have HB := n1_; have BK188 := n2_; have GW188 := n3_; have GE188 := n4_; clear n0_ n1_ n2_ n3_ n4_; clear hb hbox hg; have hcz80_0 : w79.cell? ⟨gb188, 0, none⟩ = some (.int .i64 0) := (blk_cell BK188.out 0).trans rfl; have hcz80_1 : w79.cell? ⟨gb188, 1, none⟩ = some (.int .i64 0) := (blk_cell BK188.out 1).trans rfl; have hcz80_2 : w79.cell? ⟨gb188, 2, none⟩ = some (.int .i64 0) := (blk_cell BK188.out 2).trans rfl; have hcz80_3 : w79.cell? ⟨gb188, 3, none⟩ = some (.slice none 0 0) := (blk_cell BK188.out 3).trans rfl; have hfz80_0 := blk_frozen BK188.out 0; have hfz80_1 := blk_frozen BK188.out 1; have hfz80_2 := blk_frozen BK188.out 2; have hfz80_3 := blk_frozen BK188.out 3; obtain ⟨Ao81, co81, eo81⟩ := Kd.R_slice HO186.out; subst eo81) | ((with_reducible refine gate_callee (f := 11) rfl ?_); refine goesL_ (some 20) rfl rfl Try.func11 (by kernel_rfl) rfl #[.slice A0 l0.length c0] rfl (by (try simp only [List.map_toArray, List.map_cons, List.map_nil]); first | done | rfl | (simp only [List.length_drop, List.length_take]; rfl)) ?_; (with_reducible refine (trivetref06_Get.calls k _ _ l0 t189 t190 t191 t192 false _ ?side1 ?side2 A6.out).mono ?_); (case side1 => exact Kd.C_below HR0.out (by repeat (first | (with_reducible first | exact HB.out | apply below_alloc | apply pw_below_drewN | apply below_drew1 | refine below_set ?_ GE188.out) | exact HB.out))); (case side2 => exact HC0.out); rintro e w82 ⟨v193, rfl, ho0, hb⟩; refine ⟨_, rfl, ?_⟩; have n0_ := Aside0.mk (Kd.R_elder' (by (with_reducible repeat (first | apply Kd.R_alloc | apply Kd.R_drewN | apply Kd.R_drew)); exact (Kd.R_mono (Kd.R_far (p := ⟨gb188, 3, none⟩) (Kd.R_far (p := ⟨gb188, 2, none⟩) (Kd.R_far (p := ⟨gb188, 1, none⟩) (Kd.R_far (p := ⟨gb188, 0, none⟩) (Kd.R_types HO186.out BK188.out (by decide)) (fun _ hk => hk.2) (.int .i64 t181)) (fun _ hk => hk.2) (.int .i64 t182)) (fun _ hk => hk.2) (.int .i64 t183)) (fun _ hk => hk.2) (.slice Ao81 t184.length co81)) (fun _ h_ => h_.1))) (Kd.R_base ho0) hb); have n1_ := Aside0.mk (Kd.R_lower (Kd.R_new' ho0 (Kd.R_lt (by (with_reducible repeat (first | apply Kd.R_alloc | apply Kd.R_drewN | apply Kd.R_drew)); exact (Kd.R_mono (Kd.R_far (p := ⟨gb188, 3, none⟩) (Kd.R_far (p := ⟨gb188, 2, none⟩) (Kd.R_far (p := ⟨gb188, 1, none⟩) (Kd.R_far (p := ⟨gb188, 0, none⟩) (Kd.R_types HO186.out BK188.out (by decide)) (fun _ hk => hk.2) (.int .i64 t181)) (fun _ hk => hk.2) (.int .i64 t182)) (fun _ hk => hk.2) (.int .i64 t183)) (fun _ hk => hk.2) (.slice Ao81 t184.length co81)) (fun _ h_ => h_.1))))) (below_size (by repeat (first | (with_reducible first | exact HB.out | apply below_alloc | apply pw_below_drewN | apply below_drew1 | refine below_set ?_ GE188.out) | exact HB.out)))); have n2_ := Aside0.mk (blk_below (g := gb188) (o := .cells #[.int .i64 t181, .int .i64 t182, .int .i64 t183, .slice Ao81 t184.length co81] 24 (0, 0)) (by (with_reducible repeat (first | refine blk_drewN ?_ _ | refine blk_drew ?_ | refine blk_alloc ?_ _)); refine blk_put (cs := #[.int .i64 t181, .int .i64 t182, .int .i64 t183, .slice none 0 0]) ?_ 3 _ rfl; (with_reducible repeat (first | refine blk_drewN ?_ _ | refine blk_drew ?_ | refine blk_alloc ?_ _)); refine blk_put (cs := #[.int .i64 t181, .int .i64 t182, .int .i64 0, .slice none 0 0]) ?_ 2 _ rfl; (with_reducible repeat (first | refine blk_drewN ?_ _ | refine blk_drew ?_ | refine blk_alloc ?_ _)); refine blk_put (cs := #[.int .i64 t181, .int .i64 0, .int .i64 0, .slice none 0 0]) ?_ 1 _ rfl; (with_reducible repeat (first | refine blk_drewN ?_ _ | refine blk_drew ?_ | refine blk_alloc ?_ _)); refine blk_put (cs := #[.int .i64 0, .int .i64 0, .int .i64 0, .slice none 0 0]) ?_ 0 _ rfl; (with_reducible repeat (first | refine blk_drewN ?_ _ | refine blk_drew ?_ | refine blk_alloc ?_ _)); exact BK188.out) hb); have n3_ := Aside0.mk (below_step (by repeat (first | (with_reducible first | exact HB.out | apply below_alloc | apply pw_below_drewN | apply below_drew1 | refine below_set ?_ GE188.out) | exact HB.out)) hb); clear HO186; clear BK188; clear HB; have HO186 := n0_; have HO194 := n1_; have BK188 := n2_; have HB := n3_; clear n0_ n1_ n2_ n3_; (try clear hb); (try clear hb2); (try clear hk); (try clear hi); (try clear ho0)) | ((with_reducible refine gate_dst (N := 6) rfl ?_); refine box_event ?hg (N := 6) ?hd (cs := #[.int .i64 0, .int .i64 0, .int .i64 0, .slice none 0 0]) (t := 24) ?hr ?_; (case hd => rfl); (case hg => rfl); (case hr => first | (go_simp; done) | (go_simp; rfl)); intro gb196 hg w83 hbox hb; have n0_ := Aside0.mk (Kd.R_below (by (with_reducible repeat (first | apply Kd.R_alloc | apply Kd.R_drewN | apply Kd.R_drew)); exact HO186.out) hb); have n1_ := Aside0.mk (Kd.R_below (by (with_reducible repeat (first | apply Kd.R_alloc | apply Kd.R_drewN | apply Kd.R_drew)); exact HO194.out) hb); have n2_ := Aside0.mk (blk_below (g := gb188) (o := .cells #[.int .i64 t181, .int .i64 t182, .int .i64 t183, .slice Ao81 t184.length co81] 24 (0, 0)) (by (with_reducible repeat (first | refine blk_drewN ?_ _ | refine blk_drew ?_ | refine blk_alloc ?_ _)); exact BK188.out) hb); have n3_ := Aside0.mk (below_step (by repeat (first | (with_reducible first | exact HB.out | apply below_alloc | apply pw_below_drewN | apply below_drew1 | refine below_set ?_ GE188.out) | exact HB.out)) hb); have n4_ := Aside0.mk (hbox); have n5_ := Aside0.mk ((by rw [hg]; exact (below_size (by repeat (first | (with_reducible first | exact HB.out | apply below_alloc | apply pw_below_drewN | apply below_drew1 | refine below_set ?_ GE188.out) | exact HB.out))) : w.heap.size ≤ gb196)); have n6_ := Aside0.mk ((by rw [hg]; exact (below_size (by repeat (first | (with_reducible first | exact HB.out | apply below_alloc | apply pw_below_drewN | apply below_drew1 | refine below_set ?_ GE188.out) | exact HB.out))) : w.heap.size ≤ gb196)); have n7_ := Aside0.mk ((by rw [hg]; exact Nat.ne_of_lt (blk_lt (g := gb188) (o := .cells #[.int .i64 t181, .int .i64 t182, .int .i64 t183, .slice Ao81 t184.length co81] 24 (0, 0)) (by (with_reducible repeat (first | refine blk_drewN ?_ _ | refine blk_drew ?_ | refine blk_alloc ?_ _)); exact BK188.out)) : gb188 ≠ gb196)); have n8_ := Aside0.mk ((by rw [hg]; exact Nat.ne_of_gt (blk_lt (g := gb188) (o := .cells #[.int .i64 t181, .int .i64 t182, .int .i64 t183, .slice Ao81 t184.length co81] 24 (0, 0)) (by (with_reducible repeat (first | refine blk_drewN ?_ _ | refine blk_drew ?_ | refine blk_alloc ?_ _)); exact BK188.out)) : gb196 ≠ gb188)); clear HO186; clear HO194; clear BK188; clear HB; have HO186 := n0_; have HO194 := n1_; have BK188 := n2_; have HB := n3_; have BK196 := n4_; have GW196 := n5_; have GE196 := n6_; have NB188_196 := n7_; have NB196_188 := n8_; clear n0_ n1_ n2_ n3_ n4_ n5_ n6_ n7_ n8_; clear hb hbox hg; have hnb84 := NB196_188.out; have hnc84 := NB188_196.out; have hcz85_0 : w83.cell? ⟨gb196, 0, none⟩ = some (.int .i64 0) := (blk_cell BK196.out 0).trans rfl; have hcz85_1 : w83.cell? ⟨gb196, 1, none⟩ = some (.int .i64 0) := (blk_cell BK196.out 1).trans rfl; have hcz85_2 : w83.cell? ⟨gb196, 2, none⟩ = some (.int .i64 0) := (blk_cell BK196.out 2).trans rfl; have hcz85_3 : w83.cell? ⟨gb196, 3, none⟩ = some (.slice none 0 0) := (blk_cell BK196.out 3).trans rfl; have hfz85_0 := blk_frozen BK196.out 0; have hfz85_1 := blk_frozen BK196.out 1; have hfz85_2 := blk_frozen BK196.out 2; have hfz85_3 := blk_frozen BK196.out 3; obtain ⟨Ao86, co86, eo86⟩ := Kd.R_slice HO194.out; subst eo86))
        go_ret
        exact ⟨by first | rfl | (simp [errW_none, errW_some] <;> rfl) | (simp [*, errW_none, errW_some] <;> rfl), by repeat (first | (with_reducible first | exact HB.out | apply below_alloc | apply pw_below_drewN | apply below_drew1 | refine below_set ?_ GE188.out | refine below_set ?_ GE196.out) | exact HB.out)⟩

/-- THE ONE PURE STATEMENT of trivetlaw06_PackGets: yours. -/
def trivetlaw06_PackGets.Pure : Prop := ∀ (l0 : List Int), l0.length ≤ maxLen → l0.length * 1 ≤ 140737488351232 → (∀ x ∈ l0, (Lit.int .u8 x).wf = true) → ∃ k, trivetlaw06_PackGets.f k l0 = some true
theorem trivetlaw06_PackGets.walk (P : trivetlaw06_PackGets.Pure) (a0 : Option Addr) (len0 cap0 : Nat) (z0 : List Int) (w : World) (w0 : (a0 = none ∧ len0 = 0 ∧ cap0 = 0 ∧ z0 = []) ∨ ∃ x, a0 = some x ∧ len0 ≤ cap0 ∧ cap0 ≤ maxLen ∧ z0.length = cap0 ∧ (∀ i, i < z0.length → w.cell? (x.add i) = some (.int .u8 (z0.getD i 0))) ∧ ∀ n ∈ z0, (Lit.int .u8 n).wf = true) (y0 : len0 * 1 ≤ 140737488351232) :
    Calls Try.prog 4 #[.slice a0 len0 cap0] w fun e w' => e = .returned (.bool true) ∧ Below w.heap.size w w' := by
  obtain ⟨l0, rfl, hr0, hm0, hw0, hc0⟩ := ReadsInt.ofRowC w0
  obtain ⟨k, h⟩ := P l0 hm0 y0 hw0
  refine (trivetlaw06_PackGets.calls k _ _ l0 true w (Kd.C_of_reads (d := (0 : Int)) (h1 := fun _ => rfl) hr0) hc0 h).mono ?_
  rintro e w' ⟨rfl, hd⟩
  exact ⟨rfl, hd⟩

end Go.Proofs.Ytpacenloagepfaa.PPackGets
