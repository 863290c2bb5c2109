import Derived.Test.YtcdhnglefldalaaDoorCSpec
import Derived.Test.YtcdhnglefldalaaDoorCChartOrder
namespace Go.Proofs.YtcdhnglefldalaaDoor.PChartOrder
open Go.RowKit Go.Proofs.YtcdhnglefldalaaDoorW.PrintWords Go.Proofs.YtcdhnglefldalaaDoorW.PrintLast Go.Proofs.YtcdhnglefldalaaDoorW.PrintMore
set_option linter.unusedVariables false
set_option linter.unusedSimpArgs false

attribute [local go_sem high] cerEqI cerEqL cerEqR cerNeI cerNeL cerNeR
def ck_st (k o k2 o2 : Int) (w W : World) : Prop :=
  Below w.heap.size w W ∧ W.heap[w.heap.size]? = some (.cells #[.int .i64 k, .int .i64 o] 24 (0, 0)) ∧ W.heap[w.heap.size + 1]? = some (.cells #[.int .i64 k2, .int .i64 o2] 24 (0, 0))
theorem ck_go {k o k2 o2 : Int} {w W W2 : World} (h : ck_st k o k2 o2 w W) (hb : Below W.heap.size W W2) : ck_st k o k2 o2 w W2 := ⟨below_step h.1 hb, blk_below h.2.1 hb, blk_below h.2.2 hb⟩
theorem ck_cells {k o k2 o2 : Int} {w W : World} (h : ck_st k o k2 o2 w W) : W.cell? ⟨w.heap.size, 0, none⟩ = some (.int .i64 k) ∧ W.cell? ⟨w.heap.size, 1, none⟩ = some (.int .i64 o) ∧ W.cell? ⟨w.heap.size + 1, 0, none⟩ = some (.int .i64 k2) ∧ W.cell? ⟨w.heap.size + 1, 1, none⟩ = some (.int .i64 o2) :=
  ⟨(blk_cell h.2.1 0).trans rfl, (blk_cell h.2.1 1).trans rfl, (blk_cell h.2.2 0).trans rfl, (blk_cell h.2.2 1).trans rfl⟩
theorem ck_call {k o k2 o2 : Int} {w W W1 : World} {f : FuncId} {xs : Array Value} {v : Value} (h : ck_st k o k2 o2 w W) (hw : Below W.heap.size W W1) (hT : cl_tab w) (hc : cl_tab W1 → Calls Tryd.prog f xs W1 fun e w' => e = .returned v ∧ Below W1.heap.size W1 w') : Calls Tryd.prog f xs W1 fun e w' => e = .returned v ∧ ck_st k o k2 o2 w w' :=
  (hc (cl_tab_below hT (ck_go h hw).1)).mono (by
    rintro e w' ⟨rfl, hb⟩
    exact ⟨rfl, ck_go (ck_go h hw) hb⟩)
theorem ck_init (k o k2 o2 : Int) (w : World) : ck_st k o k2 o2 w ((w.alloc (.cells #[.int .i64 k, .int .i64 o] 24)).alloc (.cells #[.int .i64 k2, .int .i64 o2] 24)) := by
  refine ⟨below_alloc (below_alloc (Below.refl _ _) _) _, blk_alloc (blk_new w _) _, ?_⟩
  have := blk_new (w.alloc (.cells #[.int .i64 k, .int .i64 o] 24)) (.cells #[.int .i64 k2, .int .i64 o2] 24)
  simpa using this
theorem ck_less {k o k2 o2 : Int} {v : Bool} (hv : co_less k o k2 o2 = v) (W : World) : Calls Tryd.prog 11 #[.agg #[.int .i64 k, .int .i64 o], .agg #[.int .i64 k2, .int .i64 o2]] W fun e w' => e = .returned (.bool v) ∧ Below W.heap.size W w' :=
  (co_calls k o k2 o2 W).mono (by
    rintro e w' ⟨rfl, hb⟩
    exact ⟨by rw [hv], hb⟩)
set_option maxHeartbeats 4000000 in
set_option maxRecDepth 100000 in
theorem ck_ff (k o k2 o2 : Int) (s n : ByteArray) (w : World) (hT : cl_tab w) (hs : s.size ≤ 1000) (NA : Aside0 (∀ W, cl_tab W → Calls Tryd.prog 10 #[.agg #[.int .i64 k, .int .i64 o]] W fun e w' => e = .returned (.tuple #[.string n, .iface 31 (.int .i64 1)]) ∧ Below W.heap.size W w')) (PS : Aside0 (∀ W, cl_tab W → Calls Tryd.prog 8 #[.string s] W fun e w' => e = .returned (.tuple #[.agg #[.int .i64 0, .int .i64 0], .iface 31 (.int .i64 2)]) ∧ Below W.heap.size W w')) : Calls Tryd.prog 4 #[.agg #[.int .i64 k, .int .i64 o], .agg #[.int .i64 k2, .int .i64 o2], .string s] w fun e w' => e = .returned (.bool true) ∧ Below w.heap.size w w' := by
  have U := Aside0.mk (fun W => trivetlaw09_up.calls true W rfl)
  have hT := Aside0.mk hT
  obtain ⟨x, y, z1, z2, hx, hy, hz1, hz2, hc⟩ : ∃ x y z1 z2, co_less k o k2 o2 = x ∧ co_less k2 o2 k o = y ∧ (k == k2) = z1 ∧ (o == o2) = z2 ∧ ((x = true ∧ y = false ∧ z1 = true ∧ z2 = false) ∨ (x = true ∧ y = false ∧ z1 = false ∧ z2 = z2) ∨ (x = false ∧ y = true ∧ z1 = true ∧ z2 = false) ∨ (x = false ∧ y = true ∧ z1 = false ∧ z2 = z2) ∨ (x = false ∧ y = false ∧ z1 = true ∧ z2 = true)) := by
    refine ⟨_, _, _, _, rfl, rfl, rfl, rfl, ?_⟩
    simp only [co_less, decide_eq_true_eq, decide_eq_false_iff_not, beq_iff_eq, beq_eq_false_iff_ne, Bool.or_eq_true, Bool.and_eq_true, Bool.or_eq_false_iff, Bool.and_eq_false_iff, ne_eq, and_true]
    omega
  have P12 := Aside0.mk hx
  have P21 := Aside0.mk hy
  clear hx hy
  have z : (1000 < s.size) = False := eq_false (by omega)
  have zb : decide ((1000 : Int) < ↑s.size) = false := decide_eq_false (by omega)
  have kk : (k == k) = true := beq_self_eq_true _
  have oo : (o == o) = true := beq_self_eq_true _
  clear hs
  rcases hc with ⟨rfl, rfl, rfl, rfl⟩ | ⟨rfl, rfl, rfl, -⟩ | ⟨rfl, rfl, rfl, rfl⟩ | ⟨rfl, rfl, rfl, -⟩ | ⟨rfl, rfl, rfl, rfl⟩
  all_goals
    go_enter Tryd.func4, Tryd.ntmps4
    go_wp2_with fail
    refine (U.out _).mono ?_
    rintro e w1 ⟨rfl, hb1⟩
    have HS := Aside0.mk (ck_go (ck_init k o k2 o2 w) hb1)
    clear hb1
    obtain ⟨a0, a1, a2, a3⟩ := ck_cells HS.out
    go_wp2_with fail
    refine (ck_call HS.out (by first | exact Below.refl _ _ | exact below_alloc (Below.refl _ _) _ | exact below_alloc (below_alloc (Below.refl _ _) _) _) hT.out (fun q => NA.out _ q)).mono ?_; rintro e w2 ⟨rfl, hs⟩; clear a0 a1 a2 a3; try clear a4 a5
    clear HS; have HS := Aside0.mk hs; clear hs; obtain ⟨a0, a1, a2, a3⟩ := ck_cells HS.out
    go_wp2_with fail
    refine (ck_call HS.out (by first | exact Below.refl _ _ | exact below_alloc (Below.refl _ _) _ | exact below_alloc (below_alloc (Below.refl _ _) _) _) hT.out (fun q => PS.out _ q)).mono ?_; rintro e w2 ⟨rfl, hs⟩; clear a0 a1 a2 a3; try clear a4 a5
    clear HS; have HS := Aside0.mk hs; clear hs; obtain ⟨a0, a1, a2, a3⟩ := ck_cells HS.out
    go_wp2_with fail
    have HA := fun ob => ck_go HS.out (below_alloc (Below.refl _ _) ob)
    have b0 := fun ob => gb_cell (blk_lt (HA ob).2.1) (ck_cells (HA ob)).1
    have b1 := fun ob => gb_cell (blk_lt (HA ob).2.1) (ck_cells (HA ob)).2.1
    have b2 := fun ob => gb_cell (blk_lt (HA ob).2.2) (ck_cells (HA ob)).2.2.1
    have b3 := fun ob => gb_cell (blk_lt (HA ob).2.2) (ck_cells (HA ob)).2.2.2
    clear HA
    clear a0 a1 a2 a3
    have CL := Aside0.mk (fun W : World => ck_less P12.out W)
    have CM := Aside0.mk (fun W : World => ck_less P21.out W)
    refine gb_region (by kernel_rfl) (by kernel_rfl) ?_
    repeat (go_big_quiet_step (first | with_reducible exact gb_calls (CL.out _) | with_reducible exact gb_calls (CM.out _)))
    refine wpQuiet_nil ?_
    intro _ hw'
    obtain ⟨gq, hw''⟩ := hw'
    subst hw''
    go_wp2
    go_ret
    exact ⟨rfl, below_step (ck_go HS.out (below_alloc (Below.refl _ _) _)).1 gq.b⟩
set_option maxHeartbeats 4000000 in
set_option maxRecDepth 100000 in
theorem ck_ft (k o k2 o2 k3 o3 : Int) (s n : ByteArray) (w : World) (hT : cl_tab w) (hs : s.size ≤ 1000) (NA : Aside0 (∀ W, cl_tab W → Calls Tryd.prog 10 #[.agg #[.int .i64 k, .int .i64 o]] W fun e w' => e = .returned (.tuple #[.string n, .iface 31 (.int .i64 1)]) ∧ Below W.heap.size W w')) (PS : Aside0 (∀ W, cl_tab W → Calls Tryd.prog 8 #[.string s] W fun e w' => e = .returned (.tuple #[.agg #[.int .i64 k3, .int .i64 o3], .nilIface]) ∧ Below W.heap.size W w')) (NC : Aside0 (∀ W, cl_tab W → Calls Tryd.prog 10 #[.agg #[.int .i64 k3, .int .i64 o3]] W fun e w' => e = .returned (.tuple #[.string s, .nilIface]) ∧ Below W.heap.size W w')) : Calls Tryd.prog 4 #[.agg #[.int .i64 k, .int .i64 o], .agg #[.int .i64 k2, .int .i64 o2], .string s] w fun e w' => e = .returned (.bool true) ∧ Below w.heap.size w w' := by
  have U := Aside0.mk (fun W => trivetlaw09_up.calls true W rfl)
  have hT := Aside0.mk hT
  obtain ⟨x, y, z1, z2, hx, hy, hz1, hz2, hc⟩ : ∃ x y z1 z2, co_less k o k2 o2 = x ∧ co_less k2 o2 k o = y ∧ (k == k2) = z1 ∧ (o == o2) = z2 ∧ ((x = true ∧ y = false ∧ z1 = true ∧ z2 = false) ∨ (x = true ∧ y = false ∧ z1 = false ∧ z2 = z2) ∨ (x = false ∧ y = true ∧ z1 = true ∧ z2 = false) ∨ (x = false ∧ y = true ∧ z1 = false ∧ z2 = z2) ∨ (x = false ∧ y = false ∧ z1 = true ∧ z2 = true)) := by
    refine ⟨_, _, _, _, rfl, rfl, rfl, rfl, ?_⟩
    simp only [co_less, decide_eq_true_eq, decide_eq_false_iff_not, beq_iff_eq, beq_eq_false_iff_ne, Bool.or_eq_true, Bool.and_eq_true, Bool.or_eq_false_iff, Bool.and_eq_false_iff, ne_eq, and_true]
    omega
  have P12 := Aside0.mk hx
  have P21 := Aside0.mk hy
  clear hx hy
  have z : (1000 < s.size) = False := eq_false (by omega)
  have zb : decide ((1000 : Int) < ↑s.size) = false := decide_eq_false (by omega)
  have kk : (k == k) = true := beq_self_eq_true _
  have oo : (o == o) = true := beq_self_eq_true _
  clear hs
  rcases hc with ⟨rfl, rfl, rfl, rfl⟩ | ⟨rfl, rfl, rfl, -⟩ | ⟨rfl, rfl, rfl, rfl⟩ | ⟨rfl, rfl, rfl, -⟩ | ⟨rfl, rfl, rfl, rfl⟩
  all_goals
    go_enter Tryd.func4, Tryd.ntmps4
    go_wp2_with fail
    refine (U.out _).mono ?_
    rintro e w1 ⟨rfl, hb1⟩
    have HS := Aside0.mk (ck_go (ck_init k o k2 o2 w) hb1)
    clear hb1
    obtain ⟨a0, a1, a2, a3⟩ := ck_cells HS.out
    go_wp2_with fail
    refine (ck_call HS.out (by first | exact Below.refl _ _ | exact below_alloc (Below.refl _ _) _ | exact below_alloc (below_alloc (Below.refl _ _) _) _) hT.out (fun q => NA.out _ q)).mono ?_; rintro e w2 ⟨rfl, hs⟩; clear a0 a1 a2 a3; try clear a4 a5
    clear HS; have HS := Aside0.mk hs; clear hs; obtain ⟨a0, a1, a2, a3⟩ := ck_cells HS.out
    go_wp2_with fail
    refine (ck_call HS.out (by first | exact Below.refl _ _ | exact below_alloc (Below.refl _ _) _ | exact below_alloc (below_alloc (Below.refl _ _) _) _) hT.out (fun q => PS.out _ q)).mono ?_; rintro e w2 ⟨rfl, hs⟩; clear a0 a1 a2 a3; try clear a4 a5
    clear HS; have HS := Aside0.mk hs; clear hs; obtain ⟨a0, a1, a2, a3⟩ := ck_cells HS.out
    go_wp2_with fail
    refine (ck_call HS.out (by first | exact Below.refl _ _ | exact below_alloc (Below.refl _ _) _ | exact below_alloc (below_alloc (Below.refl _ _) _) _) hT.out (fun q => NC.out _ q)).mono ?_; rintro e w2 ⟨rfl, hs⟩; clear a0 a1 a2 a3; try clear a4 a5
    clear HS; have HS := Aside0.mk hs; clear hs; obtain ⟨a0, a1, a2, a3⟩ := ck_cells HS.out
    go_wp2_with fail
    have b0 := gb_cell (blk_lt HS.out.2.1) a0
    have b1 := gb_cell (blk_lt HS.out.2.1) a1
    have b2 := gb_cell (blk_lt HS.out.2.2) a2
    have b3 := gb_cell (blk_lt HS.out.2.2) a3
    clear a0 a1 a2 a3
    have CL := Aside0.mk (fun W : World => ck_less P12.out W)
    have CM := Aside0.mk (fun W : World => ck_less P21.out W)
    refine gb_region (by kernel_rfl) (by kernel_rfl) ?_
    repeat (go_big_quiet_step (first | with_reducible exact gb_calls (CL.out _) | with_reducible exact gb_calls (CM.out _)))
    refine wpQuiet_nil ?_
    intro _ hw'
    obtain ⟨gq, hw''⟩ := hw'
    subst hw''
    go_wp2
    go_ret
    exact ⟨rfl, below_step HS.out.1 gq.b⟩
set_option maxHeartbeats 4000000 in
set_option maxRecDepth 100000 in
theorem ck_tf (k o k2 o2 : Int) (s n : ByteArray) (w : World) (hT : cl_tab w) (hs : s.size ≤ 1000) (NA : Aside0 (∀ W, cl_tab W → Calls Tryd.prog 10 #[.agg #[.int .i64 k, .int .i64 o]] W fun e w' => e = .returned (.tuple #[.string n, .nilIface]) ∧ Below W.heap.size W w')) (PN : Aside0 (∀ W, cl_tab W → Calls Tryd.prog 8 #[.string n] W fun e w' => e = .returned (.tuple #[.agg #[.int .i64 k, .int .i64 o], .nilIface]) ∧ Below W.heap.size W w')) (PS : Aside0 (∀ W, cl_tab W → Calls Tryd.prog 8 #[.string s] W fun e w' => e = .returned (.tuple #[.agg #[.int .i64 0, .int .i64 0], .iface 31 (.int .i64 2)]) ∧ Below W.heap.size W w')) : Calls Tryd.prog 4 #[.agg #[.int .i64 k, .int .i64 o], .agg #[.int .i64 k2, .int .i64 o2], .string s] w fun e w' => e = .returned (.bool true) ∧ Below w.heap.size w w' := by
  have U := Aside0.mk (fun W => trivetlaw09_up.calls true W rfl)
  have hT := Aside0.mk hT
  obtain ⟨x, y, z1, z2, hx, hy, hz1, hz2, hc⟩ : ∃ x y z1 z2, co_less k o k2 o2 = x ∧ co_less k2 o2 k o = y ∧ (k == k2) = z1 ∧ (o == o2) = z2 ∧ ((x = true ∧ y = false ∧ z1 = true ∧ z2 = false) ∨ (x = true ∧ y = false ∧ z1 = false ∧ z2 = z2) ∨ (x = false ∧ y = true ∧ z1 = true ∧ z2 = false) ∨ (x = false ∧ y = true ∧ z1 = false ∧ z2 = z2) ∨ (x = false ∧ y = false ∧ z1 = true ∧ z2 = true)) := by
    refine ⟨_, _, _, _, rfl, rfl, rfl, rfl, ?_⟩
    simp only [co_less, decide_eq_true_eq, decide_eq_false_iff_not, beq_iff_eq, beq_eq_false_iff_ne, Bool.or_eq_true, Bool.and_eq_true, Bool.or_eq_false_iff, Bool.and_eq_false_iff, ne_eq, and_true]
    omega
  have P12 := Aside0.mk hx
  have P21 := Aside0.mk hy
  clear hx hy
  have z : (1000 < s.size) = False := eq_false (by omega)
  have zb : decide ((1000 : Int) < ↑s.size) = false := decide_eq_false (by omega)
  have kk : (k == k) = true := beq_self_eq_true _
  have oo : (o == o) = true := beq_self_eq_true _
  clear hs
  rcases hc with ⟨rfl, rfl, rfl, rfl⟩ | ⟨rfl, rfl, rfl, -⟩ | ⟨rfl, rfl, rfl, rfl⟩ | ⟨rfl, rfl, rfl, -⟩ | ⟨rfl, rfl, rfl, rfl⟩
  all_goals
    go_enter Tryd.func4, Tryd.ntmps4
    go_wp2_with fail
    refine (U.out _).mono ?_
    rintro e w1 ⟨rfl, hb1⟩
    have HS := Aside0.mk (ck_go (ck_init k o k2 o2 w) hb1)
    clear hb1
    obtain ⟨a0, a1, a2, a3⟩ := ck_cells HS.out
    go_wp2_with fail
    refine (ck_call HS.out (by first | exact Below.refl _ _ | exact below_alloc (Below.refl _ _) _ | exact below_alloc (below_alloc (Below.refl _ _) _) _) hT.out (fun q => NA.out _ q)).mono ?_; rintro e w2 ⟨rfl, hs⟩; clear a0 a1 a2 a3; try clear a4 a5
    clear HS; have HS := Aside0.mk hs; clear hs; obtain ⟨a0, a1, a2, a3⟩ := ck_cells HS.out
    go_wp2_with fail
    refine (ck_call HS.out (by first | exact Below.refl _ _ | exact below_alloc (Below.refl _ _) _ | exact below_alloc (below_alloc (Below.refl _ _) _) _) hT.out (fun q => PN.out _ q)).mono ?_; rintro e w2 ⟨rfl, hs⟩; clear a0 a1 a2 a3; try clear a4 a5
    clear HS; have HS := Aside0.mk hs; clear hs; obtain ⟨a0, a1, a2, a3⟩ := ck_cells HS.out; have a4 := fun ob => (ck_cells (ck_go HS.out (below_alloc (Below.refl _ _) ob))).1; have a5 := fun ob => (ck_cells (ck_go HS.out (below_alloc (Below.refl _ _) ob))).2.1
    go_wp2_with fail
    refine (ck_call HS.out (by first | exact Below.refl _ _ | exact below_alloc (Below.refl _ _) _ | exact below_alloc (below_alloc (Below.refl _ _) _) _) hT.out (fun q => PS.out _ q)).mono ?_; rintro e w2 ⟨rfl, hs⟩; clear a0 a1 a2 a3; try clear a4 a5
    clear HS; have HS := Aside0.mk hs; clear hs; obtain ⟨a0, a1, a2, a3⟩ := ck_cells HS.out
    go_wp2_with fail
    have HA := fun ob => ck_go HS.out (below_alloc (Below.refl _ _) ob)
    have b0 := fun ob => gb_cell (blk_lt (HA ob).2.1) (ck_cells (HA ob)).1
    have b1 := fun ob => gb_cell (blk_lt (HA ob).2.1) (ck_cells (HA ob)).2.1
    have b2 := fun ob => gb_cell (blk_lt (HA ob).2.2) (ck_cells (HA ob)).2.2.1
    have b3 := fun ob => gb_cell (blk_lt (HA ob).2.2) (ck_cells (HA ob)).2.2.2
    clear HA
    clear a0 a1 a2 a3
    have CL := Aside0.mk (fun W : World => ck_less P12.out W)
    have CM := Aside0.mk (fun W : World => ck_less P21.out W)
    refine gb_region (by kernel_rfl) (by kernel_rfl) ?_
    repeat (go_big_quiet_step (first | with_reducible exact gb_calls (CL.out _) | with_reducible exact gb_calls (CM.out _)))
    refine wpQuiet_nil ?_
    intro _ hw'
    obtain ⟨gq, hw''⟩ := hw'
    subst hw''
    go_wp2
    go_ret
    exact ⟨rfl, below_step (ck_go HS.out (below_alloc (Below.refl _ _) _)).1 gq.b⟩
set_option maxHeartbeats 4000000 in
set_option maxRecDepth 100000 in
theorem ck_tt (k o k2 o2 k3 o3 : Int) (s n : ByteArray) (w : World) (hT : cl_tab w) (hs : s.size ≤ 1000) (NA : Aside0 (∀ W, cl_tab W → Calls Tryd.prog 10 #[.agg #[.int .i64 k, .int .i64 o]] W fun e w' => e = .returned (.tuple #[.string n, .nilIface]) ∧ Below W.heap.size W w')) (PN : Aside0 (∀ W, cl_tab W → Calls Tryd.prog 8 #[.string n] W fun e w' => e = .returned (.tuple #[.agg #[.int .i64 k, .int .i64 o], .nilIface]) ∧ Below W.heap.size W w')) (PS : Aside0 (∀ W, cl_tab W → Calls Tryd.prog 8 #[.string s] W fun e w' => e = .returned (.tuple #[.agg #[.int .i64 k3, .int .i64 o3], .nilIface]) ∧ Below W.heap.size W w')) (NC : Aside0 (∀ W, cl_tab W → Calls Tryd.prog 10 #[.agg #[.int .i64 k3, .int .i64 o3]] W fun e w' => e = .returned (.tuple #[.string s, .nilIface]) ∧ Below W.heap.size W w')) : Calls Tryd.prog 4 #[.agg #[.int .i64 k, .int .i64 o], .agg #[.int .i64 k2, .int .i64 o2], .string s] w fun e w' => e = .returned (.bool true) ∧ Below w.heap.size w w' := by
  have U := Aside0.mk (fun W => trivetlaw09_up.calls true W rfl)
  have hT := Aside0.mk hT
  obtain ⟨x, y, z1, z2, hx, hy, hz1, hz2, hc⟩ : ∃ x y z1 z2, co_less k o k2 o2 = x ∧ co_less k2 o2 k o = y ∧ (k == k2) = z1 ∧ (o == o2) = z2 ∧ ((x = true ∧ y = false ∧ z1 = true ∧ z2 = false) ∨ (x = true ∧ y = false ∧ z1 = false ∧ z2 = z2) ∨ (x = false ∧ y = true ∧ z1 = true ∧ z2 = false) ∨ (x = false ∧ y = true ∧ z1 = false ∧ z2 = z2) ∨ (x = false ∧ y = false ∧ z1 = true ∧ z2 = true)) := by
    refine ⟨_, _, _, _, rfl, rfl, rfl, rfl, ?_⟩
    simp only [co_less, decide_eq_true_eq, decide_eq_false_iff_not, beq_iff_eq, beq_eq_false_iff_ne, Bool.or_eq_true, Bool.and_eq_true, Bool.or_eq_false_iff, Bool.and_eq_false_iff, ne_eq, and_true]
    omega
  have P12 := Aside0.mk hx
  have P21 := Aside0.mk hy
  clear hx hy
  have z : (1000 < s.size) = False := eq_false (by omega)
  have zb : decide ((1000 : Int) < ↑s.size) = false := decide_eq_false (by omega)
  have kk : (k == k) = true := beq_self_eq_true _
  have oo : (o == o) = true := beq_self_eq_true _
  clear hs
  rcases hc with ⟨rfl, rfl, rfl, rfl⟩ | ⟨rfl, rfl, rfl, -⟩ | ⟨rfl, rfl, rfl, rfl⟩ | ⟨rfl, rfl, rfl, -⟩ | ⟨rfl, rfl, rfl, rfl⟩
  all_goals
    go_enter Tryd.func4, Tryd.ntmps4
    go_wp2_with fail
    refine (U.out _).mono ?_
    rintro e w1 ⟨rfl, hb1⟩
    have HS := Aside0.mk (ck_go (ck_init k o k2 o2 w) hb1)
    clear hb1
    obtain ⟨a0, a1, a2, a3⟩ := ck_cells HS.out
    go_wp2_with fail
    refine (ck_call HS.out (by first | exact Below.refl _ _ | exact below_alloc (Below.refl _ _) _ | exact below_alloc (below_alloc (Below.refl _ _) _) _) hT.out (fun q => NA.out _ q)).mono ?_; rintro e w2 ⟨rfl, hs⟩; clear a0 a1 a2 a3; try clear a4 a5
    clear HS; have HS := Aside0.mk hs; clear hs; obtain ⟨a0, a1, a2, a3⟩ := ck_cells HS.out
    go_wp2_with fail
    refine (ck_call HS.out (by first | exact Below.refl _ _ | exact below_alloc (Below.refl _ _) _ | exact below_alloc (below_alloc (Below.refl _ _) _) _) hT.out (fun q => PN.out _ q)).mono ?_; rintro e w2 ⟨rfl, hs⟩; clear a0 a1 a2 a3; try clear a4 a5
    clear HS; have HS := Aside0.mk hs; clear hs; obtain ⟨a0, a1, a2, a3⟩ := ck_cells HS.out; have a4 := fun ob => (ck_cells (ck_go HS.out (below_alloc (Below.refl _ _) ob))).1; have a5 := fun ob => (ck_cells (ck_go HS.out (below_alloc (Below.refl _ _) ob))).2.1
    go_wp2_with fail
    refine (ck_call HS.out (by first | exact Below.refl _ _ | exact below_alloc (Below.refl _ _) _ | exact below_alloc (below_alloc (Below.refl _ _) _) _) hT.out (fun q => PS.out _ q)).mono ?_; rintro e w2 ⟨rfl, hs⟩; clear a0 a1 a2 a3; try clear a4 a5
    clear HS; have HS := Aside0.mk hs; clear hs; obtain ⟨a0, a1, a2, a3⟩ := ck_cells HS.out
    go_wp2_with fail
    refine (ck_call HS.out (by first | exact Below.refl _ _ | exact below_alloc (Below.refl _ _) _ | exact below_alloc (below_alloc (Below.refl _ _) _) _) hT.out (fun q => NC.out _ q)).mono ?_; rintro e w2 ⟨rfl, hs⟩; clear a0 a1 a2 a3; try clear a4 a5
    clear HS; have HS := Aside0.mk hs; clear hs; obtain ⟨a0, a1, a2, a3⟩ := ck_cells HS.out
    go_wp2_with fail
    have b0 := gb_cell (blk_lt HS.out.2.1) a0
    have b1 := gb_cell (blk_lt HS.out.2.1) a1
    have b2 := gb_cell (blk_lt HS.out.2.2) a2
    have b3 := gb_cell (blk_lt HS.out.2.2) a3
    clear a0 a1 a2 a3
    have CL := Aside0.mk (fun W : World => ck_less P12.out W)
    have CM := Aside0.mk (fun W : World => ck_less P21.out W)
    refine gb_region (by kernel_rfl) (by kernel_rfl) ?_
    repeat (go_big_quiet_step (first | with_reducible exact gb_calls (CL.out _) | with_reducible exact gb_calls (CM.out _)))
    refine wpQuiet_nil ?_
    intro _ hw'
    obtain ⟨gq, hw''⟩ := hw'
    subst hw''
    go_wp2
    go_ret
    exact ⟨rfl, below_step HS.out.1 gq.b⟩
set_option maxHeartbeats 1000000 in
theorem ck_long (k o k2 o2 : Int) (s : ByteArray) (w : World) (hs : 1000 < s.size) : Calls Tryd.prog 4 #[.agg #[.int .i64 k, .int .i64 o], .agg #[.int .i64 k2, .int .i64 o2], .string s] w fun e w' => e = .returned (.bool true) ∧ Below w.heap.size w w' := by
  have U := Aside0.mk (fun W => trivetlaw09_up.calls true W rfl)
  have z : (1000 < s.size) = True := eq_true (by omega)
  have zb : decide ((1000 : Int) < ↑s.size) = true := decide_eq_true (by omega)
  clear hs
  go_enter Tryd.func4, Tryd.ntmps4
  go_wp2_with fail
  refine (U.out _).mono ?_
  rintro e w1 ⟨rfl, hb1⟩
  have HS := Aside0.mk (ck_go (ck_init k o k2 o2 w) hb1)
  clear hb1
  go_wp2
  go_ret
  exact ⟨rfl, HS.out.1⟩
def trivetlaw09_ChartBack.f (a0_0 a0_1 a1_0 a1_1 : Int) (a2 : ByteArray) : Option Bool := some true
theorem trivetlaw09_ChartBack.calls (a0_0 a0_1 a1_0 a1_1 : Int) (a2 : ByteArray) (r : Bool) (w : World) (hT : cl_tab w) (h : trivetlaw09_ChartBack.f a0_0 a0_1 a1_0 a1_1 a2 = some r) : Calls Tryd.prog 4 #[.agg #[.int .i64 a0_0, .int .i64 a0_1], .agg #[.int .i64 a1_0, .int .i64 a1_1], .string a2] w fun e w' => e = .returned (.bool r) ∧ Below w.heap.size w w' := by
  obtain rfl := Option.some.inj h
  by_cases hs : a2.size ≤ 1000
  · have NA := fun W (hW : cl_tab W) => cb_name a0_0 a0_1 W hW
    rcases cb_parse a2 hs with ⟨k, o, hm, hn, hp⟩ | ⟨-, hp⟩
    · have NC := fun W (hW : cl_tab W) => cb_name k o W hW
      simp only [if_pos hm, hn] at NC
      by_cases ha : cn_may a0_0 a0_1 = true
      · simp only [if_pos ha] at NA
        rcases cb_parse (ch_nm a0_0 a0_1) (cb_size _ _ ha) with ⟨k4, o4, hm4, hn4, hp4⟩ | ⟨h4, -⟩
        · obtain ⟨rfl, rfl⟩ := ch_inj hm4 ha hn4
          exact ck_tt k4 o4 a1_0 a1_1 k o a2 _ w hT hs ⟨NA⟩ ⟨hp4⟩ ⟨hp⟩ ⟨NC⟩
        · exact absurd rfl (h4 _ _ ha)
      · simp only [if_neg ha] at NA
        exact ck_ft a0_0 a0_1 a1_0 a1_1 k o a2 _ w hT hs ⟨NA⟩ ⟨hp⟩ ⟨NC⟩
    · by_cases ha : cn_may a0_0 a0_1 = true
      · simp only [if_pos ha] at NA
        rcases cb_parse (ch_nm a0_0 a0_1) (cb_size _ _ ha) with ⟨k4, o4, hm4, hn4, hp4⟩ | ⟨h4, -⟩
        · obtain ⟨rfl, rfl⟩ := ch_inj hm4 ha hn4
          exact ck_tf k4 o4 a1_0 a1_1 a2 _ w hT hs ⟨NA⟩ ⟨hp4⟩ ⟨hp⟩
        · exact absurd rfl (h4 _ _ ha)
      · simp only [if_neg ha] at NA
        exact ck_ff a0_0 a0_1 a1_0 a1_1 a2 _ w hT hs ⟨NA⟩ ⟨hp⟩
  · exact ck_long _ _ _ _ _ _ (by omega)


def trivetlaw09_ChartBack.Pure : Prop := ∀ (x0 : S24) (x1 : S24) (x2 : ByteArray), (good24 x0) → (good24 x1) → (x2.size ≤ maxLen) → trivetlaw09_ChartBack.f x0.f0 x0.f1 x1.f0 x1.f1 x2 = some true
end Go.Proofs.YtcdhnglefldalaaDoor.PChartOrder
