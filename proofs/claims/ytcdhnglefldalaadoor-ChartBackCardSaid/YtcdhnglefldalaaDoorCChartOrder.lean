import Derived.Test.YtcdhnglefldalaaDoorCUp
namespace Go.Proofs.YtcdhnglefldalaaDoor.PChartOrder
open Go.RowKit Go.Proofs.YtcdhnglefldalaaDoorW.PrintWords Go.Proofs.YtcdhnglefldalaaDoorW.PrintLast Go.Proofs.YtcdhnglefldalaaDoorW.PrintMore
set_option linter.unusedVariables false
set_option linter.unusedSimpArgs false

structure GWrld (w : World) where
  w' : World
  b : Below w.heap.size w w'
instance (w : World) : Inhabited (GWrld w) := ⟨⟨w, Below.refl _ _⟩⟩
theorem gb_region {P : Program} {id : Nat} {Q : Exit → Act → World → Prop} {a : Act} {w : World} {l : List Oper} (hm : P.follows .mixedOrders = true) (hB : Region.lexB .any l.toArray = true)
    (h : wpQuiet P l.toArray (fun w' => ∃ p : GWrld w, w' = p.w') (fun a' => ∀ w', (∃ p : GWrld w, w' = p.w') → Q .normal a' w') l a) : (Code.region id l.toArray true).wp P Q a w :=
  wp_region_quiet (C := fun w' => ∃ p : GWrld w, w' = p.w') hm hB ⟨⟨{ w with drawn := w.drawn + 1 }, ⟨rfl, rfl, rfl, Nat.le_refl _, fun _ _ => rfl⟩⟩, rfl⟩ (by simpa using h)
theorem gb_cell {w : World} {b o : Nat} {v : Value} (hb : b < w.heap.size) (h : w.cell? ⟨b, o, none⟩ = some v) (p : GWrld w) : p.w'.cell? ⟨b, o, none⟩ = some v := (p.b.cell (p := ⟨b, o, none⟩) hb).trans h
theorem gb_calls {P : Program} {f : FuncId} {args : Array Value} {w : World} {p : GWrld w} {v : Value}
    (h : Calls P f args p.w' fun e w' => e = .returned v ∧ Below p.w'.heap.size p.w' w') : Calls P f args p.w' fun e w'' => e = .returned v ∧ ∃ q : GWrld w, w'' = q.w' :=
  h.mono fun _ w'' ⟨he, hb⟩ => ⟨he, ⟨w'', below_step p.b hb⟩, rfl⟩
def co_less (k o k2 o2 : Int) : Bool := decide (k < k2) || ((k == k2) && decide (o < o2))
theorem co_calls (k o k2 o2 : Int) (w : World) : Calls Tryd.prog 11 #[.agg #[.int .i64 k, .int .i64 o], .agg #[.int .i64 k2, .int .i64 o2]] w fun e w' => e = .returned (.bool (co_less k o k2 o2)) ∧ Below w.heap.size w w' := by
  unfold co_less
  generalize h1 : decide (k < k2) = a
  generalize h2 : (k == k2) = b
  generalize h3 : decide (o < o2) = c
  cases a <;> cases b
  all_goals
    go_enter Tryd.func11, Tryd.ntmps11
    go_wp2
    go_ret
    exact ⟨rfl, below_alloc (below_alloc (Below.refl _ _) _) _⟩
def co_st (k1 o1 k2 o2 k3 o3 : Int) (w W : World) : Prop :=
  Below w.heap.size w W ∧ W.heap[w.heap.size]? = some (.cells #[.int .i64 k1, .int .i64 o1] 24 (0, 0)) ∧ W.heap[w.heap.size + 1]? = some (.cells #[.int .i64 k2, .int .i64 o2] 24 (0, 0)) ∧ W.heap[w.heap.size + 1 + 1]? = some (.cells #[.int .i64 k3, .int .i64 o3] 24 (0, 0))
theorem co_go {k1 o1 k2 o2 k3 o3 : Int} {w W W2 : World} (h : co_st k1 o1 k2 o2 k3 o3 w W) (hb : Below W.heap.size W W2) : co_st k1 o1 k2 o2 k3 o3 w W2 :=
  ⟨below_step h.1 hb, blk_below h.2.1 hb, blk_below h.2.2.1 hb, blk_below h.2.2.2 hb⟩
theorem co_step {k1 o1 k2 o2 k3 o3 : Int} {w W : World} (h : co_st k1 o1 k2 o2 k3 o3 w W) (a b c d : Int) (v : Bool) (hv : co_less a b c d = v) : Calls Tryd.prog 11 #[.agg #[.int .i64 a, .int .i64 b], .agg #[.int .i64 c, .int .i64 d]] W fun e w' => e = .returned (.bool v) ∧ co_st k1 o1 k2 o2 k3 o3 w w' :=
  (co_calls a b c d W).mono (by
    rintro e w' ⟨rfl, hb⟩
    exact ⟨by rw [hv], co_go h hb⟩)
theorem co_cells {k1 o1 k2 o2 k3 o3 : Int} {w W : World} (h : co_st k1 o1 k2 o2 k3 o3 w W) : W.cell? ⟨w.heap.size, 0, none⟩ = some (.int .i64 k1) ∧ W.cell? ⟨w.heap.size, 1, none⟩ = some (.int .i64 o1) ∧ W.cell? ⟨w.heap.size + 1, 0, none⟩ = some (.int .i64 k2) ∧ W.cell? ⟨w.heap.size + 1, 1, none⟩ = some (.int .i64 o2) ∧ W.cell? ⟨w.heap.size + 1 + 1, 0, none⟩ = some (.int .i64 k3) ∧ W.cell? ⟨w.heap.size + 1 + 1, 1, none⟩ = some (.int .i64 o3) :=
  ⟨(blk_cell h.2.1 0).trans rfl, (blk_cell h.2.1 1).trans rfl, (blk_cell h.2.2.1 0).trans rfl, (blk_cell h.2.2.1 1).trans rfl, (blk_cell h.2.2.2 0).trans rfl, (blk_cell h.2.2.2 1).trans rfl⟩
theorem co_init (k1 o1 k2 o2 k3 o3 : Int) (w : World) : co_st k1 o1 k2 o2 k3 o3 w (((w.alloc (.cells #[.int .i64 k1, .int .i64 o1] 24)).alloc (.cells #[.int .i64 k2, .int .i64 o2] 24)).alloc (.cells #[.int .i64 k3, .int .i64 o3] 24)) := by
  refine ⟨below_alloc (below_alloc (below_alloc (Below.refl _ _) _) _) _, blk_alloc (blk_alloc (blk_new w _) _) _, ?_, ?_⟩
  · have := blk_new (w.alloc (.cells #[.int .i64 k1, .int .i64 o1] 24)) (.cells #[.int .i64 k2, .int .i64 o2] 24)
    exact blk_alloc (by simpa using this) _
  · have := blk_new ((w.alloc (.cells #[.int .i64 k1, .int .i64 o1] 24)).alloc (.cells #[.int .i64 k2, .int .i64 o2] 24)) (.cells #[.int .i64 k3, .int .i64 o3] 24)
    simpa using this
theorem co_gcall {k1 o1 k2 o2 k3 o3 : Int} {w W : World} (h : co_st k1 o1 k2 o2 k3 o3 w W) {v : Bool} (hv : co_less k1 o1 k2 o2 = v) (p : GWrld W) : Calls Tryd.prog 11 #[.agg #[.int .i64 k1, .int .i64 o1], .agg #[.int .i64 k2, .int .i64 o2]] p.w' fun e w' => e = .returned (.bool v) ∧ Below p.w'.heap.size p.w' w' :=
  (co_calls k1 o1 k2 o2 p.w').mono (by
    rintro e w' ⟨rfl, hb⟩
    exact ⟨by rw [hv], hb⟩)
set_option maxHeartbeats 4000000 in
set_option maxRecDepth 100000 in
theorem co_walk (k1 o1 k2 o2 k3 o3 : Int) (w : World) : Calls Tryd.prog 5 #[.agg #[.int .i64 k1, .int .i64 o1], .agg #[.int .i64 k2, .int .i64 o2], .agg #[.int .i64 k3, .int .i64 o3]] w fun e w' => e = .returned (.bool true) ∧ Below w.heap.size w w' := by
  have U := Aside0.mk (fun W => trivetlaw09_up.calls true W rfl)
  obtain ⟨x, y, z, p, q, r, hx, hy, hz, hp, hq, hr, hc⟩ : ∃ x y z p q r, decide (k1 < k2) = x ∧ (k1 == k2) = y ∧ decide (o1 < o2) = z ∧ co_less k1 o1 k2 o2 = p ∧ co_less k2 o2 k3 o3 = q ∧ co_less k1 o1 k3 o3 = r ∧
      ((p = true ∧ x = true ∧ q = false) ∨ (p = true ∧ x = true ∧ q = true ∧ r = true) ∨ (p = false ∧ x = false ∧ y = false) ∨ (p = false ∧ x = false ∧ y = true ∧ z = false) ∨ (p = true ∧ x = false ∧ y = true ∧ z = true ∧ q = false) ∨ (p = true ∧ x = false ∧ y = true ∧ z = true ∧ q = true ∧ r = true)) := by
    refine ⟨_, _, _, _, _, _, rfl, rfl, rfl, rfl, rfl, rfl, ?_⟩
    simp only [co_less, decide_eq_true_eq, decide_eq_false_iff_not, beq_iff_eq, beq_eq_false_iff_ne, Bool.or_eq_true, Bool.and_eq_true, Bool.or_eq_false_iff, Bool.and_eq_false_iff, ne_eq]
    omega
  have P12 := Aside0.mk hp
  have P23 := Aside0.mk hq
  have P13 := Aside0.mk hr
  clear hp hq hr
  rcases hc with ⟨rfl, rfl, rfl⟩ | ⟨rfl, rfl, rfl, rfl⟩ | ⟨rfl, rfl, rfl⟩ | ⟨rfl, rfl, rfl, rfl⟩ | ⟨rfl, rfl, rfl, rfl, rfl⟩ | ⟨rfl, rfl, rfl, rfl, rfl, rfl⟩
  all_goals
    go_enter Tryd.func5, Tryd.ntmps5
    go_wp2_with fail
    refine (U.out _).mono ?_
    rintro e w1 ⟨rfl, hb1⟩
    have HS := Aside0.mk (co_go (co_init k1 o1 k2 o2 k3 o3 w) hb1)
    clear hb1
    obtain ⟨a0, a1, a2, a3, a4, a5⟩ := co_cells HS.out
    go_wp2_with (first
      | (go_at_call 11; first
          | with_reducible refine (co_step HS.out _ _ _ _ _ P12.out).mono ?_
          | with_reducible refine (co_step HS.out _ _ _ _ _ P23.out).mono ?_
          | with_reducible refine (co_step HS.out _ _ _ _ _ P13.out).mono ?_
         rintro e w2 ⟨rfl, hs⟩
         clear a0 a1 a2 a3 a4 a5 HS
         have HS := Aside0.mk hs
         clear hs
         obtain ⟨a0, a1, a2, a3, a4, a5⟩ := co_cells HS.out)
      | fail)
    have SB := HS.out
    have b0 := gb_cell (blk_lt SB.2.1) a0
    have b1 := gb_cell (blk_lt SB.2.1) a1
    have b2 := gb_cell (blk_lt SB.2.2.1) a2
    have b3 := gb_cell (blk_lt SB.2.2.1) a3
    have CL := Aside0.mk (co_gcall HS.out P12.out)
    clear a0 a1 a2 a3 a4 a5 SB
    refine gb_region (by kernel_rfl) (by kernel_rfl) ?_
    repeat (go_big_quiet_step (with_reducible exact gb_calls (CL.out _)))
    refine wpQuiet_nil ?_
    intro _ hw'
    obtain ⟨gq, hw''⟩ := hw'
    subst hw''
    go_wp2
    go_ret
    exact ⟨rfl, below_step HS.out.1 gq.b⟩
def trivetlaw09_ChartOrder.f (a0_0 a0_1 a1_0 a1_1 a2_0 a2_1 : Int) : Option Bool := some true
theorem trivetlaw09_ChartOrder.calls (a0_0 a0_1 a1_0 a1_1 a2_0 a2_1 : Int) (r : Bool) (w : World) (h : trivetlaw09_ChartOrder.f a0_0 a0_1 a1_0 a1_1 a2_0 a2_1 = some r) : Calls Tryd.prog 5 #[.agg #[.int .i64 a0_0, .int .i64 a0_1], .agg #[.int .i64 a1_0, .int .i64 a1_1], .agg #[.int .i64 a2_0, .int .i64 a2_1]] w fun e w' => e = .returned (.bool r) ∧ Below w.heap.size w w' := by
  obtain rfl := Option.some.inj h
  exact co_walk a0_0 a0_1 a1_0 a1_1 a2_0 a2_1 w

def good24 (x : S24) : Prop := ((Lit.int .i64 x.f0).wf = true) ∧ ((Lit.int .i64 x.f1).wf = true)
def trivetlaw09_ChartOrder.Pure : Prop := ∀ (x0 : S24) (x1 : S24) (x2 : S24), (good24 x0) → (good24 x1) → (good24 x2) → trivetlaw09_ChartOrder.f x0.f0 x0.f1 x1.f0 x1.f1 x2.f0 x2.f1 = some true
end Go.Proofs.YtcdhnglefldalaaDoor.PChartOrder
