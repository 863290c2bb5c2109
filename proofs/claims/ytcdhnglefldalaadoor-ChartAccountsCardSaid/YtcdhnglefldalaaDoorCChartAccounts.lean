import Derived.Test.YtcdhnglefldalaaDoorCAcc
import Derived.Test.YtcdhnglefldalaaDoorCLaid
namespace Go.Proofs.YtcdhnglefldalaaDoor.PChartOrder
open Go.RowKit Go.Proofs.YtcdhnglefldalaaDoorW.PrintWords Go.Proofs.YtcdhnglefldalaaDoorW.PrintLast Go.Proofs.YtcdhnglefldalaaDoorW.PrintMore
set_option linter.unusedVariables false
set_option linter.unusedSimpArgs false

attribute [local go_sem high] cerEqI cerEqL cerEqR cerNeI cerNeL cerNeR
def cl_st (k o : Int) (w W : World) : Prop := Below w.heap.size w W ∧ W.heap[w.heap.size]? = some (.cells #[.int .i64 k, .int .i64 o] 24 (0, 0))
theorem cl_go {k o : Int} {w W W2 : World} (h : cl_st k o w W) (hb : Below W.heap.size W W2) : cl_st k o w W2 := ⟨below_step h.1 hb, blk_below h.2 hb⟩
theorem cl_call {k o : Int} {w W : World} {f : FuncId} {xs : Array Value} {v : Value} (h : cl_st k o w W) (hc : Calls Tryd.prog f xs W fun e w' => e = .returned v ∧ Below W.heap.size W w') : Calls Tryd.prog f xs W fun e w' => e = .returned v ∧ cl_st k o w w' :=
  hc.mono (by
    rintro e w' ⟨rfl, hb⟩
    exact ⟨rfl, cl_go h hb⟩)
theorem cl_cells {k o : Int} {w W : World} (h : cl_st k o w W) : W.cell? ⟨w.heap.size, 0, none⟩ = some (.int .i64 k) ∧ W.cell? ⟨w.heap.size, 1, none⟩ = some (.int .i64 o) := ⟨(blk_cell h.2 0).trans rfl, (blk_cell h.2 1).trans rfl⟩
set_option maxHeartbeats 4000000 in
set_option maxRecDepth 100000 in
theorem cl_bad (k o : Int) (w : World) (h : cn_may k o = false) : Calls Tryd.prog 6 #[.agg #[.int .i64 k, .int .i64 o]] w fun e w' => e = .returned (.bool true) ∧ Below w.heap.size w w' := by
  have U := Aside0.mk (fun W => trivetlaw09_up.calls true W rfl)
  have M1 := Aside0.mk (fun W => ca_may k o W)
  have M2 := Aside0.mk (fun W => chart_may k o W)
  have DB := Aside0.mk (fun W => ca_debit k o W)
  have NM := Aside0.mk (fun W => cn_bad k o W h)
  rw [h] at M1 M2 DB
  rw [Bool.false_and] at DB
  clear h
  go_enter Tryd.func6, Tryd.ntmps6
  go_wp2_with fail
  refine (U.out _).mono ?_
  rintro e w1 ⟨rfl, hb1⟩
  have HS := Aside0.mk (show cl_st k o w w1 from ⟨below_step (below_alloc (Below.refl w.heap.size w) _) hb1, blk_below (blk_new w _) hb1⟩)
  clear hb1
  obtain ⟨a0, a1⟩ := cl_cells HS.out
  go_wp2_with (first
    | (go_at_call 12; refine (cl_call HS.out (M1.out _)).mono ?_; rintro e w2 ⟨rfl, hs⟩; clear a0 a1 HS; have HS := Aside0.mk hs; clear hs; obtain ⟨a0, a1⟩ := cl_cells HS.out)
    | (go_at_call 13; refine (cl_call HS.out (M2.out _)).mono ?_; rintro e w2 ⟨rfl, hs⟩; clear a0 a1 HS; have HS := Aside0.mk hs; clear hs; obtain ⟨a0, a1⟩ := cl_cells HS.out)
    | (go_at_call 10; refine (cl_call HS.out (NM.out _)).mono ?_; rintro e w2 ⟨rfl, hs⟩; clear a0 a1 HS; have HS := Aside0.mk hs; clear hs; obtain ⟨a0, a1⟩ := cl_cells HS.out)
    | (go_at_call 14; refine (cl_call HS.out (DB.out _)).mono ?_; rintro e w2 ⟨rfl, hs⟩; clear a0 a1 HS; have HS := Aside0.mk hs; clear hs; obtain ⟨a0, a1⟩ := cl_cells HS.out)
    | fail)
  go_ret
  exact ⟨rfl, HS.out.1⟩
set_option maxHeartbeats 4000000 in
set_option maxRecDepth 100000 in
theorem cl_ok (k o : Int) (w : World) (h : cn_may k o = true) (hT : cl_tab w) : Calls Tryd.prog 6 #[.agg #[.int .i64 k, .int .i64 o]] w fun e w' => e = .returned (.bool true) ∧ Below w.heap.size w w' := by
  obtain ⟨k0, k1, o0, o1⟩ : 1 ≤ k ∧ k ≤ 12 ∧ 0 ≤ o ∧ o ≤ 65536 := by
    unfold cn_may at h
    simp only [Bool.and_eq_true, decide_eq_true_eq] at h
    obtain ⟨⟨a, b⟩, c⟩ := h
    split at c
    · simp at c; omega
    · simp at c; omega
  have U := Aside0.mk (fun W => trivetlaw09_up.calls true W rfl)
  have M1 := Aside0.mk (fun W => ca_may k o W)
  have M2 := Aside0.mk (fun W => chart_may k o W)
  have DB := Aside0.mk (fun W => ca_debit k o W)
  have RN := Aside0.mk (fun W => ca_name k o W k0 k1 o0 o1)
  have nm : cn_name k o ⟨(Lib.decDigits o.toNat).toArray⟩ = (if o = 0 then cn_nm k else cn_nm k ++ (⟨#[46]⟩ : ByteArray) ++ (⟨(Lib.decDigits o.toNat).toArray⟩ : ByteArray), none) := by
    unfold cn_name
    rw [if_neg (by rw [h]; decide)]
    first | rfl | (split <;> simp_all)
  have NM : Aside0 (∀ W, cl_tab W → Calls Tryd.prog 10 #[.agg #[.int .i64 k, .int .i64 o]] W fun e w' => e = .returned (.tuple #[.string (if o = 0 then cn_nm k else cn_nm k ++ (⟨#[46]⟩ : ByteArray) ++ (⟨(Lib.decDigits o.toNat).toArray⟩ : ByteArray)), .nilIface]) ∧ Below W.heap.size W w') := ⟨fun W hW => cn_calls k o _ W _ none nm (fun a b => ca_dsize o a b) ⟨fun a b W2 hb => cl_itoa o W2 (cl_tab_below hW hb) a b⟩⟩
  clear nm
  generalize (if o = 0 then cn_nm k else cn_nm k ++ (⟨#[46]⟩ : ByteArray) ++ (⟨(Lib.decDigits o.toNat).toArray⟩ : ByteArray)) = nm at NM RN
  rw [h] at M1 M2 DB
  rw [Bool.true_and] at DB
  have hT := Aside0.mk hT
  clear h k0 k1 o0 o1
  generalize h1 : decide (k ≤ 3) = a at DB
  generalize h2 : (k == 7) = b at DB
  generalize h3 : (k == 12) = c at DB
  cases a <;> cases b <;> cases c
  all_goals
    go_enter Tryd.func6, Tryd.ntmps6
    go_wp2_with fail
    refine (U.out _).mono ?_
    rintro e w1 ⟨rfl, hb1⟩
    have HS := Aside0.mk (show cl_st k o w w1 from ⟨below_step (below_alloc (Below.refl w.heap.size w) _) hb1, blk_below (blk_new w _) hb1⟩)
    clear hb1
    obtain ⟨a0, a1⟩ := cl_cells HS.out
    go_wp2_with (first
      | (go_at_call 12; refine (cl_call HS.out (M1.out _)).mono ?_; rintro e w2 ⟨rfl, hs⟩; clear a0 a1 HS; have HS := Aside0.mk hs; clear hs; obtain ⟨a0, a1⟩ := cl_cells HS.out)
      | (go_at_call 13; refine (cl_call HS.out (M2.out _)).mono ?_; rintro e w2 ⟨rfl, hs⟩; clear a0 a1 HS; have HS := Aside0.mk hs; clear hs; obtain ⟨a0, a1⟩ := cl_cells HS.out)
      | (go_at_call 10; refine (cl_call HS.out (NM.out _ (cl_tab_below hT.out HS.out.1))).mono ?_; rintro e w2 ⟨rfl, hs⟩; clear a0 a1 HS; have HS := Aside0.mk hs; clear hs; obtain ⟨a0, a1⟩ := cl_cells HS.out)
      | (go_at_call 15; refine (cl_call HS.out (RN.out _)).mono ?_; rintro e w2 ⟨rfl, hs⟩; clear a0 a1 HS; have HS := Aside0.mk hs; clear hs; obtain ⟨a0, a1⟩ := cl_cells HS.out)
      | (go_at_call 14; refine (cl_call HS.out (DB.out _)).mono ?_; rintro e w2 ⟨rfl, hs⟩; clear a0 a1 HS; have HS := Aside0.mk hs; clear hs; obtain ⟨a0, a1⟩ := cl_cells HS.out)
      | fail)
    go_ret
    exact ⟨rfl, HS.out.1⟩
def trivetlaw09_ChartAccounts.f (a0_0 a0_1 : Int) : Option Bool := some true
theorem trivetlaw09_ChartAccounts.calls (a0_0 a0_1 : Int) (r : Bool) (w : World) (hT : cl_tab w) (h : trivetlaw09_ChartAccounts.f a0_0 a0_1 = some r) : Calls Tryd.prog 6 #[.agg #[.int .i64 a0_0, .int .i64 a0_1]] w fun e w' => e = .returned (.bool r) ∧ Below w.heap.size w w' := by
  obtain rfl := Option.some.inj h
  by_cases c : cn_may a0_0 a0_1 = true
  · exact cl_ok _ _ _ c hT
  · exact cl_bad _ _ _ (by simpa using c)

def good24 (x : S24) : Prop := ((Lit.int .i64 x.f0).wf = true) ∧ ((Lit.int .i64 x.f1).wf = true)
def trivetlaw09_ChartAccounts.Pure : Prop := ∀ (x0 : S24), (good24 x0) → trivetlaw09_ChartAccounts.f x0.f0 x0.f1 = some true
end Go.Proofs.YtcdhnglefldalaaDoor.PChartOrder
