import Derived.Test.YtcdhnglefldalaaDoorCRp
namespace Go.Proofs.YtcdhnglefldalaaDoor.PChartOrder
open Go.RowKit Go.Proofs.YtcdhnglefldalaaDoorW.PrintWords Go.Proofs.YtcdhnglefldalaaDoorW.PrintLast Go.Proofs.YtcdhnglefldalaaDoorW.PrintMore
set_option linter.unusedVariables false
set_option linter.unusedSimpArgs false

attribute [local go_sem high] cerEqI cerEqL cerEqR cerNeI cerNeL cerNeR
theorem cps_long (s : ByteArray) (w : World) (hs : 1000 < s.size) : Calls Tryd.prog 3 #[.string s] w fun e w' => e = .returned (.bool true) ∧ Below w.heap.size w w' := by
  have U := Aside0.mk (fun W => trivetlaw09_up.calls true W rfl)
  have z : (1000 < s.size) = True := eq_true (by omega)
  have zb : decide ((1000 : Int) < ↑s.size) = true := decide_eq_true (by omega)
  clear hs
  go_enter Tryd.func3, Tryd.ntmps3
  go_wp2_with fail
  refine (U.out _).mono ?_
  rintro e w1 ⟨rfl, hb1⟩
  have HS := Aside0.mk hb1
  clear hb1
  go_wp2
  go_ret
  exact ⟨rfl, HS.out⟩
set_option maxHeartbeats 1000000 in
set_option maxRecDepth 100000 in
theorem cps_yes (k o : Int) (s : ByteArray) (w : World) (hT : cl_tab w) (hs : s.size ≤ 1000)
    (P : Aside0 (∀ w, cl_tab w → Calls Tryd.prog 8 #[.string s] w fun e w' => e = .returned (.tuple #[.agg #[.int .i64 k, .int .i64 o], .nilIface]) ∧ Below w.heap.size w w'))
    (R : Aside0 (∀ w, Calls Tryd.prog 9 #[.string s] w fun e w' => e = .returned (.tuple #[.agg #[.int .i64 k, .int .i64 o], .bool true]) ∧ Below w.heap.size w w')) : Calls Tryd.prog 3 #[.string s] w fun e w' => e = .returned (.bool true) ∧ Below w.heap.size w w' := by
  have U := Aside0.mk (fun W => trivetlaw09_up.calls true W rfl)
  have hT := Aside0.mk hT
  have z : (1000 < s.size) = False := eq_false (by omega)
  have zb : decide ((1000 : Int) < ↑s.size) = false := decide_eq_false (by omega)
  have kk : (k == k) = true := beq_self_eq_true _
  have oo : (o == o) = true := beq_self_eq_true _
  clear hs
  go_enter Tryd.func3, Tryd.ntmps3
  go_wp2_with fail
  refine (U.out _).mono ?_
  rintro e w1 ⟨rfl, hb1⟩
  have HS := Aside0.mk hb1
  clear hb1
  go_wp2_with fail
  refine (P.out _ (cl_tab_below hT.out HS.out)).mono ?_
  rintro e w2 ⟨rfl, hb2⟩
  have HS2 := Aside0.mk (below_step HS.out hb2)
  clear HS hb2
  go_wp2_with fail
  refine (R.out _).mono ?_
  rintro e w3 ⟨rfl, hb3⟩
  have HS3 := Aside0.mk (below_step (below_alloc HS2.out (.cells #[.int .i64 k, .int .i64 o] 24)) hb3)
  have G3 := Aside0.mk (blk_below (blk_new w2 (.cells #[.int .i64 k, .int .i64 o] 24)) hb3)
  have c0 := fun ob => (blk_cell (blk_alloc G3.out ob) 0).trans rfl
  have c1 := fun ob => (blk_cell (blk_alloc G3.out ob) 1).trans rfl
  go_wp2_with fail
  go_ret
  exact ⟨rfl, below_alloc HS3.out _⟩
set_option maxHeartbeats 1000000 in
set_option maxRecDepth 100000 in
theorem cps_no (s : ByteArray) (w : World) (hT : cl_tab w) (hs : s.size ≤ 1000)
    (P : Aside0 (∀ w, cl_tab w → Calls Tryd.prog 8 #[.string s] w fun e w' => e = .returned (.tuple #[.agg #[.int .i64 0, .int .i64 0], .iface 31 (.int .i64 2)]) ∧ Below w.heap.size w w'))
    (R : Aside0 (∀ w, Calls Tryd.prog 9 #[.string s] w fun e w' => (∃ k o, e = .returned (.tuple #[.agg #[.int .i64 k, .int .i64 o], .bool false])) ∧ Below w.heap.size w w')) : Calls Tryd.prog 3 #[.string s] w fun e w' => e = .returned (.bool true) ∧ Below w.heap.size w w' := by
  have U := Aside0.mk (fun W => trivetlaw09_up.calls true W rfl)
  have hT := Aside0.mk hT
  have z : (1000 < s.size) = False := eq_false (by omega)
  have zb : decide ((1000 : Int) < ↑s.size) = false := decide_eq_false (by omega)
  clear hs
  go_enter Tryd.func3, Tryd.ntmps3
  go_wp2_with fail
  refine (U.out _).mono ?_
  rintro e w1 ⟨rfl, hb1⟩
  have HS := Aside0.mk hb1
  clear hb1
  go_wp2_with fail
  refine (P.out _ (cl_tab_below hT.out HS.out)).mono ?_
  rintro e w2 ⟨rfl, hb2⟩
  have HS2 := Aside0.mk (below_step HS.out hb2)
  clear HS hb2
  go_wp2_with fail
  refine (R.out _).mono ?_
  rintro e w3 ⟨⟨k, o, rfl⟩, hb3⟩
  have HS3 := Aside0.mk (below_step (below_alloc HS2.out (.cells #[.int .i64 0, .int .i64 0] 24)) hb3)
  have G3 := Aside0.mk (blk_below (blk_new w2 (.cells #[.int .i64 0, .int .i64 0] 24)) hb3)
  have c0 := fun ob => (blk_cell (blk_alloc G3.out ob) 0).trans rfl
  have c1 := fun ob => (blk_cell (blk_alloc G3.out ob) 1).trans rfl
  go_wp2_with fail
  go_ret
  exact ⟨rfl, below_alloc HS3.out _⟩
def trivetlaw09_ChartParses.f (a0 : ByteArray) : Option Bool := some true
theorem trivetlaw09_ChartParses.calls (a0 : ByteArray) (r : Bool) (w : World) (hT : cl_tab w) (h : trivetlaw09_ChartParses.f a0 = some r) : Calls Tryd.prog 3 #[.string a0] w fun e w' => e = .returned (.bool r) ∧ Below w.heap.size w w' := by
  obtain rfl := Option.some.inj h
  by_cases hs : a0.size ≤ 1000
  · have RW := fun W => rp_walk a0 W hs
    rcases cb_parse a0 hs with ⟨k, o, hm, hn, hp⟩ | ⟨hno, hp⟩
    · refine cps_yes k o a0 w hT hs ⟨hp⟩ ⟨fun W => (RW W).mono ?_⟩
      rintro e w' ⟨⟨k2, o2, hm2, hn2, rfl⟩ | ⟨hno, -⟩, hb⟩
      · obtain ⟨rfl, rfl⟩ := ch_inj hm2 hm (hn2.trans hn.symm)
        exact ⟨rfl, hb⟩
      · exact absurd hn (hno k o hm)
    · refine cps_no a0 w hT hs ⟨hp⟩ ⟨fun W => (RW W).mono ?_⟩
      rintro e w' ⟨⟨k2, o2, hm2, hn2, rfl⟩ | ⟨-, k, o, rfl⟩, hb⟩
      · exact absurd hn2 (hno k2 o2 hm2)
      · exact ⟨⟨k, o, rfl⟩, hb⟩
  · exact cps_long _ _ (by omega)


def trivetlaw09_ChartParses.Pure : Prop := ∀ (x0 : ByteArray), (x0.size ≤ maxLen) → trivetlaw09_ChartParses.f x0 = some true
end Go.Proofs.YtcdhnglefldalaaDoor.PChartOrder
