import Derived.Test.YtcdhnglefldalaaDoorCParse
import Derived.Test.YtcdhnglefldalaaDoorCCut
namespace Go.Proofs.YtcdhnglefldalaaDoor.PChartOrder
open Go.RowKit Go.Proofs.YtcdhnglefldalaaDoorW.PrintWords Go.Proofs.YtcdhnglefldalaaDoorW.PrintLast Go.Proofs.YtcdhnglefldalaaDoorW.PrintMore
set_option linter.unusedVariables false
set_option linter.unusedSimpArgs false

attribute [local go_sem high] cerEqI cerEqL cerEqR cerNeI cerNeL cerNeR
theorem cu_name (w : World) : Calls Tryd.prog 10 #[.agg #[.int .i64 5, .int .i64 7]] w fun e' w' => e' = .returned (.tuple #[.string ⟨#[101, 115, 99, 114, 111, 119, 46, 55]⟩, .nilIface]) ∧ Below w.heap.size w w' := by
  have IT : ∀ W : World, Calls Tryd.prog 21 #[.int .i64 7] W fun e w' => e = .returned (.string ⟨#[55]⟩) ∧ Below W.heap.size W w' := fun W =>
    (Tryd.strconv_Itoa_small 7 (by decide) W).mono (by
      rintro e w' ⟨rfl, rfl⟩
      exact ⟨by rw [show (Lib.decDigits 7) = [55] by first | rfl | decide +kernel | simp [Lib.decDigits]], Below.refl _ _⟩)
  exact cn_calls 5 7 ⟨#[55]⟩ w _ none (by rfl) (fun _ _ => by decide) ⟨fun _ _ W _ => IT W⟩
theorem cu_parse (w : World) : Calls Tryd.prog 8 #[.string ⟨#[]⟩] w fun e' w' => e' = .returned (.tuple #[.agg #[.int .i64 0, .int .i64 0], .iface 31 (.int .i64 2)]) ∧ Below w.heap.size w w' := by
  have CT : ∀ W : World, Calls Tryd.prog 16 #[.string ⟨#[]⟩, .string ⟨#[46]⟩] W fun e w' => e = .returned (.tuple #[.string ⟨#[]⟩, .string ⟨#[]⟩, .bool false]) ∧ ∃ n, w' = W.drewN n := fun W => cc_cut ⟨#[]⟩ (by decide) W
  exact cp_nodot ⟨#[]⟩ ⟨#[]⟩ ⟨#[]⟩ 0 0 ⟨#[]⟩ (some 1) w (by decide) ⟨fun W _ => CT W⟩ ⟨fun W _ => cn_bad 0 0 W rfl⟩ _ ⟨fun h => (by cases h.1), fun _ => rfl⟩
def trivetlaw09_up.f : Option Bool := some true
theorem trivetlaw09_up.calls (r : Bool) (w : World) (h : trivetlaw09_up.f = some r) : Calls Tryd.prog 7 #[] w fun e w' => e = .returned (.bool r) ∧ Below w.heap.size w w' := by
  obtain rfl := Option.some.inj h
  clear h
  go_enter Tryd.func7, Tryd.ntmps7
  go_wp2_with fail
  refine (cu_name _).mono ?_
  rintro e w1 ⟨rfl, hb1⟩
  have B1 := Aside0.mk hb1
  clear hb1
  go_wp2_with fail
  refine (cu_parse _).mono ?_
  rintro e w2 ⟨rfl, hb2⟩
  have B2 := Aside0.mk (below_alloc (below_step B1.out hb2) (.cells #[.int .i64 0, .int .i64 0] 24))
  clear hb2 B1
  go_wp2
  go_ret
  exact ⟨rfl, B2.out⟩

end Go.Proofs.YtcdhnglefldalaaDoor.PChartOrder
