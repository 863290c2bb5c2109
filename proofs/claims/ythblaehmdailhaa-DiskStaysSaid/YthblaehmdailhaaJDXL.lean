import Derived.Test.YthblaehmdailhaaJDX
namespace Go.Proofs.Ythblaehmdailhaa.PJournalStays
open Go.RowKit Go.Proofs.YthblaehmdailhaaW.PrintWords Go.Proofs.YthblaehmdailhaaW.PrintLast Go.Proofs.YthblaehmdailhaaW.PrintMore
set_option linter.unusedVariables false
set_option linter.unusedSimpArgs false

theorem ds_long (at_ : Int) (A0 : Option Addr) (c0 : Nat) (l : List Int) (w : World) (hl : 500 < l.length) (hm : l.length ≤ 9223372036854775807) : Calls Try.prog 7 #[.int .i64 at_, .slice A0 l.length c0] w fun e w' => e = .returned (.bool true) ∧ Below w.heap.size w w' := by
  have U := Aside0.mk (fun W => d_up W)
  have lb : decide ((500 : Int) < ↑l.length) = true := decide_eq_true (by omega)
  go_enter Try.func7, Try.ntmps7
  go_wp2_with fail
  refine (U.out _).mono ?_
  rintro e w0 ⟨rfl, hb⟩
  have B0 := Aside0.mk hb
  clear hb
  go_wp2_with fail
  go_ret
  exact ⟨rfl, B0.out⟩
def trivetlaw07_DiskStays.f (a0 : Int) (l1 : List Int) : Option Bool := if -9223372036854775808 ≤ a0 ∧ a0 ≤ 9223372036854775807 then some true else none
theorem trivetlaw07_DiskStays.calls (a0 : Int) (A1 : Option Addr) (c1 : Nat) (l1 : List Int) (r : Bool) (w : World) (hr1 : Kd.C (Kd.int .u8) w A1 l1.length l1) (hc1 : l1.length ≤ c1) (h : trivetlaw07_DiskStays.f a0 l1 = some r) :
    Calls Try.prog 7 #[.int .i64 a0, .slice A1 l1.length c1] w fun e w' => e = .returned (.bool r) ∧ Below w.heap.size w w' := by
  unfold trivetlaw07_DiskStays.f at h
  split at h
  · rename_i g
    obtain rfl := Option.some.inj h
    by_cases hl : l1.length ≤ 500
    · exact ds_main a0 A1 c1 l1 w g.1 g.2 hr1 hl
    · exact ds_long a0 A1 c1 l1 w (by omega) hr1.2.1
  · cases h


def trivetlaw07_DiskStays.Pure : Prop := ∀ (x0 : Int) (x1 : List Int), ((Lit.int .i64 x0).wf = true) → x1.length * 1 ≤ 140737488351232 → (x1.length ≤ maxLen ∧ ∀ y ∈ x1, (Lit.int .u8 y).wf = true) → trivetlaw07_DiskStays.f x0 x1 = some true
end Go.Proofs.Ythblaehmdailhaa.PJournalStays
