import Derived.Test.YthblaehmdailhaaJDK
namespace Go.Proofs.Ythblaehmdailhaa.PJournalStays
open Go.RowKit Go.Proofs.YthblaehmdailhaaW.PrintWords Go.Proofs.YthblaehmdailhaaW.PrintLast Go.Proofs.YthblaehmdailhaaW.PrintMore
set_option linter.unusedVariables false
set_option linter.unusedSimpArgs false

set_option maxRecDepth 100000 in
theorem dk_long (at_ : Int) (A0 : Option Addr) (c0 : Nat) (a : List Int) (on : Int) (A1 : Option Addr) (c1 : Nat) (b : List Int) (A2 : Option Addr) (c2 : Nat) (P : List Int) (w : World) (h : 500 < a.length ∨ 500 < b.length ∨ 2000 < P.length) (ma : a.length ≤ 9223372036854775807) (mb : b.length ≤ 9223372036854775807) (mp : P.length ≤ 9223372036854775807) :
    Calls Try.prog 9 #[.int .i64 at_, .slice A0 a.length c0, .int .i64 on, .slice A1 b.length c1, .slice A2 P.length c2] w fun e w' => e = .returned (.bool true) ∧ Below w.heap.size w w' := by
  have U := Aside0.mk (fun W => d_up W)
  by_cases ha : 500 < a.length
  · have ea : decide ((500 : Int) < ↑a.length) = true := decide_eq_true (by omega)
    clear h
    go_enter Try.func9, Try.ntmps9
    go_wp2_with fail
    refine (U.out _).mono ?_
    rintro e w0 ⟨rfl, hb⟩
    have B0 := Aside0.mk hb
    clear hb
    go_wp2_with fail
    go_ret
    exact ⟨rfl, B0.out⟩
  · have ea : decide ((500 : Int) < ↑a.length) = false := decide_eq_false (by omega)
    by_cases hb : 500 < b.length
    · have eb : decide ((500 : Int) < ↑b.length) = true := decide_eq_true (by omega)
      clear h
      go_enter Try.func9, Try.ntmps9
      go_wp2_with fail
      refine (U.out _).mono ?_
      rintro e w0 ⟨rfl, hb⟩
      have B0 := Aside0.mk hb
      clear hb
      go_wp2_with fail
      go_ret
      exact ⟨rfl, B0.out⟩
    · have eb : decide ((500 : Int) < ↑b.length) = false := decide_eq_false (by omega)
      have ep : decide ((2000 : Int) < ↑P.length) = true := decide_eq_true (by omega)
      clear h
      go_enter Try.func9, Try.ntmps9
      go_wp2_with fail
      refine (U.out _).mono ?_
      rintro e w0 ⟨rfl, hb⟩
      have B0 := Aside0.mk hb
      clear hb
      go_wp2_with fail
      go_ret
      exact ⟨rfl, B0.out⟩
def trivetlaw07_DiskKeeps.f (a0 : Int) (l1 : List Int) (a2 : Int) (l3 l4 : List Int) : Option Bool := if ((-9223372036854775808 ≤ a0 ∧ a0 ≤ 9223372036854775807) ∧ (-9223372036854775808 ≤ a2 ∧ a2 ≤ 9223372036854775807)) ∧ ∀ p ∈ l4, -9223372036854775808 ≤ p ∧ p ≤ 9223372036854775807 then some true else none
theorem trivetlaw07_DiskKeeps.calls (a0 : Int) (A1 : Option Addr) (c1 : Nat) (l1 : List Int) (a2 : Int) (A3 : Option Addr) (c3 : Nat) (l3 : List Int) (A4 : Option Addr) (c4 : Nat) (l4 : List Int) (r : Bool) (w : World) (hr1 : Kd.C (Kd.int .u8) w A1 l1.length l1) (hc1 : l1.length ≤ c1) (hr3 : Kd.C (Kd.int .u8) w A3 l3.length l3) (hc3 : l3.length ≤ c3) (hr4 : Kd.C (Kd.int .i64) w A4 l4.length l4) (hc4 : l4.length ≤ c4) (h : trivetlaw07_DiskKeeps.f a0 l1 a2 l3 l4 = some r) :
    Calls Try.prog 9 #[.int .i64 a0, .slice A1 l1.length c1, .int .i64 a2, .slice A3 l3.length c3, .slice A4 l4.length c4] w fun e w' => e = .returned (.bool r) ∧ Below w.heap.size w w' := by
  unfold trivetlaw07_DiskKeeps.f at h
  split at h
  · rename_i g
    obtain rfl := Option.some.inj h
    by_cases hl : l1.length ≤ 500 ∧ l3.length ≤ 500 ∧ l4.length ≤ 2000
    · exact dk_main a0 A1 c1 l1 a2 A3 c3 l3 A4 c4 l4 w g.1.1.1 g.1.1.2 g.1.2.1 g.1.2.2 hr1 hr3 hr4 hl.1 hl.2.1 hl.2.2 g.2
    · exact dk_long a0 A1 c1 l1 a2 A3 c3 l3 A4 c4 l4 w (by omega) hr1.2.1 hr3.2.1 hr4.2.1
  · cases h


def trivetlaw07_DiskKeeps.Pure : Prop := ∀ (x0 : Int) (x1 : List Int) (x2 : Int) (x3 : List Int) (x4 : List Int), ((Lit.int .i64 x0).wf = true) → x1.length * 1 ≤ 140737488351232 → (x1.length ≤ maxLen ∧ ∀ y ∈ x1, (Lit.int .u8 y).wf = true) → ((Lit.int .i64 x2).wf = true) → x3.length * 1 ≤ 140737488351232 → (x3.length ≤ maxLen ∧ ∀ y ∈ x3, (Lit.int .u8 y).wf = true) → x4.length * 8 ≤ 140737488351232 → (x4.length ≤ maxLen ∧ ∀ y ∈ x4, (Lit.int .i64 y).wf = true) → trivetlaw07_DiskKeeps.f x0 x1 x2 x3 x4 = some true
end Go.Proofs.Ythblaehmdailhaa.PJournalStays
