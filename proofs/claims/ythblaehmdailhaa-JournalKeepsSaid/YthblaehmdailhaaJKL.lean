import Derived.Test.YthblaehmdailhaaJKM
namespace Go.Proofs.Ythblaehmdailhaa.PJournalStays
open Go.RowKit Go.Proofs.YthblaehmdailhaaW.PrintWords Go.Proofs.YthblaehmdailhaaW.PrintLast Go.Proofs.YthblaehmdailhaaW.PrintMore
set_option linter.unusedVariables false
set_option linter.unusedSimpArgs false

set_option maxRecDepth 100000 in
theorem jk_long (A0 : Option Addr) (c0 : Nat) (L : List (List Int)) (A1 : Option Addr) (d1 : Nat) (b : List Int) (sg : Int) (A2 : Option Addr) (d2 : Nat) (P : List Int) (A3 : Option Addr) (d3 : Nat) (mo : List Int) (w : World) (hl : 20 < L.length ∨ 2000 < P.length) (m0 : L.length ≤ 9223372036854775807) (m2 : P.length ≤ 9223372036854775807) :
    Calls Try.prog 11 #[.slice A0 L.length c0, .slice A1 b.length d1, .int .i64 sg, .slice A2 P.length d2, .slice A3 mo.length d3] w fun e w' => e = .returned (.bool true) ∧ Below w.heap.size w w' := by
  have U := Aside0.mk (fun W => jy_up W)
  by_cases ha : 20 < L.length
  · have ea : decide ((20 : Int) < ↑L.length) = true := decide_eq_true (by omega)
    clear hl
    go_enter Try.func11, Try.ntmps11
    go_wp2_with fail
    refine (U.out _).mono ?_
    rintro e w0 ⟨rfl, hb⟩
    have B0 := Aside0.mk hb
    clear hb
    go_wp2_with fail
    go_ret
    exact ⟨rfl, B0.out⟩
  · have ea : decide ((20 : Int) < ↑L.length) = false := decide_eq_false (by omega)
    have ep : decide ((2000 : Int) < ↑P.length) = true := decide_eq_true (by omega)
    clear hl
    go_enter Try.func11, Try.ntmps11
    go_wp2_with fail
    refine (U.out _).mono ?_
    rintro e w0 ⟨rfl, hb⟩
    have B0 := Aside0.mk hb
    clear hb
    go_wp2_with fail
    go_ret
    exact ⟨rfl, B0.out⟩
def trivetlaw08_JournalKeeps.f (l0 : List (List Int)) (l1 : List Int) (a2 : Int) (l3 l4 : List Int) : Option Bool :=
  if (-9223372036854775808 ≤ a2 ∧ a2 ≤ 9223372036854775807) ∧ (∀ r ∈ l0, ∀ x ∈ r, 0 ≤ x ∧ x ≤ 255) ∧ (∀ x ∈ l1, 0 ≤ x ∧ x ≤ 255) ∧ (∀ p ∈ l3, -9223372036854775808 ≤ p ∧ p ≤ 9223372036854775807) ∧ ∀ x ∈ l4, 0 ≤ x ∧ x ≤ 255 then some true else none
theorem trivetlaw08_JournalKeeps.calls (A0 : Option Addr) (c0 : Nat) (l0 : List (List Int)) (A1 : Option Addr) (c1 : Nat) (l1 : List Int) (a2 : Int) (A3 : Option Addr) (c3 : Nat) (l3 : List Int) (A4 : Option Addr) (c4 : Nat) (l4 : List Int) (r : Bool) (w : World) (hr0 : Kd.C (Kd.slice 5 (Kd.int .u8)) w A0 l0.length l0) (hc0 : l0.length ≤ c0) (hr1 : Kd.C (Kd.int .u8) w A1 l1.length l1) (hc1 : l1.length ≤ c1) (hr3 : Kd.C (Kd.int .i64) w A3 l3.length l3) (hc3 : l3.length ≤ c3) (hr4 : Kd.C (Kd.int .u8) w A4 l4.length l4) (hc4 : l4.length ≤ c4) (h : trivetlaw08_JournalKeeps.f l0 l1 a2 l3 l4 = some r) :
    Calls Try.prog 11 #[.slice A0 l0.length c0, .slice A1 l1.length c1, .int .i64 a2, .slice A3 l3.length c3, .slice A4 l4.length c4] w fun e w' => e = .returned (.bool r) ∧ Below w.heap.size w w' := by
  unfold trivetlaw08_JournalKeeps.f at h
  split at h
  · rename_i g
    obtain rfl := Option.some.inj h
    by_cases hl : l0.length ≤ 20 ∧ l3.length ≤ 2000
    · exact jk_main A0 c0 l0 A1 c1 l1 a2 A3 c3 l3 A4 c4 l4 w g.1.1 g.1.2 hr0 hr1 hr3 hr4 hl.1 hl.2 g.2.1 g.2.2.1 g.2.2.2.1 g.2.2.2.2
    · exact jk_long A0 c0 l0 A1 c1 l1 a2 A3 c3 l3 A4 c4 l4 w (by omega) hr0.2.1 hr3.2.1
  · cases h


def trivetlaw08_JournalKeeps.Pure : Prop := ∀ (x0 : List (List Int)) (x1 : List Int) (x2 : Int) (x3 : List Int) (x4 : List Int), (x0.length ≤ maxLen ∧ ∀ y ∈ x0, y.length ≤ maxLen ∧ ∀ z ∈ y, (Lit.int .u8 z).wf = true) → x1.length * 1 ≤ 140737488351232 → (x1.length ≤ maxLen ∧ ∀ y ∈ x1, (Lit.int .u8 y).wf = true) → ((Lit.int .i64 x2).wf = true) → x3.length * 8 ≤ 140737488351232 → (x3.length ≤ maxLen ∧ ∀ y ∈ x3, (Lit.int .i64 y).wf = true) → x4.length * 1 ≤ 140737488351232 → (x4.length ≤ maxLen ∧ ∀ y ∈ x4, (Lit.int .u8 y).wf = true) → trivetlaw08_JournalKeeps.f x0 x1 x2 x3 x4 = some true
end Go.Proofs.Ythblaehmdailhaa.PJournalStays
