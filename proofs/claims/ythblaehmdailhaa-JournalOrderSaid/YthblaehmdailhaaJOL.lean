import Derived.Test.YthblaehmdailhaaJO1
namespace Go.Proofs.Ythblaehmdailhaa.PJournalStays
open Go.RowKit Go.Proofs.YthblaehmdailhaaW.PrintWords Go.Proofs.YthblaehmdailhaaW.PrintLast Go.Proofs.YthblaehmdailhaaW.PrintMore
set_option linter.unusedVariables false
set_option linter.unusedSimpArgs false

def trivetlaw08_JournalOrder.f (l0 l1 : List Int) : Option Bool := some true
theorem trivetlaw08_JournalOrder.calls (A0 : Option Addr) (c0 : Nat) (l0 : List Int) (A1 : Option Addr) (c1 : Nat) (l1 : List Int) (r : Bool) (w : World) (hr0 : Kd.C (Kd.int .u8) w A0 l0.length l0) (hc0 : l0.length ≤ c0) (hr1 : Kd.C (Kd.int .u8) w A1 l1.length l1) (hc1 : l1.length ≤ c1) (h : trivetlaw08_JournalOrder.f l0 l1 = some r) :
    Calls Try.prog 5 #[.slice A0 l0.length c0, .slice A1 l1.length c1] w fun e w' => e = .returned (.bool r) ∧ Below w.heap.size w w' := by
  obtain rfl := Option.some.inj h
  by_cases hl : l0.length ≤ 300 ∧ l1.length ≤ 300
  · by_cases p0 : 1 ≤ l0.length
    · obtain ⟨a0, rfl, s0⟩ := Src.of_C hr0 p0
      by_cases p1 : 1 ≤ l1.length
      · obtain ⟨a1, rfl, s1⟩ := Src.of_C hr1 p1
        exact jord_tt a0 c0 l0 a1 c1 l1 w s0 p0 hl.1 s1 p1 hl.2
      · rw [show l1.length = 0 by omega]
        exact jord_tf a0 c0 l0 A1 c1 w s0 p0 hl.1
    · rw [show l0.length = 0 by omega]
      by_cases p1 : 1 ≤ l1.length
      · obtain ⟨a1, rfl, s1⟩ := Src.of_C hr1 p1
        exact jord_ft A0 c0 a1 c1 l1 w s1 p1 hl.2
      · rw [show l1.length = 0 by omega]
        exact jord_ff A0 c0 A1 c1 w
  · exact jord_long A0 A1 c0 c1 l0 l1 w hl


def trivetlaw08_JournalOrder.Pure : Prop := ∀ (x0 : List Int) (x1 : List Int), x0.length * 1 ≤ 140737488351232 → (x0.length ≤ maxLen ∧ ∀ y ∈ x0, (Lit.int .u8 y).wf = true) → x1.length * 1 ≤ 140737488351232 → (x1.length ≤ maxLen ∧ ∀ y ∈ x1, (Lit.int .u8 y).wf = true) → trivetlaw08_JournalOrder.f x0 x1 = some true
end Go.Proofs.Ythblaehmdailhaa.PJournalStays
