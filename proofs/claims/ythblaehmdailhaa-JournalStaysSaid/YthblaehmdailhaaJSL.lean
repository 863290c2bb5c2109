import Derived.Test.YthblaehmdailhaaJS1
namespace Go.Proofs.Ythblaehmdailhaa.PJournalStays
open Go.RowKit Go.Proofs.YthblaehmdailhaaW.PrintWords Go.Proofs.YthblaehmdailhaaW.PrintLast Go.Proofs.YthblaehmdailhaaW.PrintMore
set_option linter.unusedVariables false
set_option linter.unusedSimpArgs false

def trivetlaw08_JournalStays.f (l0 : List Int) : Option Bool := some true
theorem trivetlaw08_JournalStays.calls (A0 : Option Addr) (c0 : Nat) (l0 : List Int) (r : Bool) (w : World) (hr0 : Kd.C (Kd.int .u8) w A0 l0.length l0) (hc0 : l0.length ≤ c0) (h : trivetlaw08_JournalStays.f l0 = some r) :
    Calls Try.prog 4 #[.slice A0 l0.length c0] w fun e w' => e = .returned (.bool r) ∧ Below w.heap.size w w' := by
  obtain rfl := Option.some.inj h
  by_cases hl : 1 ≤ l0.length ∧ l0.length ≤ 200
  · obtain ⟨a0, rfl, s0⟩ := Src.of_C hr0 (by omega)
    exact jst_main a0 c0 l0 w s0 hl.1 hl.2
  · exact jst_out A0 c0 l0 w hl


def trivetlaw08_JournalStays.Pure : Prop := ∀ (x0 : List Int), x0.length * 1 ≤ 140737488351232 → (x0.length ≤ maxLen ∧ ∀ y ∈ x0, (Lit.int .u8 y).wf = true) → trivetlaw08_JournalStays.f x0 = some true
end Go.Proofs.Ythblaehmdailhaa.PJournalStays
