import Derived.Test.YthblaehmdailhaaJSF
namespace Go.Proofs.Ythblaehmdailhaa.PJournalStays
open Go.RowKit Go.Proofs.YthblaehmdailhaaW.PrintWords Go.Proofs.YthblaehmdailhaaW.PrintLast Go.Proofs.YthblaehmdailhaaW.PrintMore
set_option linter.unusedVariables false
set_option linter.unusedSimpArgs false

def trivetlaw08_JournalOpens.f (l0 : List Int) : Option Bool := if ∀ x ∈ l0, 0 ≤ x ∧ x ≤ 255 then some true else none
theorem trivetlaw08_JournalOpens.calls (A0 : Option Addr) (c0 : Nat) (l0 : List Int) (r : Bool) (w : World) (hr0 : Kd.C (Kd.int .u8) w A0 l0.length l0) (hc0 : l0.length ≤ c0) (h : trivetlaw08_JournalOpens.f l0 = some r) :
    Calls Try.prog 3 #[.slice A0 l0.length c0] w fun e w' => e = .returned (.bool r) ∧ Below w.heap.size w w' := by
  unfold trivetlaw08_JournalOpens.f at h
  split at h
  · rename_i g
    obtain rfl := Option.some.inj h
    by_cases hl : l0.length ≤ 512
    · exact jopens_main A0 c0 l0 w hr0 hl g
    · exact jopens_long A0 c0 l0 w (by omega) hr0.2.1
  · cases h


def trivetlaw08_JournalOpens.Pure : Prop := ∀ (x0 : List Int), x0.length * 1 ≤ 140737488351232 → (x0.length ≤ maxLen ∧ ∀ y ∈ x0, (Lit.int .u8 y).wf = true) → trivetlaw08_JournalOpens.f x0 = some true
end Go.Proofs.Ythblaehmdailhaa.PJournalStays
