import Derived.Test.YthblaehmdailhaaJDN
namespace Go.Proofs.Ythblaehmdailhaa.PJournalStays
open Go.RowKit Go.Proofs.YthblaehmdailhaaW.PrintWords Go.Proofs.YthblaehmdailhaaW.PrintLast Go.Proofs.YthblaehmdailhaaW.PrintMore
set_option linter.unusedVariables false
set_option linter.unusedSimpArgs false

def trivetlaw07_DiskNew.f (a0 : Int) : Option Bool := if -9223372036854775808 ≤ a0 ∧ a0 ≤ 9223372036854775807 then some true else none
theorem trivetlaw07_DiskNew.calls (a0 : Int) (r : Bool) (w : World) (h : trivetlaw07_DiskNew.f a0 = some r) :
    Calls Try.prog 8 #[.int .i64 a0] w fun e w' => e = .returned (.bool r) ∧ Below w.heap.size w w' := by
  unfold trivetlaw07_DiskNew.f at h
  split at h
  · obtain rfl := Option.some.inj h
    by_cases hl : 1 ≤ a0 ∧ a0 ≤ 1024
    · exact dn_main a0 w hl.1 hl.2
    · exact dn_no a0 w (by omega)
  · cases h


def trivetlaw07_DiskNew.Pure : Prop := ∀ (x0 : Int), ((Lit.int .i64 x0).wf = true) → trivetlaw07_DiskNew.f x0 = some true
end Go.Proofs.Ythblaehmdailhaa.PJournalStays
