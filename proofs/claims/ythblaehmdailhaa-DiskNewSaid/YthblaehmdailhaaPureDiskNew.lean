/- A disk of any number of blocks, or that there is none: the law DiskNew returns true for every input; no condition of its own. -/
import Derived.Test.YthblaehmdailhaaJDNL
namespace Go.Proofs.Ythblaehmdailhaa.Pure
open Go.RowKit Go.Proofs.Ythblaehmdailhaa.PJournalStays Go.Proofs.YthblaehmdailhaaW.PrintWords Go.Proofs.YthblaehmdailhaaW.PrintLast Go.Proofs.YthblaehmdailhaaW.PrintMore
theorem DiskNew : trivetlaw07_DiskNew.Pure := fun x0 h0 => by
  have w64 : ∀ n : Int, (Lit.int .i64 n).wf = true → -9223372036854775808 ≤ n ∧ n ≤ 9223372036854775807 := fun n h => by
    simp [Lit.wf, IntKind.min, IntKind.max, IntKind.bits, IntKind.signed] at h
    exact ⟨by omega, by omega⟩
  unfold trivetlaw07_DiskNew.f
  rw [if_pos (w64 x0 h0)]

end Go.Proofs.Ythblaehmdailhaa.Pure
