/- Bytes that are handed in stay as they are, and are not kept, and what was told stays, whatever becomes of it: the law DiskStays returns true for every input; no condition of its own. -/
import Derived.Test.YthblaehmdailhaaJDXL
namespace Go.Proofs.Ythblaehmdailhaa.Pure
open Go.RowKit Go.Proofs.Ythblaehmdailhaa.PJournalStays Go.Proofs.YthblaehmdailhaaW.PrintWords Go.Proofs.YthblaehmdailhaaW.PrintLast Go.Proofs.YthblaehmdailhaaW.PrintMore
theorem DiskStays : trivetlaw07_DiskStays.Pure := fun x0 x1 h0 _ _ => by
  have w64 : ∀ n : Int, (Lit.int .i64 n).wf = true → -9223372036854775808 ≤ n ∧ n ≤ 9223372036854775807 := fun n h => by
    simp [Lit.wf, IntKind.min, IntKind.max, IntKind.bits, IntKind.signed] at h
    exact ⟨by omega, by omega⟩
  unfold trivetlaw07_DiskStays.f
  rw [if_pos (w64 x0 h0)]

end Go.Proofs.Ythblaehmdailhaa.Pure
