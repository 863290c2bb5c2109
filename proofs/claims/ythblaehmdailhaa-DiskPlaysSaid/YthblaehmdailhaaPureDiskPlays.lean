/- What is read, and how many blocks were written, whatever is done with a disk, one behind the other, is what the document says: the law DiskPlays returns true for every input; no condition of its own. -/
import Derived.Test.YthblaehmdailhaaJDA
namespace Go.Proofs.Ythblaehmdailhaa.Pure
open Go.RowKit Go.Proofs.Ythblaehmdailhaa.PJournalStays Go.Proofs.YthblaehmdailhaaW.PrintWords Go.Proofs.YthblaehmdailhaaW.PrintLast Go.Proofs.YthblaehmdailhaaW.PrintMore
theorem DiskPlays : trivetlaw07_DiskPlays.Pure := fun x0 x1 h0 h1 => by
  have w64 : ∀ n : Int, (Lit.int .i64 n).wf = true → -9223372036854775808 ≤ n ∧ n ≤ 9223372036854775807 := fun n h => by
    simp [Lit.wf, IntKind.min, IntKind.max, IntKind.bits, IntKind.signed] at h
    exact ⟨by omega, by omega⟩
  unfold trivetlaw07_DiskPlays.f
  rw [if_pos ⟨w64 x0 h0, fun x hx => ⟨w64 _ (h1.2 x hx).1, w64 _ (h1.2 x hx).2.1, w64 _ (h1.2 x hx).2.2.1, fun p hp => w64 p ((h1.2 x hx).2.2.2.2.2 p hp)⟩⟩]

end Go.Proofs.Ythblaehmdailhaa.Pure
