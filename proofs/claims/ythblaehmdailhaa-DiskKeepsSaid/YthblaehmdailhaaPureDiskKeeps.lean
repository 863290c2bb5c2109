/- What was synced is there behind every crash, where nothing else was written, and a crash of all picks of 64 is a sync: the law DiskKeeps returns true for every input; no condition of its own. -/
import Derived.Test.YthblaehmdailhaaJDKL
namespace Go.Proofs.Ythblaehmdailhaa.Pure
open Go.RowKit Go.Proofs.Ythblaehmdailhaa.PJournalStays Go.Proofs.YthblaehmdailhaaW.PrintWords Go.Proofs.YthblaehmdailhaaW.PrintLast Go.Proofs.YthblaehmdailhaaW.PrintMore
theorem DiskKeeps : trivetlaw07_DiskKeeps.Pure := fun x0 x1 x2 x3 x4 h0 _ _ h2 _ _ _ h4 => by
  have w64 : ∀ n : Int, (Lit.int .i64 n).wf = true → -9223372036854775808 ≤ n ∧ n ≤ 9223372036854775807 := fun n h => by
    simp [Lit.wf, IntKind.min, IntKind.max, IntKind.bits, IntKind.signed] at h
    exact ⟨by omega, by omega⟩
  unfold trivetlaw07_DiskKeeps.f
  rw [if_pos ⟨⟨w64 x0 h0, w64 x2 h2⟩, fun p hp => w64 p (h4.2 p hp)⟩]

end Go.Proofs.Ythblaehmdailhaa.Pure
