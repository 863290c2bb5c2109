/- Opened once more, a journal has the records that it had, in their order, and as much room: the law JournalTwice returns true for every input; no condition of its own. -/
import Derived.Test.YthblaehmdailhaaJTL
namespace Go.Proofs.Ythblaehmdailhaa.Pure
open Go.RowKit Go.Proofs.Ythblaehmdailhaa.PJournalStays Go.Proofs.YthblaehmdailhaaW.PrintWords Go.Proofs.YthblaehmdailhaaW.PrintLast Go.Proofs.YthblaehmdailhaaW.PrintMore
theorem JournalTwice : trivetlaw08_JournalTwice.Pure := fun x0 x1 h0 h1 => by
  have w8 : ∀ n : Int, (Lit.int .u8 n).wf = true → 0 ≤ n ∧ n ≤ 255 := fun n h => by
    simp [Lit.wf, IntKind.min, IntKind.max, IntKind.bits, IntKind.signed] at h
    exact ⟨by omega, by omega⟩
  have w64 : -9223372036854775808 ≤ x0 ∧ x0 ≤ 9223372036854775807 := by
    simp [Lit.wf, IntKind.min, IntKind.max, IntKind.bits, IntKind.signed] at h0
    exact ⟨by omega, by omega⟩
  unfold trivetlaw08_JournalTwice.f
  rw [if_pos ⟨w64, fun r hr x hx => w8 x ((h1.2 r hr).2 x hx)⟩]

end Go.Proofs.Ythblaehmdailhaa.Pure
