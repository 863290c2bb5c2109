/- The records of any bytes that stand on a disk, and that all behind them are 0s then: the law JournalOpens returns true for every input; no condition of its own. -/
import Derived.Test.YthblaehmdailhaaJOL
namespace Go.Proofs.Ythblaehmdailhaa.Pure
open Go.RowKit Go.Proofs.Ythblaehmdailhaa.PJournalStays Go.Proofs.YthblaehmdailhaaW.PrintWords Go.Proofs.YthblaehmdailhaaW.PrintLast Go.Proofs.YthblaehmdailhaaW.PrintMore
theorem JournalOpens : trivetlaw08_JournalOpens.Pure := fun x0 _ h0 => by
  have w8 : ∀ n : Int, (Lit.int .u8 n).wf = true → 0 ≤ n ∧ n ≤ 255 := fun n h => by
    simp [Lit.wf, IntKind.min, IntKind.max, IntKind.bits, IntKind.signed] at h
    exact ⟨by omega, by omega⟩
  unfold trivetlaw08_JournalOpens.f
  rw [if_pos (fun x hx => w8 x (h0.2 x hx))]

end Go.Proofs.Ythblaehmdailhaa.Pure
