/- Whatever a crash keeps, at whatever stage of an append, opened again all records that were appended are there, and, if anything more, the one that was being appended, whole: the law JournalKeeps returns true for every input; no condition of its own. -/
import Derived.Test.YthblaehmdailhaaJKL
namespace Go.Proofs.Ythblaehmdailhaa.Pure
open Go.RowKit Go.Proofs.Ythblaehmdailhaa.PJournalStays Go.Proofs.YthblaehmdailhaaW.PrintWords Go.Proofs.YthblaehmdailhaaW.PrintLast Go.Proofs.YthblaehmdailhaaW.PrintMore
theorem JournalKeeps : trivetlaw08_JournalKeeps.Pure := fun x0 x1 x2 x3 x4 h0 _ h1 h2 _ h3 _ h4 => by
  have w8 : ∀ n : Int, (Lit.int .u8 n).wf = true → 0 ≤ n ∧ n ≤ 255 := fun n h => by
    simp [Lit.wf, IntKind.min, IntKind.max, IntKind.bits, IntKind.signed] at h
    exact ⟨by omega, by omega⟩
  have w64 : ∀ n : Int, (Lit.int .i64 n).wf = true → -9223372036854775808 ≤ n ∧ n ≤ 9223372036854775807 := fun n h => by
    simp [Lit.wf, IntKind.min, IntKind.max, IntKind.bits, IntKind.signed] at h
    exact ⟨by omega, by omega⟩
  unfold trivetlaw08_JournalKeeps.f
  rw [if_pos ⟨w64 x2 h2, fun r hr x hx => w8 x ((h0.2 r hr).2 x hx), fun x hx => w8 x (h1.2 x hx), fun x hx => w64 x (h3.2 x hx), fun x hx => w8 x (h4.2 x hx)⟩]

end Go.Proofs.Ythblaehmdailhaa.Pure
