/- What was put is got as it was, what was got is put as those bytes, and no beginning of a command's bytes is one's, nor are they with more behind: the law PackBack returns true for every input; no condition of its own. -/
import Derived.Test.YtpacenloagepfaaPPackBackx4
namespace Go.Proofs.Ytpacenloagepfaa.Pure
open Go.RowKit Go.Proofs.Ytpacenloagepfaa.PPackBack Go.Proofs.YtpacenloagepfaaW.PrintWords Go.Proofs.YtpacenloagepfaaW.PrintLast Go.Proofs.YtpacenloagepfaaW.PrintMore
set_option linter.unusedVariables false
set_option linter.unusedSimpArgs false


theorem PackBack : trivetlaw06_PackBack.Pure := by
  intro x l1 a2 a3 hx _ hl h2 h3
  obtain ⟨g0, g1, g2, g3, g4⟩ := hx
  have w := fun (n : Int) (h : (Lit.int .i64 n).wf = true) => (show -9223372036854775808 ≤ n ∧ n ≤ 9223372036854775807 by simp [Lit.wf, IntKind.min, IntKind.max, IntKind.bits, IntKind.signed] at h; exact ⟨by omega, by omega⟩)
  have v := fun (n : Int) (h : (Lit.int .u8 n).wf = true) => (show 0 ≤ n ∧ n < 256 by simp [Lit.wf, IntKind.min, IntKind.max, IntKind.bits, IntKind.signed] at h; exact ⟨by omega, by omega⟩)
  unfold trivetlaw06_PackBack.f
  rw [if_pos ⟨w _ g0, w _ g1, w _ g2, fun y hy => w y (g4 y hy), fun y hy => v y (hl.2 y hy), w _ h2, v _ h3⟩]

end Go.Proofs.Ytpacenloagepfaa.Pure
