/- What is handed in stays as it is, and what was told stays, whatever becomes of it: the law PackStays returns true for every input; no condition of its own. -/
import Derived.Test.YtpacenloagepfaaPPackStaysx4
namespace Go.Proofs.Ytpacenloagepfaa.Pure
open Go.RowKit Go.Proofs.Ytpacenloagepfaa.PPackStays Go.Proofs.YtpacenloagepfaaW.PrintWords Go.Proofs.YtpacenloagepfaaW.PrintLast Go.Proofs.YtpacenloagepfaaW.PrintMore
set_option linter.unusedVariables false
set_option linter.unusedSimpArgs false


theorem PackStays : trivetlaw06_PackStays.Pure := by
  intro x l1 hx _ hl
  obtain ⟨g0, g1, g2, g3, g4⟩ := hx
  have w := fun (n : Int) (h : (Lit.int .i64 n).wf = true) => (show -9223372036854775808 ≤ n ∧ n ≤ 9223372036854775807 by simp [Lit.wf, IntKind.min, IntKind.max, IntKind.bits, IntKind.signed] at h; exact ⟨by omega, by omega⟩)
  unfold trivetlaw06_PackStays.f
  rw [if_pos ⟨w _ g0, w _ g1, w _ g2, fun y hy => w y (g4 y hy)⟩]

end Go.Proofs.Ytpacenloagepfaa.Pure
