/- What came and Advance together are Interest, Principal, Recovered and Held, none is below 0, and where just as much came as was to come all three ways remit the same: the law RemitWhole returns true for every input; no condition of its own. -/
import Derived.Test.YtmklhkaaaegmgaaPRemitWholex1
namespace Go.Proofs.Ytmklhkaaaegmgaa.Pure
open Go.RowKit Go.Proofs.Ytmklhkaaaegmgaa.PRemitWhole Go.Proofs.YtmklhkaaaegmgaaW.PrintWords Go.Proofs.YtmklhkaaaegmgaaW.PrintLast Go.Proofs.YtmklhkaaaegmgaaW.PrintMore
set_option linter.unusedVariables false
set_option linter.unusedSimpArgs false


theorem RemitWhole : trivetlaw19_RemitWhole.Pure := by
  intro _ _ _ _ _ _ _ _ _ _
  rfl

end Go.Proofs.Ytmklhkaaaegmgaa.Pure
