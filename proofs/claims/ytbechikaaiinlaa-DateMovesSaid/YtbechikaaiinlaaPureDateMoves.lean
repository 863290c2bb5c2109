/- The day any months behind, the weekday, and the last day of the month, of any date, or what is amiss, is what the document's answer tells: the law DateMoves returns true for every input; no condition of its own. -/
import Derived.Test.YtbechikaaiinlaaPDateMovesx4
namespace Go.Proofs.Ytbechikaaiinlaa.Pure
open Go.RowKit Go.Proofs.Ytbechikaaiinlaa.PDateMoves Go.Proofs.YtbechikaaiinlaaW.PrintWords Go.Proofs.YtbechikaaiinlaaW.PrintLast Go.Proofs.YtbechikaaiinlaaW.PrintMore
set_option linter.unusedVariables false
set_option linter.unusedSimpArgs false


theorem DateMoves : trivetlaw04_DateMoves.Pure := fun _ _ _ _ => rfl

end Go.Proofs.Ytbechikaaiinlaa.Pure
