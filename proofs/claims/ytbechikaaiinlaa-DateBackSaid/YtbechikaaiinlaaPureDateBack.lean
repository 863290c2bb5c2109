/- Of gives a valid date exactly for the days that there are, Number takes it back, and the next day's date is one day further on in the calendar and in the week: the law DateBack returns true for every input; no condition of its own. -/
import Derived.Test.YtbechikaaiinlaaPDateBackx3
namespace Go.Proofs.Ytbechikaaiinlaa.Pure
open Go.RowKit Go.Proofs.Ytbechikaaiinlaa.PDateBack Go.Proofs.YtbechikaaiinlaaW.PrintWords Go.Proofs.YtbechikaaiinlaaW.PrintLast Go.Proofs.YtbechikaaiinlaaW.PrintMore
set_option linter.unusedVariables false
set_option linter.unusedSimpArgs false


theorem DateBack : trivetlaw04_DateBack.Pure := fun _ _ => rfl

end Go.Proofs.Ytbechikaaiinlaa.Pure
