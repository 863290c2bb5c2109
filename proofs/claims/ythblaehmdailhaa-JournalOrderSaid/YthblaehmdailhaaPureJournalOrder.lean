/- Records are told in the order in which they were appended, whatever their bytes are, and each leaves so much less room: the law JournalOrder returns true for every input; no condition of its own. -/
import Derived.Test.YthblaehmdailhaaJOL
namespace Go.Proofs.Ythblaehmdailhaa.Pure
open Go.RowKit Go.Proofs.Ythblaehmdailhaa.PJournalStays Go.Proofs.YthblaehmdailhaaW.PrintWords Go.Proofs.YthblaehmdailhaaW.PrintLast Go.Proofs.YthblaehmdailhaaW.PrintMore
theorem JournalOrder : trivetlaw08_JournalOrder.Pure := fun _ _ => by intros; rfl

end Go.Proofs.Ythblaehmdailhaa.Pure
