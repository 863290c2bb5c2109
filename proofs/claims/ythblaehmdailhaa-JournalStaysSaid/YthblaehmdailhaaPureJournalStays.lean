/- Records that are handed in stay as they are, and are not kept, and what was told stays, whatever becomes of it: the law JournalStays returns true for every input; no condition of its own. -/
import Derived.Test.YthblaehmdailhaaJSL
namespace Go.Proofs.Ythblaehmdailhaa.Pure
open Go.RowKit Go.Proofs.Ythblaehmdailhaa.PJournalStays Go.Proofs.YthblaehmdailhaaW.PrintWords Go.Proofs.YthblaehmdailhaaW.PrintLast Go.Proofs.YthblaehmdailhaaW.PrintMore
theorem JournalStays : trivetlaw08_JournalStays.Pure := fun _ => by intros; rfl

end Go.Proofs.Ythblaehmdailhaa.Pure
