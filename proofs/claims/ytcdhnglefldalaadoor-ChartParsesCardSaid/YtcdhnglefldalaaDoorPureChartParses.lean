/- The account of any name, or that it is none's, is told as the document says: the law ChartParses returns true for every input; no condition of its own. -/
import Derived.Test.YtcdhnglefldalaaDoorCChartParses
namespace Go.Proofs.YtcdhnglefldalaaDoor.Pure
open Go.RowKit Go.Proofs.YtcdhnglefldalaaDoor.PChartOrder Go.Proofs.YtcdhnglefldalaaDoorW.PrintWords
theorem ChartParses : trivetlaw09_ChartParses.Pure := fun _ => by intros; rfl
end Go.Proofs.YtcdhnglefldalaaDoor.Pure
