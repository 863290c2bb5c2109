/- Of three accounts, if the first one stands ahead of the second, and that of the third, the first one does of the third, by Kind, then by Of: the law ChartOrder returns true for every input; no condition of its own. -/
import Derived.Test.YtcdhnglefldalaaDoorCChartOrder
namespace Go.Proofs.YtcdhnglefldalaaDoor.Pure
open Go.RowKit Go.Proofs.YtcdhnglefldalaaDoor.PChartOrder Go.Proofs.YtcdhnglefldalaaDoorW.PrintWords
theorem ChartOrder : trivetlaw09_ChartOrder.Pure := fun _ _ _ _ _ _ => rfl
end Go.Proofs.YtcdhnglefldalaaDoor.Pure
