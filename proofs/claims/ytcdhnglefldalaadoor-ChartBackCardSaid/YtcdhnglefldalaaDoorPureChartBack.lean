/- What is named is parsed as it was, and the other way round, and of two accounts that are not the same one stands ahead: the law ChartBack returns true for every input; no condition of its own. -/
import Derived.Test.YtcdhnglefldalaaDoorCChartBack
namespace Go.Proofs.YtcdhnglefldalaaDoor.Pure
open Go.RowKit Go.Proofs.YtcdhnglefldalaaDoor.PChartOrder Go.Proofs.YtcdhnglefldalaaDoorW.PrintWords
theorem ChartBack : trivetlaw09_ChartBack.Pure := fun _ _ => by intros; rfl
end Go.Proofs.YtcdhnglefldalaaDoor.Pure
