/- Whether any account is there, its side, and its name, as the document's answer has them: the law ChartAccounts returns true for every input; no condition of its own. -/
import Derived.Test.YtcdhnglefldalaaDoorCChartAccounts
namespace Go.Proofs.YtcdhnglefldalaaDoor.Pure
open Go.RowKit Go.Proofs.YtcdhnglefldalaaDoor.PChartOrder Go.Proofs.YtcdhnglefldalaaDoorW.PrintWords
theorem ChartAccounts : trivetlaw09_ChartAccounts.Pure := fun _ _ => rfl
end Go.Proofs.YtcdhnglefldalaaDoor.Pure
