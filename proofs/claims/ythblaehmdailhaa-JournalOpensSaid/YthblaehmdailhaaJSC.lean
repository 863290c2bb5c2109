import Derived.Test.YthblaehmdailhaaJN
import Derived.Test.YthblaehmdailhaaPJournalOpensx1
namespace Go.Proofs.Ythblaehmdailhaa.PJournalStays
open Go.RowKit Go.Proofs.YthblaehmdailhaaW.PrintWords Go.Proofs.YthblaehmdailhaaW.PrintLast Go.Proofs.YthblaehmdailhaaW.PrintMore
set_option linter.unusedVariables false
set_option linter.unusedSimpArgs false
attribute [local go_sem high] slEq slNe slEq0 slNe0
theorem head_all : ((List.range 1025).all fun k => PJournalOpens.trivetref08_Head.f 20 (k : Int) == some (hdl (k : Int))) = true := by kernel_rfl
theorem head_f {n : Int} (h0 : 0 ≤ n) (h1 : n ≤ 1024) : PJournalOpens.trivetref08_Head.f 20 n = some (hdl n) := by
  have := List.all_eq_true.1 head_all n.toNat (List.mem_range.2 (by omega))
  have e : ((n.toNat : Nat) : Int) = n := by omega
  rw [e] at this
  exact beq_iff_eq.1 this

end Go.Proofs.Ythblaehmdailhaa.PJournalStays
