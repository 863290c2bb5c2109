-- written for this claim by a program of this session (wip/inject.py), which drives the kit's print
import Derived.Test.YthblaehmdailhaaProg
import Derived.Below
import Derived.Deep.Draws
import Derived.Deep.AppendLies
import Derived.Maps.AppendAt
import Derived.OwnWalk
import Derived.Laws.BytesArg
import Derived.Laws.MakeOwn
import Derived.Laws.OwnMore
import Derived.Deep.OwnRows
import Derived.Tactics
import Derived.Lib.ConvBytes
import Derived.Laws.Slices
import Derived.WalkKit
import Derived.KernelRfl
import Derived.RowKit3
import Derived.Deep.LoopGhost
import Derived.Deep.QuietTactic
import Derived.BigQuiet
import Derived.WideLaws
import Derived.Deep.DeepCutAuto
import Derived.Deep.CutBlock
import Derived.Deep.RegionHeld3
import Derived.Laws.Rows
import Derived.Lib.AppendStr
import Derived.ArgAppend
import Derived.Laws.IdiomCopy
import Derived.OrdersHeld
import Derived.Laws.BitsLemmas
import Derived.RowKit
import Derived.Test.YthblaehmdailhaaWWords
import Derived.Test.YthblaehmdailhaaWLast
import Derived.Test.YthblaehmdailhaaWTab
import Derived.Test.YthblaehmdailhaaWFour
import Derived.Test.YthblaehmdailhaaWQPut
import Derived.Test.YthblaehmdailhaaWApart
import Derived.Test.YthblaehmdailhaaWArr
import Derived.Test.YthblaehmdailhaaWZeros
import Derived.Test.YthblaehmdailhaaWFoot
import Derived.Test.YthblaehmdailhaaWKept
import Derived.Test.YthblaehmdailhaaWShare
import Derived.Test.YthblaehmdailhaaWN
import Derived.Test.YthblaehmdailhaaWFootNe
import Derived.Test.YthblaehmdailhaaWAt
import Derived.Test.YthblaehmdailhaaWEqStruct
import Derived.Test.YthblaehmdailhaaWRepsOne
import Derived.Test.YthblaehmdailhaaWInv
import Derived.Test.YthblaehmdailhaaWInvWords
import Derived.Test.YthblaehmdailhaaWGuard
import Derived.Test.YthblaehmdailhaaWNEv
import Derived.Test.YthblaehmdailhaaWMore
namespace Go.Proofs.Ythblaehmdailhaa.PJournalStays
open Go.RowKit Go.Proofs.YthblaehmdailhaaW.PrintWords Go.Proofs.YthblaehmdailhaaW.PrintLast Go.Proofs.YthblaehmdailhaaW.PrintMore
attribute [local go_sem] max2_int min2_int max_two min_two max_three min_three max_four min_four   -- for this text's walks alone
set_option linter.unusedVariables false
set_option linter.unusedSimpArgs false

set_option linter.unnecessarySimpa false


def errW : Option Int → Value
  | none => .nilIface
  | some c => .iface 0 (.int .i64 c)
theorem errW_none : errW none = .nilIface := rfl
theorem errW_some (c : Int) : errW (some c) = .iface 0 (.int .i64 c) := rfl

-- the values' own types

end Go.Proofs.Ythblaehmdailhaa.PJournalStays
