/-
  No cell of these rows narrows 'for every input' (looked for: loops, veiled, ifaces, maps, wideKeys, modest, calm, conditions, laid).
  DERIVED. THE GIVEN ROWS OF THIS SEAT. 9 by the template 'for every input the law returns true; each argument reads behind the call as it read before'; 0 by the template 'total and deterministic' (their statements: YtbechikaaiinlaaTotals.lean).
  GIVEN WITH THE SEED: the statements are not yours to turn. If you find one false, say at which input.
  Laid BY PROGRAM, IN A SANDBOX (cutbox-rows.mjs): the forced cells as the released guide's own fill.sh prints them over the translation 36622802f1c92c81… (all of the seat's roots in one cut). By AI agents, Wed Nov 11 2026. No macro, syntax, notation, axiom, sorry.
-/
import Derived.Test.YtbechikaaiinlaaChecked
import GoSem.Claim
import GoSem.ClaimJoined
import GoSem.ClaimMapViews
import Derived.JoinedTies
import Derived.KernelRfl
namespace Go.Proofs.Ytbechikaaiinlaa
/- THE CELL 'sum', in the pinned program and in every row, IS THE sha256 OF THE DUMP (.gsa) THAT YtbechikaaiinlaaProg.lean LOADS. Nothing in Lean hashes anything: it is a label: what it is worth is what the hold of that sum in a sandbox is worth. -/
noncomputable def Try.pinned : Pinned := { name := "ytbechikaaiinlaa", sum := "36622802f1c92c81638baeb1f01a2996246c6f7a404e13aec1bd83917cc85970", checked := Try.checked }
namespace Rows
def none {H : Type} : Left H := { results := [], args := [] }

/-- 'trivetlaw04.DateMays': WHATEVER THE INPUT: true; the input reads as it did. -/
def dateMaysSpec : ChangeSpec := { name := "dateMays", fn := fun _ => fun
  | [d] => { results := [.lit (.bool true)], args := [d] }
  | _ => none }
def dateMaysRow : OpenClaim := { program := "ytbechikaaiinlaa", sum := "36622802f1c92c81638baeb1f01a2996246c6f7a404e13aec1bd83917cc85970", func := "trivet/trivetlaw04.DateMays", spec := "dateMays", apart := false }
def DateMaysSaid : Prop := dateMaysRow.holds Try.pinned (OpenSpec.ofChange dateMaysSpec)

/-- ITS FALSE NEIGHBOUR: 'it returns false'. Refute it at one input. -/
def dateMaysWrong : ChangeSpec := { name := "dateMays", fn := fun _ => fun
  | [d] => { results := [.lit (.bool false)], args := [d] }
  | _ => none }
def DateMaysWrongFalsely : Prop := dateMaysRow.holds Try.pinned (OpenSpec.ofChange dateMaysWrong)

/-- 'trivetlaw04.DateSteps': WHATEVER THE INPUT: true; the input reads as it did. -/
def dateStepsSpec : ChangeSpec := { name := "dateSteps", fn := fun _ => fun
  | [d1, d2, d3] => { results := [.lit (.bool true)], args := [d1, d2, d3] }
  | _ => none }
def dateStepsRow : OpenClaim := { program := "ytbechikaaiinlaa", sum := "36622802f1c92c81638baeb1f01a2996246c6f7a404e13aec1bd83917cc85970", func := "trivet/trivetlaw04.DateSteps", spec := "dateSteps", apart := false }
def DateStepsSaid : Prop := dateStepsRow.holds Try.pinned (OpenSpec.ofChange dateStepsSpec)

/-- ITS FALSE NEIGHBOUR: 'it returns false'. Refute it at one input. -/
def dateStepsWrong : ChangeSpec := { name := "dateSteps", fn := fun _ => fun
  | [d1, d2, d3] => { results := [.lit (.bool false)], args := [d1, d2, d3] }
  | _ => none }
def DateStepsWrongFalsely : Prop := dateStepsRow.holds Try.pinned (OpenSpec.ofChange dateStepsWrong)

/-- 'trivetlaw04.DateMoves': WHATEVER THE INPUT: true; the input reads as it did. -/
def dateMovesSpec : ChangeSpec := { name := "dateMoves", fn := fun _ => fun
  | [d1, d2] => { results := [.lit (.bool true)], args := [d1, d2] }
  | _ => none }
def dateMovesRow : OpenClaim := { program := "ytbechikaaiinlaa", sum := "36622802f1c92c81638baeb1f01a2996246c6f7a404e13aec1bd83917cc85970", func := "trivet/trivetlaw04.DateMoves", spec := "dateMoves", apart := false }
def DateMovesSaid : Prop := dateMovesRow.holds Try.pinned (OpenSpec.ofChange dateMovesSpec)

/-- ITS FALSE NEIGHBOUR: 'it returns false'. Refute it at one input. -/
def dateMovesWrong : ChangeSpec := { name := "dateMoves", fn := fun _ => fun
  | [d1, d2] => { results := [.lit (.bool false)], args := [d1, d2] }
  | _ => none }
def DateMovesWrongFalsely : Prop := dateMovesRow.holds Try.pinned (OpenSpec.ofChange dateMovesWrong)

/-- 'trivetlaw04.DateNumbers': WHATEVER THE INPUT: true; the input reads as it did. -/
def dateNumbersSpec : ChangeSpec := { name := "dateNumbers", fn := fun _ => fun
  | [d1, d2] => { results := [.lit (.bool true)], args := [d1, d2] }
  | _ => none }
def dateNumbersRow : OpenClaim := { program := "ytbechikaaiinlaa", sum := "36622802f1c92c81638baeb1f01a2996246c6f7a404e13aec1bd83917cc85970", func := "trivet/trivetlaw04.DateNumbers", spec := "dateNumbers", apart := false }
def DateNumbersSaid : Prop := dateNumbersRow.holds Try.pinned (OpenSpec.ofChange dateNumbersSpec)

/-- ITS FALSE NEIGHBOUR: 'it returns false'. Refute it at one input. -/
def dateNumbersWrong : ChangeSpec := { name := "dateNumbers", fn := fun _ => fun
  | [d1, d2] => { results := [.lit (.bool false)], args := [d1, d2] }
  | _ => none }
def DateNumbersWrongFalsely : Prop := dateNumbersRow.holds Try.pinned (OpenSpec.ofChange dateNumbersWrong)

/-- 'trivetlaw04.DateBack': WHATEVER THE INPUT: true; the input reads as it did. -/
def dateBackSpec : ChangeSpec := { name := "dateBack", fn := fun _ => fun
  | [d] => { results := [.lit (.bool true)], args := [d] }
  | _ => none }
def dateBackRow : OpenClaim := { program := "ytbechikaaiinlaa", sum := "36622802f1c92c81638baeb1f01a2996246c6f7a404e13aec1bd83917cc85970", func := "trivet/trivetlaw04.DateBack", spec := "dateBack", apart := false }
def DateBackSaid : Prop := dateBackRow.holds Try.pinned (OpenSpec.ofChange dateBackSpec)

/-- ITS FALSE NEIGHBOUR: 'it returns false'. Refute it at one input. -/
def dateBackWrong : ChangeSpec := { name := "dateBack", fn := fun _ => fun
  | [d] => { results := [.lit (.bool false)], args := [d] }
  | _ => none }
def DateBackWrongFalsely : Prop := dateBackRow.holds Try.pinned (OpenSpec.ofChange dateBackWrong)

/-- 'trivetlaw11.TermsResets': WHATEVER THE INPUT: true; the input reads as it did. -/
def termsResetsSpec : ChangeSpec := { name := "termsResets", fn := fun _ => fun
  | [d1, d2, d3, d4, d5] => { results := [.lit (.bool true)], args := [d1, d2, d3, d4, d5] }
  | _ => none }
def termsResetsRow : OpenClaim := { program := "ytbechikaaiinlaa", sum := "36622802f1c92c81638baeb1f01a2996246c6f7a404e13aec1bd83917cc85970", func := "trivet/trivetlaw11.TermsResets", spec := "termsResets", apart := false }
def TermsResetsSaid : Prop := termsResetsRow.holds Try.pinned (OpenSpec.ofChange termsResetsSpec)

/-- ITS FALSE NEIGHBOUR: 'it returns false'. Refute it at one input. -/
def termsResetsWrong : ChangeSpec := { name := "termsResets", fn := fun _ => fun
  | [d1, d2, d3, d4, d5] => { results := [.lit (.bool false)], args := [d1, d2, d3, d4, d5] }
  | _ => none }
def TermsResetsWrongFalsely : Prop := termsResetsRow.holds Try.pinned (OpenSpec.ofChange termsResetsWrong)

/-- 'trivetlaw11.TermsBetween': WHATEVER THE INPUT: true; the input reads as it did. -/
def termsBetweenSpec : ChangeSpec := { name := "termsBetween", fn := fun _ => fun
  | [d1, d2, d3, d4, d5] => { results := [.lit (.bool true)], args := [d1, d2, d3, d4, d5] }
  | _ => none }
def termsBetweenRow : OpenClaim := { program := "ytbechikaaiinlaa", sum := "36622802f1c92c81638baeb1f01a2996246c6f7a404e13aec1bd83917cc85970", func := "trivet/trivetlaw11.TermsBetween", spec := "termsBetween", apart := false }
def TermsBetweenSaid : Prop := termsBetweenRow.holds Try.pinned (OpenSpec.ofChange termsBetweenSpec)

/-- ITS FALSE NEIGHBOUR: 'it returns false'. Refute it at one input. -/
def termsBetweenWrong : ChangeSpec := { name := "termsBetween", fn := fun _ => fun
  | [d1, d2, d3, d4, d5] => { results := [.lit (.bool false)], args := [d1, d2, d3, d4, d5] }
  | _ => none }
def TermsBetweenWrongFalsely : Prop := termsBetweenRow.holds Try.pinned (OpenSpec.ofChange termsBetweenWrong)

/-- 'trivetlaw11.TermsStill': WHATEVER THE INPUT: true; the input reads as it did. -/
def termsStillSpec : ChangeSpec := { name := "termsStill", fn := fun _ => fun
  | [d1, d2, d3, d4] => { results := [.lit (.bool true)], args := [d1, d2, d3, d4] }
  | _ => none }
def termsStillRow : OpenClaim := { program := "ytbechikaaiinlaa", sum := "36622802f1c92c81638baeb1f01a2996246c6f7a404e13aec1bd83917cc85970", func := "trivet/trivetlaw11.TermsStill", spec := "termsStill", apart := false }
def TermsStillSaid : Prop := termsStillRow.holds Try.pinned (OpenSpec.ofChange termsStillSpec)

/-- ITS FALSE NEIGHBOUR: 'it returns false'. Refute it at one input. -/
def termsStillWrong : ChangeSpec := { name := "termsStill", fn := fun _ => fun
  | [d1, d2, d3, d4] => { results := [.lit (.bool false)], args := [d1, d2, d3, d4] }
  | _ => none }
def TermsStillWrongFalsely : Prop := termsStillRow.holds Try.pinned (OpenSpec.ofChange termsStillWrong)

/-- 'trivetlaw11.TermsDays': WHATEVER THE INPUT: true; the input reads as it did. -/
def termsDaysSpec : ChangeSpec := { name := "termsDays", fn := fun _ => fun
  | [d1, d2] => { results := [.lit (.bool true)], args := [d1, d2] }
  | _ => none }
def termsDaysRow : OpenClaim := { program := "ytbechikaaiinlaa", sum := "36622802f1c92c81638baeb1f01a2996246c6f7a404e13aec1bd83917cc85970", func := "trivet/trivetlaw11.TermsDays", spec := "termsDays", apart := false }
def TermsDaysSaid : Prop := termsDaysRow.holds Try.pinned (OpenSpec.ofChange termsDaysSpec)

/-- ITS FALSE NEIGHBOUR: 'it returns false'. Refute it at one input. -/
def termsDaysWrong : ChangeSpec := { name := "termsDays", fn := fun _ => fun
  | [d1, d2] => { results := [.lit (.bool false)], args := [d1, d2] }
  | _ => none }
def TermsDaysWrongFalsely : Prop := termsDaysRow.holds Try.pinned (OpenSpec.ofChange termsDaysWrong)

/- THE SECOND FORM. 'bulk': how many values and letters a reading holds, each counted each time it is reached (what is shared counts as often as it is met; a slice's spare places count too). A statement '..UptoSaid' is the law's where the arguments, and the package variables that the reading takes, are together of bulk at most 1048576: NARROWER than '..Said'. Prove '..Said' where nothing that the law and all that it calls make is longer than what came in: it says more and counts as full. Else prove '..UptoSaid'. A law counts once. -/
mutual
def uptoBulk {H : Type} : DataW H → Nat
  | .lit (.string bytes) => bytes.length + 1
  | .lit _ => 1
  | .nil => 1
  | .ptr d => uptoBulk d + 1
  | .slice elems spare => uptoBulkAll elems + uptoBulkAll spare + 1
  | .agg parts => uptoBulkAll parts + 1
  | .iface _ d => uptoBulk d + 1
  | .map entries => uptoBulkEntries entries + 1
  | .held _ => 1
def uptoBulkAll {H : Type} : List (DataW H) → Nat
  | [] => 0
  | d :: r => uptoBulk d + uptoBulkAll r
def uptoBulkEntries {H : Type} : List (Lit × DataW H) → Nat
  | [] => 0
  | x :: r => uptoBulkEntry x + uptoBulkEntries r
def uptoBulkEntry {H : Type} : Lit × DataW H → Nat
  | (.string bytes, d) => bytes.length + uptoBulk d + 1
  | (_, d) => uptoBulk d + 1
 end
def uptoSmall : (H : Type) → List (DataW H) → Bool := fun _ ds => decide (uptoBulkAll ds ≤ 1048576)
def OpenSpec.upto (s : _root_.Go.ChangeSpec) : _root_.Go.OpenSpec := { _root_.Go.OpenSpec.ofChange s with cond := some uptoSmall }

/-- 'trivetlaw04.DateMays', WHERE WHAT IT READS IS OF BULK AT MOST 1048576: true; the input reads as it did. -/
def dateMaysUptoRow : OpenClaim := { program := "ytbechikaaiinlaa", sum := "36622802f1c92c81638baeb1f01a2996246c6f7a404e13aec1bd83917cc85970", func := "trivet/trivetlaw04.DateMays", spec := "dateMays", apart := false, narrowed := true }
def DateMaysUptoSaid : Prop := dateMaysUptoRow.holds Try.pinned (OpenSpec.upto dateMaysSpec)

/-- 'trivetlaw04.DateSteps', WHERE WHAT IT READS IS OF BULK AT MOST 1048576: true; the input reads as it did. -/
def dateStepsUptoRow : OpenClaim := { program := "ytbechikaaiinlaa", sum := "36622802f1c92c81638baeb1f01a2996246c6f7a404e13aec1bd83917cc85970", func := "trivet/trivetlaw04.DateSteps", spec := "dateSteps", apart := false, narrowed := true }
def DateStepsUptoSaid : Prop := dateStepsUptoRow.holds Try.pinned (OpenSpec.upto dateStepsSpec)

/-- 'trivetlaw04.DateMoves', WHERE WHAT IT READS IS OF BULK AT MOST 1048576: true; the input reads as it did. -/
def dateMovesUptoRow : OpenClaim := { program := "ytbechikaaiinlaa", sum := "36622802f1c92c81638baeb1f01a2996246c6f7a404e13aec1bd83917cc85970", func := "trivet/trivetlaw04.DateMoves", spec := "dateMoves", apart := false, narrowed := true }
def DateMovesUptoSaid : Prop := dateMovesUptoRow.holds Try.pinned (OpenSpec.upto dateMovesSpec)

/-- 'trivetlaw04.DateNumbers', WHERE WHAT IT READS IS OF BULK AT MOST 1048576: true; the input reads as it did. -/
def dateNumbersUptoRow : OpenClaim := { program := "ytbechikaaiinlaa", sum := "36622802f1c92c81638baeb1f01a2996246c6f7a404e13aec1bd83917cc85970", func := "trivet/trivetlaw04.DateNumbers", spec := "dateNumbers", apart := false, narrowed := true }
def DateNumbersUptoSaid : Prop := dateNumbersUptoRow.holds Try.pinned (OpenSpec.upto dateNumbersSpec)

/-- 'trivetlaw04.DateBack', WHERE WHAT IT READS IS OF BULK AT MOST 1048576: true; the input reads as it did. -/
def dateBackUptoRow : OpenClaim := { program := "ytbechikaaiinlaa", sum := "36622802f1c92c81638baeb1f01a2996246c6f7a404e13aec1bd83917cc85970", func := "trivet/trivetlaw04.DateBack", spec := "dateBack", apart := false, narrowed := true }
def DateBackUptoSaid : Prop := dateBackUptoRow.holds Try.pinned (OpenSpec.upto dateBackSpec)

/-- 'trivetlaw11.TermsResets', WHERE WHAT IT READS IS OF BULK AT MOST 1048576: true; the input reads as it did. -/
def termsResetsUptoRow : OpenClaim := { program := "ytbechikaaiinlaa", sum := "36622802f1c92c81638baeb1f01a2996246c6f7a404e13aec1bd83917cc85970", func := "trivet/trivetlaw11.TermsResets", spec := "termsResets", apart := false, narrowed := true }
def TermsResetsUptoSaid : Prop := termsResetsUptoRow.holds Try.pinned (OpenSpec.upto termsResetsSpec)

/-- 'trivetlaw11.TermsBetween', WHERE WHAT IT READS IS OF BULK AT MOST 1048576: true; the input reads as it did. -/
def termsBetweenUptoRow : OpenClaim := { program := "ytbechikaaiinlaa", sum := "36622802f1c92c81638baeb1f01a2996246c6f7a404e13aec1bd83917cc85970", func := "trivet/trivetlaw11.TermsBetween", spec := "termsBetween", apart := false, narrowed := true }
def TermsBetweenUptoSaid : Prop := termsBetweenUptoRow.holds Try.pinned (OpenSpec.upto termsBetweenSpec)

/-- 'trivetlaw11.TermsStill', WHERE WHAT IT READS IS OF BULK AT MOST 1048576: true; the input reads as it did. -/
def termsStillUptoRow : OpenClaim := { program := "ytbechikaaiinlaa", sum := "36622802f1c92c81638baeb1f01a2996246c6f7a404e13aec1bd83917cc85970", func := "trivet/trivetlaw11.TermsStill", spec := "termsStill", apart := false, narrowed := true }
def TermsStillUptoSaid : Prop := termsStillUptoRow.holds Try.pinned (OpenSpec.upto termsStillSpec)

/-- 'trivetlaw11.TermsDays', WHERE WHAT IT READS IS OF BULK AT MOST 1048576: true; the input reads as it did. -/
def termsDaysUptoRow : OpenClaim := { program := "ytbechikaaiinlaa", sum := "36622802f1c92c81638baeb1f01a2996246c6f7a404e13aec1bd83917cc85970", func := "trivet/trivetlaw11.TermsDays", spec := "termsDays", apart := false, narrowed := true }
def TermsDaysUptoSaid : Prop := termsDaysUptoRow.holds Try.pinned (OpenSpec.upto termsDaysSpec)

end Rows
end Go.Proofs.Ytbechikaaiinlaa
