/-
  No cell of these rows narrows 'for every input' (looked for: loops, veiled, ifaces, maps, wideKeys, modest, calm, conditions, laid).
  DERIVED. THE GIVEN ROWS OF THIS SEAT. 10 by the template 'for every input the law returns true; each argument reads behind the call as it read before'; 0 by the template 'total and deterministic' (their statements: YtmklhkaaaegmgaaTotals.lean).
  GIVEN WITH THE SEED: the statements are not yours to turn. If you find one false, say at which input.
  Laid BY PROGRAM, IN A SANDBOX (cutbox-rows.mjs): the forced cells as the released guide's own fill.sh prints them over the translation e4ea902744d39aac… (all of the seat's roots in one cut). By AI agents, Wed Nov 11 2026. No macro, syntax, notation, axiom, sorry.
-/
import Derived.Test.YtmklhkaaaegmgaaChecked
import GoSem.Claim
import GoSem.ClaimJoined
import GoSem.ClaimMapViews
import Derived.JoinedTies
import Derived.KernelRfl
namespace Go.Proofs.Ytmklhkaaaegmgaa
/- THE CELL 'sum', in the pinned program and in every row, IS THE sha256 OF THE DUMP (.gsa) THAT YtmklhkaaaegmgaaProg.lean LOADS. Nothing in Lean hashes anything: it is a label: what it is worth is what the hold of that sum in a sandbox is worth. -/
noncomputable def Try.pinned : Pinned := { name := "ytmklhkaaaegmgaa", sum := "e4ea902744d39aac70114c42b09fe6a32834ab7f6a319eeafc0efed7572ba259", checked := Try.checked }
namespace Rows
def none {H : Type} : Left H := { results := [], args := [] }

/-- 'trivetlaw19.RemitMonths': WHATEVER THE INPUT: true; the input reads as it did. -/
def remitMonthsSpec : ChangeSpec := { name := "remitMonths", fn := fun _ => fun
  | [d1, d2, d3, d4, d5] => { results := [.lit (.bool true)], args := [d1, d2, d3, d4, d5] }
  | _ => none }
def remitMonthsRow : OpenClaim := { program := "ytmklhkaaaegmgaa", sum := "e4ea902744d39aac70114c42b09fe6a32834ab7f6a319eeafc0efed7572ba259", func := "trivet/trivetlaw19.RemitMonths", spec := "remitMonths", unfollowed := true, recurses := true, apart := false }
def RemitMonthsSaid : Prop := remitMonthsRow.holds Try.pinned (OpenSpec.ofChange remitMonthsSpec)

/-- ITS FALSE NEIGHBOUR: 'it returns false'. Refute it at one input. -/
def remitMonthsWrong : ChangeSpec := { name := "remitMonths", fn := fun _ => fun
  | [d1, d2, d3, d4, d5] => { results := [.lit (.bool false)], args := [d1, d2, d3, d4, d5] }
  | _ => none }
def RemitMonthsWrongFalsely : Prop := remitMonthsRow.holds Try.pinned (OpenSpec.ofChange remitMonthsWrong)

/-- 'trivetlaw19.RemitWhole': WHATEVER THE INPUT: true; the input reads as it did. -/
def remitWholeSpec : ChangeSpec := { name := "remitWhole", fn := fun _ => fun
  | [d1, d2, d3, d4, d5] => { results := [.lit (.bool true)], args := [d1, d2, d3, d4, d5] }
  | _ => none }
def remitWholeRow : OpenClaim := { program := "ytmklhkaaaegmgaa", sum := "e4ea902744d39aac70114c42b09fe6a32834ab7f6a319eeafc0efed7572ba259", func := "trivet/trivetlaw19.RemitWhole", spec := "remitWhole", unfollowed := true, recurses := true, apart := false }
def RemitWholeSaid : Prop := remitWholeRow.holds Try.pinned (OpenSpec.ofChange remitWholeSpec)

/-- ITS FALSE NEIGHBOUR: 'it returns false'. Refute it at one input. -/
def remitWholeWrong : ChangeSpec := { name := "remitWhole", fn := fun _ => fun
  | [d1, d2, d3, d4, d5] => { results := [.lit (.bool false)], args := [d1, d2, d3, d4, d5] }
  | _ => none }
def RemitWholeWrongFalsely : Prop := remitWholeRow.holds Try.pinned (OpenSpec.ofChange remitWholeWrong)

/-- 'trivetlaw19.RemitTurns': WHATEVER THE INPUT: true; the input reads as it did. -/
def remitTurnsSpec : ChangeSpec := { name := "remitTurns", fn := fun _ => fun
  | [d1, d2, d3] => { results := [.lit (.bool true)], args := [d1, d2, d3] }
  | _ => none }
def remitTurnsRow : OpenClaim := { program := "ytmklhkaaaegmgaa", sum := "e4ea902744d39aac70114c42b09fe6a32834ab7f6a319eeafc0efed7572ba259", func := "trivet/trivetlaw19.RemitTurns", spec := "remitTurns", unfollowed := true, recurses := true, apart := false }
def RemitTurnsSaid : Prop := remitTurnsRow.holds Try.pinned (OpenSpec.ofChange remitTurnsSpec)

/-- ITS FALSE NEIGHBOUR: 'it returns false'. Refute it at one input. -/
def remitTurnsWrong : ChangeSpec := { name := "remitTurns", fn := fun _ => fun
  | [d1, d2, d3] => { results := [.lit (.bool false)], args := [d1, d2, d3] }
  | _ => none }
def RemitTurnsWrongFalsely : Prop := remitTurnsRow.holds Try.pinned (OpenSpec.ofChange remitTurnsWrong)

/-- 'trivetlaw19.RemitBesides': WHATEVER THE INPUT: true; the input reads as it did. -/
def remitBesidesSpec : ChangeSpec := { name := "remitBesides", fn := fun _ => fun
  | [d1, d2, d3, d4, d5] => { results := [.lit (.bool true)], args := [d1, d2, d3, d4, d5] }
  | _ => none }
def remitBesidesRow : OpenClaim := { program := "ytmklhkaaaegmgaa", sum := "e4ea902744d39aac70114c42b09fe6a32834ab7f6a319eeafc0efed7572ba259", func := "trivet/trivetlaw19.RemitBesides", spec := "remitBesides", unfollowed := true, recurses := true, apart := false }
def RemitBesidesSaid : Prop := remitBesidesRow.holds Try.pinned (OpenSpec.ofChange remitBesidesSpec)

/-- ITS FALSE NEIGHBOUR: 'it returns false'. Refute it at one input. -/
def remitBesidesWrong : ChangeSpec := { name := "remitBesides", fn := fun _ => fun
  | [d1, d2, d3, d4, d5] => { results := [.lit (.bool false)], args := [d1, d2, d3, d4, d5] }
  | _ => none }
def RemitBesidesWrongFalsely : Prop := remitBesidesRow.holds Try.pinned (OpenSpec.ofChange remitBesidesWrong)

/-- 'trivetlaw19.RemitPlan': WHATEVER THE INPUT: true; the input reads as it did. -/
def remitPlanSpec : ChangeSpec := { name := "remitPlan", fn := fun _ => fun
  | [d1, d2] => { results := [.lit (.bool true)], args := [d1, d2] }
  | _ => none }
def remitPlanRow : OpenClaim := { program := "ytmklhkaaaegmgaa", sum := "e4ea902744d39aac70114c42b09fe6a32834ab7f6a319eeafc0efed7572ba259", func := "trivet/trivetlaw19.RemitPlan", spec := "remitPlan", unfollowed := true, recurses := true, apart := false }
def RemitPlanSaid : Prop := remitPlanRow.holds Try.pinned (OpenSpec.ofChange remitPlanSpec)

/-- ITS FALSE NEIGHBOUR: 'it returns false'. Refute it at one input. -/
def remitPlanWrong : ChangeSpec := { name := "remitPlan", fn := fun _ => fun
  | [d1, d2] => { results := [.lit (.bool false)], args := [d1, d2] }
  | _ => none }
def RemitPlanWrongFalsely : Prop := remitPlanRow.holds Try.pinned (OpenSpec.ofChange remitPlanWrong)

/-- 'trivetlaw15.AnalysisStays': WHATEVER THE INPUT: true; the input reads as it did. -/
def analysisStaysSpec : ChangeSpec := { name := "analysisStays", fn := fun _ => fun
  | [d1, d2] => { results := [.lit (.bool true)], args := [d1, d2] }
  | _ => none }
def analysisStaysRow : OpenClaim := { program := "ytmklhkaaaegmgaa", sum := "e4ea902744d39aac70114c42b09fe6a32834ab7f6a319eeafc0efed7572ba259", func := "trivet/trivetlaw15.AnalysisStays", spec := "analysisStays", unfollowed := true, recurses := true, apart := false }
def AnalysisStaysSaid : Prop := analysisStaysRow.holds Try.pinned (OpenSpec.ofChange analysisStaysSpec)

/-- ITS FALSE NEIGHBOUR: 'it returns false'. Refute it at one input. -/
def analysisStaysWrong : ChangeSpec := { name := "analysisStays", fn := fun _ => fun
  | [d1, d2] => { results := [.lit (.bool false)], args := [d1, d2] }
  | _ => none }
def AnalysisStaysWrongFalsely : Prop := analysisStaysRow.holds Try.pinned (OpenSpec.ofChange analysisStaysWrong)

/-- 'trivetlaw15.AnalysisMore': WHATEVER THE INPUT: true; the input reads as it did. -/
def analysisMoreSpec : ChangeSpec := { name := "analysisMore", fn := fun _ => fun
  | [d1, d2, d3, d4] => { results := [.lit (.bool true)], args := [d1, d2, d3, d4] }
  | _ => none }
def analysisMoreRow : OpenClaim := { program := "ytmklhkaaaegmgaa", sum := "e4ea902744d39aac70114c42b09fe6a32834ab7f6a319eeafc0efed7572ba259", func := "trivet/trivetlaw15.AnalysisMore", spec := "analysisMore", unfollowed := true, recurses := true, apart := false }
def AnalysisMoreSaid : Prop := analysisMoreRow.holds Try.pinned (OpenSpec.ofChange analysisMoreSpec)

/-- ITS FALSE NEIGHBOUR: 'it returns false'. Refute it at one input. -/
def analysisMoreWrong : ChangeSpec := { name := "analysisMore", fn := fun _ => fun
  | [d1, d2, d3, d4] => { results := [.lit (.bool false)], args := [d1, d2, d3, d4] }
  | _ => none }
def AnalysisMoreWrongFalsely : Prop := analysisMoreRow.holds Try.pinned (OpenSpec.ofChange analysisMoreWrong)

/-- 'trivetlaw15.AnalysisTells': WHATEVER THE INPUT: true; the input reads as it did. -/
def analysisTellsSpec : ChangeSpec := { name := "analysisTells", fn := fun _ => fun
  | [d1, d2, d3, d4] => { results := [.lit (.bool true)], args := [d1, d2, d3, d4] }
  | _ => none }
def analysisTellsRow : OpenClaim := { program := "ytmklhkaaaegmgaa", sum := "e4ea902744d39aac70114c42b09fe6a32834ab7f6a319eeafc0efed7572ba259", func := "trivet/trivetlaw15.AnalysisTells", spec := "analysisTells", unfollowed := true, recurses := true, apart := false }
def AnalysisTellsSaid : Prop := analysisTellsRow.holds Try.pinned (OpenSpec.ofChange analysisTellsSpec)

/-- ITS FALSE NEIGHBOUR: 'it returns false'. Refute it at one input. -/
def analysisTellsWrong : ChangeSpec := { name := "analysisTells", fn := fun _ => fun
  | [d1, d2, d3, d4] => { results := [.lit (.bool false)], args := [d1, d2, d3, d4] }
  | _ => none }
def AnalysisTellsWrongFalsely : Prop := analysisTellsRow.holds Try.pinned (OpenSpec.ofChange analysisTellsWrong)

/-- 'trivetlaw15.AnalysisLeast': WHATEVER THE INPUT: true; the input reads as it did. -/
def analysisLeastSpec : ChangeSpec := { name := "analysisLeast", fn := fun _ => fun
  | [d1, d2] => { results := [.lit (.bool true)], args := [d1, d2] }
  | _ => none }
def analysisLeastRow : OpenClaim := { program := "ytmklhkaaaegmgaa", sum := "e4ea902744d39aac70114c42b09fe6a32834ab7f6a319eeafc0efed7572ba259", func := "trivet/trivetlaw15.AnalysisLeast", spec := "analysisLeast", unfollowed := true, recurses := true, apart := false }
def AnalysisLeastSaid : Prop := analysisLeastRow.holds Try.pinned (OpenSpec.ofChange analysisLeastSpec)

/-- ITS FALSE NEIGHBOUR: 'it returns false'. Refute it at one input. -/
def analysisLeastWrong : ChangeSpec := { name := "analysisLeast", fn := fun _ => fun
  | [d1, d2] => { results := [.lit (.bool false)], args := [d1, d2] }
  | _ => none }
def AnalysisLeastWrongFalsely : Prop := analysisLeastRow.holds Try.pinned (OpenSpec.ofChange analysisLeastWrong)

/-- 'trivetlaw15.AnalysisLater': WHATEVER THE INPUT: true; the input reads as it did. -/
def analysisLaterSpec : ChangeSpec := { name := "analysisLater", fn := fun _ => fun
  | [d1, d2, d3, d4] => { results := [.lit (.bool true)], args := [d1, d2, d3, d4] }
  | _ => none }
def analysisLaterRow : OpenClaim := { program := "ytmklhkaaaegmgaa", sum := "e4ea902744d39aac70114c42b09fe6a32834ab7f6a319eeafc0efed7572ba259", func := "trivet/trivetlaw15.AnalysisLater", spec := "analysisLater", unfollowed := true, recurses := true, apart := false }
def AnalysisLaterSaid : Prop := analysisLaterRow.holds Try.pinned (OpenSpec.ofChange analysisLaterSpec)

/-- ITS FALSE NEIGHBOUR: 'it returns false'. Refute it at one input. -/
def analysisLaterWrong : ChangeSpec := { name := "analysisLater", fn := fun _ => fun
  | [d1, d2, d3, d4] => { results := [.lit (.bool false)], args := [d1, d2, d3, d4] }
  | _ => none }
def AnalysisLaterWrongFalsely : Prop := analysisLaterRow.holds Try.pinned (OpenSpec.ofChange analysisLaterWrong)

/- THE SECOND FORM. 'bulk': how many values and letters a reading holds, each counted each time it is reached (what is shared counts as often as it is met; a slice's spare places count too). A statement '..UptoSaid' is the law's where the arguments, and the package variables that the reading takes, are together of bulk at most 1048576: NARROWER than '..Said'. Prove '..Said' where nothing that the law and all that it calls make is longer than what came in: it says more and counts as full. Else prove '..UptoSaid'. A law counts once. -/
mutual
def uptoBulk {H : Type} : DataW H → Nat
  | .lit (.string bytes) => bytes.length + 1
  | .lit _ => 1
  | .nil => 1
  | .ptr d => uptoBulk d + 1
  | .slice elems spare => uptoBulkAll elems + uptoBulkAll spare + 1
  | .agg parts => uptoBulkAll parts + 1
  | .iface _ d => uptoBulk d + 1
  | .map entries => uptoBulkEntries entries + 1
  | .held _ => 1
def uptoBulkAll {H : Type} : List (DataW H) → Nat
  | [] => 0
  | d :: r => uptoBulk d + uptoBulkAll r
def uptoBulkEntries {H : Type} : List (Lit × DataW H) → Nat
  | [] => 0
  | x :: r => uptoBulkEntry x + uptoBulkEntries r
def uptoBulkEntry {H : Type} : Lit × DataW H → Nat
  | (.string bytes, d) => bytes.length + uptoBulk d + 1
  | (_, d) => uptoBulk d + 1
 end
def uptoSmall : (H : Type) → List (DataW H) → Bool := fun _ ds => decide (uptoBulkAll ds ≤ 1048576)
def OpenSpec.upto (s : _root_.Go.ChangeSpec) : _root_.Go.OpenSpec := { _root_.Go.OpenSpec.ofChange s with cond := some uptoSmall }

/-- 'trivetlaw19.RemitMonths', WHERE WHAT IT READS IS OF BULK AT MOST 1048576: true; the input reads as it did. -/
def remitMonthsUptoRow : OpenClaim := { program := "ytmklhkaaaegmgaa", sum := "e4ea902744d39aac70114c42b09fe6a32834ab7f6a319eeafc0efed7572ba259", func := "trivet/trivetlaw19.RemitMonths", spec := "remitMonths", unfollowed := true, recurses := true, apart := false, narrowed := true }
def RemitMonthsUptoSaid : Prop := remitMonthsUptoRow.holds Try.pinned (OpenSpec.upto remitMonthsSpec)

/-- 'trivetlaw19.RemitWhole', WHERE WHAT IT READS IS OF BULK AT MOST 1048576: true; the input reads as it did. -/
def remitWholeUptoRow : OpenClaim := { program := "ytmklhkaaaegmgaa", sum := "e4ea902744d39aac70114c42b09fe6a32834ab7f6a319eeafc0efed7572ba259", func := "trivet/trivetlaw19.RemitWhole", spec := "remitWhole", unfollowed := true, recurses := true, apart := false, narrowed := true }
def RemitWholeUptoSaid : Prop := remitWholeUptoRow.holds Try.pinned (OpenSpec.upto remitWholeSpec)

/-- 'trivetlaw19.RemitTurns', WHERE WHAT IT READS IS OF BULK AT MOST 1048576: true; the input reads as it did. -/
def remitTurnsUptoRow : OpenClaim := { program := "ytmklhkaaaegmgaa", sum := "e4ea902744d39aac70114c42b09fe6a32834ab7f6a319eeafc0efed7572ba259", func := "trivet/trivetlaw19.RemitTurns", spec := "remitTurns", unfollowed := true, recurses := true, apart := false, narrowed := true }
def RemitTurnsUptoSaid : Prop := remitTurnsUptoRow.holds Try.pinned (OpenSpec.upto remitTurnsSpec)

/-- 'trivetlaw19.RemitBesides', WHERE WHAT IT READS IS OF BULK AT MOST 1048576: true; the input reads as it did. -/
def remitBesidesUptoRow : OpenClaim := { program := "ytmklhkaaaegmgaa", sum := "e4ea902744d39aac70114c42b09fe6a32834ab7f6a319eeafc0efed7572ba259", func := "trivet/trivetlaw19.RemitBesides", spec := "remitBesides", unfollowed := true, recurses := true, apart := false, narrowed := true }
def RemitBesidesUptoSaid : Prop := remitBesidesUptoRow.holds Try.pinned (OpenSpec.upto remitBesidesSpec)

/-- 'trivetlaw19.RemitPlan', WHERE WHAT IT READS IS OF BULK AT MOST 1048576: true; the input reads as it did. -/
def remitPlanUptoRow : OpenClaim := { program := "ytmklhkaaaegmgaa", sum := "e4ea902744d39aac70114c42b09fe6a32834ab7f6a319eeafc0efed7572ba259", func := "trivet/trivetlaw19.RemitPlan", spec := "remitPlan", unfollowed := true, recurses := true, apart := false, narrowed := true }
def RemitPlanUptoSaid : Prop := remitPlanUptoRow.holds Try.pinned (OpenSpec.upto remitPlanSpec)

/-- 'trivetlaw15.AnalysisStays', WHERE WHAT IT READS IS OF BULK AT MOST 1048576: true; the input reads as it did. -/
def analysisStaysUptoRow : OpenClaim := { program := "ytmklhkaaaegmgaa", sum := "e4ea902744d39aac70114c42b09fe6a32834ab7f6a319eeafc0efed7572ba259", func := "trivet/trivetlaw15.AnalysisStays", spec := "analysisStays", unfollowed := true, recurses := true, apart := false, narrowed := true }
def AnalysisStaysUptoSaid : Prop := analysisStaysUptoRow.holds Try.pinned (OpenSpec.upto analysisStaysSpec)

/-- 'trivetlaw15.AnalysisMore', WHERE WHAT IT READS IS OF BULK AT MOST 1048576: true; the input reads as it did. -/
def analysisMoreUptoRow : OpenClaim := { program := "ytmklhkaaaegmgaa", sum := "e4ea902744d39aac70114c42b09fe6a32834ab7f6a319eeafc0efed7572ba259", func := "trivet/trivetlaw15.AnalysisMore", spec := "analysisMore", unfollowed := true, recurses := true, apart := false, narrowed := true }
def AnalysisMoreUptoSaid : Prop := analysisMoreUptoRow.holds Try.pinned (OpenSpec.upto analysisMoreSpec)

/-- 'trivetlaw15.AnalysisTells', WHERE WHAT IT READS IS OF BULK AT MOST 1048576: true; the input reads as it did. -/
def analysisTellsUptoRow : OpenClaim := { program := "ytmklhkaaaegmgaa", sum := "e4ea902744d39aac70114c42b09fe6a32834ab7f6a319eeafc0efed7572ba259", func := "trivet/trivetlaw15.AnalysisTells", spec := "analysisTells", unfollowed := true, recurses := true, apart := false, narrowed := true }
def AnalysisTellsUptoSaid : Prop := analysisTellsUptoRow.holds Try.pinned (OpenSpec.upto analysisTellsSpec)

/-- 'trivetlaw15.AnalysisLeast', WHERE WHAT IT READS IS OF BULK AT MOST 1048576: true; the input reads as it did. -/
def analysisLeastUptoRow : OpenClaim := { program := "ytmklhkaaaegmgaa", sum := "e4ea902744d39aac70114c42b09fe6a32834ab7f6a319eeafc0efed7572ba259", func := "trivet/trivetlaw15.AnalysisLeast", spec := "analysisLeast", unfollowed := true, recurses := true, apart := false, narrowed := true }
def AnalysisLeastUptoSaid : Prop := analysisLeastUptoRow.holds Try.pinned (OpenSpec.upto analysisLeastSpec)

/-- 'trivetlaw15.AnalysisLater', WHERE WHAT IT READS IS OF BULK AT MOST 1048576: true; the input reads as it did. -/
def analysisLaterUptoRow : OpenClaim := { program := "ytmklhkaaaegmgaa", sum := "e4ea902744d39aac70114c42b09fe6a32834ab7f6a319eeafc0efed7572ba259", func := "trivet/trivetlaw15.AnalysisLater", spec := "analysisLater", unfollowed := true, recurses := true, apart := false, narrowed := true }
def AnalysisLaterUptoSaid : Prop := analysisLaterUptoRow.holds Try.pinned (OpenSpec.upto analysisLaterSpec)

end Rows
end Go.Proofs.Ytmklhkaaaegmgaa
