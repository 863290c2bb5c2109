/-
  No cell of these rows narrows 'for every input' (looked for: loops, veiled, ifaces, maps, wideKeys, modest, calm, conditions, laid).
  DERIVED. THE GIVEN ROWS OF THIS SEAT. 6 by the template 'for every input the law returns true; each argument reads behind the call as it read before'; 0 by the template 'total and deterministic' (their statements: YtcdhnglefldalaaTotals.lean).
  GIVEN WITH THE SEED: the statements are not yours to turn. If you find one false, say at which input.
  Laid BY PROGRAM, IN A SANDBOX (cutbox-rows.mjs): the forced cells as the released guide's own fill.sh prints them over the translation c026c9d50691ad6f… (all of the seat's roots in one cut). By AI agents, Wed Nov 11 2026. No macro, syntax, notation, axiom, sorry.
-/
import Derived.Test.YtcdhnglefldalaaChecked
import GoSem.Claim
import GoSem.ClaimJoined
import GoSem.ClaimMapViews
import Derived.JoinedTies
import Derived.KernelRfl
namespace Go.Proofs.Ytcdhnglefldalaa
/- THE CELL 'sum', in the pinned program and in every row, IS THE sha256 OF THE DUMP (.gsa) THAT YtcdhnglefldalaaProg.lean LOADS. Nothing in Lean hashes anything: it is a label: what it is worth is what the hold of that sum in a sandbox is worth. -/
noncomputable def Try.pinned : Pinned := { name := "ytcdhnglefldalaa", sum := "c026c9d50691ad6f8758f4e21a8cd160c42ad28948410949034755d594dad8f6", checked := Try.checked }
namespace Rows
def none {H : Type} : Left H := { results := [], args := [] }

/-- 'trivetlaw10.BookTurns': WHATEVER THE INPUT: true; the input reads as it did. -/
def bookTurnsSpec : ChangeSpec := { name := "bookTurns", fn := fun _ => fun
  | [d1, d2] => { results := [.lit (.bool true)], args := [d1, d2] }
  | _ => none }
def bookTurnsRow : OpenClaim := { program := "ytcdhnglefldalaa", sum := "c026c9d50691ad6f8758f4e21a8cd160c42ad28948410949034755d594dad8f6", func := "trivet/trivetlaw10.BookTurns", spec := "bookTurns", inPlace := ["math/bits.Add64"], unfollowed := true, recurses := true, plainKeys := false, apart := false }
def BookTurnsSaid : Prop := bookTurnsRow.holds Try.pinned (OpenSpec.ofChange bookTurnsSpec)

/-- ITS FALSE NEIGHBOUR: 'it returns false'. Refute it at one input. -/
def bookTurnsWrong : ChangeSpec := { name := "bookTurns", fn := fun _ => fun
  | [d1, d2] => { results := [.lit (.bool false)], args := [d1, d2] }
  | _ => none }
def BookTurnsWrongFalsely : Prop := bookTurnsRow.holds Try.pinned (OpenSpec.ofChange bookTurnsWrong)

/-- 'trivetlaw10.BookTwins': WHATEVER THE INPUT: true; the input reads as it did. -/
def bookTwinsSpec : ChangeSpec := { name := "bookTwins", fn := fun _ => fun
  | [d1, d2] => { results := [.lit (.bool true)], args := [d1, d2] }
  | _ => none }
def bookTwinsRow : OpenClaim := { program := "ytcdhnglefldalaa", sum := "c026c9d50691ad6f8758f4e21a8cd160c42ad28948410949034755d594dad8f6", func := "trivet/trivetlaw10.BookTwins", spec := "bookTwins", inPlace := ["math/bits.Add64", "maps.clone"], unfollowed := true, recurses := true, plainKeys := false, apart := false }
def BookTwinsSaid : Prop := bookTwinsRow.holds Try.pinned (OpenSpec.ofChange bookTwinsSpec)

/-- ITS FALSE NEIGHBOUR: 'it returns false'. Refute it at one input. -/
def bookTwinsWrong : ChangeSpec := { name := "bookTwins", fn := fun _ => fun
  | [d1, d2] => { results := [.lit (.bool false)], args := [d1, d2] }
  | _ => none }
def BookTwinsWrongFalsely : Prop := bookTwinsRow.holds Try.pinned (OpenSpec.ofChange bookTwinsWrong)

/-- 'trivetlaw10.BookBack': WHATEVER THE INPUT: true; the input reads as it did. -/
def bookBackSpec : ChangeSpec := { name := "bookBack", fn := fun _ => fun
  | [d1, d2] => { results := [.lit (.bool true)], args := [d1, d2] }
  | _ => none }
def bookBackRow : OpenClaim := { program := "ytcdhnglefldalaa", sum := "c026c9d50691ad6f8758f4e21a8cd160c42ad28948410949034755d594dad8f6", func := "trivet/trivetlaw10.BookBack", spec := "bookBack", inPlace := ["math/bits.Add64"], unfollowed := true, recurses := true, plainKeys := false, apart := false }
def BookBackSaid : Prop := bookBackRow.holds Try.pinned (OpenSpec.ofChange bookBackSpec)

/-- ITS FALSE NEIGHBOUR: 'it returns false'. Refute it at one input. -/
def bookBackWrong : ChangeSpec := { name := "bookBack", fn := fun _ => fun
  | [d1, d2] => { results := [.lit (.bool false)], args := [d1, d2] }
  | _ => none }
def BookBackWrongFalsely : Prop := bookBackRow.holds Try.pinned (OpenSpec.ofChange bookBackWrong)

/-- 'trivetlaw10.BookZero': WHATEVER THE INPUT: true; the input reads as it did. -/
def bookZeroSpec : ChangeSpec := { name := "bookZero", fn := fun _ => fun
  | [d] => { results := [.lit (.bool true)], args := [d] }
  | _ => none }
def bookZeroRow : OpenClaim := { program := "ytcdhnglefldalaa", sum := "c026c9d50691ad6f8758f4e21a8cd160c42ad28948410949034755d594dad8f6", func := "trivet/trivetlaw10.BookZero", spec := "bookZero", inPlace := ["math/bits.Add64"], unfollowed := true, recurses := true, plainKeys := false, apart := false }
def BookZeroSaid : Prop := bookZeroRow.holds Try.pinned (OpenSpec.ofChange bookZeroSpec)

/-- ITS FALSE NEIGHBOUR: 'it returns false'. Refute it at one input. -/
def bookZeroWrong : ChangeSpec := { name := "bookZero", fn := fun _ => fun
  | [d] => { results := [.lit (.bool false)], args := [d] }
  | _ => none }
def BookZeroWrongFalsely : Prop := bookZeroRow.holds Try.pinned (OpenSpec.ofChange bookZeroWrong)

/-- 'trivetlaw10.BookPlays': WHATEVER THE INPUT: true; the input reads as it did. -/
def bookPlaysSpec : ChangeSpec := { name := "bookPlays", fn := fun _ => fun
  | [d1, d2, d3] => { results := [.lit (.bool true)], args := [d1, d2, d3] }
  | _ => none }
def bookPlaysRow : OpenClaim := { program := "ytcdhnglefldalaa", sum := "c026c9d50691ad6f8758f4e21a8cd160c42ad28948410949034755d594dad8f6", func := "trivet/trivetlaw10.BookPlays", spec := "bookPlays", inPlace := ["math/bits.Add64"], unfollowed := true, recurses := true, plainKeys := false, apart := false }
def BookPlaysSaid : Prop := bookPlaysRow.holds Try.pinned (OpenSpec.ofChange bookPlaysSpec)

/-- ITS FALSE NEIGHBOUR: 'it returns false'. Refute it at one input. -/
def bookPlaysWrong : ChangeSpec := { name := "bookPlays", fn := fun _ => fun
  | [d1, d2, d3] => { results := [.lit (.bool false)], args := [d1, d2, d3] }
  | _ => none }
def BookPlaysWrongFalsely : Prop := bookPlaysRow.holds Try.pinned (OpenSpec.ofChange bookPlaysWrong)

/-- 'trivetlaw10.BookStays': WHATEVER THE INPUT: true; the input reads as it did. -/
def bookStaysSpec : ChangeSpec := { name := "bookStays", fn := fun _ => fun
  | [d1, d2] => { results := [.lit (.bool true)], args := [d1, d2] }
  | _ => none }
def bookStaysRow : OpenClaim := { program := "ytcdhnglefldalaa", sum := "c026c9d50691ad6f8758f4e21a8cd160c42ad28948410949034755d594dad8f6", func := "trivet/trivetlaw10.BookStays", spec := "bookStays", inPlace := ["math/bits.Add64", "maps.clone"], unfollowed := true, recurses := true, plainKeys := false, apart := false }
def BookStaysSaid : Prop := bookStaysRow.holds Try.pinned (OpenSpec.ofChange bookStaysSpec)

/-- ITS FALSE NEIGHBOUR: 'it returns false'. Refute it at one input. -/
def bookStaysWrong : ChangeSpec := { name := "bookStays", fn := fun _ => fun
  | [d1, d2] => { results := [.lit (.bool false)], args := [d1, d2] }
  | _ => none }
def BookStaysWrongFalsely : Prop := bookStaysRow.holds Try.pinned (OpenSpec.ofChange bookStaysWrong)

/- THE SECOND FORM. 'bulk': how many values and letters a reading holds, each counted each time it is reached (what is shared counts as often as it is met; a slice's spare places count too). A statement '..UptoSaid' is the law's where the arguments, and the package variables that the reading takes, are together of bulk at most 1048576: NARROWER than '..Said'. Prove '..Said' where nothing that the law and all that it calls make is longer than what came in: it says more and counts as full. Else prove '..UptoSaid'. A law counts once. -/
mutual
def uptoBulk {H : Type} : DataW H → Nat
  | .lit (.string bytes) => bytes.length + 1
  | .lit _ => 1
  | .nil => 1
  | .ptr d => uptoBulk d + 1
  | .slice elems spare => uptoBulkAll elems + uptoBulkAll spare + 1
  | .agg parts => uptoBulkAll parts + 1
  | .iface _ d => uptoBulk d + 1
  | .map entries => uptoBulkEntries entries + 1
  | .held _ => 1
def uptoBulkAll {H : Type} : List (DataW H) → Nat
  | [] => 0
  | d :: r => uptoBulk d + uptoBulkAll r
def uptoBulkEntries {H : Type} : List (Lit × DataW H) → Nat
  | [] => 0
  | x :: r => uptoBulkEntry x + uptoBulkEntries r
def uptoBulkEntry {H : Type} : Lit × DataW H → Nat
  | (.string bytes, d) => bytes.length + uptoBulk d + 1
  | (_, d) => uptoBulk d + 1
 end
def uptoSmall : (H : Type) → List (DataW H) → Bool := fun _ ds => decide (uptoBulkAll ds ≤ 1048576)
def OpenSpec.upto (s : _root_.Go.ChangeSpec) : _root_.Go.OpenSpec := { _root_.Go.OpenSpec.ofChange s with cond := some uptoSmall }

/-- 'trivetlaw10.BookTurns', WHERE WHAT IT READS IS OF BULK AT MOST 1048576: true; the input reads as it did. -/
def bookTurnsUptoRow : OpenClaim := { program := "ytcdhnglefldalaa", sum := "c026c9d50691ad6f8758f4e21a8cd160c42ad28948410949034755d594dad8f6", func := "trivet/trivetlaw10.BookTurns", spec := "bookTurns", inPlace := ["math/bits.Add64"], unfollowed := true, recurses := true, plainKeys := false, apart := false, narrowed := true }
def BookTurnsUptoSaid : Prop := bookTurnsUptoRow.holds Try.pinned (OpenSpec.upto bookTurnsSpec)

/-- 'trivetlaw10.BookTwins', WHERE WHAT IT READS IS OF BULK AT MOST 1048576: true; the input reads as it did. -/
def bookTwinsUptoRow : OpenClaim := { program := "ytcdhnglefldalaa", sum := "c026c9d50691ad6f8758f4e21a8cd160c42ad28948410949034755d594dad8f6", func := "trivet/trivetlaw10.BookTwins", spec := "bookTwins", inPlace := ["math/bits.Add64", "maps.clone"], unfollowed := true, recurses := true, plainKeys := false, apart := false, narrowed := true }
def BookTwinsUptoSaid : Prop := bookTwinsUptoRow.holds Try.pinned (OpenSpec.upto bookTwinsSpec)

/-- 'trivetlaw10.BookBack', WHERE WHAT IT READS IS OF BULK AT MOST 1048576: true; the input reads as it did. -/
def bookBackUptoRow : OpenClaim := { program := "ytcdhnglefldalaa", sum := "c026c9d50691ad6f8758f4e21a8cd160c42ad28948410949034755d594dad8f6", func := "trivet/trivetlaw10.BookBack", spec := "bookBack", inPlace := ["math/bits.Add64"], unfollowed := true, recurses := true, plainKeys := false, apart := false, narrowed := true }
def BookBackUptoSaid : Prop := bookBackUptoRow.holds Try.pinned (OpenSpec.upto bookBackSpec)

/-- 'trivetlaw10.BookZero', WHERE WHAT IT READS IS OF BULK AT MOST 1048576: true; the input reads as it did. -/
def bookZeroUptoRow : OpenClaim := { program := "ytcdhnglefldalaa", sum := "c026c9d50691ad6f8758f4e21a8cd160c42ad28948410949034755d594dad8f6", func := "trivet/trivetlaw10.BookZero", spec := "bookZero", inPlace := ["math/bits.Add64"], unfollowed := true, recurses := true, plainKeys := false, apart := false, narrowed := true }
def BookZeroUptoSaid : Prop := bookZeroUptoRow.holds Try.pinned (OpenSpec.upto bookZeroSpec)

/-- 'trivetlaw10.BookPlays', WHERE WHAT IT READS IS OF BULK AT MOST 1048576: true; the input reads as it did. -/
def bookPlaysUptoRow : OpenClaim := { program := "ytcdhnglefldalaa", sum := "c026c9d50691ad6f8758f4e21a8cd160c42ad28948410949034755d594dad8f6", func := "trivet/trivetlaw10.BookPlays", spec := "bookPlays", inPlace := ["math/bits.Add64"], unfollowed := true, recurses := true, plainKeys := false, apart := false, narrowed := true }
def BookPlaysUptoSaid : Prop := bookPlaysUptoRow.holds Try.pinned (OpenSpec.upto bookPlaysSpec)

/-- 'trivetlaw10.BookStays', WHERE WHAT IT READS IS OF BULK AT MOST 1048576: true; the input reads as it did. -/
def bookStaysUptoRow : OpenClaim := { program := "ytcdhnglefldalaa", sum := "c026c9d50691ad6f8758f4e21a8cd160c42ad28948410949034755d594dad8f6", func := "trivet/trivetlaw10.BookStays", spec := "bookStays", inPlace := ["math/bits.Add64", "maps.clone"], unfollowed := true, recurses := true, plainKeys := false, apart := false, narrowed := true }
def BookStaysUptoSaid : Prop := bookStaysUptoRow.holds Try.pinned (OpenSpec.upto bookStaysSpec)

end Rows
end Go.Proofs.Ytcdhnglefldalaa
