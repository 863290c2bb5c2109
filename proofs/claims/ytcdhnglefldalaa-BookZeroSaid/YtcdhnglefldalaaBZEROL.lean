import Derived.Test.YtcdhnglefldalaaBZERO
namespace Go.Proofs.Ytcdhnglefldalaa.PBook
open Go.RowKit Go.Proofs.YtcdhnglefldalaaW.PrintWords Go.Proofs.YtcdhnglefldalaaW.PrintLast Go.Proofs.YtcdhnglefldalaaW.PrintMore
set_option linter.unusedVariables false
set_option linter.unusedSimpArgs false

open Go.Proofs.Ytcdhnglefldalaa.PBookPlays (S32 S34 S40 k32 k34 k40)
open Classical in
noncomputable def trivetlaw10_BookZero.f (l0 : List S40) : Option Bool := if (∀ x ∈ l0, WLs x.f2) then some true else none
theorem trivetlaw10_BookZero.calls (A0 : Option Addr) (c0 : Nat) (l0 : List S40) (r : Bool) (w : World) (hr0 : Kd.C k40 w A0 l0.length l0) (hc0 : l0.length ≤ c0) (h : trivetlaw10_BookZero.f l0 = some r) :
    Calls Try.prog 6 #[.slice A0 l0.length c0] w fun e w' => e = .returned (.bool r) ∧ Below w.heap.size w w' := by
  unfold trivetlaw10_BookZero.f at h
  split at h
  · rename_i q
    obtain rfl := Option.some.inj h
    exact zero_ok A0 c0 l0 w (Dr.of_C hr0) hr0.2.1 q
  · cases h

def good32 (x : S32) : Prop := ((Lit.int .i64 x.f0).wf = true) ∧ ((Lit.int .i64 x.f1).wf = true)
def good34 (x : S34) : Prop := (good32 x.f0) ∧ ((Lit.int .i64 x.f1).wf = true)
def good40 (x : S40) : Prop := ((Lit.int .i64 x.f0).wf = true) ∧ ((Lit.int .i64 x.f1).wf = true) ∧ (x.f2.length ≤ maxLen ∧ ∀ y ∈ x.f2, good34 y)
def trivetlaw10_BookZero.Pure : Prop := ∀ (x0 : List (S40)), (x0.length ≤ maxLen ∧ ∀ y ∈ x0, good40 y) → trivetlaw10_BookZero.f x0 = some true
end Go.Proofs.Ytcdhnglefldalaa.PBook
