import Derived.Test.YtcdhnglefldalaaBT4
namespace Go.Proofs.Ytcdhnglefldalaa.PBook
open Go.RowKit Go.Proofs.YtcdhnglefldalaaW.PrintWords Go.Proofs.YtcdhnglefldalaaW.PrintLast Go.Proofs.YtcdhnglefldalaaW.PrintMore
set_option linter.unusedVariables false
set_option linter.unusedSimpArgs false

open Go.Proofs.Ytcdhnglefldalaa.PBookPlays (S32 S34 S40 k32 k34 k40)
open Classical in
noncomputable def trivetlaw10_BookStays.f (l0 l1 : List S34) : Option Bool := if WLs l0 ∧ WLs l1 then some true else none
theorem trivetlaw10_BookStays.calls (A0 : Option Addr) (c0 : Nat) (l0 : List S34) (A1 : Option Addr) (c1 : Nat) (l1 : List S34) (r : Bool) (w : World) (hr0 : Kd.C k34 w A0 l0.length l0) (hc0 : l0.length ≤ c0) (hr1 : Kd.C k34 w A1 l1.length l1) (hc1 : l1.length ≤ c1) (h : trivetlaw10_BookStays.f l0 l1 = some r) :
    Calls Try.prog 8 #[.slice A0 l0.length c0, .slice A1 l1.length c1] w fun e w' => e = .returned (.bool r) ∧ Below w.heap.size w w' := by
  unfold trivetlaw10_BookStays.f at h
  split at h
  · rename_i q
    obtain rfl := Option.some.inj h
    exact stays_ok A0 c0 l0 A1 c1 l1 w (Lr.of_C hr0) (Lr.of_C hr1) q.1 q.2
  · cases h

def good32 (x : S32) : Prop := ((Lit.int .i64 x.f0).wf = true) ∧ ((Lit.int .i64 x.f1).wf = true)
def good34 (x : S34) : Prop := (good32 x.f0) ∧ ((Lit.int .i64 x.f1).wf = true)
def trivetlaw10_BookStays.Pure : Prop := ∀ (x0 : List (S34)) (x1 : List (S34)), (x0.length ≤ maxLen ∧ ∀ y ∈ x0, good34 y) → (x1.length ≤ maxLen ∧ ∀ y ∈ x1, good34 y) → trivetlaw10_BookStays.f x0 x1 = some true
end Go.Proofs.Ytcdhnglefldalaa.PBook
