import Derived.Test.YtcdhnglefldalaaBT3
namespace Go.Proofs.Ytcdhnglefldalaa.PBook
open Go.RowKit Go.Proofs.YtcdhnglefldalaaW.PrintWords Go.Proofs.YtcdhnglefldalaaW.PrintLast Go.Proofs.YtcdhnglefldalaaW.PrintMore
set_option linter.unusedVariables false
set_option linter.unusedSimpArgs false

open Go.Proofs.Ytcdhnglefldalaa.PBookPlays (S32 S34 S40 k32 k34 k40)
open Classical in
noncomputable def trivetlaw10_BookBack.f (l0 : List S40) (l1 : List S34) : Option Bool := if (∀ x ∈ l0, WLs x.f2) ∧ WLs l1 then some true else none
theorem trivetlaw10_BookBack.calls (A0 : Option Addr) (c0 : Nat) (l0 : List S40) (A1 : Option Addr) (c1 : Nat) (l1 : List S34) (r : Bool) (w : World) (hr0 : Kd.C k40 w A0 l0.length l0) (hc0 : l0.length ≤ c0) (hr1 : Kd.C k34 w A1 l1.length l1) (hc1 : l1.length ≤ c1) (h : trivetlaw10_BookBack.f l0 l1 = some r) :
    Calls Try.prog 5 #[.slice A0 l0.length c0, .slice A1 l1.length c1] w fun e w' => e = .returned (.bool r) ∧ Below w.heap.size w w' := by
  unfold trivetlaw10_BookBack.f at h
  split at h
  · rename_i q
    obtain rfl := Option.some.inj h
    exact back_ok A0 c0 l0 A1 c1 l1 w (Dr.of_C hr0) (Lr.of_C hr1) hr0.2.1 q.1 q.2
  · cases h

def good32 (x : S32) : Prop := ((Lit.int .i64 x.f0).wf = true) ∧ ((Lit.int .i64 x.f1).wf = true)
def good34 (x : S34) : Prop := (good32 x.f0) ∧ ((Lit.int .i64 x.f1).wf = true)
def good40 (x : S40) : Prop := ((Lit.int .i64 x.f0).wf = true) ∧ ((Lit.int .i64 x.f1).wf = true) ∧ (x.f2.length ≤ maxLen ∧ ∀ y ∈ x.f2, good34 y)
def trivetlaw10_BookBack.Pure : Prop := ∀ (x0 : List (S40)) (x1 : List (S34)), (x0.length ≤ maxLen ∧ ∀ y ∈ x0, good40 y) → (x1.length ≤ maxLen ∧ ∀ y ∈ x1, good34 y) → trivetlaw10_BookBack.f x0 x1 = some true
end Go.Proofs.Ytcdhnglefldalaa.PBook
