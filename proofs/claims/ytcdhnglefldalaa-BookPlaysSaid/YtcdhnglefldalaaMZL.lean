import Derived.Test.YtcdhnglefldalaaMZ
namespace Go.Proofs.Ytcdhnglefldalaa.PBook
open Go.RowKit Go.Proofs.YtcdhnglefldalaaW.PrintWords Go.Proofs.YtcdhnglefldalaaW.PrintLast Go.Proofs.YtcdhnglefldalaaW.PrintMore
set_option linter.unusedVariables false
set_option linter.unusedSimpArgs false

open Go.Proofs.Ytcdhnglefldalaa.PBookPlays (S32 S34 S40 k32 k34 k40)
open Classical in
noncomputable def trivetlaw10_BookPlays.f (l0 : List S40) (a1_0 a1_1 : Int) (a2 : Int) : Option Bool := if (∀ x ∈ l0, WLs x.f2) ∧ WA ⟨a1_0, a1_1⟩ then some true else none
theorem trivetlaw10_BookPlays.calls (A0 : Option Addr) (c0 : Nat) (l0 : List S40) (a1_0 a1_1 : Int) (a2 : Int) (r : Bool) (w : World) (hr0 : Kd.C k40 w A0 l0.length l0) (hc0 : l0.length ≤ c0) (h : trivetlaw10_BookPlays.f l0 a1_0 a1_1 a2 = some r) :
    Calls Try.prog 7 #[.slice A0 l0.length c0, .agg #[.int .i64 a1_0, .int .i64 a1_1], .int .i64 a2] w fun e w' => e = .returned (.bool r) ∧ Below w.heap.size w w' := by
  unfold trivetlaw10_BookPlays.f at h
  split at h
  · rename_i q
    obtain rfl := Option.some.inj h
    exact plays_ok A0 c0 l0 ⟨a1_0, a1_1⟩ a2 w (Drc.of_C hr0) hr0.2.1 q.1 q.2
  · cases h

def good32 (x : S32) : Prop := ((Lit.int .i64 x.f0).wf = true) ∧ ((Lit.int .i64 x.f1).wf = true)
def good34 (x : S34) : Prop := (good32 x.f0) ∧ ((Lit.int .i64 x.f1).wf = true)
def good40 (x : S40) : Prop := ((Lit.int .i64 x.f0).wf = true) ∧ ((Lit.int .i64 x.f1).wf = true) ∧ (x.f2.length ≤ maxLen ∧ ∀ y ∈ x.f2, good34 y)
def trivetlaw10_BookPlays.Pure : Prop := ∀ (x0 : List (S40)) (x1 : S32) (x2 : Int), (x0.length ≤ maxLen ∧ ∀ y ∈ x0, good40 y) → (good32 x1) → ((Lit.int .i64 x2).wf = true) → trivetlaw10_BookPlays.f x0 x1.f0 x1.f1 x2 = some true
end Go.Proofs.Ytcdhnglefldalaa.PBook
