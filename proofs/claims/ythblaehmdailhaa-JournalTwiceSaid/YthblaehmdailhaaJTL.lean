import Derived.Test.YthblaehmdailhaaJT1
namespace Go.Proofs.Ythblaehmdailhaa.PJournalStays
open Go.RowKit Go.Proofs.YthblaehmdailhaaW.PrintWords Go.Proofs.YthblaehmdailhaaW.PrintLast Go.Proofs.YthblaehmdailhaaW.PrintMore
set_option linter.unusedVariables false
set_option linter.unusedSimpArgs false

def trivetlaw08_JournalTwice.f (a0 : Int) (l1 : List (List Int)) : Option Bool :=
  if (-9223372036854775808 ≤ a0 ∧ a0 ≤ 9223372036854775807) ∧ ∀ r ∈ l1, ∀ x ∈ r, 0 ≤ x ∧ x ≤ 255 then some true else none
theorem trivetlaw08_JournalTwice.calls (a0 : Int) (A1 : Option Addr) (c1 : Nat) (l1 : List (List Int)) (r : Bool) (w : World) (hr1 : Kd.C (Kd.slice 5 (Kd.int .u8)) w A1 l1.length l1) (hc1 : l1.length ≤ c1) (h : trivetlaw08_JournalTwice.f a0 l1 = some r) :
    Calls Try.prog 6 #[.int .i64 a0, .slice A1 l1.length c1] w fun e w' => e = .returned (.bool r) ∧ Below w.heap.size w w' := by
  unfold trivetlaw08_JournalTwice.f at h
  split at h
  · rename_i g
    obtain rfl := Option.some.inj h
    by_cases hl : l1.length ≤ 60
    · exact jtw_main a0 A1 c1 l1 w g.1.1 g.1.2 hr1 hl g.2
    · exact jtw_long a0 A1 c1 l1 w g.1.1 g.1.2 (by omega) hr1.2.1
  · cases h


def trivetlaw08_JournalTwice.Pure : Prop := ∀ (x0 : Int) (x1 : List (List Int)), ((Lit.int .i64 x0).wf = true) → (x1.length ≤ maxLen ∧ ∀ y ∈ x1, y.length ≤ maxLen ∧ ∀ z ∈ y, (Lit.int .u8 z).wf = true) → trivetlaw08_JournalTwice.f x0 x1 = some true
end Go.Proofs.Ythblaehmdailhaa.PJournalStays
