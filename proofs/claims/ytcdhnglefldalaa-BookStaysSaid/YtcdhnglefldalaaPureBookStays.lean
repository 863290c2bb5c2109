/- Lines that are handed in stay as they are and aren't kept; what was told stays; a clone goes its own ways: the law BookStays returns true for every input; no condition of its own. -/
import Derived.Test.YtcdhnglefldalaaBT4L
namespace Go.Proofs.Ytcdhnglefldalaa.Pure
open Go.RowKit Go.Proofs.Ytcdhnglefldalaa.PBook Go.Proofs.YtcdhnglefldalaaW.PrintWords Go.Proofs.YtcdhnglefldalaaW.PrintLast Go.Proofs.YtcdhnglefldalaaW.PrintMore
open Go.Proofs.Ytcdhnglefldalaa.PBookPlays (S32 S34 S40 k32 k34 k40)
theorem BookStays : trivetlaw10_BookStays.Pure := fun x0 x1 h0 h1 => by
  have w : ∀ l : List S34, (l.length ≤ maxLen ∧ ∀ y ∈ l, good34 y) → WLs l := fun l h x hx => ⟨⟨wf_of (h.2 x hx).1.1, wf_of (h.2 x hx).1.2⟩, wf_of (h.2 x hx).2⟩
  unfold trivetlaw10_BookStays.f
  rw [if_pos ⟨w x0 h0, w x1 h1⟩]

end Go.Proofs.Ytcdhnglefldalaa.Pure
