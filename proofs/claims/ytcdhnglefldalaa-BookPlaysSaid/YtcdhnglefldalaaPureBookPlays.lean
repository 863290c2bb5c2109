/- What is posted and reversed, entries, balances and the trial, whatever is done, one behind the other: the law BookPlays returns true for every input; no condition of its own. -/
import Derived.Test.YtcdhnglefldalaaMZL
namespace Go.Proofs.Ytcdhnglefldalaa.Pure
open Go.RowKit Go.Proofs.Ytcdhnglefldalaa.PBook Go.Proofs.YtcdhnglefldalaaW.PrintWords Go.Proofs.YtcdhnglefldalaaW.PrintLast Go.Proofs.YtcdhnglefldalaaW.PrintMore
open Go.Proofs.Ytcdhnglefldalaa.PBookPlays (S32 S34 S40 k32 k34 k40)
theorem BookPlays : trivetlaw10_BookPlays.Pure := fun x0 x1 x2 h0 h1 h2 => by
  have w : ∀ l : List S34, (∀ y ∈ l, good34 y) → WLs l := fun l h x hx => ⟨⟨wf_of (h x hx).1.1, wf_of (h x hx).1.2⟩, wf_of (h x hx).2⟩
  unfold trivetlaw10_BookPlays.f
  rw [if_pos ⟨fun x hx => w x.f2 (h0.2 x hx).2.2.2, ⟨wf_of h1.1, wf_of h1.2⟩⟩]

end Go.Proofs.Ytcdhnglefldalaa.Pure
