import Derived.Test.YtcdhnglefldalaaBD
namespace Go.Proofs.Ytcdhnglefldalaa.PBook
open Go.RowKit Go.Proofs.YtcdhnglefldalaaW.PrintWords Go.Proofs.YtcdhnglefldalaaW.PrintLast Go.Proofs.YtcdhnglefldalaaW.PrintMore
set_option linter.unusedVariables false
set_option linter.unusedSimpArgs false
open Go.Proofs.Ytcdhnglefldalaa.PBookPlays (S32 S34 S40 k32 k34 k40 z32 z34 z40 rd_T34 at_T34 rd_T40 at_T40 errEqI errEqL errEqR errNeI errNeL errNeR cents_Add.f cents_Add.calls errW errW_none errW_some)
open Go.Maps
attribute [local go_sem high] errEqI errNeI errEqL errNeL errEqR errNeR bk_eqs
/-- The first entry, if it may be posted. -/
def First (l : List S34) (lo : Nat) (n : Int) (er : Value) (R : List En) : Prop := (er = .nilIface ∧ n = 0 ∧ pgood 0 (tot []) l ∧ ∃ g c, R = [⟨g, c, l, false⟩] ∧ lo ≤ g) ∨ (∃ c, er = .iface 42 (.int .i64 c) ∧ n = 0 ∧ R = [])
theorem post_first {w : World} {B bb bm : Nat} {ev : Value} (h : Bk w B bb bm ev []) (hB : B ≤ w.heap.size) (A : Option Addr) (cap : Nat) (l : List S34) (hs : Lr w A l) (hl : l.length ≤ 65536) (hw : WLs l) : Calls Try.prog 11 #[.pointer (some ⟨bb, 0, none⟩), .slice A l.length cap] w fun e w' => ∃ (n : Int) (er : Value) (ev' : Value) (R' : List En), e = .returned (.tuple #[.int .i64 n, er]) ∧ First l w.heap.size n er R' ∧ Bk w' B bb bm ev' R' ∧ Moved w ev ev' ∧ Tn (own bb bm ev) w w' := by
  refine (bp_post h hB A cap l hs hl hw).mono ?_
  rintro e w' (⟨c, hc, rfl, hb⟩ | ⟨hg, rfl, ev', g, c, hk, hev, hgs, ht⟩)
  · exact ⟨_, _, ev, [], rfl, Or.inr ⟨c, rfl, rfl, rfl⟩, h.below hb, fun k hk => Or.inl hk, Tn.of_below hb⟩
  · exact ⟨_, _, ev', _, rfl, Or.inl ⟨rfl, rfl, hg, g, c, rfl, hgs⟩, hk, hev, ht⟩
theorem First.ne {l : List S34} {lo : Nat} {n : Int} {er : Value} {R : List En} (h : First l lo n er R) {g : Nat} (hg : g < lo) : ∀ x ∈ R, x.g ≠ g := by
  intro x hx
  rcases h with ⟨-, -, -, g', c, rfl, h⟩ | ⟨c, -, -, rfl⟩
  · rw [List.mem_singleton] at hx
    subst hx
    show g' ≠ g
    omega
  · cases hx
theorem Bk.set99 {w : World} {B bb bm g i : Nat} {ev v : Value} {R : List En} {l : List S34} (h : Bk w B bb bm ev R) (hl : LB w g l) (hne : ∀ x ∈ R, x.g ≠ g) : Bk (w.setCell ⟨g, i, none⟩ v) B bb bm ev R := by
  have t := tn_set w g i v
  obtain ⟨r, hr⟩ := hl
  have ho : ∀ k, k = g → ¬ own bb bm ev k := fun k q p => by subst q; exact h.own_line k _ p hr
  obtain ⟨N, D, h1, h2⟩ := h.map
  exact ⟨h.hb, h.hm, t.blk h.book (fun q => ho _ q (Or.inl rfl)), own_turn h.row t (fun k hk q => ho _ q (Or.inr (Or.inr hk))), fun x hx => (by
    obtain ⟨a, b, c⟩ := h.ent x hx
    exact ⟨a, b.turn t (hne x hx), c⟩), h.good, h.few, N, D, om_turn h1 t (fun q => ho _ q (Or.inr (Or.inl rfl))), h2⟩
theorem Rw.set {w : World} {A : Option Addr} {l : List S34} (h : Rw w A l) {g i : Nat} {v : Value} (hne : ∀ ad, A = some ad → ad.block ≠ g) : Rw (w.setCell ⟨g, i, none⟩ v) A l :=
  ⟨fun ad e => (by
    obtain ⟨k, e2, h2⟩ := h.1 ad e
    refine ⟨k, e2, h2.turn (tn_set w g i v) ?_⟩
    have := hne ad e
    rw [e2] at this
    exact this), h.2⟩
theorem rev_over {R : List En} {x : En} {c : Int} {n : Nat} (hn : n < 4096) (hs : shapedB x.l = true) (hz : (amts x.l).sum = 0) (h : pbad n (tot R) (ngs x.l) c) : c = 3 := by
  rcases h with ⟨h, -⟩ | ⟨-, h, -⟩ | ⟨-, -, h, -⟩ | ⟨-, -, -, -, h⟩
  · omega
  · rw [shaped_ngs, hs] at h; cases h
  · exact absurd (by rw [amts_ngs, hz]; rfl) h
  · exact h
theorem posted_head {R R' : List En} {l : List S34} {n : Int} {er : Value} (h : Posted R l n er R') {x : En} {j : Nat} (hx : R[j]? = some x) : R'[j]? = some x := by
  have hj : j < R.length := (List.getElem?_eq_some_iff.1 hx).1
  rcases h with ⟨-, -, -, g, c, rfl⟩ | ⟨c, -, -, -, rfl⟩
  · rw [List.getElem?_append_left hj]; exact hx
  · exact hx

end Go.Proofs.Ytcdhnglefldalaa.PBook
