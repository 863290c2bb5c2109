import Derived.Test.YtcdhnglefldalaaBW
namespace Go.Proofs.Ytcdhnglefldalaa.PBook
open Go.RowKit Go.Proofs.YtcdhnglefldalaaW.PrintWords Go.Proofs.YtcdhnglefldalaaW.PrintLast Go.Proofs.YtcdhnglefldalaaW.PrintMore
set_option linter.unusedVariables false
set_option linter.unusedSimpArgs false
open Go.Proofs.Ytcdhnglefldalaa.PBookPlays (S32 S34 S40 k32 k34 k40 z32 z34 z40 rd_T34 at_T34 rd_T40 at_T40 errEqI errEqL errEqR errNeI errNeL errNeR cents_Add.f cents_Add.calls errW errW_none errW_some)
open Go.Maps
attribute [local go_sem high] errEqI errNeI errEqL errNeL errEqR errNeR bk_eqs
/-- Post, whatever comes of it. -/
def Posted (R : List En) (l : List S34) (n : Int) (er : Value) (R' : List En) : Prop := (er = .nilIface ∧ n = ↑R.length ∧ pgood R.length (tot R) l ∧ ∃ g c, R' = R ++ [⟨g, c, l, false⟩]) ∨ (∃ c, er = .iface 42 (.int .i64 c) ∧ n = 0 ∧ pbad R.length (tot R) l c ∧ R' = R)
/-- Where a book lies from now on. -/
def Moved (w : World) (ev ev' : Value) : Prop := ∀ k, ev'.ownBlock = some k → ev.ownBlock = some k ∨ w.heap.size ≤ k
theorem post_any {w : World} {B bb bm : Nat} {ev : Value} {R : List En} (h : Bk w B bb bm ev R) (hB : B ≤ w.heap.size) (A : Option Addr) (cap : Nat) (l : List S34) (hs : Lr w A l) (hl : l.length ≤ 65536) (hw : WLs l) : Calls Try.prog 11 #[.pointer (some ⟨bb, 0, none⟩), .slice A l.length cap] w fun e w' => ∃ (n : Int) (er : Value) (ev' : Value) (R' : List En), e = .returned (.tuple #[.int .i64 n, er]) ∧ Posted R l n er R' ∧ Bk w' B bb bm ev' R' ∧ Moved w ev ev' ∧ Tn (own bb bm ev) w w' := by
  refine (bp_post h hB A cap l hs hl hw).mono ?_
  rintro e w' (⟨c, hc, rfl, hb⟩ | ⟨hg, rfl, ev', g, c, hk, hev, hgs, ht⟩)
  · exact ⟨_, _, ev, R, rfl, Or.inr ⟨c, rfl, rfl, hc, rfl⟩, h.below hb, fun k hk => Or.inl hk, Tn.of_below hb⟩
  · exact ⟨_, _, ev', _, rfl, Or.inl ⟨rfl, rfl, hg, g, c, rfl⟩, hk, hev, ht⟩
/-- Two books apart from one another. -/
def Dj (bb bm : Nat) (ev : Value) (bb' bm' : Nat) (ev' : Value) : Prop := ∀ k, own bb bm ev k → ¬ own bb' bm' ev' k
theorem Dj.symm {bb bm bb' bm' : Nat} {ev ev' : Value} (h : Dj bb bm ev bb' bm' ev') : Dj bb' bm' ev' bb bm ev := fun k a b => h k b a
theorem Dj.fresh {w : World} {B bb bm bb' bm' : Nat} {ev ev' : Value} {R : List En} (h : Bk w B bb bm ev R) (hf : ∀ k, own bb' bm' ev' k → w.heap.size ≤ k) : Dj bb bm ev bb' bm' ev' := fun k a b => by have := h.own_lt k a; have := hf k b; omega
theorem Dj.moved {w : World} {B bb bm bb' bm' : Nat} {ev ev2 ev' : Value} {R' : List En} (h : Dj bb bm ev bb' bm' ev') (hk : Bk w B bb' bm' ev' R') (hm : Moved w ev ev2) : Dj bb bm ev2 bb' bm' ev' := by
  intro k a b
  rcases a with a | a | a
  · exact h k (Or.inl a) b
  · exact h k (Or.inr (Or.inl a)) b
  · rcases hm k a with q | q
    · exact h k (Or.inr (Or.inr q)) b
    · have := hk.own_lt k b; omega
theorem Bk.apart {w W : World} {B B' bb bm bb' bm' : Nat} {ev ev' : Value} {R R' : List En} (h : Bk w B bb bm ev R) (h' : Bk w B' bb' bm' ev' R') (t : Tn (own bb' bm' ev') w W) (hd : Dj bb bm ev bb' bm' ev') : Bk W B bb bm ev R :=
  h.turn t (fun k cs q => h'.own_line k cs q) (fun k q p => hd k p q)
theorem LB.apart {w W : World} {B bb bm g : Nat} {ev : Value} {R : List En} {l : List S34} (h : LB w g l) (hk : Bk w B bb bm ev R) (t : Tn (own bb bm ev) w W) : LB W g l :=
  h.turn t (fun q => by obtain ⟨r, hr⟩ := h; exact hk.own_line g _ q hr)

theorem Bk.step {w0 w W : World} {B bb bm : Nat} {ev : Value} {R : List En} (h : Bk w B bb bm ev R) (hb : Below B w0 w) (hB : B ≤ w0.heap.size) (t : Tn (own bb bm ev) w W) : Below B w0 W := Tn.below hb t (Nat.le_trans hB hb.size) (fun k q => h.own_ge k q)
def upl : List S34 := [⟨⟨1, 0⟩, 5⟩, ⟨⟨5, 1⟩, -5⟩]
theorem up_w : WLs upl := by
  intro x hx
  simp [upl] at hx
  rcases hx with rfl | rfl <;> (unfold WL WA W64; simp)
theorem up_good (c : Int) (h : pbad 0 (tot []) upl c) : False := by
  rcases h with ⟨h, -⟩ | ⟨-, h, -⟩ | ⟨-, -, h, -⟩ | ⟨-, -, -, h, -⟩
  · omega
  · revert h; decide
  · exact h rfl
  · refine h (fun j x hj hx => ?_)
    have hj' : j < 2 := hj
    rcases j with _ | _ | j
    · cases hx
      refine ⟨?_, by decide⟩
      unfold W64 tot
      simp [upl, adds]
    · cases hx
      refine ⟨?_, by decide⟩
      unfold W64 tot
      simp [upl, adds]
    · omega
theorem up_tl (g c : Nat) : Tl (tot ([] ++ [⟨g, c, upl, false⟩])) upl := by
  refine ⟨by unfold upl lt3 co_less; simp, fun x => ?_⟩
  have ht : ∀ a, tot ([] ++ [(⟨g, c, upl, false⟩ : En)]) a = adds upl a := fun a => by simp [tot]
  rw [ht]
  constructor
  · intro hx
    refine ⟨(up_w x hx).1, ?_⟩
    simp [upl] at hx
    rcases hx with rfl | rfl <;> simp [upl, adds]
  · rintro ⟨-, h2, h3⟩
    obtain ⟨a, v⟩ := x
    simp only at h2 h3
    by_cases p : (⟨1, 0⟩ : S32) = a
    · subst p
      have : v = 5 := by rw [h2]; simp [upl, adds]
      subst this
      simp [upl]
    · by_cases q : (⟨5, 1⟩ : S32) = a
      · subst q
        have : v = -5 := by rw [h2]; simp [upl, adds]
        subst this
        simp [upl]
      · refine absurd ?_ h3
        rw [h2]
        simp [upl, adds, p, q]
set_option maxRecDepth 100000 in
theorem bl_up (w : World) : Calls Try.prog 9 #[] w fun e w' => e = .returned (.bool true) ∧ Below w.heap.size w w' := by
  have N := Aside0.mk (fun W => bk_new W)
  go_enter Try.func9, Try.ntmps9
  go_wp2_with fail
  refine (N.out w).mono ?_
  rintro e w1 ⟨bb, bm, rfl, hk, hb⟩
  have HK := Aside0.mk hk
  have HB := Aside0.mk hb
  clear hk hb
  go_wp2_with fail
  have al := below_alloc (Below.refl w1.heap.size w1) (Obj.cells #[.int .i64 1, .int .i64 0, .int .i64 5, .int .i64 5, .int .i64 1, .int .i64 (-5)] 34)
  have hbn := blk_new w1 (Obj.cells #[.int .i64 1, .int .i64 0, .int .i64 5, .int .i64 5, .int .i64 1, .int .i64 (-5)] 34)
  have hK2 := HK.out.below al
  have B2 := Aside0.mk (below_step HB.out al)
  have HSZ := Aside0.mk HB.out.size
  generalize w1.alloc (Obj.cells #[.int .i64 1, .int .i64 0, .int .i64 5, .int .i64 5, .int .i64 1, .int .i64 (-5)] 34) = w2 at hbn hK2 B2 ⊢
  have hlb : LB w2 w1.heap.size upl := ⟨[], hbn⟩
  refine (post_any hK2 B2.out.size (some ⟨w1.heap.size, 0, none⟩) 2 upl hlb.lr (by decide) up_w).mono ?_
  rintro e w3 ⟨n, er, ev', R', rfl, hp, hk, hm, ht⟩
  rcases hp with ⟨rfl, rfl, -, g, c, rfl⟩ | ⟨c, -, -, hbad, -⟩
  · have HK3 := Aside0.mk hk
    have B3 := Aside0.mk (hK2.step B2.out (Nat.le_refl _) ht)
    have HT := Aside0.mk (up_tl g c)
    clear hk hm ht al hbn hK2 hlb
    go_wp2_with fail
    refine (bv_trial HK3.out).mono ?_
    rintro e w4 ⟨A, c4, t, rfl, htl, -, hA1, hA2, hb4⟩
    have et := htl.same HT.out (fun a _ => rfl)
    subst et
    cases A with
    | none => cases hA2 rfl
    | some ad =>
      obtain ⟨g4, rfl, -, hl4⟩ := hA1 ad rfl
      have B4 := Aside0.mk (below_step B3.out hb4)
      obtain ⟨k0, k1, k2⟩ := hl4.cells (j := 0) (x := ⟨⟨1, 0⟩, 5⟩) rfl
      obtain ⟨q0, q1, q2⟩ := hl4.cells (j := 1) (x := ⟨⟨5, 1⟩, -5⟩) rfl
      clear hA1 hA2 hl4 hb4 htl
      simp only [Nat.zero_mul, Nat.one_mul, Nat.zero_add, Nat.reduceAdd] at k0 k1 k2 q0 q1 q2
      have eln : (↑upl.length : Int) = 2 := rfl
      have eln2 : upl.length = 2 := rfl
      rw [eln2]
      go_wp2_with fail
      go_ret
      exact ⟨rfl, B4.out⟩
  · exact (up_good c hbad).elim

end Go.Proofs.Ytcdhnglefldalaa.PBook
