import Derived.Test.YtcdhnglefldalaaBL
namespace Go.Proofs.Ytcdhnglefldalaa.PBook
open Go.RowKit Go.Proofs.YtcdhnglefldalaaW.PrintWords Go.Proofs.YtcdhnglefldalaaW.PrintLast Go.Proofs.YtcdhnglefldalaaW.PrintMore
set_option linter.unusedVariables false
set_option linter.unusedSimpArgs false
open Go.Proofs.Ytcdhnglefldalaa.PBookPlays (S32 S34 S40 k32 k34 k40 z32 z34 z40 rd_T34 at_T34 rd_T40 at_T40 errEqI errEqL errEqR errNeI errNeL errNeR cents_Add.f cents_Add.calls errW errW_none errW_some)
open Go.Maps
attribute [local go_sem high] errEqI errNeI errEqL errNeL errEqR errNeR bk_eqs
/-- A row of lines that lies in a block of its own (or is nil). -/
def Rw (w : World) (A : Option Addr) (l : List S34) : Prop := (∀ ad, A = some ad → ∃ g, ad = ⟨g, 0, none⟩ ∧ LB w g l) ∧ (A = none → l = [])
theorem Rw.mk {w : World} {g : Nat} {l : List S34} (h : LB w g l) : Rw w (some ⟨g, 0, none⟩) l := ⟨fun ad e => (by cases e; exact ⟨g, rfl, h⟩), fun e => by cases e⟩
theorem Rw.lr {w : World} {A : Option Addr} {l : List S34} (h : Rw w A l) : Lr w A l := by
  cases A with
  | none => rw [h.2 rfl]; intro j x hx; cases hx
  | some ad =>
    obtain ⟨g, e, h2⟩ := h.1 ad rfl
    rw [e]
    exact LB.lr h2
theorem Rw.below {w W : World} {A : Option Addr} {l : List S34} (h : Rw w A l) (t : Below w.heap.size w W) : Rw W A l :=
  ⟨fun ad e => (by obtain ⟨g, e2, h2⟩ := h.1 ad e; exact ⟨g, e2, h2.turn (S := fun _ => False) (Tn.of_below t) id⟩), h.2⟩
theorem Rw.apart {w W : World} {B bb bm : Nat} {ev : Value} {R : List En} {A : Option Addr} {l : List S34} (h : Rw w A l) (hk : Bk w B bb bm ev R) (t : Tn (own bb bm ev) w W) : Rw W A l :=
  ⟨fun ad e => (by obtain ⟨g, e2, h2⟩ := h.1 ad e; exact ⟨g, e2, h2.apart hk t⟩), h.2⟩
theorem tr_any {w : World} {B bb bm : Nat} {ev : Value} {R : List En} (h : Bk w B bb bm ev R) : Calls Try.prog 12 #[.pointer (some ⟨bb, 0, none⟩)] w fun e w' => ∃ A c t, e = .returned (.slice A t.length c) ∧ Tl (tot R) t ∧ t.length ≤ 131072 ∧ Rw w' A t ∧ Below w.heap.size w w' := by
  refine (bv_trial h).mono ?_
  rintro e w' ⟨A, c, t, rfl, h1, h2, h3, h4, h5⟩
  exact ⟨A, c, t, rfl, h1, h2, ⟨fun ad e => (by obtain ⟨g, a, -, b⟩ := h3 ad e; exact ⟨g, a, b⟩), h4⟩, h5⟩
instance : DecidableEq S34 := fun a b => by
  obtain ⟨a0, a1⟩ := a
  obtain ⟨b0, b1⟩ := b
  exact decidable_of_iff (a0 = b0 ∧ a1 = b1) ⟨fun h => by rw [h.1, h.2], fun h => by cases h; exact ⟨rfl, rfl⟩⟩
theorem gb_at {w : World} {a : Addr} {v : Value} (h : w.cell? a = some v) (p : GWrld w) : p.w'.cell? a = some v := (p.b.cell (World.block_lt_of_cell? w _ h)).trans h
set_option maxRecDepth 100000 in
set_option maxHeartbeats 4000000 in
theorem same_dec {w : World} {A0 A1 : Option Addr} {l0 l1 : List S34} (h0 : Lr w A0 l0) (h1 : Lr w A1 l1) (c0 c1 : Nat) (hl : l0.length ≤ 4611686018427387904) (hl1 : l1.length ≤ 4611686018427387904) : Calls Try.prog 16 #[.slice A0 l0.length c0, .slice A1 l1.length c1] w fun e w' => e = .returned (.bool (decide (l0 = l1))) ∧ Below w.heap.size w w' := by
  obtain ⟨r, hr⟩ : ∃ r, decide (l0 = l1) = r := ⟨_, rfl⟩
  rw [hr]
  have HR := Aside0.mk hr
  clear hr
  have H0 := Aside0.mk h0
  have H1 := Aside0.mk h1
  clear h0 h1
  obtain ⟨ln, hln⟩ : ∃ ln, l0.length = ln := ⟨_, rfl⟩
  obtain ⟨lm, hlm⟩ : ∃ lm, l1.length = lm := ⟨_, rfl⟩
  have HLN := Aside0.mk hln
  have HLM := Aside0.mk hlm
  rw [hln] at hl ⊢
  rw [hlm] at hl1 ⊢
  clear hln hlm
  by_cases e : ln = lm
  rotate_left
  · have e2 : ¬ (↑ln : Int) = ↑lm := by omega
    go_enter Try.func16, Try.ntmps16
    go_wp2_with fail
    go_ret
    have hr : r = false := by
      rw [← HR.out]
      exact decide_eq_false (fun q => by have a := HLN.out; have b := HLM.out; rw [q] at a; omega)
    rw [hr]
    exact ⟨rfl, Below.refl _ _⟩
  subst e
  go_enter Try.func16, Try.ntmps16
  go_wp2_with fail
  go_loopw [5] (fun v5 wr => ∃ i : Nat, v5 = .int .i64 ↑i ∧ Aside0 (i ≤ ln ∧ l0.take i = l1.take i ∧ Below w.heap.size w wr)) (fun v5 _ => (ln - intOf v5).toNat)
  case atStart => exact ⟨0, rfl, ⟨Nat.zero_le _, rfl, Below.refl _ _⟩⟩
  case round =>
    obtain ⟨i, rfl, HI⟩ := hrel
    by_cases ci : i < ln
    · have ci2 : (↑i : Int) < ↑ln := by omega
      have i0 : (0 : Int) ≤ ↑i := by omega
      obtain ⟨x, hx⟩ : ∃ x, l0[i]? = some x := ⟨l0[i]'(by rw [HLN.out]; exact ci), List.getElem?_eq_getElem _⟩
      obtain ⟨y, hy⟩ : ∃ y, l1[i]? = some y := ⟨l1[i]'(by rw [HLM.out]; exact ci), List.getElem?_eq_getElem _⟩
      obtain ⟨ad, rfl, k0, k1, k2⟩ := (H0.out.below HI.out.2.2) i x hx
      obtain ⟨ae, rfl, q0, q1, q2⟩ := (H1.out.below HI.out.2.2) i y hy
      have a0 := fun p : GWrld wr => gb_at k0 p
      have a1 := fun p : GWrld wr => bb_cell k1 p
      have a2 := fun p : GWrld wr => bb_cell k2 p
      have b0 := fun p : GWrld wr => gb_at q0 p
      have b1 := fun p : GWrld wr => bb_cell q1 p
      have b2 := fun p : GWrld wr => bb_cell q2 p
      have HX := Aside0.mk hx
      have HY := Aside0.mk hy
      clear k0 k1 k2 q0 q1 q2 hx hy
      have hc : ((x.f0.f0 == y.f0.f0) = false ∧ x ≠ y) ∨ ((x.f0.f1 == y.f0.f1) = false ∧ x ≠ y) ∨ ((x.f1 == y.f1) = false ∧ x ≠ y) ∨ x = y := by
        by_cases p0 : x.f0.f0 = y.f0.f0
        · by_cases p1 : x.f0.f1 = y.f0.f1
          · by_cases p2 : x.f1 = y.f1
            · refine Or.inr (Or.inr (Or.inr ?_))
              obtain ⟨⟨a, b⟩, c⟩ := x
              obtain ⟨⟨a', b'⟩, c'⟩ := y
              simp only at p0 p1 p2
              rw [p0, p1, p2]
            · exact Or.inr (Or.inr (Or.inl ⟨beq_eq_false_iff_ne.2 p2, fun q => p2 (by rw [q])⟩))
          · exact Or.inr (Or.inl ⟨beq_eq_false_iff_ne.2 p1, fun q => p1 (by rw [q])⟩)
        · exact Or.inl ⟨beq_eq_false_iff_ne.2 p0, fun q => p0 (by rw [q])⟩
      rcases hc with ⟨pc, hne⟩ | ⟨pc, hne⟩ | ⟨pc, hne⟩ | rfl
      iterate 3
        · have HNE := Aside0.mk hne
          clear hne
          go_wp2_with fail
          refine gb_region (by kernel_rfl) (by kernel_rfl) ?_
          repeat (go_big_quiet_step (fail))
          refine wpQuiet_nil ?_
          intro _ hw'
          obtain ⟨gq, hw''⟩ := hw'
          subst hw''
          have B9 := Aside0.mk (below_step HI.out.2.2 gq.b)
          clear a0 a1 a2 b0 b1 b2
          go_wp2_with fail
          go_ret
          have hr : r = false := by
            rw [← HR.out]
            exact decide_eq_false (fun q => by have a := HX.out; rw [q, HY.out] at a; exact HNE.out (Option.some.inj a).symm)
          rw [hr]
          exact ⟨rfl, B9.out⟩
      · go_wp2_with fail
        refine gb_region (by kernel_rfl) (by kernel_rfl) ?_
        repeat (go_big_quiet_step (fail))
        refine wpQuiet_nil ?_
        intro _ hw'
        obtain ⟨gq, hw''⟩ := hw'
        subst hw''
        have B9 := Aside0.mk (below_step HI.out.2.2 gq.b)
        clear a0 a1 a2 b0 b1 b2
        go_wp2_with fail
        exact ⟨⟨i + 1, rfl, ⟨by omega, by rw [List.take_add_one, List.take_add_one, HI.out.2.1, HX.out, HY.out], B9.out⟩⟩, by simp [intOf]; omega⟩
    · have ci2 : ¬ (↑i : Int) < ↑ln := by omega
      have hi : i = ln := by have := HI.out.1; omega
      go_wp2_with fail
      go_ret
      have e := HI.out.2.1
      rw [List.take_of_length_le (by rw [HLN.out]; omega), List.take_of_length_le (by rw [HLM.out]; omega)] at e
      have hr : r = true := by
        rw [← HR.out]
        exact decide_eq_true e
      rw [hr]
      exact ⟨rfl, HI.out.2.2⟩

end Go.Proofs.Ytcdhnglefldalaa.PBook
