import Derived.Test.YtcdhnglefldalaaBL
namespace Go.Proofs.Ytcdhnglefldalaa.PBook
open Go.RowKit Go.Proofs.YtcdhnglefldalaaW.PrintWords Go.Proofs.YtcdhnglefldalaaW.PrintLast Go.Proofs.YtcdhnglefldalaaW.PrintMore
set_option linter.unusedVariables false
set_option linter.unusedSimpArgs false
open Go.Proofs.Ytcdhnglefldalaa.PBookPlays (S32 S34 S40 k32 k34 k40 z32 z34 z40 rd_T34 at_T34 rd_T40 at_T40 errEqI errEqL errEqR errNeI errNeL errNeR cents_Add.f cents_Add.calls errW errW_none errW_some)
open Go.Maps
attribute [local go_sem high] errEqI errNeI errEqL errNeL errEqR errNeR bk_eqs
theorem Dj.moved2 {w W : World} {B B' bb bm bb' bm' : Nat} {ev ev2 ev' : Value} {R' R'' : List En} (h : Dj bb bm ev bb' bm' ev') (_hW : Bk W B' bb' bm' ev' R'') (hk : Bk w B bb' bm' ev' R') (hm : Moved w ev ev2) : Dj bb bm ev2 bb' bm' ev' := h.moved hk hm
theorem gb_at {w : World} {a : Addr} {v : Value} (h : w.cell? a = some v) (p : GWrld w) : p.w'.cell? a = some v := (p.b.cell (World.block_lt_of_cell? w _ h)).trans h
theorem tr_lr {W : World} {A : Option Addr} {t : List S34} {n : Nat} (h1 : ∀ ad, A = some ad → ∃ g, ad = ⟨g, 0, none⟩ ∧ n ≤ g ∧ LB W g t) (h2 : A = none → t = []) : Lr W A t := by
  cases A with
  | none => rw [h2 rfl]; intro j x hx; cases hx
  | some ad =>
    obtain ⟨g, rfl, -, h⟩ := h1 ad rfl
    exact h.lr
set_option maxRecDepth 100000 in
set_option maxHeartbeats 4000000 in
theorem turns_ok (A0 : Option Addr) (c0 : Nat) (l0 : List S34) (A1 : Option Addr) (c1 : Nat) (l1 : List S34) (w : World) (hA0 : Lr w A0 l0) (hA1 : Lr w A1 l1) (hw0 : WLs l0) (hw1 : WLs l1) : Calls Try.prog 3 #[.slice A0 l0.length c0, .slice A1 l1.length c1] w fun e w' => e = .returned (.bool true) ∧ Below w.heap.size w w' := by
  have HA0 := Aside0.mk hA0
  have HA1 := Aside0.mk hA1
  have HWl0 := Aside0.mk hw0
  have HWl1 := Aside0.mk hw1
  have U := Aside0.mk (fun W => bl_up W)
  have NW := Aside0.mk (fun W => bk_new W)
  clear hA0 hA1 hw0 hw1
  by_cases p : (↑l0.length : Int) > 100
  · go_enter Try.func3, Try.ntmps3
    go_wp2_with fail
    refine (U.out w).mono ?_
    rintro e w1 ⟨rfl, hb1⟩
    go_wp2_with fail
    go_ret
    exact ⟨rfl, hb1⟩
  by_cases q : (↑l1.length : Int) > 100
  · go_enter Try.func3, Try.ntmps3
    go_wp2_with fail
    refine (U.out w).mono ?_
    rintro e w1 ⟨rfl, hb1⟩
    go_wp2_with fail
    go_ret
    exact ⟨rfl, hb1⟩
  go_enter Try.func3, Try.ntmps3
  go_wp2_with fail
  refine (U.out w).mono ?_
  rintro e w1 ⟨rfl, hb1⟩
  have HB0 := Aside0.mk hb1
  clear hb1
  go_wp2_with fail
  refine (NW.out w1).mono ?_
  rintro e w1' ⟨bx, mx, rfl, hk, hb⟩
  have HKx1 := Aside0.mk (hk.lower HB0.out.size)
  have HB1 := Aside0.mk (below_step HB0.out hb)
  clear hk hb
  go_wp2_with fail
  refine (NW.out w1').mono ?_
  rintro e w2 ⟨by_, my, rfl, hk, hb⟩
  have HKx2 := Aside0.mk (HKx1.out.below hb)
  have HKy2 := Aside0.mk (hk.lower HB1.out.size)
  have HD2 := Aside0.mk (Dj.fresh HKx1.out (fun k q => hk.own_ge k q))
  have HB2 := Aside0.mk (below_step HB1.out hb)
  clear hk hb
  go_wp2_with fail
  · skip
    refine (post_any HKx2.out (HB2.out.size) A0 c0 l0 (HA0.out.below HB2.out) (by omega) HWl0.out).mono ?_
    rintro e w3 ⟨n3, er3, vx3, Rx3, rfl, hp, hk, hm, ht⟩
    have hoo := (HKy2.out).apart HKx2.out ht HD2.out.symm
    have P3 := Aside0.mk hp
    have HKx3 := Aside0.mk hk
    have HKy3 := Aside0.mk hoo
    have hd := HD2.out
    have HD3 := Aside0.mk (hd.moved2 hoo HKy2.out hm)
    have HB3 := Aside0.mk ((HKx2.out).step HB2.out (Nat.le_refl _) ht)
    clear hp hk hoo hm ht hd
    go_wp2_with fail
    refine (post_any HKx3.out (HB3.out.size) A1 c1 l1 (HA1.out.below HB3.out) (by omega) HWl1.out).mono ?_
    rintro e w4 ⟨n4, er4, vx4, Rx4, rfl, hp, hk, hm, ht⟩
    have hoo := (HKy3.out).apart HKx3.out ht HD3.out.symm
    have P4 := Aside0.mk hp
    have HKx4 := Aside0.mk hk
    have HKy4 := Aside0.mk hoo
    have hd := HD3.out
    have HD4 := Aside0.mk (hd.moved2 hoo HKy3.out hm)
    have HB4 := Aside0.mk ((HKx3.out).step HB3.out (Nat.le_refl _) ht)
    clear hp hk hoo hm ht hd
    go_wp2_with fail
    refine (post_any HKy4.out (HB4.out.size) A1 c1 l1 (HA1.out.below HB4.out) (by omega) HWl1.out).mono ?_
    rintro e w5 ⟨n5, er5, vy5, Ry5, rfl, hp, hk, hm, ht⟩
    have hoo := (HKx4.out).apart HKy4.out ht HD4.out
    have P5 := Aside0.mk hp
    have HKy5 := Aside0.mk hk
    have HKx5 := Aside0.mk hoo
    have hd := HD4.out
    have HD5 := Aside0.mk ((hd.symm.moved2 hoo HKx4.out hm).symm)
    have HB5 := Aside0.mk ((HKy4.out).step HB4.out (Nat.le_refl _) ht)
    clear hp hk hoo hm ht hd
    go_wp2_with fail
    refine (post_any HKy5.out (HB5.out.size) A0 c0 l0 (HA0.out.below HB5.out) (by omega) HWl0.out).mono ?_
    rintro e w6 ⟨n6, er6, vy6, Ry6, rfl, hp, hk, hm, ht⟩
    have hoo := (HKx5.out).apart HKy5.out ht HD5.out
    have P6 := Aside0.mk hp
    have HKy6 := Aside0.mk hk
    have HKx6 := Aside0.mk hoo
    have hd := HD5.out
    have HD6 := Aside0.mk ((hd.symm.moved2 hoo HKx5.out hm).symm)
    have HB6 := Aside0.mk ((HKy5.out).step HB5.out (Nat.le_refl _) ht)
    clear hp hk hoo hm ht hd
    rcases P3.out with ⟨e, -, -, g3, cc3, r⟩ | ⟨cb, e, -⟩
    rotate_left
    · subst e
      go_wp2_with fail
      go_ret
      exact ⟨rfl, HB6.out⟩
    subst e
    subst r
    rcases P4.out with ⟨e, -, -, g4, cc4, r⟩ | ⟨cb, e, -⟩
    rotate_left
    · subst e
      go_wp2_with fail
      go_ret
      exact ⟨rfl, HB6.out⟩
    subst e
    subst r
    rcases P5.out with ⟨e, -, -, g5, cc5, r⟩ | ⟨cb, e, -⟩
    rotate_left
    · subst e
      go_wp2_with fail
      go_ret
      exact ⟨rfl, HB6.out⟩
    subst e
    subst r
    rcases P6.out with ⟨e, -, -, g6, cc6, r⟩ | ⟨cb, e, -⟩
    rotate_left
    · subst e
      go_wp2_with fail
      go_ret
      exact ⟨rfl, HB6.out⟩
    subst e
    subst r
    go_wp2_with fail
    refine (bv_trial HKx6.out).mono ?_
    rintro e w7 ⟨A7, c7, s, rfl, hs, hsl, hA, hAn, hb⟩
    have HS7 := Aside0.mk (tr_lr hA hAn)
    have HB7 := Aside0.mk (below_step HB6.out hb)
    have HKy7 := Aside0.mk (HKy6.out.below hb)
    have TS := Aside0.mk hs
    clear hs hA hAn hb
    go_wp2_with fail
    refine (bv_trial HKy7.out).mono ?_
    rintro e w8 ⟨A8, c8, t, rfl, ht, -, hA, hAn, hb⟩
    have HT8 := Aside0.mk (tr_lr hA hAn)
    have HS8 := Aside0.mk (HS7.out.below hb)
    have HB8 := Aside0.mk (below_step HB7.out hb)
    have et : t = s := ht.same TS.out (fun a _ => by rw [tot_snoc, tot_snoc, tot_snoc, tot_snoc]; show tot [] a + adds l1 a + adds l0 a = tot [] a + adds l0 a + adds l1 a; omega)
    clear ht hA hAn hb
    subst et
    obtain ⟨ln, hln⟩ : ∃ ln, t.length = ln := ⟨_, rfl⟩
    have HLN := Aside0.mk hln
    rw [hln] at hsl ⊢
    clear hln
    go_wp2_with fail
    go_loopw [18] (fun v18 wr => ∃ i : Nat, v18 = .int .i64 ↑i ∧ Aside0 (i ≤ ln ∧ Below w8.heap.size w8 wr)) (fun v18 _ => (ln - intOf v18).toNat)
    case atStart => exact ⟨0, rfl, ⟨Nat.zero_le _, Below.refl _ _⟩⟩
    case round =>
      obtain ⟨i, rfl, HI⟩ := hrel
      by_cases ci : i < ln
      · have ci2 : (↑i : Int) < ↑ln := by omega
        have i0 : (0 : Int) ≤ ↑i := by omega
        obtain ⟨x, hx⟩ : ∃ x, t[i]? = some x := ⟨t[i]'(by rw [HLN.out]; exact ci), List.getElem?_eq_getElem _⟩
        obtain ⟨ad, rfl, k0, k1, k2⟩ := (HS8.out.below HI.out.2) i x hx
        obtain ⟨ae, rfl, q0, q1, q2⟩ := (HT8.out.below HI.out.2) i x hx
        have a0 := fun p : GWrld wr => gb_at k0 p
        have a1 := fun p : GWrld wr => bb_cell k1 p
        have a2 := fun p : GWrld wr => bb_cell k2 p
        have b0 := fun p : GWrld wr => gb_at q0 p
        have b1 := fun p : GWrld wr => bb_cell q1 p
        have b2 := fun p : GWrld wr => bb_cell q2 p
        clear k0 k1 k2 q0 q1 q2 hx
        go_wp2_with fail
        refine gb_region (by kernel_rfl) (by kernel_rfl) ?_
        repeat (go_big_quiet_step (fail))
        refine wpQuiet_nil ?_
        intro _ hw'
        obtain ⟨gq, hw''⟩ := hw'
        subst hw''
        have B9 := Aside0.mk (below_step HI.out.2 gq.b)
        clear a0 a1 a2 b0 b1 b2
        go_wp2_with fail
        exact ⟨⟨i + 1, rfl, ⟨by omega, B9.out⟩⟩, by simp [intOf]; omega⟩
      · have ci2 : ¬ (↑i : Int) < ↑ln := by omega
        go_wp2_with fail
        go_ret
        exact ⟨rfl, below_step HB8.out HI.out.2⟩


end Go.Proofs.Ytcdhnglefldalaa.PBook
