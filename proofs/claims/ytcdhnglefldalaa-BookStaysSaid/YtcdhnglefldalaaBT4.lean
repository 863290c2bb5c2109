import Derived.Test.YtcdhnglefldalaaBE
namespace Go.Proofs.Ytcdhnglefldalaa.PBook
open Go.RowKit Go.Proofs.YtcdhnglefldalaaW.PrintWords Go.Proofs.YtcdhnglefldalaaW.PrintLast Go.Proofs.YtcdhnglefldalaaW.PrintMore
set_option linter.unusedVariables false
set_option linter.unusedSimpArgs false
open Go.Proofs.Ytcdhnglefldalaa.PBookPlays (S32 S34 S40 k32 k34 k40 z32 z34 z40 rd_T34 at_T34 rd_T40 at_T40 errEqI errEqL errEqR errNeI errNeL errNeR cents_Add.f cents_Add.calls errW errW_none errW_some)
open Go.Maps
attribute [local go_sem high] errEqI errNeI errEqL errNeL errEqR errNeR bk_eqs
set_option maxRecDepth 100000 in
set_option maxHeartbeats 8000000 in
theorem stays_ok (A0 : Option Addr) (c0 : Nat) (l0 : List S34) (A1 : Option Addr) (c1 : Nat) (l1 : List S34) (w : World) (hA0 : Lr w A0 l0) (hA1 : Lr w A1 l1) (hw0 : WLs l0) (hw1 : WLs l1) : Calls Try.prog 8 #[.slice A0 l0.length c0, .slice A1 l1.length c1] w fun e w' => e = .returned (.bool true) ∧ Below w.heap.size w w' := by
  have HA0 := Aside0.mk hA0
  have HA1 := Aside0.mk hA1
  have HWl0 := Aside0.mk hw0
  have HWl1 := Aside0.mk hw1
  have U := Aside0.mk (fun W => bl_up W)
  obtain ⟨i0, hi, hz0, hz1, hz2⟩ := info_parts b_info34
  have HI34 := Aside0.mk hi
  have hln := lns_len l0
  clear hA0 hA1 hw0 hw1 hi
  go_enter Try.func8, Try.ntmps8
  go_wp2_with fail
  refine (U.out w).mono ?_
  rintro e w0 ⟨rfl, hb⟩
  have HB0 := Aside0.mk hb
  clear hb
  go_wp2_with fail
  refine (bk_new w0).mono ?_
  rintro e w1 ⟨box, mox, rfl, hk, hb⟩
  have HB1 := Aside0.mk (below_step HB0.out hb)
  have HKx1 := Aside0.mk (hk.lower HB0.out.size)
  clear hk hb
  by_cases p : (↑l0.length : Int) > 100
  · go_wp2_with fail
    go_ret
    exact ⟨rfl, HB1.out⟩
  by_cases q : (↑l1.length : Int) > 100
  · go_wp2_with fail
    go_ret
    exact ⟨rfl, HB1.out⟩
  have hle0 : l0.length ≤ 100 := by omega
  have hle1 : l1.length ≤ 100 := by omega
  have HLC : Aside0 (∀ ad, A0 = some ad → ∀ j u, (lns l0)[j]? = some u → (w1.alloc (.cells #[] 34)).cell? (ad.add j) = some u) := ⟨fun ad e => by subst e; exact Lr.lcells ((HA0.out.below HB1.out).alloc _)⟩
  have ha0 : (∃ ad, A0 = some ad ∧ 0 < l0.length) ∨ l0 = [] := by
    cases l0 with
    | nil => exact Or.inr rfl
    | cons x t =>
      obtain ⟨ad, e, -⟩ := HA0.out 0 x rfl
      exact Or.inl ⟨ad, e, Nat.succ_pos _⟩
  rcases ha0 with ⟨ad, rfl, hpos⟩ | rfl
  rotate_left
  · have hst : ∀ W ad, (storeCells ad []).run Try.prog W = .ok () W := fun _ _ => rfl
    have al := below_alloc (Below.refl w1.heap.size w1) (.cells #[] 34)
    have HBa := Aside0.mk (below_step HB1.out al)
    have HKa := Aside0.mk (HKx1.out.below al)
    have HLa : Aside0 (LB (w1.alloc (.cells #[] 34)) w1.heap.size []) := ⟨[], blk_new w1 _⟩
    clear al
    obtain ⟨w2, hw2⟩ : ∃ w2, w1.alloc (.cells #[] 34) = w2 := ⟨_, rfl⟩
    rw [hw2] at HBa HKa HLa
    cases A0
    all_goals
      go_wp2_with fail
      clear hst
      refine (post_first HKa.out HBa.out.size _ 0 [] HLa.out.lr (by simp) HWl0.out).mono ?_
      rintro e w3 ⟨n3, er3, v3, R3, rfl, hp, hk, hm, ht⟩
      rcases hp with ⟨-, -, ⟨-, hsh, -⟩, -⟩ | ⟨cb, rfl, rfl, rfl⟩
      · exact absurd hsh (by decide)
      have HK3 := Aside0.mk hk
      have HB3 := Aside0.mk (HKa.out.step HBa.out (Nat.le_refl _) ht)
      clear hk hm ht
      go_wp2_with fail
      refine (same_dec (l0 := []) (l1 := []) (A0 := _) (A1 := _) (fun j x hx => by cases hx) (fun j x hx => by cases hx) 0 c0 (by simp) (by simp)).mono ?_
      rintro e w4 ⟨rfl, hb4⟩
      have HB4 := Aside0.mk (below_step HB3.out hb4)
      have HK4 := Aside0.mk (HK3.out.below hb4)
      rw [decide_eq_true rfl]
      clear hb4
      go_wp2_with fail
      go_loopw [11] (fun v11 wr => v11 = .int .i64 0 ∧ wr = w4) (fun _ _ => 0)
      case atStart => exact ⟨rfl, rfl⟩
      case round =>
        obtain ⟨rfl, rfl⟩ := hrel
        go_wp2_with fail
        refine (bk_len HK4.out).mono ?_
        rintro e w5 ⟨rfl, hb5⟩
        have HB5 := Aside0.mk (below_step HB4.out hb5)
        clear hb5
        go_wp2_with fail
        go_ret
        exact ⟨rfl, HB5.out⟩

  go_wp2_with (at_builtin; refine wpList_append_own_at _ rfl _ _ 22 rfl w1.heap.size 34 i0 (.agg #[.int .i64 0, .int .i64 0, .int .i64 0]) 3 24 Try.underlying22 HI34.out hz0 hz1 hz2 rfl (by decide) (.slice (some ⟨w1.heap.size, 0, none⟩) 0 0) 0 [] rfl (own_emptyL w1) ad l0.length c0 (lns l0) rfl (by omega) (HLC.out ad rfl) (lns_one l0) (by unfold maxLen; omega) (by omega) (by simp) ?_; intro v2 w2 hown hgrow hnil hloc)
  rw [Nat.zero_add, List.nil_append] at hown
  obtain ⟨Ao, co, e, h1, h2⟩ := own_lb hown
  subst e
  obtain ⟨go, rfl⟩ : ∃ go, Ao = some ⟨go, 0, none⟩ := by
    cases Ao with
    | none => have := h2 rfl; subst this; cases hpos
    | some a =>
      obtain ⟨g, e, -⟩ := h1 a rfl
      exact ⟨g, by rw [e]⟩
  obtain ⟨g', eg, hgo, hlb, -⟩ := h1 _ rfl
  cases eg
  have hb : Below w1.heap.size w1 w2 := (below_alloc (Below.refl w1.heap.size w1) _).grown hgrow (by simp) (fun k hk => by cases hk; exact Nat.le_refl _)
  have HBa := Aside0.mk (below_step HB1.out hb)
  have HKa := Aside0.mk (HKx1.out.below hb)
  have HLo := Aside0.mk hlb
  have HGO := Aside0.mk (And.intro hgo hlb.lt)
  clear h1 h2 hown hgrow hnil hloc hb hgo hlb
  refine (post_first HKa.out HBa.out.size (some ⟨go, 0, none⟩) co l0 HLo.out.lr (by omega) HWl0.out).mono ?_
  rintro e w3 ⟨n3, er3, v3, R3, rfl, hp, hk, hm, ht⟩
  have P3 := Aside0.mk hp
  have HL3 := Aside0.mk (HLo.out.apart HKa.out ht)
  have HNE3 := Aside0.mk (hp.ne HGO.out.2)
  have HKx3 := Aside0.mk hk
  have HB3 := Aside0.mk (HKa.out.step HBa.out (Nat.le_refl _) ht)
  have HGB := Aside0.mk (Nat.le_trans HB1.out.size HGO.out.1)
  clear hp hk hm ht
  go_wp2_with fail
  refine (same_dec HL3.out.lr (HA0.out.below HB3.out) co c0 (by omega) (by omega)).mono ?_
  rintro e w4 ⟨rfl, hb⟩
  rw [decide_eq_true rfl]
  have HL4 := Aside0.mk (HL3.out.turn (S := fun _ => False) (Tn.of_below hb) id)
  have HKx4 := Aside0.mk (HKx3.out.below hb)
  have HB4 := Aside0.mk (below_step HB3.out hb)
  clear hb
  obtain ⟨ln, hln0⟩ : ∃ ln, l0.length = ln := ⟨_, rfl⟩
  have HLN := Aside0.mk hln0
  rw [hln0] at hle0 ⊢
  clear hln0
  go_wp2_with fail
  go_loopw [11] (fun v11 wr => ∃ (i : Nat), v11 = .int .i64 ↑i ∧ Aside0 (i ≤ ln ∧ (∃ l', l'.length = ln ∧ LB wr go l') ∧ Bk wr w.heap.size box mox v3 R3 ∧ Below w.heap.size w wr)) (fun v11 _ => (ln - intOf v11).toNat)
  case atStart => exact ⟨0, rfl, ⟨Nat.zero_le _, ⟨l0, HLN.out, HL4.out⟩, HKx4.out, HB4.out⟩⟩
  case round =>
    obtain ⟨i, rfl, HI⟩ := hrel
    by_cases ci : i < ln
    · have ci2 : (↑i : Int) < ↑ln := by omega
      have i0' : (0 : Int) ≤ ↑i := by omega
      obtain ⟨l', e', hl'⟩ := HI.out.2.1
      obtain ⟨y, hy⟩ : ∃ y, l'[i]? = some y := ⟨l'[i]'(by rw [e']; exact ci), List.getElem?_eq_getElem _⟩
      obtain ⟨-, -, k2⟩ := hl'.cells hy
      have fz := hl'.fz (i * 3 + 2)
      have HY := Aside0.mk (And.intro e' (And.intro hl' hy))
      clear e' hl' hy
      go_wp2_with fail
      exact ⟨⟨i + 1, rfl, ⟨by omega, ⟨_, by rw [List.length_set]; exact HY.out.1, HY.out.2.1.set HY.out.2.2 99⟩, HI.out.2.2.1.set99 HY.out.2.1 HNE3.out, below_set HI.out.2.2.2 HGB.out _⟩⟩, by simp [intOf]; omega⟩
    · have ci2 : ¬ (↑i : Int) < ↑ln := by omega
      have HKx5 := Aside0.mk HI.out.2.2.1
      have HB5 := Aside0.mk HI.out.2.2.2
      rcases P3.out with ⟨e, hn3, hgood, ⟨gN, cN, r, -⟩⟩ | ⟨cb, e, hn3, r⟩
      rotate_left
      · subst e
        subst r
        subst hn3
        go_wp2_with fail
        refine (bk_len HKx5.out).mono ?_
        rintro e w5 ⟨rfl, hb5⟩
        have HB6 := Aside0.mk (below_step HB5.out hb5)
        clear hb5
        go_wp2_with fail
        go_ret
        exact ⟨rfl, HB6.out⟩
      subst e
      subst r
      subst hn3
      have HGD := Aside0.mk hgood
      clear hgood
      go_wp2_with fail
      have HXN : Aside0 ([(⟨gN, cN, l0, false⟩ : En)][0]? = some ⟨gN, cN, l0, false⟩) := ⟨rfl⟩
      refine (bk_entry HKx5.out 0 ⟨gN, cN, l0, false⟩ HXN.out).mono ?_
      rintro e w6 ⟨gE, cE, rfl, hg6, hl6, hb6⟩
      have HGE := Aside0.mk hg6
      have HNE6 : Aside0 (∀ x ∈ [(⟨gN, cN, l0, false⟩ : En)], x.g ≠ gE) := ⟨fun x hx => by
        have := (HKx5.out.ent x hx).2.1.lt
        omega⟩
      have HL6 := Aside0.mk hl6
      have HKx6 := Aside0.mk (HKx5.out.below hb6)
      have HB6 := Aside0.mk (below_step HB5.out hb6)
      have HGB6 := Aside0.mk (Nat.le_trans HB5.out.size hg6)
      clear hg6 hl6 hb6
      rw [show (⟨gN, cN, l0, false⟩ : En).l.length = ln from HLN.out]
      go_wp2_with fail
      go_loopw [14] (fun v14 wr2 => ∃ (i : Nat), v14 = .int .i64 ↑i ∧ Aside0 (i ≤ ln ∧ (∃ l', l'.length = ln ∧ LB wr2 gE l') ∧ Bk wr2 w.heap.size box mox v3 [⟨gN, cN, l0, false⟩] ∧ Below w.heap.size w wr2)) (fun v14 _ => (ln - intOf v14).toNat)
      case atStart => exact ⟨0, rfl, ⟨Nat.zero_le _, ⟨l0, HLN.out, HL6.out⟩, HKx6.out, HB6.out⟩⟩
      case round =>
        obtain ⟨i2, rfl, HI2⟩ := hrel
        by_cases ci3 : i2 < ln
        · have ci4 : (↑i2 : Int) < ↑ln := by omega
          have i0'' : (0 : Int) ≤ ↑i2 := by omega
          obtain ⟨l', e', hl'⟩ := HI2.out.2.1
          obtain ⟨y, hy⟩ : ∃ y, l'[i2]? = some y := ⟨l'[i2]'(by rw [e']; exact ci3), List.getElem?_eq_getElem _⟩
          obtain ⟨-, -, k2⟩ := hl'.cells hy
          have fz := hl'.fz (i2 * 3 + 2)
          have HY := Aside0.mk (And.intro e' (And.intro hl' hy))
          clear e' hl' hy
          go_wp2_with fail
          exact ⟨⟨i2 + 1, rfl, ⟨by omega, ⟨_, by rw [List.length_set]; exact HY.out.1, HY.out.2.1.set HY.out.2.2 98⟩, HI2.out.2.2.1.set99 HY.out.2.1 HNE6.out, below_set HI2.out.2.2.2 HGB6.out _⟩⟩, by simp [intOf]; omega⟩
        · have ci4 : ¬ (↑i2 : Int) < ↑ln := by omega
          have HKx10 := Aside0.mk HI2.out.2.2.1
          have HB10 := Aside0.mk HI2.out.2.2.2
          go_wp2_with fail
          refine (bw_book HKx10.out HB10.out.size).mono ?_
          rintro e w11 ⟨boy, moy, vy, rfl, hk, hf, hb⟩
          have HKx11 := Aside0.mk (HKx10.out.below hb)
          have HB11 := Aside0.mk (below_step HB10.out hb)
          have HDxy11 := Aside0.mk (Dj.fresh HKx10.out hf)
          have HKy11 := Aside0.mk hk
          clear hk hf hb
          go_wp2_with fail
          refine (tr_any HKx11.out).mono ?_
          rintro e w12 ⟨As, cs, ts, rfl, hl, hlen, hr, hb⟩
          have HKx12 := Aside0.mk (HKx11.out.below hb)
          have HKy12 := Aside0.mk (HKy11.out.below hb)
          have HDxy12 := HDxy11
          have HB12 := Aside0.mk (below_step HB11.out hb)
          have HRs12 := Aside0.mk hr
          have HTLs := Aside0.mk hl
          have HLENs := Aside0.mk hlen
          clear hb hr hl hlen
          go_wp2_with fail
          refine (post_any HKy12.out HB12.out.size A1 c1 l1 (HA1.out.below HB12.out) (by omega) HWl1.out).mono ?_
          rintro e w13 ⟨n13, er13, v13, R13, rfl, hp, hk, hm, ht⟩
          have P13 := Aside0.mk hp
          have HKx13 := Aside0.mk (HKx12.out.apart HKy12.out ht HDxy12.out)
          have HDxy13 := Aside0.mk (HDxy12.out.symm.moved HKx12.out hm).symm
          have HRs13 := Aside0.mk (HRs12.out.apart HKy12.out ht)
          have HB13 := Aside0.mk (HKy12.out.step HB12.out (Nat.le_refl _) ht)
          have HKy13 := Aside0.mk hk
          clear hp hk hm ht
          go_wp2_with fail
          have HY0 := Aside0.mk (posted_head P13.out HXN.out)
          refine (rev_any HKy13.out HB13.out.size 0 ⟨gN, cN, l0, false⟩ HY0.out rfl).mono ?_
          rintro e w14 ⟨n14, er14, v14, R14, rfl, hp, hk, hm, ht⟩
          have P14 := Aside0.mk hp
          have HKx14 := Aside0.mk (HKx13.out.apart HKy13.out ht HDxy13.out)
          have HDxy14 := Aside0.mk (HDxy13.out.symm.moved HKx13.out hm).symm
          have HRs14 := Aside0.mk (HRs13.out.apart HKy13.out ht)
          have HB14 := Aside0.mk (HKy13.out.step HB13.out (Nat.le_refl _) ht)
          have HKy14 := Aside0.mk hk
          clear hp hk hm ht
          go_wp2_with fail
          refine (bk_entry HKx14.out 0 ⟨gN, cN, l0, false⟩ HXN.out).mono ?_
          rintro e w15 ⟨gr, cr, rfl, hg, hl, hb⟩
          have HKx15 := Aside0.mk (HKx14.out.below hb)
          have HKy15 := Aside0.mk (HKy14.out.below hb)
          have HDxy15 := HDxy14
          have HRs15 := Aside0.mk (HRs14.out.below hb)
          have HB15 := Aside0.mk (below_step HB14.out hb)
          have HRr15 := Aside0.mk (Rw.mk hl)
          have HGr := Aside0.mk hg
          clear hb hl hg
          rw [show (⟨gN, cN, l0, false⟩ : En).l.length = ln from HLN.out]
          go_wp2_with fail
          refine (tr_any HKx15.out).mono ?_
          rintro e w16 ⟨Au, cu, tu, rfl, hl, hlen, hr, hb⟩
          have HKx16 := Aside0.mk (HKx15.out.below hb)
          have HKy16 := Aside0.mk (HKy15.out.below hb)
          have HDxy16 := HDxy15
          have HRs16 := Aside0.mk (HRs15.out.below hb)
          have HRr16 := Aside0.mk (HRr15.out.below hb)
          have HB16 := Aside0.mk (below_step HB15.out hb)
          have HRu16 := Aside0.mk hr
          have HTLu := Aside0.mk hl
          have HLENu := Aside0.mk hlen
          clear hb hr hl hlen
          go_wp2_with fail
          refine (rev_any HKx16.out HB16.out.size 0 ⟨gN, cN, l0, false⟩ HXN.out rfl).mono ?_
          rintro e w17 ⟨n17, er17, v17, R17, rfl, hp, hk, hm, ht⟩
          have P17 := Aside0.mk hp
          have HKy17 := Aside0.mk (HKy16.out.apart HKx16.out ht HDxy16.out.symm)
          have HDxy17 := Aside0.mk (HDxy16.out.moved HKy16.out hm)
          have HRs17 := Aside0.mk (HRs16.out.apart HKx16.out ht)
          have HRr17 := Aside0.mk (HRr16.out.apart HKx16.out ht)
          have HRu17 := Aside0.mk (HRu16.out.apart HKx16.out ht)
          have HB17 := Aside0.mk (HKx16.out.step HB16.out (Nat.le_refl _) ht)
          have HKx17 := Aside0.mk hk
          clear hp hk hm ht
          have et : tu = ts := HTLu.out.same HTLs.out (fun a _ => rfl)
          subst et
          rcases P17.out with ⟨e, hn, -, -⟩ | ⟨cb, e, hn, hbad, -⟩
          rotate_left
          · subst e
            obtain rfl := rev_over (by simp) HGD.out.2.1 HGD.out.2.2.1 hbad
            clear hbad hn
            go_wp2_with fail
            have SD := same_dec (l0 := l0) (l1 := l0) HRr17.out.lr (HA0.out.below HB17.out) cr c0 (by rw [HLN.out]; omega) (by rw [HLN.out]; omega)
            rw [decide_eq_true rfl, HLN.out] at SD
            refine SD.mono ?_
            rintro e w18 ⟨rfl, hb⟩
            have HRu18 := Aside0.mk (HRu17.out.below hb)
            have HRs18 := Aside0.mk (HRs17.out.below hb)
            have HB18 := Aside0.mk (below_step HB17.out hb)
            clear hb SD
            go_wp2_with fail
            refine (same_dec HRu18.out.lr HRs18.out.lr cu cs (by have := HLENu.out; omega) (by have := HLENs.out; omega)).mono ?_
            rintro e w19 ⟨rfl, hb⟩
            have HB19 := Aside0.mk (below_step HB18.out hb)
            rw [decide_eq_true rfl]
            clear hb
            go_wp2_with fail
            go_ret
            exact ⟨rfl, HB19.out⟩

          subst e
          clear hn
          go_wp2_with fail
          have SD := same_dec (l0 := l0) (l1 := l0) HRr17.out.lr (HA0.out.below HB17.out) cr c0 (by rw [HLN.out]; omega) (by rw [HLN.out]; omega)
          rw [decide_eq_true rfl, HLN.out] at SD
          refine SD.mono ?_
          rintro e w18 ⟨rfl, hb⟩
          have HRu18 := Aside0.mk (HRu17.out.below hb)
          have HRs18 := Aside0.mk (HRs17.out.below hb)
          have HB18 := Aside0.mk (below_step HB17.out hb)
          clear hb SD
          go_wp2_with fail
          refine (same_dec HRu18.out.lr HRs18.out.lr cu cs (by have := HLENu.out; omega) (by have := HLENs.out; omega)).mono ?_
          rintro e w19 ⟨rfl, hb⟩
          have HB19 := Aside0.mk (below_step HB18.out hb)
          rw [decide_eq_true rfl]
          clear hb
          go_wp2_with fail
          go_ret
          exact ⟨rfl, HB19.out⟩



end Go.Proofs.Ytcdhnglefldalaa.PBook
