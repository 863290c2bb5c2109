import Derived.Test.YtcdhnglefldalaaBD
namespace Go.Proofs.Ytcdhnglefldalaa.PBook
open Go.RowKit Go.Proofs.YtcdhnglefldalaaW.PrintWords Go.Proofs.YtcdhnglefldalaaW.PrintLast Go.Proofs.YtcdhnglefldalaaW.PrintMore
set_option linter.unusedVariables false
set_option linter.unusedSimpArgs false
open Go.Proofs.Ytcdhnglefldalaa.PBookPlays (S32 S34 S40 k32 k34 k40 z32 z34 z40 rd_T34 at_T34 rd_T40 at_T40 errEqI errEqL errEqR errNeI errNeL errNeR cents_Add.f cents_Add.calls errW errW_none errW_some)
open Go.Maps
attribute [local go_sem high] errEqI errNeI errEqL errNeL errEqR errNeR bk_eqs
set_option maxRecDepth 100000 in
set_option maxHeartbeats 4000000 in
theorem back_ok (A0 : Option Addr) (c0 : Nat) (L : List S40) (A1 : Option Addr) (c1 : Nat) (l1 : List S34) (w : World) (hA0 : Dr w A0 L) (hA1 : Lr w A1 l1) (hL : L.length ≤ 9223372036854775807) (hw0 : ∀ x ∈ L, WLs x.f2) (hw1 : WLs l1) : Calls Try.prog 5 #[.slice A0 L.length c0, .slice A1 l1.length c1] w fun e w' => e = .returned (.bool true) ∧ Below w.heap.size w w' := by
  have HA0 := Aside0.mk hA0
  have HA1 := Aside0.mk hA1
  have HWL := Aside0.mk hw0
  have HWl1 := Aside0.mk hw1
  have U := Aside0.mk (fun W => bl_up W)
  clear hA0 hA1 hw0 hw1
  go_enter Try.func5, Try.ntmps5
  go_wp2_with fail
  refine (U.out w).mono ?_
  rintro e w0 ⟨rfl, hb⟩
  have HB0 := Aside0.mk hb
  clear hb
  go_wp2_with fail
  refine (bd_short A0 c0 L w0 (HA0.out.below HB0.out) hL).mono ?_
  rintro e w1 ⟨rfl, hb⟩
  have HB1 := Aside0.mk (below_step HB0.out hb)
  clear hb
  go_wp2_with fail
  refine (bk_new w1).mono ?_
  rintro e w2 ⟨box, mox, rfl, hk, hb⟩
  have HB2 := Aside0.mk (below_step HB1.out hb)
  have HKx2 := Aside0.mk (hk.lower HB1.out.size)
  clear hk hb
  by_cases ps : shortB L = true
  rotate_left
  · have ps2 : shortB L = false := by simpa using ps
    clear ps
    go_wp2_with fail
    go_ret
    exact ⟨rfl, HB2.out⟩
  have PS := Aside0.mk ps
  by_cases p : (↑l1.length : Int) > 100
  · go_wp2_with fail
    go_ret
    exact ⟨rfl, HB2.out⟩
  go_wp2_with fail
  go_loopw [8] (fun v8 wr => ∃ (i : Nat) (ev : Value) (R : List En), v8 = .int .i64 ↑i ∧ Aside0 (i ≤ L.length ∧ i ≤ 40 ∧ Bk wr w.heap.size box mox ev R ∧ Below w.heap.size w wr)) (fun v8 _ => (40 - intOf v8).toNat)
  case atStart => exact ⟨0, _, _, rfl, ⟨Nat.zero_le _, by omega, HKx2.out, HB2.out⟩⟩
  case round =>
    obtain ⟨i, ev, R, rfl, HI⟩ := hrel
    have hgo : (i < L.length ∧ i < 40) ∨ ¬ (i < L.length ∧ i < 40) := Classical.em _
    rcases hgo with ⟨ci, cj⟩ | hstop
    · have ci2 : (↑i : Int) < ↑L.length := by omega
      have i0 : (0 : Int) ≤ ↑i := by omega
      have cj2 : (↑i : Int) < 40 := by omega
      obtain ⟨x, hx⟩ : ∃ x, L[i]? = some x := ⟨L[i], List.getElem?_eq_getElem ci⟩
      obtain ⟨ad, A2, c2, rfl, k0, k1, k2, k3⟩ := (HA0.out.below HI.out.2.2.2) i x hx
      have HK3 := Aside0.mk k3
      have hln := short_at PS.out cj hx
      have HWX := Aside0.mk (HWL.out x (List.mem_of_getElem? hx))
      clear hx k3
      go_wp2_with fail
      refine (post_any HI.out.2.2.1 HI.out.2.2.2.size A2 c2 x.f2 HK3.out (by omega) HWX.out).mono ?_
      rintro e w3 ⟨n3, er3, v3, R3, rfl, -, hk, hm, ht⟩
      have HK4 := Aside0.mk hk
      have HB4 := Aside0.mk (HI.out.2.2.1.step HI.out.2.2.2 (Nat.le_refl _) ht)
      clear hk hm ht k0 k1 k2
      go_wp2_with fail
      exact ⟨⟨i + 1, v3, R3, rfl, ⟨by omega, by omega, HK4.out, HB4.out⟩⟩, by simp [intOf]; omega⟩
    · have HKx3 := Aside0.mk HI.out.2.2.1
      have HB3 := Aside0.mk HI.out.2.2.2
      have hst : (¬ (↑i : Int) < ↑L.length) ∨ ((↑i : Int) < ↑L.length ∧ ¬ (↑i : Int) < 40) := by omega
      rcases hst with hs1 | ⟨hs1, hs2⟩
      all_goals
        go_wp2_with fail
        refine (tr_any HKx3.out).mono ?_
        rintro e w4 ⟨As, cs, ts, rfl, hl, hlen, hr, hb⟩
        have HKx4 := Aside0.mk (HKx3.out.below hb)
        have HB4 := Aside0.mk (below_step HB3.out hb)
        have HRs4 := Aside0.mk hr
        have HTLs := Aside0.mk hl
        have HLENs := Aside0.mk hlen
        clear hb hr hl hlen
        go_wp2_with fail
        refine (post_any HKx4.out HB4.out.size A1 c1 l1 (HA1.out.below HB4.out) (by omega) HWl1.out).mono ?_
        rintro e w5 ⟨n5, er5, v5, R5, rfl, hp, hk, hm, ht⟩
        have P5 := Aside0.mk hp
        have HRs5 := Aside0.mk (HRs4.out.apart HKx4.out ht)
        have HB5 := Aside0.mk (HKx4.out.step HB4.out (Nat.le_refl _) ht)
        have HKx5 := Aside0.mk hk
        clear hp hk hm ht
        rcases P5.out with ⟨e, hn, hgood, gN, cN, r⟩ | ⟨cb, e, hn, -, r⟩
        rotate_left
        · subst e
          subst r
          subst hn
          go_wp2_with fail
          refine (tr_any HKx5.out).mono ?_
          rintro e w6 ⟨At, ct, tt, rfl, hl, hlen, hr, hb⟩
          have HKx6 := Aside0.mk (HKx5.out.below hb)
          have HRs6 := Aside0.mk (HRs5.out.below hb)
          have HB6 := Aside0.mk (below_step HB5.out hb)
          have HRt6 := Aside0.mk hr
          have HTLt := Aside0.mk hl
          have HLENt := Aside0.mk hlen
          clear hb hr hl hlen
          go_wp2_with fail
          have et : tt = ts := HTLt.out.same HTLs.out (fun a _ => rfl)
          refine (same_dec HRt6.out.lr HRs6.out.lr ct cs (by have := HLENt.out; omega) (by have := HLENs.out; omega)).mono ?_
          rintro e w7 ⟨rfl, hb⟩
          have HB7 := Aside0.mk (below_step HB6.out hb)
          rw [decide_eq_true et]
          clear hb et
          go_wp2_with fail
          go_ret
          exact ⟨rfl, HB7.out⟩

        subst e
        subst r
        subst hn
        have HGD := Aside0.mk hgood
        have HXN : Aside0 ((R ++ [(⟨gN, cN, l1, false⟩ : En)])[R.length]? = some ⟨gN, cN, l1, false⟩) := ⟨by rw [List.getElem?_append_right (Nat.le_refl _), Nat.sub_self]; rfl⟩
        clear hgood
        go_wp2_with fail
        refine (rev_any HKx5.out HB5.out.size R.length ⟨gN, cN, l1, false⟩ HXN.out rfl).mono ?_
        rintro e w6 ⟨n6, er6, v6, R6, rfl, hp, hk, hm, ht⟩
        have P6 := Aside0.mk hp
        have HRs6 := Aside0.mk (HRs5.out.apart HKx5.out ht)
        have HB6 := Aside0.mk (HKx5.out.step HB5.out (Nat.le_refl _) ht)
        have HKx6 := Aside0.mk hk
        clear hp hk hm ht
        rcases P6.out with ⟨e, hn, -, gM, cM, r⟩ | ⟨cb, e, hn, hbad, r⟩
        rotate_left
        · subst e
          rcases rev_why HGD.out.2.1 HGD.out.2.2.1 hbad with rfl | rfl
          all_goals
            clear hbad
            go_wp2_with fail
            go_ret
            exact ⟨rfl, HB6.out⟩
        subst e
        subst r
        subst hn
        have hRL : (R ++ [(⟨gN, cN, l1, false⟩ : En)]).length = R.length + 1 := by simp
        have HRL := Aside0.mk hRL
        rw [hRL]
        clear hRL
        go_wp2_with fail
        refine (bq_twice HKx6.out R.length ⟨gN, cN, l1, true⟩ (by rw [List.getElem?_append_left (by rw [List.length_set, HRL.out]; omega), List.getElem?_set_self (by rw [HRL.out]; omega)]) rfl).mono ?_
        rintro e w7 ⟨rfl, hb⟩
        have HKx7 := Aside0.mk (HKx6.out.below hb)
        have HRs7 := Aside0.mk (HRs6.out.below hb)
        have HB7 := Aside0.mk (below_step HB6.out hb)
        clear hb
        go_wp2_with fail
        have TW := bq_twice HKx7.out (R.length + 1) ⟨gM, cM, ngs l1, true⟩ (by rw [List.getElem?_append_right (by rw [List.length_set, HRL.out]; exact Nat.le_refl _), List.length_set, HRL.out, Nat.sub_self]; rfl) rfl
        refine TW.mono ?_
        rintro e w8 ⟨rfl, hb⟩
        have HKx8 := Aside0.mk (HKx7.out.below hb)
        have HRs8 := Aside0.mk (HRs7.out.below hb)
        have HB8 := Aside0.mk (below_step HB7.out hb)
        clear hb TW
        go_wp2_with fail
        refine (tr_any HKx8.out).mono ?_
        rintro e w9 ⟨At, ct, tt, rfl, hl, hlen, hr, hb⟩
        have HKx9 := Aside0.mk (HKx8.out.below hb)
        have HRs9 := Aside0.mk (HRs8.out.below hb)
        have HB9 := Aside0.mk (below_step HB8.out hb)
        have HRt9 := Aside0.mk hr
        have HTLt := Aside0.mk hl
        have HLENt := Aside0.mk hlen
        clear hb hr hl hlen
        go_wp2_with fail
        have et : tt = ts := HTLt.out.same HTLs.out (fun a _ => by
          rw [tot_snoc, tot_set _ _ _ _ HXN.out, tot_snoc]
          show tot R a + adds l1 a + adds (ngs l1) a = tot R a
          rw [adds_ngs]
          omega)
        refine (same_dec HRt9.out.lr HRs9.out.lr ct cs (by have := HLENt.out; omega) (by have := HLENs.out; omega)).mono ?_
        rintro e w10 ⟨rfl, hb⟩
        have HB10 := Aside0.mk (below_step HB9.out hb)
        rw [decide_eq_true et]
        clear hb et
        go_wp2_with fail
        go_ret
        exact ⟨rfl, HB10.out⟩



end Go.Proofs.Ytcdhnglefldalaa.PBook
