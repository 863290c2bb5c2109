import Derived.Test.YtcdhnglefldalaaBS
namespace Go.Proofs.Ytcdhnglefldalaa.PBook
open Go.RowKit Go.Proofs.YtcdhnglefldalaaW.PrintWords Go.Proofs.YtcdhnglefldalaaW.PrintLast Go.Proofs.YtcdhnglefldalaaW.PrintMore
set_option linter.unusedVariables false
set_option linter.unusedSimpArgs false
open Go.Proofs.Ytcdhnglefldalaa.PBookPlays (S32 S34 S40 k32 k34 k40 z32 z34 z40 rd_T34 at_T34 rd_T40 at_T40 errEqI errEqL errEqR errNeI errNeL errNeR cents_Add.f cents_Add.calls errW errW_none errW_some)
open Go.Maps
attribute [local go_sem high] errEqI errNeI errEqL errNeL errEqR errNeR bk_eqs
set_option maxRecDepth 100000 in
set_option maxHeartbeats 4000000 in
theorem twins_ok (A0 : Option Addr) (c0 : Nat) (l0 : List S34) (A1 : Option Addr) (c1 : Nat) (l1 : List S34) (w : World) (hA0 : Lr w A0 l0) (hA1 : Lr w A1 l1) (hw0 : WLs l0) (hw1 : WLs l1) : Calls Try.prog 4 #[.slice A0 l0.length c0, .slice A1 l1.length c1] w fun e w' => e = .returned (.bool true) ∧ Below w.heap.size w w' := by
  have HA0 := Aside0.mk hA0
  have HA1 := Aside0.mk hA1
  have HWl0 := Aside0.mk hw0
  have HWl1 := Aside0.mk hw1
  have U := Aside0.mk (fun W => bl_up W)
  clear hA0 hA1 hw0 hw1
  by_cases p : (↑l0.length : Int) > 100
  · go_enter Try.func4, Try.ntmps4
    go_wp2_with fail
    refine (U.out w).mono ?_
    rintro e w1 ⟨rfl, hb1⟩
    go_wp2_with fail
    go_ret
    exact ⟨rfl, hb1⟩
  by_cases q : (↑l1.length : Int) > 100
  · go_enter Try.func4, Try.ntmps4
    go_wp2_with fail
    refine (U.out w).mono ?_
    rintro e w1 ⟨rfl, hb1⟩
    go_wp2_with fail
    go_ret
    exact ⟨rfl, hb1⟩
  go_enter Try.func4, Try.ntmps4
  go_wp2_with fail
  refine (U.out w).mono ?_
  rintro e w0 ⟨rfl, hb⟩
  have HB0 := Aside0.mk hb
  clear hb
  go_wp2_with fail
  refine (bk_new w0).mono ?_
  rintro e w1 ⟨box, mox, rfl, hk, hb⟩
  have HB1 := Aside0.mk (below_step HB0.out hb)
  have HKx1 := Aside0.mk (hk.lower HB0.out.size)
  clear hk hb
  go_wp2_with fail
  refine (post_any HKx1.out HB1.out.size A0 c0 l0 (HA0.out.below HB1.out) (by omega) HWl0.out).mono ?_
  rintro e w2 ⟨n2, er2, v2, R2, rfl, hp, hk, hm, ht⟩
  have P2 := Aside0.mk hp
  have HB2 := Aside0.mk (HKx1.out.step HB1.out (Nat.le_refl _) ht)
  have HKx2 := Aside0.mk hk
  clear hp hk hm ht
  go_wp2_with fail
  refine (bw_book HKx2.out HB2.out.size).mono ?_
  rintro e w3 ⟨boy, moy, vy, rfl, hk, hf, hb⟩
  have HKx3 := Aside0.mk (HKx2.out.below hb)
  have HB3 := Aside0.mk (below_step HB2.out hb)
  have HDxy3 := Aside0.mk (Dj.fresh HKx2.out hf)
  have HKy3 := Aside0.mk hk
  clear hk hf hb
  go_wp2_with fail
  refine (bk_len HKx3.out).mono ?_
  rintro e w4 ⟨rfl, hb⟩
  have HKx4 := Aside0.mk (HKx3.out.below hb)
  have HKy4 := Aside0.mk (HKy3.out.below hb)
  have HDxy4 := HDxy3
  have HB4 := Aside0.mk (below_step HB3.out hb)
  clear hb
  go_wp2_with fail
  refine (tr_any HKx4.out).mono ?_
  rintro e w5 ⟨As, cs, ts, rfl, hl, hlen, hr, hb⟩
  have HKx5 := Aside0.mk (HKx4.out.below hb)
  have HKy5 := Aside0.mk (HKy4.out.below hb)
  have HDxy5 := HDxy4
  have HB5 := Aside0.mk (below_step HB4.out hb)
  have HRs5 := Aside0.mk hr
  have HTLs := Aside0.mk hl
  have HLENs := Aside0.mk hlen
  clear hb hr hl hlen
  go_wp2_with fail
  refine (post_any HKy5.out HB5.out.size A1 c1 l1 (HA1.out.below HB5.out) (by omega) HWl1.out).mono ?_
  rintro e w6 ⟨n6, er6, v6, R6, rfl, hp, hk, hm, ht⟩
  have P6 := Aside0.mk hp
  have HKx6 := Aside0.mk (HKx5.out.apart HKy5.out ht HDxy5.out)
  have HDxy6 := Aside0.mk (HDxy5.out.symm.moved HKx5.out hm).symm
  have HRs6 := Aside0.mk (HRs5.out.apart HKy5.out ht)
  have HB6 := Aside0.mk (HKy5.out.step HB5.out (Nat.le_refl _) ht)
  have HKy6 := Aside0.mk hk
  clear hp hk hm ht
  go_wp2_with fail
  refine (tr_any HKx6.out).mono ?_
  rintro e w7 ⟨At, ct, tt, rfl, hl, hlen, hr, hb⟩
  have HKx7 := Aside0.mk (HKx6.out.below hb)
  have HKy7 := Aside0.mk (HKy6.out.below hb)
  have HDxy7 := HDxy6
  have HRs7 := Aside0.mk (HRs6.out.below hb)
  have HB7 := Aside0.mk (below_step HB6.out hb)
  have HRt7 := Aside0.mk hr
  have HTLt := Aside0.mk hl
  have HLENt := Aside0.mk hlen
  clear hb hr hl hlen
  have et : tt = ts := HTLt.out.same HTLs.out (fun a _ => rfl)
  subst et
  have hsl := HLENs.out
  obtain ⟨ln, hln⟩ : ∃ ln, tt.length = ln := ⟨_, rfl⟩
  have HLN := Aside0.mk hln
  rw [hln] at hsl ⊢
  clear hln
  go_wp2_with fail
  refine (bk_len HKx7.out).mono ?_
  rintro e w8 ⟨rfl, hb⟩
  have HKx8 := Aside0.mk (HKx7.out.below hb)
  have HKy8 := Aside0.mk (HKy7.out.below hb)
  have HDxy8 := HDxy7
  have HRs8 := Aside0.mk (HRs7.out.below hb)
  have HRt8 := Aside0.mk (HRt7.out.below hb)
  have HB8 := Aside0.mk (below_step HB7.out hb)
  clear hb
  go_wp2_with fail
  go_loopw [11] (fun v11 wr => ∃ i : Nat, v11 = .int .i64 ↑i ∧ Aside0 (i ≤ ln ∧ Below w8.heap.size w8 wr)) (fun v11 _ => (ln - intOf v11).toNat)
  case atStart => exact ⟨0, rfl, ⟨Nat.zero_le _, Below.refl _ _⟩⟩
  case round =>
    obtain ⟨i, rfl, HI⟩ := hrel
    by_cases ci : i < ln
    · have ci2 : (↑i : Int) < ↑ln := by omega
      have i0 : (0 : Int) ≤ ↑i := by omega
      obtain ⟨x, hx⟩ : ∃ x, tt[i]? = some x := ⟨tt[i]'(by rw [HLN.out]; exact ci), List.getElem?_eq_getElem _⟩
      obtain ⟨ad, rfl, k0, k1, k2⟩ := (HRs8.out.lr.below HI.out.2) i x hx
      obtain ⟨ae, rfl, q0, q1, q2⟩ := (HRt8.out.lr.below HI.out.2) i x hx
      have a0 := fun p : GWrld wr => gb_at k0 p
      have a1 := fun p : GWrld wr => bb_cell k1 p
      have a2 := fun p : GWrld wr => bb_cell k2 p
      have b0 := fun p : GWrld wr => gb_at q0 p
      have b1 := fun p : GWrld wr => bb_cell q1 p
      have b2 := fun p : GWrld wr => bb_cell q2 p
      clear k0 k1 k2 q0 q1 q2 hx
      go_wp2_with fail
      refine gb_region (by kernel_rfl) (by kernel_rfl) ?_
      repeat (go_big_quiet_step (fail))
      refine wpQuiet_nil ?_
      intro _ hw'
      obtain ⟨gq, hw''⟩ := hw'
      subst hw''
      have B9 := Aside0.mk (below_step HI.out.2 gq.b)
      clear a0 a1 a2 b0 b1 b2
      go_wp2_with fail
      exact ⟨⟨i + 1, rfl, ⟨by omega, B9.out⟩⟩, by simp [intOf]; omega⟩
    · have ci2 : ¬ (↑i : Int) < ↑ln := by omega
      go_wp2_with fail
      go_ret
      exact ⟨rfl, below_step HB8.out HI.out.2⟩


end Go.Proofs.Ytcdhnglefldalaa.PBook
