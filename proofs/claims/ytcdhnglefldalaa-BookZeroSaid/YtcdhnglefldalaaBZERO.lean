import Derived.Test.YtcdhnglefldalaaBZP
import Derived.Test.YtcdhnglefldalaaBNU
namespace Go.Proofs.Ytcdhnglefldalaa.PBook
open Go.RowKit Go.Proofs.YtcdhnglefldalaaW.PrintWords Go.Proofs.YtcdhnglefldalaaW.PrintLast Go.Proofs.YtcdhnglefldalaaW.PrintMore
set_option linter.unusedVariables false
set_option linter.unusedSimpArgs false
open Go.Proofs.Ytcdhnglefldalaa.PBookPlays (S32 S34 S40 k32 k34 k40 z32 z34 z40 rd_T34 at_T34 rd_T40 at_T40 errEqI errEqL errEqR errNeI errNeL errNeR cents_Add.f cents_Add.calls errW errW_none errW_some trivetlaw10_pick.f trivetlaw10_pick.calls)
open Go.Maps
attribute [local go_sem high] errEqI errNeI errEqL errNeL errEqR errNeR bk_eqs
theorem pk3 (c : Int) : ∃ r, trivetlaw10_pick.f c 3 = some r := by
  unfold trivetlaw10_pick.f
  split
  · exact ⟨_, rfl⟩
  · exact ⟨_, rfl⟩
set_option maxRecDepth 100000 in
set_option maxHeartbeats 4000000 in
theorem zero_ok (A0 : Option Addr) (c0 : Nat) (L : List S40) (w : World) (hA0 : Dr w A0 L) (hL : L.length ≤ 9223372036854775807) (hw0 : ∀ x ∈ L, WLs x.f2) : Calls Try.prog 6 #[.slice A0 L.length c0] w fun e w' => e = .returned (.bool true) ∧ Below w.heap.size w w' := by
  have HA0 := Aside0.mk hA0
  have HWL := Aside0.mk hw0
  have U := Aside0.mk (fun W => bl_up W)
  clear hA0 hw0
  go_enter Try.func6, Try.ntmps6
  go_wp2_with fail
  refine (U.out w).mono ?_
  rintro e w0 ⟨rfl, hb⟩
  have HB0 := Aside0.mk hb
  clear hb
  go_wp2_with fail
  refine (bd_short A0 c0 L w0 (HA0.out.below HB0.out) hL).mono ?_
  rintro e w1 ⟨rfl, hb⟩
  have HB1 := Aside0.mk (below_step HB0.out hb)
  clear hb
  go_wp2_with fail
  refine (bk_new w1).mono ?_
  rintro e w2 ⟨box, mox, rfl, hk, hb⟩
  have HB2 := Aside0.mk (below_step HB1.out hb)
  have HKx2 := Aside0.mk (hk.lower HB1.out.size)
  clear hk hb
  by_cases ps : shortB L = true
  rotate_left
  · have ps2 : shortB L = false := by simpa using ps
    clear ps
    go_wp2_with fail
    go_ret
    exact ⟨rfl, HB2.out⟩
  have PS := Aside0.mk ps
  go_wp2_with fail
  go_loopw [6] (fun v6 wr => ∃ (i : Nat) (ev : Value) (R : List En), v6 = .int .i64 ↑i ∧ Aside0 (i ≤ L.length ∧ i ≤ 40 ∧ Bk wr w.heap.size box mox ev R ∧ Below w.heap.size w wr)) (fun v6 _ => (40 - intOf v6).toNat)
  case atStart => exact ⟨0, _, _, rfl, ⟨Nat.zero_le _, by omega, HKx2.out, HB2.out⟩⟩
  case round =>
    obtain ⟨i, ev, R, rfl, HI⟩ := hrel
    have hgo : (i < L.length ∧ i < 40) ∨ ¬ (i < L.length ∧ i < 40) := Classical.em _
    rcases hgo with ⟨ci, cj⟩ | hstop
    · have ci2 : (↑i : Int) < ↑L.length := by omega
      have i0 : (0 : Int) ≤ ↑i := by omega
      have cj2 : (↑i : Int) < 40 := by omega
      obtain ⟨x, hx⟩ : ∃ x, L[i]? = some x := ⟨L[i], List.getElem?_eq_getElem ci⟩
      have HX := Aside0.mk hx
      have hln := short_at PS.out cj hx
      have HWX := Aside0.mk (HWL.out x (List.mem_of_getElem? hx))
      obtain ⟨ad, A2, c2, rfl, k0, -, -, -⟩ := (HA0.out.below HI.out.2.2.2) i x hx
      obtain ⟨r, hr⟩ := pk3 x.f0
      have PK := Aside0.mk (fun W => trivetlaw10_pick.calls x.f0 3 r W hr)
      clear hx hr
      go_wp2_with fail
      refine (PK.out _).mono ?_
      rintro e w3 ⟨rfl, hd⟩
      have HK3 := Aside0.mk (HI.out.2.2.1.below hd.below)
      have HB3 := Aside0.mk (below_step HI.out.2.2.2 hd.below)
      obtain ⟨ad', A3, c3, e', k0', k1, k2, k3⟩ := (HA0.out.below HB3.out) i x HX.out
      cases e'
      have HL3 := Aside0.mk k3
      clear hd k0 k0' k3 PK
      by_cases pr : r = 2
      · go_wp2_with fail
        refine (rev_all HK3.out HB3.out.size x.f1).mono ?_
        rintro e w4 ⟨n3, er3, v3, R3, rfl, -, hk, hm, ht⟩
        have HK4 := Aside0.mk hk
        have HB4 := Aside0.mk (HK3.out.step HB3.out (Nat.le_refl _) ht)
        clear hk hm ht k1 k2
        go_wp2_with fail
        exact ⟨⟨i + 1, v3, R3, rfl, ⟨by omega, by omega, HK4.out, HB4.out⟩⟩, by simp [intOf]; omega⟩
      · go_wp2_with fail
        refine (post_any HK3.out HB3.out.size A3 c3 x.f2 HL3.out (by omega) HWX.out).mono ?_
        rintro e w4 ⟨n3, er3, v3, R3, rfl, -, hk, hm, ht⟩
        have HK4 := Aside0.mk hk
        have HB4 := Aside0.mk (HK3.out.step HB3.out (Nat.le_refl _) ht)
        clear hk hm ht k1 k2
        go_wp2_with fail
        exact ⟨⟨i + 1, v3, R3, rfl, ⟨by omega, by omega, HK4.out, HB4.out⟩⟩, by simp [intOf]; omega⟩
    · have HKx3 := Aside0.mk HI.out.2.2.1
      have HB3 := Aside0.mk HI.out.2.2.2
      have hst : (¬ (↑i : Int) < ↑L.length) ∨ ((↑i : Int) < ↑L.length ∧ ¬ (↑i : Int) < 40) := by omega
      rcases hst with hs1 | ⟨hs1, hs2⟩
      all_goals
        go_wp2_with fail
        refine (tr_any HKx3.out).mono ?_
        rintro e w4 ⟨At, ct, tt, rfl, hl, hlen, hr, hb⟩
        have HKx4 := Aside0.mk (HKx3.out.below hb)
        have HB4 := Aside0.mk (below_step HB3.out hb)
        have HRt4 := Aside0.mk hr
        have HTLt := Aside0.mk hl
        have HLENt := Aside0.mk hlen
        clear hb hr hl hlen
        obtain ⟨tl, htl⟩ : ∃ tl, tt.length = tl := ⟨_, rfl⟩
        have HTN := Aside0.mk htl
        rw [htl] at HLENt ⊢
        clear htl
        go_wp2_with fail
        go_loopw [9] (fun v9 wr => ∃ (j : Nat) (As : Option Addr) (ns cs : Nat) (ms : Bool), v9 = .int .i64 ↑j ∧ Aside0 (j ≤ tl ∧ Nm wr (.agg #[.slice As ns cs, .bool ms]) (amts (tt.take j)).sum 6 ∧ wr.heap[w4.heap.size]? = some (.cells #[.slice As ns cs, .bool ms] 47 (0, 0)) ∧ Bk wr w.heap.size box mox ev R ∧ Rw wr At tt ∧ Below w.heap.size w wr ∧ w4.heap.size < wr.heap.size)) (fun v9 _ => (tl - intOf v9).toNat)
        case atStart =>
          have al := below_alloc (Below.refl w4.heap.size w4) (.cells #[.slice none 0 0, .bool false] 47)
          exact ⟨0, none, 0, 0, false, rfl, ⟨Nat.zero_le _, Nm.zero _ 6, blk_new w4 _, HKx4.out.below al, HRt4.out.below al, below_alloc HB4.out _, by simp⟩⟩
        case round =>
          obtain ⟨j, As, ns, cs, ms, rfl, HJ⟩ := hrel
          by_cases cj : j < tl
          · have cj2 : (↑j : Int) < ↑tl := by omega
            have j0 : (0 : Int) ≤ ↑j := by omega
            have hlt := HLENt.out
            obtain ⟨x, hx⟩ : ∃ x, tt[j]? = some x := ⟨tt[j]'(by rw [HTN.out]; exact cj), List.getElem?_eq_getElem _⟩
            obtain ⟨xa, xv, xn⟩ := (HTLt.out.2 x).1 (List.mem_of_getElem? hx)
            have HX := Aside0.mk hx
            have HXA := Aside0.mk (And.intro xa (And.intro xv xn))
            have BAL := Aside0.mk (fun p : GWrld wr => bk_balance (HJ.out.2.2.2.1.below p.b) x.f0 xa)
            rw [← xv] at BAL
            have b0 : (x.f1 == 0) = false := beq_eq_false_iff_ne.2 xn
            obtain ⟨ad, hAt, k0, k1, k2⟩ := HJ.out.2.2.2.2.1.lr j x hx
            have HAT := Aside0.mk hAt
            subst hAt
            have a0 := fun p : GWrld wr => gb_at k0 p
            have a1 := fun p : GWrld wr => bb_cell k1 p
            have a2 := fun p : GWrld wr => bb_cell k2 p
            have K2 := Aside0.mk k2
            clear hx xa xv xn k0 k1 k2
            go_wp2_with fail
            refine gb_region (by kernel_rfl) (by kernel_rfl) ?_
            repeat (go_big_quiet_step (with_reducible exact gb_calls (BAL.out _)))
            refine wpQuiet_nil ?_
            intro _ hw'
            obtain ⟨gq, hw''⟩ := hw'
            subst hw''
            have B9 := Aside0.mk (below_step HJ.out.2.2.2.2.2.1 gq.b)
            have BG := Aside0.mk gq.b
            have k2 := a2 gq
            clear a0 a1 a2
            have C9 := Aside0.mk ((BG.out.block _ HJ.out.2.2.2.2.2.2).trans HJ.out.2.2.1)
            have N9 := Aside0.mk (HJ.out.2.1.below BG.out)
            have K9 := Aside0.mk (HJ.out.2.2.2.1.below BG.out)
            have R9 := Aside0.mk (HJ.out.2.2.2.2.1.below BG.out)
            have Z9 := Aside0.mk (Nat.lt_of_lt_of_le HJ.out.2.2.2.2.2.2 BG.out.size)
            generalize gq.w' = w9 at B9 BG k2 C9 N9 K9 R9 Z9 ⊢
            go_wp2_with fail
            refine start_ (n := 9) (S := fun w' => w'.cell? ⟨w4.heap.size, 0, none⟩ = some (.slice As ns cs) ∧ w'.cell? ⟨w4.heap.size, 1, none⟩ = some (.bool ms) ∧ w'.cell? ⟨(ad.add (j * 3)).block, (ad.add (j * 3)).off + 2, none⟩ = some (.int .i64 x.f1)) (ds := [8]) #[false, false, false, false, false, false, false, false, false] (by kernel_rfl) rfl rfl ⟨(blk_cell C9.out 0).trans rfl, (blk_cell C9.out 1).trans rfl, k2⟩ (fun hHeld => ?_)
            have T9 := below_drew1 (Below.refl w9.heap.size w9)
            have B4 := Aside0.mk (below_step B9.out T9)
            have C4 := Aside0.mk (blk_drew C9.out)
            have N4 := Aside0.mk (N9.out.below T9)
            have K4 := Aside0.mk (K9.out.below T9)
            have R4 := Aside0.mk (R9.out.below T9)
            have Z4 := Aside0.mk Z9.out
            rw [show w9.heap.size = w9.drew.heap.size from rfl] at Z4
            clear k2 T9
            generalize w9.drew = wd at hHeld B4 C4 N4 K4 R4 Z4 ⊢
            refine pure_ (i := 1) (N := some 87) (v := ?_) (a' := ?_) #[false, true, false, false, false, false, false, false, false] rfl rfl (by kernel_rfl) (fun _ _ _ h => h) (Or.inl ⟨by rfl, ?_⟩) ?_ ?_
            rotate_left
            · intro w'
              go_simp
              with_reducible rfl
            rotate_left
            · simp only [Act.put, List.setIfInBounds_toArray, List.set_cons_zero, List.set_cons_succ, i64_w, i32_w]
              rfl
            refine pure_ (i := 2) (N := some 88) (v := ?_) (a' := ?_) #[false, true, true, false, false, false, false, false, false] rfl rfl (by kernel_rfl) (fun _ _ _ h => h) (Or.inl ⟨by rfl, ?_⟩) ?_ ?_
            rotate_left
            · intro w'
              go_simp
              with_reducible rfl
            rotate_left
            · simp only [Act.put, List.setIfInBounds_toArray, List.set_cons_zero, List.set_cons_succ, i64_w, i32_w]
              rfl
            refine pure_ (i := 3) (N := some 89) (v := ?_) (a' := ?_) #[false, true, true, true, false, false, false, false, false] rfl rfl (by kernel_rfl) (fun _ _ _ h => h) (Or.inl ⟨by rfl, ?_⟩) ?_ ?_
            rotate_left
            · intro w'
              go_simp
              with_reducible rfl
            rotate_left
            · simp only [Act.put, List.setIfInBounds_toArray, List.set_cons_zero, List.set_cons_succ, i64_w, i32_w]
              rfl
            refine pure_ (i := 4) (N := some 90) (v := ?_) (a' := ?_) #[false, true, true, true, true, false, false, false, false] rfl rfl (by kernel_rfl) (fun _ _ _ h => h) (Or.inl ⟨by rfl, ?_⟩) ?_ ?_
            rotate_left
            · intro w'
              go_simp
              with_reducible rfl
            rotate_left
            · simp only [Act.put, List.setIfInBounds_toArray, List.set_cons_zero, List.set_cons_succ, i64_w, i32_w]
              rfl
            refine take_ (i := 0) (N := some 86) (v := ?_) (a' := ?_) #[true, true, true, true, true, false, false, false, false] rfl rfl (by kernel_rfl) (fun _ _ _ h => h) (Or.inl ⟨by rfl, ?_⟩) hHeld ?_ ?_
            rotate_left
            · rintro w' ⟨s0, s1, s2⟩
              go_simp
              with_reducible rfl
            rotate_left
            · simp only [Act.put, List.setIfInBounds_toArray, List.set_cons_zero, List.set_cons_succ, i64_w, i32_w]
              rfl
            refine take_ (i := 5) (N := some 91) (v := ?_) (a' := ?_) #[true, true, true, true, true, true, false, false, false] rfl rfl (by kernel_rfl) (fun _ _ _ h => h) (Or.inl ⟨by rfl, ?_⟩) hHeld ?_ ?_
            rotate_left
            · rintro w' ⟨s0, s1, s2⟩
              go_simp
              with_reducible rfl
            rotate_left
            · simp only [Act.put, List.setIfInBounds_toArray, List.set_cons_zero, List.set_cons_succ, i64_w, i32_w]
              rfl
            refine one_ (i := 6) (N := some 92) #[true, true, true, true, true, true, true, false, false] rfl rfl (by kernel_rfl) (by decide) (fun K hK => ?_)
            refine goes_ Try.func21 (by kernel_rfl) rfl #[.int .i64 x.f1] (by rfl) rfl rfl (by simp only [List.map_toArray, List.map_cons, List.map_nil]; first | done | rfl) ?_
            refine (bof_of x.f1 wd (by rw [HXA.out.2.1]; exact tot_wf HKx4.out x.f0 HXA.out.1)).mono ?_
            rintro e w6 ⟨v6, rfl, hn6, hb6⟩
            refine ⟨_, rfl, ?_⟩
            have X6 := Aside0.mk ((hHeld.2.2 |> fun h => (hb6.cell (World.block_lt_of_cell? _ _ h)).trans h))
            have V6 := Aside0.mk hn6
            have N6 := Aside0.mk (N4.out.below hb6)
            have B6 := Aside0.mk (below_step B4.out hb6)
            have C6 := Aside0.mk ((hb6.block _ Z4.out).trans C4.out)
            have K6 := Aside0.mk (K4.out.below hb6)
            have R6 := Aside0.mk (R4.out.below hb6)
            have Z6 := Aside0.mk (Nat.lt_of_lt_of_le Z4.out hb6.size)
            refine hK.out _ _ ⟨(blk_cell C6.out 0).trans rfl, (blk_cell C6.out 1).trans rfl, X6.out⟩ (fun hHeld => ?_)
            clear hK K hn6 hb6
            refine norm_ (a' := ?_) ?_ ?_
            rotate_left
            · show Act.put _ (some 92) _ = _
              simp only [Act.put, List.setIfInBounds_toArray, List.set_cons_zero, List.set_cons_succ, i64_w, i32_w]
              rfl
            refine one_ (i := 7) (N := some 93) #[true, true, true, true, true, true, true, true, false] rfl rfl (by kernel_rfl) (by decide) (fun K hK => ?_)
            refine goes_ Try.func20 (by kernel_rfl) rfl #[.agg #[.slice As ns cs, .bool ms], v6] (by rfl) rfl rfl (by simp only [List.map_toArray, List.map_cons, List.map_nil]; first | done | rfl) ?_
            refine (nm_add N6.out (V6.out.six64 (by rw [HXA.out.2.1]; exact tot_wf HKx4.out x.f0 HXA.out.1)) (by omega)).mono ?_
            rintro e w7 ⟨r7, rfl, hn7, hb7⟩
            obtain ⟨A7, l7, c7, m7, rfl⟩ := hn7.shape
            refine ⟨_, rfl, ?_⟩
            have X7 := Aside0.mk ((hHeld.2.2 |> fun h => (hb7.cell (World.block_lt_of_cell? _ _ h)).trans h))
            have V7 := Aside0.mk hn7
            have B7 := Aside0.mk (below_step B6.out hb7)
            have C7 := Aside0.mk ((hb7.block _ Z6.out).trans C6.out)
            have K7 := Aside0.mk (K6.out.below hb7)
            have R7 := Aside0.mk (R6.out.below hb7)
            have Z7 := Aside0.mk (Nat.lt_of_lt_of_le Z6.out hb7.size)
            refine hK.out _ _ ⟨(blk_cell C7.out 0).trans rfl, (blk_cell C7.out 1).trans rfl, X7.out⟩ (fun hHeld => ?_)
            clear hK K hn7 hb7
            refine norm_ (a' := ?_) ?_ ?_
            rotate_left
            · show Act.put _ (some 93) _ = _
              simp only [Act.put, List.setIfInBounds_toArray, List.set_cons_zero, List.set_cons_succ, i64_w, i32_w]
              rfl
            refine last_ (i := 8) (N := none) #[true, true, true, true, true, true, true, true, true] rfl rfl (by kernel_rfl) (by decide) (fun K hK => ?_)
            have kc0 := (blk_cell C7.out 0).trans rfl
            have kc1 := (blk_cell C7.out 1).trans rfl
            have kf0 := blk_frozen C7.out 0
            have kf1 := blk_frozen C7.out 1
            go_simp
            refine hK.out _ _ ?_
            clear hK K
            refine done_ (by kernel_rfl) ?_
            clear hHeld kc0 kc1 kf0 kf1
            go_wp2_with fail
            have s1 := tn_set w7 w4.heap.size 0 (.slice A7 l7 c7)
            have s2 := s1.trans (tn_set _ w4.heap.size 1 (.bool m7))
            have hne : ∀ ad', some ad = some ad' → ad'.block ≠ w4.heap.size := fun ad' e q => by
              obtain ⟨g', e2, r', hr'⟩ := HRt4.out.1 ad' e
              have := blk_lt hr'
              rw [e2] at q
              simp only at q
              omega
            have e1 : (amts (tt.take (j + 1))).sum = (amts (tt.take j)).sum + x.f1 := by
              rw [List.take_add_one, HX.out]
              simp [amts]
            refine ⟨⟨j + 1, A7, l7, c7, m7, rfl, ⟨by omega, ?_, blk_set (blk_set C7.out 0 (.slice A7 l7 c7)) 1 (.bool m7), K7.out.turn s2 (fun k cs q e => by rw [q, C7.out] at e; simp at e) (fun k q o => by have := HKx4.out.own_lt k o; omega), (R7.out.set hne).set hne, Tn.below B7.out s2 (by have := HB4.out.size; have := Z7.out; omega) (fun k q => by rw [q]; exact HB4.out.size), by have := s2.size; have := Z7.out; omega⟩⟩, by simp [intOf]; omega⟩
            rw [e1]
            exact (V7.out.six (by rw [← e1]; exact psum_six HKx4.out HTLt.out HLENt.out cj)).turn C7.out s2

          · have cj2 : ¬ (↑j : Int) < ↑tl := by omega
            have hj : j = tl := by have := HJ.out.1; omega
            have hz : (amts (tt.take j)).sum = 0 := by
              rw [List.take_of_length_le (by rw [HTN.out]; omega)]
              exact tl_zero HKx4.out HTLt.out
            have hnm := HJ.out.2.1
            rw [hz] at hnm
            obtain ⟨A', c', hv⟩ := hnm.isz
            simp at hv
            obtain ⟨⟨rfl, rfl, rfl⟩, rfl⟩ := hv
            have kc0 := (blk_cell HJ.out.2.2.1 0).trans rfl
            clear hnm
            go_wp2_with fail
            go_ret
            exact ⟨rfl, HJ.out.2.2.2.2.2.1⟩



end Go.Proofs.Ytcdhnglefldalaa.PBook
