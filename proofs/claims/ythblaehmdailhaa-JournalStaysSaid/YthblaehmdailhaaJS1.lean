import Derived.Test.YthblaehmdailhaaJW
namespace Go.Proofs.Ythblaehmdailhaa.PJournalStays
open Go.RowKit Go.Proofs.YthblaehmdailhaaW.PrintWords Go.Proofs.YthblaehmdailhaaW.PrintLast Go.Proofs.YthblaehmdailhaaW.PrintMore
set_option linter.unusedVariables false
set_option linter.unusedSimpArgs false
attribute [local go_sem high] slEq slNe slEq0 slNe0 cerEqI cerEqL cerEqR cerNeI cerNeL cerNeR
theorem Src.lt' {w : World} {ad : Addr} {l : List Int} (h : Src w ad l) (hl : 1 ≤ l.length) : ad.block < w.heap.size := by
  have := World.block_lt_of_cell? w _ (h 0 l[0] (List.getElem?_eq_getElem (by omega)))
  have hb : (ad.add 0).block = ad.block := by unfold Addr.add; split <;> rfl
  rwa [hb] at this
theorem jst_bad {w : World} {base : Nat} {bad bad2 : Nat → Prop} {v : Value} (h : Rs w base bad v []) : Rs w base bad2 v [] := by
  obtain ⟨vs, ho, -⟩ := h
  exact ⟨vs, ho, fun i r hi => by cases hi⟩
theorem jst_list {w : World} {g : Nat} {l : List Int} (h : Blk w g ([] ++ l)) : Blk w g l := h
set_option maxHeartbeats 4000000 in
set_option maxRecDepth 100000 in
theorem jst_main (a0 : Addr) (c0 : Nat) (l0 : List Int) (w : World) (s0 : Src w a0 l0) (p0 : 1 ≤ l0.length) (m0 : l0.length ≤ 200) : Calls Try.prog 4 #[.slice (some a0) l0.length c0] w fun e w' => e = .returned (.bool true) ∧ Below w.heap.size w w' := by
  have U := Aside0.mk (fun W => jy_up W)
  have S0 := Aside0.mk s0
  clear s0
  have m0a : decide ((↑l0.length : Int) < 1) = false := decide_eq_false (by omega)
  have m0b : decide ((200 : Int) < ↑l0.length) = false := decide_eq_false (by omega)
  go_enter Try.func4, Try.ntmps4
  go_wp2_with fail
  refine (U.out _).mono ?_
  rintro e w0 ⟨rfl, hb⟩
  have B0 := Aside0.mk hb
  clear hb
  go_wp2_with fail
  refine (jd_new 8 _ (by decide) (by decide)).mono ?_
  rintro e w1 ⟨bd, bs, bn, bm, rfl, hD, g1, g2, g3, g4, hb⟩
  have HD1 : Aside0 (Dk w1 bd bs bn bm 512 (List.replicate 512 0) (List.replicate 512 0) 0 (.map [])) := ⟨hD⟩
  have B1 := Aside0.mk (below_step B0.out hb)
  have G1 : Aside0 (w.heap.size ≤ bd ∧ w.heap.size ≤ bs ∧ w.heap.size ≤ bn ∧ w.heap.size ≤ bm) := ⟨by have := B0.out.size; omega⟩
  clear hD g1 g2 g3 g4 hb
  go_wp2_with fail
  refine (js_new w.heap.size B1.out.size HD1.out (by decide) (by decide) (by decide)).mono ?_
  rintro e w2 ⟨bj, v, rfl, hbj, hJ, hv, ht⟩
  have HJ2 := Aside0.mk hJ
  have B2 := Aside0.mk (Tn.below B1.out ht B1.out.size (fun k q => by have := G1.out; rcases q with q | q | q <;> omega))
  have HV2 := Aside0.mk hv
  have HBJ : Aside0 (w.heap.size ≤ bj) := ⟨Nat.le_trans B1.out.size hbj⟩
  clear hJ hv ht hbj
  obtain ⟨i0, hi, hz0, hz1, hz2⟩ := info_parts jd_info
  have HI := Aside0.mk hi
  clear hi
  go_wp2_with (at_builtin; refine wpList_append_own_at _ rfl _ _ 22 rfl w2.heap.size 5 i0 (.int .u8 0) 1 1 Try.underlying22 HI.out hz0 hz1 hz2 rfl (by decide) (.slice (some ⟨w2.heap.size, 0, none⟩) 0 0) 0 [] rfl (own_empty w2) a0 l0.length c0 (bv l0) rfl (by simp [bv]) (bv_cells ((S0.out.below B2.out).alloc _)) (bv_one l0) (by unfold maxLen; omega) (by omega) (by simp) ?_; intro vo w3 hown3 hgrow3 hnil3 hloc3; obtain ⟨go, co, rfl, hgo, hbo, hco⟩ := own_blk hown3 (by omega); have BO3 := Aside0.mk (jst_list hbo); have Z3 := Aside0.mk ((below_alloc (Below.refl w2.heap.size w2) _).grown hgrow3 (by simp) (fun k hk => by cases hk; exact Nat.le_refl _)); have HGO := Aside0.mk hgo; clear hown3 hgrow3 hnil3 hloc3 hgo hbo hco)
  obtain ⟨st2, D2, hD2⟩ := HJ2.out.d
  have L2 := HJ2.out.lts
  have LO := BO3.out.lt
  have LV : ∀ k, v.ownBlock = some k → k < w2.heap.size := fun k q => by
    obtain ⟨vs, ho, -⟩ := HJ2.out.r
    obtain ⟨cs, hc⟩ := own_typed ho q
    exact blk_lt hc
  have AP := ja_ok (bad := fun k => k = bs ∨ k = bn ∨ k = go) (HJ2.out.j.below Z3.out) (jst_bad (HJ2.out.r.below Z3.out)) (Or.inl rfl) (Or.inr (Or.inl rfl)) (fun k q => by have h1 := Z3.out.size; rcases q with q | q | q <;> omega) (by have h1 := B2.out.size; have h2 := Z3.out.size; omega) (hD2.below Z3.out) (by decide) ⟨go, 0, none⟩ l0 co BO3.out.src0 ⟨by have := HGO.out; show go ≠ bs; omega, by have := HGO.out; show go ≠ bn; omega, by have := HGO.out; show go ≠ bm; omega⟩ p0 (by omega) (by simp [enc]; omega) (by omega) (by simp)
  refine AP.mono ?_
  rintro e w4 ⟨rfl, v4, hJ4, hR4, ⟨D4, hD4⟩, t4, -⟩
  have BO4 := Aside0.mk (BO3.out.turn t4 (fun q => by
    have h1 := HGO.out
    rcases q with q | q | q | q | q
    · omega
    · omega
    · omega
    · omega
    · have := LV go q; omega))
  have B4 := Aside0.mk (Tn.below (below_step B2.out Z3.out) t4 (by have h1 := B2.out.size; have h2 := Z3.out.size; omega) (fun k q => by
    have h1 := G1.out
    have h2 := HBJ.out
    rcases q with q | q | q | q | q
    · omega
    · omega
    · omega
    · omega
    · exact HV2.out k q))
  have HJ4 := Aside0.mk hJ4
  have HR4 : Aside0 (Rs w4 w.heap.size (fun k => k = bs ∨ k = bn ∨ k = go) v4 [l0]) := ⟨hR4⟩
  have HD4 := Aside0.mk hD4
  have HGB : Aside0 (w.heap.size ≤ go ∧ go ≠ bj ∧ go ≠ bd ∧ go ≠ bs ∧ go ≠ bn ∧ go ≠ bm) := ⟨by have h1 := HGO.out; have h2 := B2.out.size; omega⟩
  clear AP hJ4 hR4 hD4 t4 L2 LO LV hD2
  have sq1 := BO4.out.str co (by omega)
  have sq2 := (S0.out.below B4.out).str c0 (by omega)
  have sb : ((strOfNums l0).toList == (strOfNums l0).toList) = true := beq_self_eq_true _
  have nb : ((strOfNums l0).toList != (strOfNums l0).toList) = false := bne_self_eq_false _
  generalize hsr : strOfNums l0 = sr at sq1 sq2 sb nb
  have HSR := Aside0.mk hsr
  clear hsr
  go_wp2_with fail
  clear sq1 sq2
  go_loopw [11] (fun v11 wr => ∃ i : Nat, v11 = .int .i64 ↑i ∧ Aside0 (Tn (fun k => k = go) w4 wr ∧ ∃ l', l'.length = l0.length ∧ Blk wr go l')) (fun v11 _ => (l0.length - intOf v11).toNat)
  case atStart => exact ⟨0, rfl, ⟨Tn.refl _ _, l0, rfl, BO4.out⟩⟩
  case round =>
    obtain ⟨i, rfl, HX⟩ := hrel
    obtain ⟨t5, l', hl', hbl⟩ := HX.out
    by_cases ci : i < l0.length
    · have ci2 : (↑i : Int) < ↑l0.length := by omega
      have i0' : (0 : Int) ≤ ↑i := by omega
      obtain ⟨x, hx⟩ : ∃ x, l'[i]? = some x := ⟨l'[i], List.getElem?_eq_getElem (by omega)⟩
      have c := hbl.cell hx
      have f : wr.frozen? ⟨go, i, none⟩ = false := by obtain ⟨rs, hr⟩ := hbl; exact blk_frozen hr i
      have T5 := Aside0.mk t5
      have BL := Aside0.mk hbl
      clear hx t5 hbl HX
      go_wp2_with fail
      exact ⟨⟨i + 1, rfl, ⟨T5.out.trans (tn_set _ _ _ _), _, (List.length_set ..).trans hl', BL.out.set (by omega) _⟩⟩, by simp [intOf]; omega⟩
    · have ci2 : ¬ (↑i : Int) < ↑l0.length := by omega
      have HJ5 : Aside0 (Jb wr bj bd v4 ((enc []).length + (8 + l0.length)) false) := ⟨t5.blk HJ4.out (fun q => HGB.out.2.1 q.symm)⟩
      have HR5 : Aside0 (Rs wr w.heap.size (fun k => k = bs ∨ k = bn ∨ k = go) v4 [l0]) := ⟨HR4.out.turn t5 (fun k c q h => by obtain ⟨rs, hr⟩ := BO4.out; rw [q] at h; exact ty_ne hr h (by decide)) (fun k c q h => Or.inr (Or.inr q))⟩
      have B5 := Aside0.mk (Tn.below B4.out t5 B4.out.size (fun k q => by have := HGB.out.1; omega))
      clear t5 hbl HX hl'
      go_wp2_with fail
      refine (jq_records HJ5.out HR5.out (by simp)).mono ?_
      rintro e w6 ⟨vr, rfl, hr6, hb6⟩
      obtain ⟨gr, cr, g, o, k, e6, cc, ss, hg, hgr, hne, hk, ht⟩ := hr6.typ (i := 0) (r := l0) rfl
      subst e6
      have B6 := Aside0.mk (below_step B5.out hb6)
      have Z6 := Aside0.mk hb6
      have SS := Aside0.mk ss
      have HT := Aside0.mk ht
      have GG := Aside0.mk (And.intro hg (And.intro hgr (And.intro hne hk)))
      have z0 := gb_cell (World.block_lt_of_cell? w6 ⟨gr, 0, none⟩ cc) cc
      have sq1 : ∀ p : GWrld w6, (convert 22 9 (.slice (some ⟨g, o, none⟩) l0.length k)).run Try.prog p.w' = .ok (.string sr) p.w' := fun p => by rw [← HSR.out]; exact (ss.below p.b).str k (by omega)
      have sq2 : ∀ p : GWrld w6, (convert 22 9 (.slice (some a0) l0.length c0)).run Try.prog p.w' = .ok (.string sr) p.w' := fun p => by rw [← HSR.out]; exact (S0.out.below (below_step B6.out p.b)).str c0 (by omega)
      have CC := Aside0.mk cc
      clear hr6 hb6 ss ht hg hgr hne hk cc
      go_wp2_with fail
      refine gb_region (by kernel_rfl) (by kernel_rfl) ?_
      repeat (go_big_quiet_step (fail))
      refine wpQuiet_nil ?_
      intro _ hw'
      obtain ⟨gq, hw''⟩ := hw'
      subst hw''
      have CC7 := Aside0.mk ((gq.b.cell (World.block_lt_of_cell? w6 _ CC.out)).trans CC.out)
      have SS7 := Aside0.mk (SS.out.below gq.b)
      have HT7 : Aside0 (∃ cs, gq.w'.heap[g]? = some (.cells cs 5 (0, 0))) := ⟨by obtain ⟨cs, hcs⟩ := HT.out; exact ⟨cs, (gq.b.block g (blk_lt hcs)).trans hcs⟩⟩
      have B7 := Aside0.mk (below_step B6.out gq.b)
      have Z7 := Aside0.mk (below_step Z6.out gq.b)
      clear z0 sq1 sq2
      generalize gq.w' = wq at CC7 SS7 HT7 B7 Z7 ⊢
      go_wp2_with fail
      go_loopw [13] (fun v13 wr2 => ∃ i : Nat, v13 = .int .i64 ↑i ∧ Aside0 (Tn (fun k => k = g) wq wr2 ∧ ∃ l', l'.length = l0.length ∧ Src wr2 ⟨g, o, none⟩ l' ∧ ∃ cs, wr2.heap[g]? = some (.cells cs 5 (0, 0)))) (fun v13 _ => (l0.length - intOf v13).toNat)
      case atStart => exact ⟨0, rfl, ⟨Tn.refl _ _, l0, rfl, SS7.out, HT7.out⟩⟩
      case round =>
        obtain ⟨i2, rfl, HX⟩ := hrel
        obtain ⟨t8, l', hl', hsl, htl⟩ := HX.out
        have cc : wr.cell? ⟨gr, 0, none⟩ = some (.slice (some ⟨g, o, none⟩) l0.length k) := by
          rw [World.cell?_of_block (t8.block gr (World.block_lt_of_cell? wq ⟨gr, 0, none⟩ CC7.out) (fun q => GG.out.2.2.1 q))]
          exact CC7.out
        by_cases ci : i2 < l0.length
        · have ci2 : (↑i2 : Int) < ↑l0.length := by omega
          have i0' : (0 : Int) ≤ ↑i2 := by omega
          obtain ⟨x, hx⟩ : ∃ x, l'[i2]? = some x := ⟨l'[i2], List.getElem?_eq_getElem (by omega)⟩
          have c := hsl i2 x hx
          rw [ad_add] at c
          have f : wr.frozen? ⟨g, o + i2, none⟩ = false := by obtain ⟨rs, hr⟩ := htl; exact blk_frozen hr (o + i2)
          have T8 := Aside0.mk t8
          have SL := Aside0.mk hsl
          have TL := Aside0.mk htl
          clear hx t8 hsl htl HX
          go_wp2_with fail
          refine start_ (n := 13) (S := fun w' => w'.cell? ⟨gr, 0, none⟩ = some (.slice (some ⟨g, o, none⟩) l0.length k) ∧ w'.cell? ⟨g, o + i2, none⟩ = some (.int .u8 x)) (ds := [12]) #[false, false, false, false, false, false, false, false, false, false, false, false, false] (by kernel_rfl) rfl rfl ⟨cc, c⟩ (fun hHeld => ?_)
          have T9 := Aside0.mk (T8.out.trans (Tn.of_below (below_drew1 (Below.refl wr.heap.size wr))))
          have SL9 := Aside0.mk (SL.out.below (below_drew1 (Below.refl wr.heap.size wr)))
          have TL9 : Aside0 (∃ cs, wr.drew.heap[g]? = some (.cells cs 5 (0, 0))) := TL
          generalize wr.drew = wd at hHeld T9 SL9 TL9 ⊢
          clear cc c f
          refine pure_ (i := 0) (N := some 101) (v := ?_) (a' := ?_) #[true, false, false, false, false, false, false, false, false, false, false, false, false] rfl rfl (by kernel_rfl) (fun _ _ _ h => h) (Or.inl ⟨by rfl, ?_⟩) ?_ ?_
          rotate_left
          · intro w'
            go_simp
            with_reducible rfl
          rotate_left
          · simp only [Act.put, List.setIfInBounds_toArray, List.set_cons_zero, List.set_cons_succ, i64_w, i32_w]
            rfl
          refine pure_ (i := 1) (N := some 102) (v := ?_) (a' := ?_) #[true, true, false, false, false, false, false, false, false, false, false, false, false] rfl rfl (by kernel_rfl) (fun _ _ _ h => h) (Or.inl ⟨by rfl, ?_⟩) ?_ ?_
          rotate_left
          · intro w'
            go_simp
            with_reducible rfl
          rotate_left
          · simp only [Act.put, List.setIfInBounds_toArray, List.set_cons_zero, List.set_cons_succ, i64_w, i32_w]
            rfl
          refine take_ (i := 2) (N := some 103) (v := ?_) (a' := ?_) #[true, true, true, false, false, false, false, false, false, false, false, false, false] rfl rfl (by kernel_rfl) (fun _ _ _ h => h) (Or.inl ⟨by rfl, ?_⟩) hHeld ?_ ?_
          rotate_left
          · rintro w' ⟨s0, s1⟩
            go_simp
            with_reducible rfl
          rotate_left
          · simp only [Act.put, List.setIfInBounds_toArray, List.set_cons_zero, List.set_cons_succ, i64_w, i32_w]
            rfl
          refine pure_ (i := 3) (N := some 104) (v := ?_) (a' := ?_) #[true, true, true, true, false, false, false, false, false, false, false, false, false] rfl rfl (by kernel_rfl) (fun _ _ _ h => h) (Or.inl ⟨by rfl, ?_⟩) ?_ ?_
          rotate_left
          · intro w'
            go_simp
            with_reducible rfl
          rotate_left
          · simp only [Act.put, List.setIfInBounds_toArray, List.set_cons_zero, List.set_cons_succ, i64_w, i32_w]
            rfl
          refine pure_ (i := 4) (N := some 105) (v := ?_) (a' := ?_) #[true, true, true, true, true, false, false, false, false, false, false, false, false] rfl rfl (by kernel_rfl) (fun _ _ _ h => h) (Or.inl ⟨by rfl, ?_⟩) ?_ ?_
          rotate_left
          · intro w'
            go_simp
            with_reducible rfl
          rotate_left
          · simp only [Act.put, List.setIfInBounds_toArray, List.set_cons_zero, List.set_cons_succ, i64_w, i32_w]
            rfl
          refine pure_ (i := 5) (N := some 106) (v := ?_) (a' := ?_) #[true, true, true, true, true, true, false, false, false, false, false, false, false] rfl rfl (by kernel_rfl) (fun _ _ _ h => h) (Or.inl ⟨by rfl, ?_⟩) ?_ ?_
          rotate_left
          · intro w'
            go_simp
            with_reducible rfl
          rotate_left
          · simp only [Act.put, List.setIfInBounds_toArray, List.set_cons_zero, List.set_cons_succ, i64_w, i32_w]
            rfl
          refine take_ (i := 6) (N := some 107) (v := ?_) (a' := ?_) #[true, true, true, true, true, true, true, false, false, false, false, false, false] rfl rfl (by kernel_rfl) (fun _ _ _ h => h) (Or.inl ⟨by rfl, ?_⟩) hHeld ?_ ?_
          rotate_left
          · rintro w' ⟨s0, s1⟩
            go_simp
            with_reducible rfl
          rotate_left
          · simp only [Act.put, List.setIfInBounds_toArray, List.set_cons_zero, List.set_cons_succ, i64_w, i32_w]
            rfl
          refine pure_ (i := 7) (N := some 108) (v := ?_) (a' := ?_) #[true, true, true, true, true, true, true, true, false, false, false, false, false] rfl rfl (by kernel_rfl) (fun _ _ _ h => h) (Or.inl ⟨by rfl, ?_⟩) ?_ ?_
          rotate_left
          · intro w'
            go_simp
            with_reducible rfl
          rotate_left
          · simp only [Act.put, List.setIfInBounds_toArray, List.set_cons_zero, List.set_cons_succ, i64_w, i32_w]
            rfl
          refine pure_ (i := 8) (N := some 109) (v := ?_) (a' := ?_) #[true, true, true, true, true, true, true, true, true, false, false, false, false] rfl rfl (by kernel_rfl) (fun _ _ _ h => h) (Or.inl ⟨by rfl, ?_⟩) ?_ ?_
          rotate_left
          · intro w'
            go_simp
            with_reducible rfl
          rotate_left
          · simp only [Act.put, List.setIfInBounds_toArray, List.set_cons_zero, List.set_cons_succ, i64_w, i32_w]
            rfl
          refine take_ (i := 9) (N := some 110) (v := ?_) (a' := ?_) #[true, true, true, true, true, true, true, true, true, true, false, false, false] rfl rfl (by kernel_rfl) (fun _ _ _ h => h) (Or.inl ⟨by rfl, ?_⟩) hHeld ?_ ?_
          rotate_left
          · rintro w' ⟨s0, s1⟩
            go_simp
            with_reducible rfl
          rotate_left
          · simp only [Act.put, List.setIfInBounds_toArray, List.set_cons_zero, List.set_cons_succ, i64_w, i32_w]
            rfl
          refine pure_ (i := 10) (N := some 111) (v := ?_) (a' := ?_) #[true, true, true, true, true, true, true, true, true, true, true, false, false] rfl rfl (by kernel_rfl) (fun _ _ _ h => h) (Or.inl ⟨by rfl, ?_⟩) ?_ ?_
          rotate_left
          · intro w'
            go_simp
            with_reducible rfl
          rotate_left
          · simp only [Act.put, List.setIfInBounds_toArray, List.set_cons_zero, List.set_cons_succ, i64_w, i32_w]
            rfl
          refine pure_ (i := 11) (N := some 112) (v := ?_) (a' := ?_) #[true, true, true, true, true, true, true, true, true, true, true, true, false] rfl rfl (by kernel_rfl) (fun _ _ _ h => h) (Or.inl ⟨by rfl, ?_⟩) ?_ ?_
          rotate_left
          · intro w'
            go_simp
            with_reducible rfl
          rotate_left
          · simp only [Act.put, List.setIfInBounds_toArray, List.set_cons_zero, List.set_cons_succ, i64_w, i32_w]
            rfl
          obtain ⟨s0, s1⟩ := hHeld
          have f : wd.frozen? ⟨g, o + i2, none⟩ = false := by obtain ⟨rs, hr⟩ := TL9.out; exact blk_frozen hr (o + i2)
          refine last_ (i := 12) (N := none) #[true, true, true, true, true, true, true, true, true, true, true, true, true] rfl rfl (by kernel_rfl) (by decide) (fun K hK => ?_)
          go_simp
          refine hK.out _ _ ?_
          clear hK K
          refine done_ (by kernel_rfl) ?_
          go_wp2_with fail
          refine ⟨⟨i2 + 1, rfl, ⟨T9.out.trans (tn_set _ _ _ _), _, (List.length_set ..).trans hl', (SL9.out.set TL9.out i2 _).1, (SL9.out.set TL9.out i2 _).2⟩⟩, by simp [intOf]; omega⟩

        · have ci2 : ¬ (↑i2 : Int) < ↑l0.length := by omega
          have Z8 := Aside0.mk (Tn.below Z7.out t8 Z7.out.size (fun k q => by have := GG.out.1; omega))
          have B8 := Aside0.mk (below_step B5.out Z8.out)
          clear t8 hsl htl HX hl'
          go_wp2_with fail
          refine (jq_records (HJ5.out.below Z8.out) (HR5.out.below Z8.out) (by simp)).mono ?_
          rintro e w9 ⟨vs9, rfl, hr9, hb9⟩
          obtain ⟨gr9, cr9, g9, o9, k9, e9, cc9, ss9, -, -, -, -, -⟩ := hr9.typ (i := 0) (r := l0) rfl
          subst e9
          have B9 := Aside0.mk (below_step B8.out hb9)
          have z0 := gb_cell (World.block_lt_of_cell? w9 ⟨gr9, 0, none⟩ cc9) cc9
          have sq1 : ∀ p : GWrld w9, (convert 22 9 (.slice (some ⟨g9, o9, none⟩) l0.length k9)).run Try.prog p.w' = .ok (.string sr) p.w' := fun p => by rw [← HSR.out]; exact (ss9.below p.b).str k9 (by omega)
          have sq2 : ∀ p : GWrld w9, (convert 22 9 (.slice (some a0) l0.length c0)).run Try.prog p.w' = .ok (.string sr) p.w' := fun p => by rw [← HSR.out]; exact (S0.out.below (below_step B9.out p.b)).str c0 (by omega)
          clear hr9 hb9 cc9 ss9 cc
          go_wp2_with fail
          refine gb_region (by kernel_rfl) (by kernel_rfl) ?_
          repeat (go_big_quiet_step (fail))
          refine wpQuiet_nil ?_
          intro _ hw'
          obtain ⟨gq9, hw''⟩ := hw'
          subst hw''
          go_wp2_with fail
          go_ret
          exact ⟨rfl, below_step B9.out gq9.b⟩

set_option maxRecDepth 100000 in
theorem jst_out (A0 : Option Addr) (c0 : Nat) (l0 : List Int) (w : World) (hl : ¬ (1 ≤ l0.length ∧ l0.length ≤ 200)) : Calls Try.prog 4 #[.slice A0 l0.length c0] w fun e w' => e = .returned (.bool true) ∧ Below w.heap.size w w' := by
  have U := Aside0.mk (fun W => jy_up W)
  obtain ⟨s, hs⟩ : ∃ s, decide ((↑l0.length : Int) < 1) = s := ⟨_, rfl⟩
  have t1 : s = true ∨ decide ((200 : Int) < ↑l0.length) = true := by
    by_cases c : l0.length < 1
    · exact .inl (by rw [← hs]; exact decide_eq_true (by omega))
    · exact .inr (decide_eq_true (by omega))
  clear hl
  go_enter Try.func4, Try.ntmps4
  go_wp2_with fail
  refine (U.out _).mono ?_
  rintro e w1 ⟨rfl, hb1⟩
  have B1 := Aside0.mk hb1
  clear hb1
  cases s with
  | true =>
    clear t1
    go_wp2
    go_ret
    exact ⟨rfl, B1.out⟩
  | false =>
    have t2 : decide ((200 : Int) < ↑l0.length) = true := by
      rcases t1 with h | h
      · cases h
      · exact h
    clear t1
    go_wp2
    go_ret
    exact ⟨rfl, B1.out⟩

end Go.Proofs.Ythblaehmdailhaa.PJournalStays
