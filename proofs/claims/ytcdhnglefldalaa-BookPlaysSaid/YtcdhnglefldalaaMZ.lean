import Derived.Test.YtcdhnglefldalaaMNB
namespace Go.Proofs.Ytcdhnglefldalaa.PBook
open Go.RowKit Go.Proofs.YtcdhnglefldalaaW.PrintWords Go.Proofs.YtcdhnglefldalaaW.PrintLast Go.Proofs.YtcdhnglefldalaaW.PrintMore
set_option linter.unusedVariables false
set_option linter.unusedSimpArgs false
open Go.Proofs.Ytcdhnglefldalaa.PBookPlays (S32 S34 S40 k32 k34 k40 z32 z34 z40 rd_T34 at_T34 rd_T40 at_T40 k40_open errEqI errEqL errEqR errNeI errNeL errNeR trivetlaw10_pick.f trivetlaw10_pick.calls)
open Go.Maps
attribute [local go_sem high] errEqI errNeI errEqL errNeL errEqR errNeR
/-- Deeds that can be read, and room for their lines. -/
def Drc (w : World) (A : Option Addr) (L : List S40) : Prop := ∀ (j : Nat) (x : S40), L[j]? = some x → ∃ ad A2 c2, A = some ad ∧ w.cell? (ad.add (j * 3)) = some (.int .i64 x.f0) ∧ w.cell? ⟨(ad.add (j * 3)).block, (ad.add (j * 3)).off + 1, none⟩ = some (.int .i64 x.f1) ∧ w.cell? ⟨(ad.add (j * 3)).block, (ad.add (j * 3)).off + 2, none⟩ = some (.slice A2 x.f2.length c2) ∧ x.f2.length ≤ c2 ∧ Lr w A2 x.f2
theorem Drc.dr {w : World} {A : Option Addr} {L : List S40} (h : Drc w A L) : Dr w A L := fun j x hx => by
  obtain ⟨ad, A2, c2, e, a, b, c, -, d⟩ := h j x hx
  exact ⟨ad, A2, c2, e, a, b, c, d⟩
theorem Drc.below {w W : World} {A : Option Addr} {L : List S40} (h : Drc w A L) (t : Below w.heap.size w W) : Drc W A L := fun j x hx => by
  obtain ⟨ad, A2, c2, e, a, b, c, l, d⟩ := h j x hx
  exact ⟨ad, A2, c2, e, (t.cell (World.block_lt_of_cell? w _ a)).trans a, bl_cell b t, bl_cell c t, l, d.below t⟩
theorem Drc.of_C {w : World} {A : Option Addr} {L : List S40} (h : Kd.C k40 w A L.length L) : Drc w A L := fun j x hx => by
  have hj : j < L.length := (List.getElem?_eq_some_iff.1 hx).1
  obtain ⟨ad, c, e, _, hK, hc0⟩ := Kd.C_get h z40 (j : Int) (by omega) (by omega)
  have e2 : L.getD (j : Int).toNat z40 = x := by rw [Int.toNat_natCast, List.getD_eq_getElem?_getD, hx]; rfl
  have hc : ∀ i u, c[i]? = some u → w.cell? (ad.add ((j : Int).toNat * 3 + i)) = some u := hc0
  rw [e2] at hK
  obtain ⟨A2, c2, rfl, l2, g2⟩ := k40_open hK
  rw [Int.toNat_natCast] at hc
  exact ⟨ad, A2, c2, e, hc 0 _ rfl, by rw [← add_field _ _ 1 (by omega)]; exact hc 1 _ rfl, by rw [← add_field _ _ 2 (by omega)]; exact hc 2 _ rfl, l2, Lr.of_C g2⟩
theorem SameB.lm {w : World} {B bb bm : Nat} {ev : Value} {R M : List En} (h : SameB R M) (k : Bk w B bb bm ev R) : Lm M := fun x hx y hy => by
  obtain ⟨z, hz, e, -⟩ := h.mem hx
  have hs := (k.good z hz).2.1
  rw [e] at hs
  unfold shapedB at hs
  simp at hs
  have := hs.2 y hy
  unfold odd1 at this
  simp at this
  exact this.2
theorem sameB_wf {w : World} {B bb bm : Nat} {ev : Value} {R M : List En} (h : SameB R M) (k : Bk w B bb bm ev R) : ∀ a, WA a → W64 (tot M a) := fun a ha => by
  rw [← h.tot]
  exact tot_wf k a ha
theorem mb_new (w : World) (B : Nat) (hB : B ≤ w.heap.size) : Mb (w.alloc (.cells #[.slice none 0 0, .slice none 0 0] 55)) B w.heap.size (.slice none 0 0) (.slice none 0 0) [] :=
  ⟨hB, blk_new w _, World.ownsRow_nil _ _ _ 1, World.ownsRow_nil _ _ _ 1, (fun x hx => by cases hx), (fun x hx => by cases hx), Nat.zero_le _⟩
set_option maxRecDepth 100000 in
set_option maxHeartbeats 8000000 in
theorem plays_ok (A0 : Option Addr) (c0 : Nat) (L : List S40) (a : S32) (n : Int) (w : World) (hA0 : Drc w A0 L) (hL : L.length ≤ 9223372036854775807) (hw0 : ∀ x ∈ L, WLs x.f2) (ha : WA a) : Calls Try.prog 7 #[.slice A0 L.length c0, .agg #[.int .i64 a.f0, .int .i64 a.f1], .int .i64 n] w fun e w' => e = .returned (.bool true) ∧ Below w.heap.size w w' := by
  have HA0 := Aside0.mk hA0
  have HWL := Aside0.mk hw0
  have HWA := Aside0.mk ha
  have U := Aside0.mk (fun W => bl_up W)
  clear hA0 hw0 ha
  go_enter Try.func7, Try.ntmps7
  go_wp2_with fail
  refine (U.out _).mono ?_
  rintro e w1 ⟨rfl, hb⟩
  have al := below_alloc (Below.refl w.heap.size w) (.cells #[.int .i64 a.f0, .int .i64 a.f1] 32)
  have B1 := Aside0.mk (below_step al hb)
  have X1 := Aside0.mk ((hb.block _ (by simp)).trans (blk_new w (.cells #[.int .i64 a.f0, .int .i64 a.f1] 32)))
  clear hb al
  go_wp2_with fail
  refine (bd_short A0 c0 L w1 (HA0.out.below B1.out).dr hL).mono ?_
  rintro e w2 ⟨rfl, hb⟩
  have B2 := Aside0.mk (below_step B1.out hb)
  have X2 := Aside0.mk ((hb.block _ (blk_lt X1.out)).trans X1.out)
  clear hb
  go_wp2_with fail
  refine (bk_new w2).mono ?_
  rintro e w3 ⟨box, mox, rfl, hk, hb⟩
  have B3 := Aside0.mk (below_step B2.out hb)
  have X3 := Aside0.mk ((hb.block _ (blk_lt X2.out)).trans X2.out)
  have K3 := Aside0.mk hk
  have Z2 := Aside0.mk (blk_lt X2.out)
  have Z3 := Aside0.mk hb.size
  clear hb hk
  obtain ⟨B, hBB⟩ : ∃ B, w2.heap.size = B := ⟨_, rfl⟩
  rw [hBB] at K3 Z2 Z3
  clear hBB
  by_cases ps : shortB L = true
  rotate_left
  · have ps2 : shortB L = false := by simpa using ps
    clear ps
    go_wp2_with fail
    go_ret
    exact ⟨rfl, B3.out⟩
  have PS := Aside0.mk ps
  go_wp2_with fail
  have M4 := Aside0.mk (mb_new w3 B Z3.out)
  have al := below_alloc (Below.refl w3.heap.size w3) (.cells #[.slice none 0 0, .slice none 0 0] 55)
  have K4 := Aside0.mk (K3.out.below al)
  have B4 := Aside0.mk (below_step B3.out al)
  have X4 := Aside0.mk ((al.block _ (blk_lt X3.out)).trans X3.out)
  clear al
  generalize w3.alloc (.cells #[.slice none 0 0, .slice none 0 0] 55) = w4 at M4 K4 B4 X4 ⊢
  obtain ⟨mb, hmb⟩ : ∃ mb, w3.heap.size = mb := ⟨_, rfl⟩
  rw [hmb] at M4 ⊢
  clear hmb
  go_loopw [11, 12] (fun v11 _ wr => ∃ (i : Nat) (ev lv dv : Value) (R M : List En), v11 = .int .i64 ↑i ∧ Aside0 (i ≤ L.length ∧ i ≤ 40 ∧ Bk wr B box mox ev R ∧ Mb wr B mb lv dv M ∧ SameB R M ∧ wr.heap[w.heap.size]? = some (.cells #[.int .i64 a.f0, .int .i64 a.f1] 32 (0, 0)) ∧ Below w.heap.size w wr)) (fun v11 _ _ => (40 - intOf v11).toNat)
  case atStart => exact ⟨0, _, _, _, [], [], rfl, ⟨Nat.zero_le _, by omega, K4.out, M4.out, rfl, X4.out, B4.out⟩⟩
  case round =>
    obtain ⟨i, ev, lv, dv, R, M, rfl, HI⟩ := hrel
    have hgo : (i < L.length ∧ i < 40) ∨ ¬ (i < L.length ∧ i < 40) := Classical.em _
    have HBS := Aside0.mk (Nat.lt_of_lt_of_le Z2.out (by have := HI.out.2.2.1.hb; have := blk_lt HI.out.2.2.1.book; omega : B ≤ wr.heap.size))
    have HBW := Aside0.mk (show B ≤ wr.heap.size by have := HI.out.2.2.1.hb; have := blk_lt HI.out.2.2.1.book; omega)
    rcases hgo with ⟨ci, cj⟩ | hstop
    · have ci2 : (↑i : Int) < ↑L.length := by omega
      have i0 : (0 : Int) ≤ ↑i := by omega
      have cj2 : (↑i : Int) < 40 := by omega
      obtain ⟨x, hx⟩ : ∃ x, L[i]? = some x := ⟨L[i], List.getElem?_eq_getElem ci⟩
      have hln := short_at PS.out cj hx
      have HWX := Aside0.mk (HWL.out x (List.mem_of_getElem? hx))
      obtain ⟨ad, A2, c2, rfl, k0, k1, k2, k3, -⟩ := (HA0.out.below HI.out.2.2.2.2.2.2) i x hx
      have HX := Aside0.mk hx
      have HLR := Aside0.mk (fun (W : World) (t : Tn (fun k => B ≤ k) wr W) => show Lr W A2 x.f2 by
        have hb := Tn.below HI.out.2.2.2.2.2.2 t HI.out.2.2.2.2.2.2.size (fun k q => by have := Z2.out; omega)
        obtain ⟨ad', A2', c2', e1, -, -, e2, -, e3⟩ := (HA0.out.below hb) i x HX.out
        cases e1
        have e4 := t.cell k2 (fun q => by
          have h1 := World.block_lt_of_cell? w _ (show w.cell? ⟨(ad.add (i * 3)).block, (ad.add (i * 3)).off + 2, none⟩ = some (.slice A2' x.f2.length c2') from ?_)
          · have := Z2.out
            have h2 : (ad.add (i * 3)).block < w.heap.size := h1
            have q2 : B ≤ (ad.add (i * 3)).block := q
            omega
          · obtain ⟨ad3, A3, c3, f1, -, -, f2, -, -⟩ := HA0.out i x HX.out
            cases f1
            have f3 := bl_cell f2 hb
            rw [e2] at f3
            cases f3
            exact f2)
        rw [e2] at e4
        cases e4
        exact e3)
      have ONE := Aside0.mk (mq_one HI.out.2.2.1 HI.out.2.2.2.1 HI.out.2.2.2.2.1 HBW.out x A2 c2 HLR.out hln k3 HWX.out)
      clear hx
      go_wp2_with fail
      refine ONE.out.mono ?_
      rintro e w5 ⟨rfl, ev5, R5, lv5, dv5, M5, hk, hm, hs, ht⟩
      have K5 := Aside0.mk hk
      have M5' := Aside0.mk hm
      have S5 := Aside0.mk hs
      have X5 := Aside0.mk (ht.blk HI.out.2.2.2.2.2.1 (fun q => by have := Z2.out; omega))
      have B5 := Aside0.mk (Tn.below HI.out.2.2.2.2.2.2 ht HI.out.2.2.2.2.2.2.size (fun k q => by have := Z2.out; omega))
      clear hk hm hs ht k0 k1 k2
      go_wp2_with fail
      exact ⟨⟨i + 1, ev5, lv5, dv5, R5, M5, rfl, ⟨by omega, by omega, K5.out, M5'.out, S5.out, X5.out, B5.out⟩⟩, by simp [intOf]; omega⟩
    · have hst : (¬ (↑i : Int) < ↑L.length) ∨ ((↑i : Int) < ↑L.length ∧ ¬ (↑i : Int) < 40) := by omega
      have HK := Aside0.mk HI.out.2.2.1
      have HS := Aside0.mk HI.out.2.2.2.2.1
      have HX := Aside0.mk HI.out.2.2.2.2.2.1
      have HB := Aside0.mk HI.out.2.2.2.2.2.2
      have HM := Aside0.mk HI.out.2.2.2.1
      have HLEN := Aside0.mk HS.out.len
      rcases hst with hs1 | ⟨hs1, hs2⟩
      all_goals
        by_cases pn : n < 0 ∨ (R.length : Int) ≤ n
        · have hpn : (n < 0) ∨ (¬ n < 0 ∧ n ≥ (↑M.length : Int)) := by have := HLEN.out; omega
          obtain ⟨LA, LC, rfl⟩ := own_sl HM.out.row
          have EN := Aside0.mk (bk_entry_no HK.out n pn)
          clear pn
          rcases hpn with p1 | ⟨p1, p2⟩
          all_goals
            go_wp2_with fail
            refine EN.out.mono ?_
            rintro e w5 ⟨rfl, hb5⟩
            have K5 := Aside0.mk (HK.out.below hb5)
            have M5 := Aside0.mk (HM.out.below hb5)
            have X5 := Aside0.mk ((hb5.block _ (blk_lt HX.out)).trans HX.out)
            have B5 := Aside0.mk (below_then HB.out HB.out.size hb5)
            clear hb5
            obtain ⟨c0, -⟩ := M5.out.cells
            go_wp2_with fail
            have HWF := Aside0.mk (sameB_wf HS.out HK.out)
            have HLMM := Aside0.mk (HS.out.lm HK.out)
            obtain ⟨bal, hbal⟩ : ∃ b, tot R a = b := ⟨_, rfl⟩
            have HBAL := Aside0.mk hbal
            have HBALM := Aside0.mk (show tot M a = bal by rw [← HS.out.tot, hbal])
            clear hbal
            refine start_ (n := 28) (S := fun w' => w'.cell? ⟨mb, 0, none⟩ = some (.slice LA M.length LC) ∧ w'.cell? ⟨w.heap.size, 0, none⟩ = some (.int .i64 a.f0) ∧ w'.cell? ⟨w.heap.size, 1, none⟩ = some (.int .i64 a.f1)) (ds := []) #[false, false, false, false, false, false, false, false, false, false, false, false, false, false, false, false, false, false, false, false, false, false, false, false, false, false, false, false] (by kernel_rfl) rfl rfl ⟨c0, (blk_cell X5.out 0).trans rfl, (blk_cell X5.out 1).trans rfl⟩ (fun hHeld => ?_)
            have hbd := below_drew1 (Below.refl w5.heap.size w5)
            have K6 := Aside0.mk (K5.out.below hbd)
            have M6 := Aside0.mk (M5.out.below hbd)
            have X6 := Aside0.mk ((hbd.block _ (blk_lt X5.out)).trans X5.out)
            have B6 := Aside0.mk (below_then B5.out B5.out.size hbd)
            clear hbd c0
            generalize w5.drew = w6 at hHeld K6 M6 X6 B6 ⊢
            refine pure_ (i := 0) (N := some 90) (v := ?_) (a' := ?_) #[true, false, false, false, false, false, false, false, false, false, false, false, false, false, false, false, false, false, false, false, false, false, false, false, false, false, false, false] rfl rfl (by kernel_rfl) (fun _ _ _ h => h) (Or.inl ⟨by rfl, ?_⟩) ?_ ?_
            rotate_left
            · intro w'
              go_simp
              with_reducible rfl
            rotate_left
            · simp only [Act.put, List.setIfInBounds_toArray, List.set_cons_zero, List.set_cons_succ, i64_w, i32_w]
              rfl
            refine pure_ (i := 1) (N := some 91) (v := ?_) (a' := ?_) #[true, true, false, false, false, false, false, false, false, false, false, false, false, false, false, false, false, false, false, false, false, false, false, false, false, false, false, false] rfl rfl (by kernel_rfl) (fun _ _ _ h => h) (Or.inl ⟨by rfl, ?_⟩) ?_ ?_
            rotate_left
            · intro w'
              go_simp
              with_reducible rfl
            rotate_left
            · simp only [Act.put, List.setIfInBounds_toArray, List.set_cons_zero, List.set_cons_succ, i64_w, i32_w]
              rfl
            refine pure_ (i := 2) (N := some 92) (v := ?_) (a' := ?_) #[true, true, true, false, false, false, false, false, false, false, false, false, false, false, false, false, false, false, false, false, false, false, false, false, false, false, false, false] rfl rfl (by kernel_rfl) (fun _ _ _ h => h) (Or.inl ⟨by rfl, ?_⟩) ?_ ?_
            rotate_left
            · intro w'
              go_simp
              with_reducible rfl
            rotate_left
            · simp only [Act.put, List.setIfInBounds_toArray, List.set_cons_zero, List.set_cons_succ, i64_w, i32_w]
              rfl
            refine pure_ (i := 4) (N := some 94) (v := ?_) (a' := ?_) #[true, true, true, false, true, false, false, false, false, false, false, false, false, false, false, false, false, false, false, false, false, false, false, false, false, false, false, false] rfl rfl (by kernel_rfl) (fun _ _ _ h => h) (Or.inl ⟨by rfl, ?_⟩) ?_ ?_
            rotate_left
            · intro w'
              go_simp
              with_reducible rfl
            rotate_left
            · simp only [Act.put, List.setIfInBounds_toArray, List.set_cons_zero, List.set_cons_succ, i64_w, i32_w]
              rfl
            refine pure_ (i := 5) (N := some 95) (v := ?_) (a' := ?_) #[true, true, true, false, true, true, false, false, false, false, false, false, false, false, false, false, false, false, false, false, false, false, false, false, false, false, false, false] rfl rfl (by kernel_rfl) (fun _ _ _ h => h) (Or.inl ⟨by rfl, ?_⟩) ?_ ?_
            rotate_left
            · intro w'
              go_simp
              with_reducible rfl
            rotate_left
            · simp only [Act.put, List.setIfInBounds_toArray, List.set_cons_zero, List.set_cons_succ, i64_w, i32_w]
              rfl
            refine pure_ (i := 6) (N := some 96) (v := ?_) (a' := ?_) #[true, true, true, false, true, true, true, false, false, false, false, false, false, false, false, false, false, false, false, false, false, false, false, false, false, false, false, false] rfl rfl (by kernel_rfl) (fun _ _ _ h => h) (Or.inl ⟨by rfl, ?_⟩) ?_ ?_
            rotate_left
            · intro w'
              go_simp
              with_reducible rfl
            rotate_left
            · simp only [Act.put, List.setIfInBounds_toArray, List.set_cons_zero, List.set_cons_succ, i64_w, i32_w]
              rfl
            refine take_ (i := 7) (N := some 97) (v := ?_) (a' := ?_) #[true, true, true, false, true, true, true, true, false, false, false, false, false, false, false, false, false, false, false, false, false, false, false, false, false, false, false, false] rfl rfl (by kernel_rfl) (fun _ _ _ h => h) (Or.inl ⟨by rfl, ?_⟩) hHeld ?_ ?_
            rotate_left
            · rintro w' ⟨s0, s1, s2⟩
              go_simp
              with_reducible rfl
            rotate_left
            · simp only [Act.put, List.setIfInBounds_toArray, List.set_cons_zero, List.set_cons_succ, i64_w, i32_w]
              rfl
            refine pure_ (i := 8) (N := some 98) (v := ?_) (a' := ?_) #[true, true, true, false, true, true, true, true, true, false, false, false, false, false, false, false, false, false, false, false, false, false, false, false, false, false, false, false] rfl rfl (by kernel_rfl) (fun _ _ _ h => h) (Or.inl ⟨by rfl, ?_⟩) ?_ ?_
            rotate_left
            · intro w'
              go_simp
              with_reducible rfl
            rotate_left
            · simp only [Act.put, List.setIfInBounds_toArray, List.set_cons_zero, List.set_cons_succ, i64_w, i32_w]
              rfl
            refine one_ (i := 3) (N := some 93) #[true, true, true, true, true, true, true, true, true, false, false, false, false, false, false, false, false, false, false, false, false, false, false, false, false, false, false, false] rfl rfl (by kernel_rfl) (by decide) (fun K hK => ?_)
            refine goes_ Try.func14 (by kernel_rfl) rfl #[.pointer (some ⟨box, 0, none⟩)] (by rfl) rfl rfl (by simp only [List.map_toArray, List.map_cons, List.map_nil]; first | done | rfl) ?_
            refine (bk_len K6.out).mono ?_
            rintro e w7 ⟨rfl, hb7⟩
            rw [HLEN.out]
            refine ⟨_, rfl, ?_⟩
            have K7 := Aside0.mk (K6.out.below hb7)
            have M7 := Aside0.mk (M6.out.below hb7)
            have X7 := Aside0.mk ((hb7.block _ (blk_lt X6.out)).trans X6.out)
            have B7 := Aside0.mk (below_then B6.out B6.out.size hb7)
            refine hK.out _ _ ⟨M7.out.cells.1, (blk_cell X7.out 0).trans rfl, (blk_cell X7.out 1).trans rfl⟩ (fun hHeld => ?_)
            clear hK K hb7
            refine norm_ (a' := ?_) ?_ ?_
            rotate_left
            · show Act.put _ (some 93) _ = _
              simp only [Act.put, List.setIfInBounds_toArray, List.set_cons_zero, List.set_cons_succ, i64_w, i32_w]
              rfl
            refine pure_ (i := 9) (N := some 99) (v := ?_) (a' := ?_) #[true, true, true, true, true, true, true, true, true, true, false, false, false, false, false, false, false, false, false, false, false, false, false, false, false, false, false, false] rfl rfl (by kernel_rfl) (fun _ _ _ h => h) (Or.inl ⟨by rfl, ?_⟩) ?_ ?_
            rotate_left
            · intro w'
              go_simp
              with_reducible rfl
            rotate_left
            · simp only [Act.put, List.setIfInBounds_toArray, List.set_cons_zero, List.set_cons_succ, i64_w, i32_w]
              rfl
            refine pure_ (i := 10) (N := some 100) (v := ?_) (a' := ?_) #[true, true, true, true, true, true, true, true, true, true, true, false, false, false, false, false, false, false, false, false, false, false, false, false, false, false, false, false] rfl rfl (by kernel_rfl) (fun _ _ _ h => h) (Or.inl ⟨by rfl, ?_⟩) ?_ ?_
            rotate_left
            · intro w'
              go_simp
              with_reducible rfl
            rotate_left
            · simp only [Act.put, List.setIfInBounds_toArray, List.set_cons_zero, List.set_cons_succ, i64_w, i32_w]
              rfl
            refine pure_ (i := 11) (N := some 101) (v := ?_) (a' := ?_) #[true, true, true, true, true, true, true, true, true, true, true, true, false, false, false, false, false, false, false, false, false, false, false, false, false, false, false, false] rfl rfl (by kernel_rfl) (fun _ _ _ h => h) (Or.inl ⟨by rfl, ?_⟩) ?_ ?_
            rotate_left
            · intro w'
              go_simp
              with_reducible rfl
            rotate_left
            · simp only [Act.put, List.setIfInBounds_toArray, List.set_cons_zero, List.set_cons_succ, i64_w, i32_w]
              rfl
            refine pure_ (i := 12) (N := some 102) (v := ?_) (a' := ?_) #[true, true, true, true, true, true, true, true, true, true, true, true, true, false, false, false, false, false, false, false, false, false, false, false, false, false, false, false] rfl rfl (by kernel_rfl) (fun _ _ _ h => h) (Or.inl ⟨by rfl, ?_⟩) ?_ ?_
            rotate_left
            · intro w'
              go_simp
              with_reducible rfl
            rotate_left
            · simp only [Act.put, List.setIfInBounds_toArray, List.set_cons_zero, List.set_cons_succ, i64_w, i32_w]
              rfl
            refine pure_ (i := 15) (N := some 105) (v := ?_) (a' := ?_) #[true, true, true, true, true, true, true, true, true, true, true, true, true, false, false, true, false, false, false, false, false, false, false, false, false, false, false, false] rfl rfl (by kernel_rfl) (fun _ _ _ h => h) (Or.inl ⟨by rfl, ?_⟩) ?_ ?_
            rotate_left
            · intro w'
              go_simp
              with_reducible rfl
            rotate_left
            · simp only [Act.put, List.setIfInBounds_toArray, List.set_cons_zero, List.set_cons_succ, i64_w, i32_w]
              rfl
            refine take_ (i := 13) (N := some 103) (v := ?_) (a' := ?_) #[true, true, true, true, true, true, true, true, true, true, true, true, true, true, false, true, false, false, false, false, false, false, false, false, false, false, false, false] rfl rfl (by kernel_rfl) (fun _ _ _ h => h) (Or.inl ⟨by rfl, ?_⟩) hHeld ?_ ?_
            rotate_left
            · rintro w' ⟨s0, s1, s2⟩
              go_simp
              with_reducible rfl
            rotate_left
            · simp only [Act.put, List.setIfInBounds_toArray, List.set_cons_zero, List.set_cons_succ, i64_w, i32_w]
              rfl
            refine take_ (i := 16) (N := some 106) (v := ?_) (a' := ?_) #[true, true, true, true, true, true, true, true, true, true, true, true, true, true, false, true, true, false, false, false, false, false, false, false, false, false, false, false] rfl rfl (by kernel_rfl) (fun _ _ _ h => h) (Or.inl ⟨by rfl, ?_⟩) hHeld ?_ ?_
            rotate_left
            · rintro w' ⟨s0, s1, s2⟩
              go_simp
              with_reducible rfl
            rotate_left
            · simp only [Act.put, List.setIfInBounds_toArray, List.set_cons_zero, List.set_cons_succ, i64_w, i32_w]
              rfl
            refine one_ (i := 14) (N := some 104) #[true, true, true, true, true, true, true, true, true, true, true, true, true, true, true, true, true, false, false, false, false, false, false, false, false, false, false, false] rfl rfl (by kernel_rfl) (by decide) (fun K hK => ?_)
            refine goes_ Try.func19 (by kernel_rfl) rfl #[.pointer (some ⟨box, 0, none⟩), .agg #[.int .i64 a.f0, .int .i64 a.f1]] (by rfl) rfl rfl (by simp only [List.map_toArray, List.map_cons, List.map_nil]; first | done | rfl) ?_
            refine (bk_balance K7.out a HWA.out).mono ?_
            rintro e w8 ⟨rfl, hb8⟩
            rw [HBAL.out]
            refine ⟨_, rfl, ?_⟩
            have K8 := Aside0.mk (K7.out.below hb8)
            have M8 := Aside0.mk (M7.out.below hb8)
            have X8 := Aside0.mk ((hb8.block _ (blk_lt X7.out)).trans X7.out)
            have B8 := Aside0.mk (below_then B7.out B7.out.size hb8)
            refine hK.out _ _ ⟨M8.out.cells.1, (blk_cell X8.out 0).trans rfl, (blk_cell X8.out 1).trans rfl⟩ (fun hHeld => ?_)
            clear hK K hb8
            refine norm_ (a' := ?_) ?_ ?_
            rotate_left
            · show Act.put _ (some 104) _ = _
              simp only [Act.put, List.setIfInBounds_toArray, List.set_cons_zero, List.set_cons_succ, i64_w, i32_w]
              rfl
            refine one_ (i := 17) (N := some 107) #[true, true, true, true, true, true, true, true, true, true, true, true, true, true, true, true, true, true, false, false, false, false, false, false, false, false, false, false] rfl rfl (by kernel_rfl) (by decide) (fun K hK => ?_)
            refine goes_ Try.func24 (by kernel_rfl) rfl #[.pointer (some ⟨mb, 0, none⟩), .agg #[.int .i64 a.f0, .int .i64 a.f1]] (by rfl) rfl rfl (by simp only [List.map_toArray, List.map_cons, List.map_nil]; first | done | rfl) ?_
            refine (mf_bal M8.out a).mono ?_
            rintro e w9 ⟨r9, rfl, hr9, hb9⟩
            have hr := hr9 (HWF.out a HWA.out)
            rw [HBALM.out] at hr
            subst hr
            refine ⟨_, rfl, ?_⟩
            have K9 := Aside0.mk (K8.out.below hb9)
            have M9 := Aside0.mk (M8.out.below hb9)
            have X9 := Aside0.mk ((hb9.block _ (blk_lt X8.out)).trans X8.out)
            have B9 := Aside0.mk (below_then B8.out B8.out.size hb9)
            refine hK.out _ _ ⟨M9.out.cells.1, (blk_cell X9.out 0).trans rfl, (blk_cell X9.out 1).trans rfl⟩ (fun hHeld => ?_)
            clear hK K hb9 hr9
            refine norm_ (a' := ?_) ?_ ?_
            rotate_left
            · show Act.put _ (some 107) _ = _
              simp only [Act.put, List.setIfInBounds_toArray, List.set_cons_zero, List.set_cons_succ, i64_w, i32_w]
              rfl
            refine pure_ (i := 18) (N := some 108) (v := ?_) (a' := ?_) #[true, true, true, true, true, true, true, true, true, true, true, true, true, true, true, true, true, true, true, false, false, false, false, false, false, false, false, false] rfl rfl (by kernel_rfl) (fun _ _ _ h => h) (Or.inl ⟨by rfl, ?_⟩) ?_ ?_
            rotate_left
            · intro w'
              go_simp
              with_reducible rfl
            rotate_left
            · simp only [Act.put, List.setIfInBounds_toArray, List.set_cons_zero, List.set_cons_succ, i64_w, i32_w]
              rfl
            refine pure_ (i := 19) (N := some 109) (v := ?_) (a' := ?_) #[true, true, true, true, true, true, true, true, true, true, true, true, true, true, true, true, true, true, true, true, false, false, false, false, false, false, false, false] rfl rfl (by kernel_rfl) (fun _ _ _ h => h) (Or.inl ⟨by rfl, ?_⟩) ?_ ?_
            rotate_left
            · intro w'
              go_simp
              with_reducible rfl
            rotate_left
            · simp only [Act.put, List.setIfInBounds_toArray, List.set_cons_zero, List.set_cons_succ, i64_w, i32_w]
              rfl
            refine pure_ (i := 20) (N := some 110) (v := ?_) (a' := ?_) #[true, true, true, true, true, true, true, true, true, true, true, true, true, true, true, true, true, true, true, true, true, false, false, false, false, false, false, false] rfl rfl (by kernel_rfl) (fun _ _ _ h => h) (Or.inl ⟨by rfl, ?_⟩) ?_ ?_
            rotate_left
            · intro w'
              go_simp
              with_reducible rfl
            rotate_left
            · simp only [Act.put, List.setIfInBounds_toArray, List.set_cons_zero, List.set_cons_succ, i64_w, i32_w]
              rfl
            refine pure_ (i := 21) (N := some 111) (v := ?_) (a' := ?_) #[true, true, true, true, true, true, true, true, true, true, true, true, true, true, true, true, true, true, true, true, true, true, false, false, false, false, false, false] rfl rfl (by kernel_rfl) (fun _ _ _ h => h) (Or.inl ⟨by rfl, ?_⟩) ?_ ?_
            rotate_left
            · intro w'
              go_simp
              with_reducible rfl
            rotate_left
            · simp only [Act.put, List.setIfInBounds_toArray, List.set_cons_zero, List.set_cons_succ, i64_w, i32_w]
              rfl
            refine pure_ (i := 23) (N := some 113) (v := ?_) (a' := ?_) #[true, true, true, true, true, true, true, true, true, true, true, true, true, true, true, true, true, true, true, true, true, true, false, true, false, false, false, false] rfl rfl (by kernel_rfl) (fun _ _ _ h => h) (Or.inl ⟨by rfl, ?_⟩) ?_ ?_
            rotate_left
            · intro w'
              go_simp
              with_reducible rfl
            rotate_left
            · simp only [Act.put, List.setIfInBounds_toArray, List.set_cons_zero, List.set_cons_succ, i64_w, i32_w]
              rfl
            refine one_ (i := 22) (N := some 112) #[true, true, true, true, true, true, true, true, true, true, true, true, true, true, true, true, true, true, true, true, true, true, true, true, false, false, false, false] rfl rfl (by kernel_rfl) (by decide) (fun K hK => ?_)
            refine goes_ Try.func12 (by kernel_rfl) rfl #[.pointer (some ⟨box, 0, none⟩)] (by rfl) rfl rfl (by simp only [List.map_toArray, List.map_cons, List.map_nil]; first | done | rfl) ?_
            refine (tr_any K9.out).mono ?_
            rintro e wa ⟨At, ct, tt, rfl, htl, hlen, hrw, hba⟩
            refine ⟨_, rfl, ?_⟩
            have RT := Aside0.mk hrw
            have TT := Aside0.mk (And.intro htl hlen)
            have Ka := Aside0.mk (K9.out.below hba)
            have Ma := Aside0.mk (M9.out.below hba)
            have Xa := Aside0.mk ((hba.block _ (blk_lt X9.out)).trans X9.out)
            have Ba := Aside0.mk (below_then B9.out B9.out.size hba)
            refine hK.out _ _ ⟨Ma.out.cells.1, (blk_cell Xa.out 0).trans rfl, (blk_cell Xa.out 1).trans rfl⟩ (fun hHeld => ?_)
            clear hK K hba htl hlen hrw
            refine norm_ (a' := ?_) ?_ ?_
            rotate_left
            · show Act.put _ (some 112) _ = _
              simp only [Act.put, List.setIfInBounds_toArray, List.set_cons_zero, List.set_cons_succ, i64_w, i32_w]
              rfl
            refine one_ (i := 24) (N := some 114) #[true, true, true, true, true, true, true, true, true, true, true, true, true, true, true, true, true, true, true, true, true, true, true, true, true, false, false, false] rfl rfl (by kernel_rfl) (by decide) (fun K hK => ?_)
            refine goes_ Try.func25 (by kernel_rfl) rfl #[.pointer (some ⟨mb, 0, none⟩)] (by rfl) rfl rfl (by simp only [List.map_toArray, List.map_cons, List.map_nil]; first | done | rfl) ?_
            refine (mt_trial Ma.out HLMM.out HWF.out).mono ?_
            rintro e wb ⟨Au, cu, tu, rfl, hul, hulen, hulr, hbb⟩
            refine ⟨_, rfl, ?_⟩
            have etu : tu = tt := hul.same TT.out.1 (fun z _ => by rw [HS.out.tot])
            subst etu
            have RT2 := Aside0.mk (RT.out.below hbb)
            have RU := Aside0.mk hulr
            have Kb := Aside0.mk (Ka.out.below hbb)
            have Mb := Aside0.mk (Ma.out.below hbb)
            have Xb := Aside0.mk ((hbb.block _ (blk_lt Xa.out)).trans Xa.out)
            have Bb := Aside0.mk (below_then Ba.out Ba.out.size hbb)
            refine hK.out _ _ ⟨Mb.out.cells.1, (blk_cell Xb.out 0).trans rfl, (blk_cell Xb.out 1).trans rfl⟩ (fun hHeld => ?_)
            clear hK K hbb hul hulen hulr
            refine norm_ (a' := ?_) ?_ ?_
            rotate_left
            · show Act.put _ (some 114) _ = _
              simp only [Act.put, List.setIfInBounds_toArray, List.set_cons_zero, List.set_cons_succ, i64_w, i32_w]
              rfl
            refine one_ (i := 25) (N := some 115) #[true, true, true, true, true, true, true, true, true, true, true, true, true, true, true, true, true, true, true, true, true, true, true, true, true, true, false, false] rfl rfl (by kernel_rfl) (by decide) (fun K hK => ?_)
            refine goes_ Try.func16 (by kernel_rfl) rfl #[.slice At tu.length ct, .slice Au tu.length cu] (by rfl) rfl rfl (by simp only [List.map_toArray, List.map_cons, List.map_nil]; first | done | rfl) ?_
            refine (same_dec RT2.out.lr RU.out ct cu (by have := TT.out.2; omega) (by have := TT.out.2; omega)).mono ?_
            rintro e wc ⟨rfl, hbc⟩
            rw [decide_eq_true rfl]
            refine ⟨_, rfl, ?_⟩
            have Kc := Aside0.mk (Kb.out.below hbc)
            have Mc := Aside0.mk (Mb.out.below hbc)
            have Xc := Aside0.mk ((hbc.block _ (blk_lt Xb.out)).trans Xb.out)
            have Bc := Aside0.mk (below_then Bb.out Bb.out.size hbc)
            refine hK.out _ _ ⟨Mc.out.cells.1, (blk_cell Xc.out 0).trans rfl, (blk_cell Xc.out 1).trans rfl⟩ (fun hHeld => ?_)
            clear hK K hbc
            refine norm_ (a' := ?_) ?_ ?_
            rotate_left
            · show Act.put _ (some 115) _ = _
              simp only [Act.put, List.setIfInBounds_toArray, List.set_cons_zero, List.set_cons_succ, i64_w, i32_w]
              rfl
            refine pure_ (i := 26) (N := some 116) (v := ?_) (a' := ?_) #[true, true, true, true, true, true, true, true, true, true, true, true, true, true, true, true, true, true, true, true, true, true, true, true, true, true, true, false] rfl rfl (by kernel_rfl) (fun _ _ _ h => h) (Or.inl ⟨by rfl, ?_⟩) ?_ ?_
            rotate_left
            · intro w'
              go_simp
              with_reducible rfl
            rotate_left
            · simp only [Act.put, List.setIfInBounds_toArray, List.set_cons_zero, List.set_cons_succ, i64_w, i32_w]
              rfl
            refine pure_ (i := 27) (N := some 6) (v := ?_) (a' := ?_) #[true, true, true, true, true, true, true, true, true, true, true, true, true, true, true, true, true, true, true, true, true, true, true, true, true, true, true, true] rfl rfl (by kernel_rfl) (fun _ _ _ h => h) (Or.inl ⟨by rfl, ?_⟩) ?_ ?_
            rotate_left
            · intro w'
              go_simp
              with_reducible rfl
            rotate_left
            · simp only [Act.put, List.setIfInBounds_toArray, List.set_cons_zero, List.set_cons_succ, i64_w, i32_w]
              rfl
            refine done_ (by kernel_rfl) ?_
            clear hHeld
            clear hHeld
            go_wp2_with fail
            go_ret
            exact ⟨rfl, Bc.out⟩
        · obtain ⟨k, rfl⟩ : ∃ k : Nat, n = ↑k := ⟨n.toNat, by omega⟩
          obtain ⟨x, hx⟩ : ∃ x, R[k]? = some x := ⟨R[k]'(by omega), List.getElem?_eq_getElem _⟩
          obtain ⟨y, hy, hyl, -⟩ := HS.out.at hx
          obtain ⟨LA, LC, rfl⟩ := own_sl HM.out.row
          have hk1 : ¬ (↑k : Int) ≥ ↑M.length := by have := HLEN.out; omega
          have hk2 : (↑k : Int) < ↑M.length := by have := HLEN.out; omega
          have hk3 : (0 : Int) ≤ ↑k := by omega
          have EN := Aside0.mk (bk_entry HK.out k x hx)
          have HXX := Aside0.mk (And.intro hx (And.intro hy hyl))
          have hx32 := (HK.out.ent x (List.mem_of_getElem? hx)).2.2.2
          obtain ⟨xl, hxl⟩ : ∃ n, x.l.length = n := ⟨_, rfl⟩
          have HXL := Aside0.mk hxl
          rw [hxl] at EN hx32
          clear pn hx hy hyl hxl
          go_wp2_with fail
          refine EN.out.mono ?_
          rintro e w4' ⟨g, c, rfl, hg, hlb, hb5⟩
          have K4' := Aside0.mk (HK.out.below hb5)
          have M4' := Aside0.mk (HM.out.below hb5)
          have X4' := Aside0.mk ((hb5.block _ (blk_lt HX.out)).trans HX.out)
          have B4' := Aside0.mk (below_then HB.out HB.out.size hb5)
          have L4' := Aside0.mk hlb
          clear hb5 hlb hg
          obtain ⟨c0, -⟩ := M4'.out.cells
          obtain ⟨lg, rfl, r0⟩ := M4'.out.at2 HXX.out.2.1
          rw [HXX.out.2.2, HXL.out] at r0
          have SM := same_dec L4'.out.lr (HXX.out.2.2 ▸ (M4'.out.ent y (List.mem_of_getElem? HXX.out.2.1)).2.1.lr) c y.c (by rw [HXL.out]; omega) (by rw [HXL.out]; omega)
          rw [decide_eq_true rfl, HXL.out] at SM
          have SM := Aside0.mk SM
          go_wp2_with fail
          refine SM.out.mono ?_
          rintro e w5 ⟨rfl, hb5⟩
          have K5 := Aside0.mk (K4'.out.below hb5)
          have M5 := Aside0.mk (M4'.out.below hb5)
          have X5 := Aside0.mk ((hb5.block _ (blk_lt X4'.out)).trans X4'.out)
          have B5 := Aside0.mk (below_then B4'.out B4'.out.size hb5)
          clear hb5 c0 r0
          obtain ⟨c0, -⟩ := M5.out.cells
          go_wp2_with fail
          have HWF := Aside0.mk (sameB_wf HS.out HK.out)
          have HLMM := Aside0.mk (HS.out.lm HK.out)
          obtain ⟨bal, hbal⟩ : ∃ b, tot R a = b := ⟨_, rfl⟩
          have HBAL := Aside0.mk hbal
          have HBALM := Aside0.mk (show tot M a = bal by rw [← HS.out.tot, hbal])
          clear hbal
          refine start_ (n := 28) (S := fun w' => w'.cell? ⟨mb, 0, none⟩ = some (.slice (some ⟨lg, 0, none⟩) M.length LC) ∧ w'.cell? ⟨w.heap.size, 0, none⟩ = some (.int .i64 a.f0) ∧ w'.cell? ⟨w.heap.size, 1, none⟩ = some (.int .i64 a.f1)) (ds := []) #[false, false, false, false, false, false, false, false, false, false, false, false, false, false, false, false, false, false, false, false, false, false, false, false, false, false, false, false] (by kernel_rfl) rfl rfl ⟨c0, (blk_cell X5.out 0).trans rfl, (blk_cell X5.out 1).trans rfl⟩ (fun hHeld => ?_)
          have hbd := below_drew1 (Below.refl w5.heap.size w5)
          have K6 := Aside0.mk (K5.out.below hbd)
          have M6 := Aside0.mk (M5.out.below hbd)
          have X6 := Aside0.mk ((hbd.block _ (blk_lt X5.out)).trans X5.out)
          have B6 := Aside0.mk (below_then B5.out B5.out.size hbd)
          clear hbd c0
          generalize w5.drew = w6 at hHeld K6 M6 X6 B6 ⊢
          refine pure_ (i := 0) (N := some 90) (v := ?_) (a' := ?_) #[true, false, false, false, false, false, false, false, false, false, false, false, false, false, false, false, false, false, false, false, false, false, false, false, false, false, false, false] rfl rfl (by kernel_rfl) (fun _ _ _ h => h) (Or.inl ⟨by rfl, ?_⟩) ?_ ?_
          rotate_left
          · intro w'
            go_simp
            with_reducible rfl
          rotate_left
          · simp only [Act.put, List.setIfInBounds_toArray, List.set_cons_zero, List.set_cons_succ, i64_w, i32_w]
            rfl
          refine pure_ (i := 1) (N := some 91) (v := ?_) (a' := ?_) #[true, true, false, false, false, false, false, false, false, false, false, false, false, false, false, false, false, false, false, false, false, false, false, false, false, false, false, false] rfl rfl (by kernel_rfl) (fun _ _ _ h => h) (Or.inl ⟨by rfl, ?_⟩) ?_ ?_
          rotate_left
          · intro w'
            go_simp
            with_reducible rfl
          rotate_left
          · simp only [Act.put, List.setIfInBounds_toArray, List.set_cons_zero, List.set_cons_succ, i64_w, i32_w]
            rfl
          refine pure_ (i := 2) (N := some 92) (v := ?_) (a' := ?_) #[true, true, true, false, false, false, false, false, false, false, false, false, false, false, false, false, false, false, false, false, false, false, false, false, false, false, false, false] rfl rfl (by kernel_rfl) (fun _ _ _ h => h) (Or.inl ⟨by rfl, ?_⟩) ?_ ?_
          rotate_left
          · intro w'
            go_simp
            with_reducible rfl
          rotate_left
          · simp only [Act.put, List.setIfInBounds_toArray, List.set_cons_zero, List.set_cons_succ, i64_w, i32_w]
            rfl
          refine pure_ (i := 4) (N := some 94) (v := ?_) (a' := ?_) #[true, true, true, false, true, false, false, false, false, false, false, false, false, false, false, false, false, false, false, false, false, false, false, false, false, false, false, false] rfl rfl (by kernel_rfl) (fun _ _ _ h => h) (Or.inl ⟨by rfl, ?_⟩) ?_ ?_
          rotate_left
          · intro w'
            go_simp
            with_reducible rfl
          rotate_left
          · simp only [Act.put, List.setIfInBounds_toArray, List.set_cons_zero, List.set_cons_succ, i64_w, i32_w]
            rfl
          refine pure_ (i := 5) (N := some 95) (v := ?_) (a' := ?_) #[true, true, true, false, true, true, false, false, false, false, false, false, false, false, false, false, false, false, false, false, false, false, false, false, false, false, false, false] rfl rfl (by kernel_rfl) (fun _ _ _ h => h) (Or.inl ⟨by rfl, ?_⟩) ?_ ?_
          rotate_left
          · intro w'
            go_simp
            with_reducible rfl
          rotate_left
          · simp only [Act.put, List.setIfInBounds_toArray, List.set_cons_zero, List.set_cons_succ, i64_w, i32_w]
            rfl
          refine pure_ (i := 6) (N := some 96) (v := ?_) (a' := ?_) #[true, true, true, false, true, true, true, false, false, false, false, false, false, false, false, false, false, false, false, false, false, false, false, false, false, false, false, false] rfl rfl (by kernel_rfl) (fun _ _ _ h => h) (Or.inl ⟨by rfl, ?_⟩) ?_ ?_
          rotate_left
          · intro w'
            go_simp
            with_reducible rfl
          rotate_left
          · simp only [Act.put, List.setIfInBounds_toArray, List.set_cons_zero, List.set_cons_succ, i64_w, i32_w]
            rfl
          refine take_ (i := 7) (N := some 97) (v := ?_) (a' := ?_) #[true, true, true, false, true, true, true, true, false, false, false, false, false, false, false, false, false, false, false, false, false, false, false, false, false, false, false, false] rfl rfl (by kernel_rfl) (fun _ _ _ h => h) (Or.inl ⟨by rfl, ?_⟩) hHeld ?_ ?_
          rotate_left
          · rintro w' ⟨s0, s1, s2⟩
            go_simp
            with_reducible rfl
          rotate_left
          · simp only [Act.put, List.setIfInBounds_toArray, List.set_cons_zero, List.set_cons_succ, i64_w, i32_w]
            rfl
          refine pure_ (i := 8) (N := some 98) (v := ?_) (a' := ?_) #[true, true, true, false, true, true, true, true, true, false, false, false, false, false, false, false, false, false, false, false, false, false, false, false, false, false, false, false] rfl rfl (by kernel_rfl) (fun _ _ _ h => h) (Or.inl ⟨by rfl, ?_⟩) ?_ ?_
          rotate_left
          · intro w'
            go_simp
            with_reducible rfl
          rotate_left
          · simp only [Act.put, List.setIfInBounds_toArray, List.set_cons_zero, List.set_cons_succ, i64_w, i32_w]
            rfl
          refine one_ (i := 3) (N := some 93) #[true, true, true, true, true, true, true, true, true, false, false, false, false, false, false, false, false, false, false, false, false, false, false, false, false, false, false, false] rfl rfl (by kernel_rfl) (by decide) (fun K hK => ?_)
          refine goes_ Try.func14 (by kernel_rfl) rfl #[.pointer (some ⟨box, 0, none⟩)] (by rfl) rfl rfl (by simp only [List.map_toArray, List.map_cons, List.map_nil]; first | done | rfl) ?_
          refine (bk_len K6.out).mono ?_
          rintro e w7 ⟨rfl, hb7⟩
          rw [HLEN.out]
          refine ⟨_, rfl, ?_⟩
          have K7 := Aside0.mk (K6.out.below hb7)
          have M7 := Aside0.mk (M6.out.below hb7)
          have X7 := Aside0.mk ((hb7.block _ (blk_lt X6.out)).trans X6.out)
          have B7 := Aside0.mk (below_then B6.out B6.out.size hb7)
          refine hK.out _ _ ⟨M7.out.cells.1, (blk_cell X7.out 0).trans rfl, (blk_cell X7.out 1).trans rfl⟩ (fun hHeld => ?_)
          clear hK K hb7
          refine norm_ (a' := ?_) ?_ ?_
          rotate_left
          · show Act.put _ (some 93) _ = _
            simp only [Act.put, List.setIfInBounds_toArray, List.set_cons_zero, List.set_cons_succ, i64_w, i32_w]
            rfl
          refine pure_ (i := 9) (N := some 99) (v := ?_) (a' := ?_) #[true, true, true, true, true, true, true, true, true, true, false, false, false, false, false, false, false, false, false, false, false, false, false, false, false, false, false, false] rfl rfl (by kernel_rfl) (fun _ _ _ h => h) (Or.inl ⟨by rfl, ?_⟩) ?_ ?_
          rotate_left
          · intro w'
            go_simp
            with_reducible rfl
          rotate_left
          · simp only [Act.put, List.setIfInBounds_toArray, List.set_cons_zero, List.set_cons_succ, i64_w, i32_w]
            rfl
          refine pure_ (i := 10) (N := some 100) (v := ?_) (a' := ?_) #[true, true, true, true, true, true, true, true, true, true, true, false, false, false, false, false, false, false, false, false, false, false, false, false, false, false, false, false] rfl rfl (by kernel_rfl) (fun _ _ _ h => h) (Or.inl ⟨by rfl, ?_⟩) ?_ ?_
          rotate_left
          · intro w'
            go_simp
            with_reducible rfl
          rotate_left
          · simp only [Act.put, List.setIfInBounds_toArray, List.set_cons_zero, List.set_cons_succ, i64_w, i32_w]
            rfl
          refine pure_ (i := 11) (N := some 101) (v := ?_) (a' := ?_) #[true, true, true, true, true, true, true, true, true, true, true, true, false, false, false, false, false, false, false, false, false, false, false, false, false, false, false, false] rfl rfl (by kernel_rfl) (fun _ _ _ h => h) (Or.inl ⟨by rfl, ?_⟩) ?_ ?_
          rotate_left
          · intro w'
            go_simp
            with_reducible rfl
          rotate_left
          · simp only [Act.put, List.setIfInBounds_toArray, List.set_cons_zero, List.set_cons_succ, i64_w, i32_w]
            rfl
          refine pure_ (i := 12) (N := some 102) (v := ?_) (a' := ?_) #[true, true, true, true, true, true, true, true, true, true, true, true, true, false, false, false, false, false, false, false, false, false, false, false, false, false, false, false] rfl rfl (by kernel_rfl) (fun _ _ _ h => h) (Or.inl ⟨by rfl, ?_⟩) ?_ ?_
          rotate_left
          · intro w'
            go_simp
            with_reducible rfl
          rotate_left
          · simp only [Act.put, List.setIfInBounds_toArray, List.set_cons_zero, List.set_cons_succ, i64_w, i32_w]
            rfl
          refine pure_ (i := 15) (N := some 105) (v := ?_) (a' := ?_) #[true, true, true, true, true, true, true, true, true, true, true, true, true, false, false, true, false, false, false, false, false, false, false, false, false, false, false, false] rfl rfl (by kernel_rfl) (fun _ _ _ h => h) (Or.inl ⟨by rfl, ?_⟩) ?_ ?_
          rotate_left
          · intro w'
            go_simp
            with_reducible rfl
          rotate_left
          · simp only [Act.put, List.setIfInBounds_toArray, List.set_cons_zero, List.set_cons_succ, i64_w, i32_w]
            rfl
          refine take_ (i := 13) (N := some 103) (v := ?_) (a' := ?_) #[true, true, true, true, true, true, true, true, true, true, true, true, true, true, false, true, false, false, false, false, false, false, false, false, false, false, false, false] rfl rfl (by kernel_rfl) (fun _ _ _ h => h) (Or.inl ⟨by rfl, ?_⟩) hHeld ?_ ?_
          rotate_left
          · rintro w' ⟨s0, s1, s2⟩
            go_simp
            with_reducible rfl
          rotate_left
          · simp only [Act.put, List.setIfInBounds_toArray, List.set_cons_zero, List.set_cons_succ, i64_w, i32_w]
            rfl
          refine take_ (i := 16) (N := some 106) (v := ?_) (a' := ?_) #[true, true, true, true, true, true, true, true, true, true, true, true, true, true, false, true, true, false, false, false, false, false, false, false, false, false, false, false] rfl rfl (by kernel_rfl) (fun _ _ _ h => h) (Or.inl ⟨by rfl, ?_⟩) hHeld ?_ ?_
          rotate_left
          · rintro w' ⟨s0, s1, s2⟩
            go_simp
            with_reducible rfl
          rotate_left
          · simp only [Act.put, List.setIfInBounds_toArray, List.set_cons_zero, List.set_cons_succ, i64_w, i32_w]
            rfl
          refine one_ (i := 14) (N := some 104) #[true, true, true, true, true, true, true, true, true, true, true, true, true, true, true, true, true, false, false, false, false, false, false, false, false, false, false, false] rfl rfl (by kernel_rfl) (by decide) (fun K hK => ?_)
          refine goes_ Try.func19 (by kernel_rfl) rfl #[.pointer (some ⟨box, 0, none⟩), .agg #[.int .i64 a.f0, .int .i64 a.f1]] (by rfl) rfl rfl (by simp only [List.map_toArray, List.map_cons, List.map_nil]; first | done | rfl) ?_
          refine (bk_balance K7.out a HWA.out).mono ?_
          rintro e w8 ⟨rfl, hb8⟩
          rw [HBAL.out]
          refine ⟨_, rfl, ?_⟩
          have K8 := Aside0.mk (K7.out.below hb8)
          have M8 := Aside0.mk (M7.out.below hb8)
          have X8 := Aside0.mk ((hb8.block _ (blk_lt X7.out)).trans X7.out)
          have B8 := Aside0.mk (below_then B7.out B7.out.size hb8)
          refine hK.out _ _ ⟨M8.out.cells.1, (blk_cell X8.out 0).trans rfl, (blk_cell X8.out 1).trans rfl⟩ (fun hHeld => ?_)
          clear hK K hb8
          refine norm_ (a' := ?_) ?_ ?_
          rotate_left
          · show Act.put _ (some 104) _ = _
            simp only [Act.put, List.setIfInBounds_toArray, List.set_cons_zero, List.set_cons_succ, i64_w, i32_w]
            rfl
          refine one_ (i := 17) (N := some 107) #[true, true, true, true, true, true, true, true, true, true, true, true, true, true, true, true, true, true, false, false, false, false, false, false, false, false, false, false] rfl rfl (by kernel_rfl) (by decide) (fun K hK => ?_)
          refine goes_ Try.func24 (by kernel_rfl) rfl #[.pointer (some ⟨mb, 0, none⟩), .agg #[.int .i64 a.f0, .int .i64 a.f1]] (by rfl) rfl rfl (by simp only [List.map_toArray, List.map_cons, List.map_nil]; first | done | rfl) ?_
          refine (mf_bal M8.out a).mono ?_
          rintro e w9 ⟨r9, rfl, hr9, hb9⟩
          have hr := hr9 (HWF.out a HWA.out)
          rw [HBALM.out] at hr
          subst hr
          refine ⟨_, rfl, ?_⟩
          have K9 := Aside0.mk (K8.out.below hb9)
          have M9 := Aside0.mk (M8.out.below hb9)
          have X9 := Aside0.mk ((hb9.block _ (blk_lt X8.out)).trans X8.out)
          have B9 := Aside0.mk (below_then B8.out B8.out.size hb9)
          refine hK.out _ _ ⟨M9.out.cells.1, (blk_cell X9.out 0).trans rfl, (blk_cell X9.out 1).trans rfl⟩ (fun hHeld => ?_)
          clear hK K hb9 hr9
          refine norm_ (a' := ?_) ?_ ?_
          rotate_left
          · show Act.put _ (some 107) _ = _
            simp only [Act.put, List.setIfInBounds_toArray, List.set_cons_zero, List.set_cons_succ, i64_w, i32_w]
            rfl
          refine pure_ (i := 18) (N := some 108) (v := ?_) (a' := ?_) #[true, true, true, true, true, true, true, true, true, true, true, true, true, true, true, true, true, true, true, false, false, false, false, false, false, false, false, false] rfl rfl (by kernel_rfl) (fun _ _ _ h => h) (Or.inl ⟨by rfl, ?_⟩) ?_ ?_
          rotate_left
          · intro w'
            go_simp
            with_reducible rfl
          rotate_left
          · simp only [Act.put, List.setIfInBounds_toArray, List.set_cons_zero, List.set_cons_succ, i64_w, i32_w]
            rfl
          refine pure_ (i := 19) (N := some 109) (v := ?_) (a' := ?_) #[true, true, true, true, true, true, true, true, true, true, true, true, true, true, true, true, true, true, true, true, false, false, false, false, false, false, false, false] rfl rfl (by kernel_rfl) (fun _ _ _ h => h) (Or.inl ⟨by rfl, ?_⟩) ?_ ?_
          rotate_left
          · intro w'
            go_simp
            with_reducible rfl
          rotate_left
          · simp only [Act.put, List.setIfInBounds_toArray, List.set_cons_zero, List.set_cons_succ, i64_w, i32_w]
            rfl
          refine pure_ (i := 20) (N := some 110) (v := ?_) (a' := ?_) #[true, true, true, true, true, true, true, true, true, true, true, true, true, true, true, true, true, true, true, true, true, false, false, false, false, false, false, false] rfl rfl (by kernel_rfl) (fun _ _ _ h => h) (Or.inl ⟨by rfl, ?_⟩) ?_ ?_
          rotate_left
          · intro w'
            go_simp
            with_reducible rfl
          rotate_left
          · simp only [Act.put, List.setIfInBounds_toArray, List.set_cons_zero, List.set_cons_succ, i64_w, i32_w]
            rfl
          refine pure_ (i := 21) (N := some 111) (v := ?_) (a' := ?_) #[true, true, true, true, true, true, true, true, true, true, true, true, true, true, true, true, true, true, true, true, true, true, false, false, false, false, false, false] rfl rfl (by kernel_rfl) (fun _ _ _ h => h) (Or.inl ⟨by rfl, ?_⟩) ?_ ?_
          rotate_left
          · intro w'
            go_simp
            with_reducible rfl
          rotate_left
          · simp only [Act.put, List.setIfInBounds_toArray, List.set_cons_zero, List.set_cons_succ, i64_w, i32_w]
            rfl
          refine pure_ (i := 23) (N := some 113) (v := ?_) (a' := ?_) #[true, true, true, true, true, true, true, true, true, true, true, true, true, true, true, true, true, true, true, true, true, true, false, true, false, false, false, false] rfl rfl (by kernel_rfl) (fun _ _ _ h => h) (Or.inl ⟨by rfl, ?_⟩) ?_ ?_
          rotate_left
          · intro w'
            go_simp
            with_reducible rfl
          rotate_left
          · simp only [Act.put, List.setIfInBounds_toArray, List.set_cons_zero, List.set_cons_succ, i64_w, i32_w]
            rfl
          refine one_ (i := 22) (N := some 112) #[true, true, true, true, true, true, true, true, true, true, true, true, true, true, true, true, true, true, true, true, true, true, true, true, false, false, false, false] rfl rfl (by kernel_rfl) (by decide) (fun K hK => ?_)
          refine goes_ Try.func12 (by kernel_rfl) rfl #[.pointer (some ⟨box, 0, none⟩)] (by rfl) rfl rfl (by simp only [List.map_toArray, List.map_cons, List.map_nil]; first | done | rfl) ?_
          refine (tr_any K9.out).mono ?_
          rintro e wa ⟨At, ct, tt, rfl, htl, hlen, hrw, hba⟩
          refine ⟨_, rfl, ?_⟩
          have RT := Aside0.mk hrw
          have TT := Aside0.mk (And.intro htl hlen)
          have Ka := Aside0.mk (K9.out.below hba)
          have Ma := Aside0.mk (M9.out.below hba)
          have Xa := Aside0.mk ((hba.block _ (blk_lt X9.out)).trans X9.out)
          have Ba := Aside0.mk (below_then B9.out B9.out.size hba)
          refine hK.out _ _ ⟨Ma.out.cells.1, (blk_cell Xa.out 0).trans rfl, (blk_cell Xa.out 1).trans rfl⟩ (fun hHeld => ?_)
          clear hK K hba htl hlen hrw
          refine norm_ (a' := ?_) ?_ ?_
          rotate_left
          · show Act.put _ (some 112) _ = _
            simp only [Act.put, List.setIfInBounds_toArray, List.set_cons_zero, List.set_cons_succ, i64_w, i32_w]
            rfl
          refine one_ (i := 24) (N := some 114) #[true, true, true, true, true, true, true, true, true, true, true, true, true, true, true, true, true, true, true, true, true, true, true, true, true, false, false, false] rfl rfl (by kernel_rfl) (by decide) (fun K hK => ?_)
          refine goes_ Try.func25 (by kernel_rfl) rfl #[.pointer (some ⟨mb, 0, none⟩)] (by rfl) rfl rfl (by simp only [List.map_toArray, List.map_cons, List.map_nil]; first | done | rfl) ?_
          refine (mt_trial Ma.out HLMM.out HWF.out).mono ?_
          rintro e wb ⟨Au, cu, tu, rfl, hul, hulen, hulr, hbb⟩
          refine ⟨_, rfl, ?_⟩
          have etu : tu = tt := hul.same TT.out.1 (fun z _ => by rw [HS.out.tot])
          subst etu
          have RT2 := Aside0.mk (RT.out.below hbb)
          have RU := Aside0.mk hulr
          have Kb := Aside0.mk (Ka.out.below hbb)
          have Mb := Aside0.mk (Ma.out.below hbb)
          have Xb := Aside0.mk ((hbb.block _ (blk_lt Xa.out)).trans Xa.out)
          have Bb := Aside0.mk (below_then Ba.out Ba.out.size hbb)
          refine hK.out _ _ ⟨Mb.out.cells.1, (blk_cell Xb.out 0).trans rfl, (blk_cell Xb.out 1).trans rfl⟩ (fun hHeld => ?_)
          clear hK K hbb hul hulen hulr
          refine norm_ (a' := ?_) ?_ ?_
          rotate_left
          · show Act.put _ (some 114) _ = _
            simp only [Act.put, List.setIfInBounds_toArray, List.set_cons_zero, List.set_cons_succ, i64_w, i32_w]
            rfl
          refine one_ (i := 25) (N := some 115) #[true, true, true, true, true, true, true, true, true, true, true, true, true, true, true, true, true, true, true, true, true, true, true, true, true, true, false, false] rfl rfl (by kernel_rfl) (by decide) (fun K hK => ?_)
          refine goes_ Try.func16 (by kernel_rfl) rfl #[.slice At tu.length ct, .slice Au tu.length cu] (by rfl) rfl rfl (by simp only [List.map_toArray, List.map_cons, List.map_nil]; first | done | rfl) ?_
          refine (same_dec RT2.out.lr RU.out ct cu (by have := TT.out.2; omega) (by have := TT.out.2; omega)).mono ?_
          rintro e wc ⟨rfl, hbc⟩
          rw [decide_eq_true rfl]
          refine ⟨_, rfl, ?_⟩
          have Kc := Aside0.mk (Kb.out.below hbc)
          have Mc := Aside0.mk (Mb.out.below hbc)
          have Xc := Aside0.mk ((hbc.block _ (blk_lt Xb.out)).trans Xb.out)
          have Bc := Aside0.mk (below_then Bb.out Bb.out.size hbc)
          refine hK.out _ _ ⟨Mc.out.cells.1, (blk_cell Xc.out 0).trans rfl, (blk_cell Xc.out 1).trans rfl⟩ (fun hHeld => ?_)
          clear hK K hbc
          refine norm_ (a' := ?_) ?_ ?_
          rotate_left
          · show Act.put _ (some 115) _ = _
            simp only [Act.put, List.setIfInBounds_toArray, List.set_cons_zero, List.set_cons_succ, i64_w, i32_w]
            rfl
          refine pure_ (i := 26) (N := some 116) (v := ?_) (a' := ?_) #[true, true, true, true, true, true, true, true, true, true, true, true, true, true, true, true, true, true, true, true, true, true, true, true, true, true, true, false] rfl rfl (by kernel_rfl) (fun _ _ _ h => h) (Or.inl ⟨by rfl, ?_⟩) ?_ ?_
          rotate_left
          · intro w'
            go_simp
            with_reducible rfl
          rotate_left
          · simp only [Act.put, List.setIfInBounds_toArray, List.set_cons_zero, List.set_cons_succ, i64_w, i32_w]
            rfl
          refine pure_ (i := 27) (N := some 6) (v := ?_) (a' := ?_) #[true, true, true, true, true, true, true, true, true, true, true, true, true, true, true, true, true, true, true, true, true, true, true, true, true, true, true, true] rfl rfl (by kernel_rfl) (fun _ _ _ h => h) (Or.inl ⟨by rfl, ?_⟩) ?_ ?_
          rotate_left
          · intro w'
            go_simp
            with_reducible rfl
          rotate_left
          · simp only [Act.put, List.setIfInBounds_toArray, List.set_cons_zero, List.set_cons_succ, i64_w, i32_w]
            rfl
          refine done_ (by kernel_rfl) ?_
          clear hHeld
          clear hHeld
          go_wp2_with fail
          go_ret
          exact ⟨rfl, Bc.out⟩

end Go.Proofs.Ytcdhnglefldalaa.PBook
