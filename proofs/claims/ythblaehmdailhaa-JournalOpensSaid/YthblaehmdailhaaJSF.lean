import Derived.Test.YthblaehmdailhaaJSE
namespace Go.Proofs.Ythblaehmdailhaa.PJournalStays
open Go.RowKit Go.Proofs.YthblaehmdailhaaW.PrintWords Go.Proofs.YthblaehmdailhaaW.PrintLast Go.Proofs.YthblaehmdailhaaW.PrintMore
set_option linter.unusedVariables false
set_option linter.unusedSimpArgs false
attribute [local go_sem high] slEq slNe slEq0 slNe0 cerEqI cerEqL cerEqR cerNeI cerNeL cerNeR
theorem Src.blt {w : World} {ad : Addr} {l : List Int} (h : Src w ad l) (hl : 1 ≤ l.length) : ad.block < w.heap.size := by
  have := World.block_lt_of_cell? w _ (h 0 l[0] (List.getElem?_eq_getElem (by omega)))
  have hb : (ad.add 0).block = ad.block := by unfold Addr.add; split <;> rfl
  rwa [hb] at this
/-- A scan has one answer. -/
theorem scan_uniq2 {rest rest' : List Int} : ∀ {rs rs' : List (List Int)}, enc rs ++ rest = enc rs' ++ rest' → (∀ m, ¬ isRec rest m) → (∀ m, ¬ isRec rest' m) → (∀ r ∈ rs, 1 ≤ r.length ∧ r.length ≤ 1024) → (∀ r ∈ rs', 1 ≤ r.length ∧ r.length ≤ 1024) → rs = rs' ∧ rest = rest' := by
  have key : ∀ {r : List Int} {t : List (List Int)} {x y : List Int}, 1 ≤ r.length ∧ r.length ≤ 1024 → enc (r :: t) ++ x = y → (∀ m, ¬ isRec y m) → False := by
    intro r t x y hr h hno
    rw [enc_cons] at h
    refine hno ↑r.length ⟨by omega, by omega, ?_, ?_⟩
    · rw [← h, List.length_append, List.length_append, show (hdl ↑r.length).length = 8 from rfl]
      omega
    · rw [← h, List.take_append_of_le_length (by show 8 ≤ 8; exact Nat.le_refl _)]
      rfl
  intro rs
  induction rs with
  | nil =>
    intro rs' h hno hno' hv hv'
    rcases rs' with _ | ⟨r', t'⟩
    · exact ⟨rfl, h⟩
    · exact (key (hv' r' List.mem_cons_self) h.symm hno).elim
  | cons r t ih =>
    intro rs' h hno hno' hv hv'
    have hr := hv r List.mem_cons_self
    rcases rs' with _ | ⟨r', t'⟩
    · exact (key hr h hno').elim
    · have hr' := hv' r' List.mem_cons_self
      rw [enc_cons, enc_cons] at h
      obtain ⟨h1, h2⟩ := List.append_inj h rfl
      have e := hdl_inj ⟨by omega, by omega⟩ ⟨by omega, by omega⟩ h1
      obtain ⟨h3, h4⟩ := List.append_inj h2 (by omega)
      obtain ⟨e1, e2⟩ := ih h4 hno hno' (fun q hq => hv q (List.mem_cons_of_mem _ hq)) (fun q hq => hv' q (List.mem_cons_of_mem _ hq))
      exact ⟨by rw [h3, e1], e2⟩
set_option maxRecDepth 100000 in
theorem jd_write0 {w : World} {bd bs bn bm n : Nat} {st nw : List Int} {N : Nat} {D : DataW Unit} (h : Dk w bd bs bn bm n st nw N D) (hn : n ≤ 65536) (n0 : 0 < n) (A : Option Addr) (cap : Nat) :
    Calls Try.prog 14 #[.pointer (some ⟨bd, 0, none⟩), .int .i64 0, .slice A 0 cap] w fun e w' => e = .returned .nilIface ∧ Below w.heap.size w w' := by
  have TH := Aside0.mk (jd_there h 0 0 hn)
  rw [decide_eq_true (show (0 : Int) ≤ 0 ∧ (0 : Int) ≤ 0 ∧ (0 : Int) ≤ ↑n ∧ (0 : Int) ≤ ↑n - 0 by omega)] at TH
  have HD := Aside0.mk h
  clear h
  go_enter Try.func14, Try.ntmps14
  go_wp2_with fail
  refine TH.out.mono ?_
  rintro e w1 ⟨rfl, hb⟩
  have HD1 := Aside0.mk (HD.out.below hb)
  have B1 := Aside0.mk hb
  clear hb
  obtain ⟨c0, c1, c2⟩ := HD1.out.cells
  have hcp := run_copy_none (P := Try.prog) w1 22 22 3 5 (some ⟨bn, 0, none⟩) A n n 0 cap Try.underlying22 jd_size1 (by simp)
  have q2 : (0 : Int) ≤ ↑n := by omega
  go_wp2_with fail
  clear hcp
  go_loopw [25] (fun v25 wr => v25 = .int .i64 0 ∧ wr = w1) (fun _ _ => 0)
  case atStart => exact ⟨rfl, rfl⟩
  case round =>
    obtain ⟨rfl, rfl⟩ := hrel
    go_wp2_with fail
    go_ret
    exact ⟨rfl, B1.out⟩
theorem jopens_long (A0 : Option Addr) (c0 : Nat) (l : List Int) (w : World) (hl : 512 < l.length) (hm : l.length ≤ 9223372036854775807) : Calls Try.prog 3 #[.slice A0 l.length c0] w fun e w' => e = .returned (.bool true) ∧ Below w.heap.size w w' := by
  have U := Aside0.mk (fun W => jy_up W)
  have lb : decide ((512 : Int) < ↑l.length) = true := decide_eq_true (by omega)
  go_enter Try.func3, Try.ntmps3
  go_wp2_with fail
  refine (U.out _).mono ?_
  rintro e w0 ⟨rfl, hb⟩
  have B0 := Aside0.mk hb
  clear hb
  go_wp2_with fail
  go_ret
  exact ⟨rfl, B0.out⟩
set_option maxHeartbeats 2000000 in
set_option maxRecDepth 100000 in
theorem jopens_main (A0 : Option Addr) (c0 : Nat) (l : List Int) (w : World) (hr : Kd.C (Kd.int .u8) w A0 l.length l) (hl : l.length ≤ 512) (hby : ∀ x ∈ l, 0 ≤ x ∧ x ≤ 255) : Calls Try.prog 3 #[.slice A0 l.length c0] w fun e w' => e = .returned (.bool true) ∧ Below w.heap.size w w' := by
  have U := Aside0.mk (fun W => jy_up W)
  have lb : decide ((512 : Int) < ↑l.length) = false := decide_eq_false (by omega)
  have HS : Aside0 (∀ ad, A0 = some ad → Src w ad l) := ⟨fun ad q => by
    by_cases h : 0 < l.length
    · obtain ⟨a', e, hs⟩ := Src.of_C hr h
      rw [q] at e
      cases e
      exact hs
    · intro j x hx
      rw [List.getElem?_eq_none (by omega)] at hx
      cases hx⟩
  have HA : Aside0 (0 < l.length → ∃ ad, A0 = some ad ∧ ad.block < w.heap.size) := ⟨fun h => by
    obtain ⟨a', e, hs⟩ := Src.of_C hr h
    exact ⟨a', e, Src.blt hs h⟩⟩
  clear hr
  go_enter Try.func3, Try.ntmps3
  go_wp2_with fail
  refine (U.out _).mono ?_
  rintro e w0 ⟨rfl, hb⟩
  have B0 := Aside0.mk hb
  clear hb
  go_wp2_with fail
  refine (jd_new 8 _ (by omega) (by omega)).mono ?_
  rintro e w1 ⟨bd, bs, bn, bm, rfl, hD, g1, g2, g3, g4, hb⟩
  have HD1 := Aside0.mk (show Dk w1 bd bs bn bm 512 (List.replicate 512 0) (List.replicate 512 0) 0 (.map []) from hD)
  have B1 := Aside0.mk (below_step B0.out hb)
  have G1 : Aside0 (w.heap.size ≤ bd ∧ w.heap.size ≤ bs ∧ w.heap.size ≤ bn ∧ w.heap.size ≤ bm) := ⟨by have := B0.out.size; omega⟩
  clear hD g1 g2 g3 g4 hb
  go_wp2_with fail
  have WR : Aside0 (Calls Try.prog 14 #[.pointer (some ⟨bd, 0, none⟩), .int .i64 0, .slice A0 l.length c0] w1 fun e w' => e = .returned .nilIface ∧ ∃ N D, N ≤ 512 ∧ Dk w' bd bs bn bm 512 (List.replicate 512 0) (splice (List.replicate 512 0) 0 l) N D ∧ Tn (fun k => k = bn ∨ k = bm) w1 w') := ⟨by
    by_cases h : 0 < l.length
    · obtain ⟨ad, rfl, -⟩ := HA.out h
      refine (jd_write HD1.out (by omega) (fun q => by obtain ⟨r, hr⟩ := HD1.out.hn; exact ty_ne (q ▸ HD1.out.hd) hr (by decide)) 0 ad l c0 h ((HS.out ad rfl).below B1.out) (by omega) (by omega)).mono ?_
      rintro e w' ⟨rfl, hd, ht⟩
      exact ⟨rfl, _, _, by omega, hd, ht⟩
    · obtain rfl : l = [] := List.eq_nil_of_length_eq_zero (by omega)
      refine (jd_write0 HD1.out (by omega) (by omega) A0 c0).mono ?_
      rintro e w' ⟨rfl, hb⟩
      exact ⟨rfl, 0, .map [], by omega, by rw [splice_nil _ _ (Nat.zero_le _)]; exact HD1.out.below hb, Tn.of_below hb⟩⟩
  refine WR.out.mono ?_
  rintro e w2 ⟨rfl, N, D, hN, hD, ht⟩
  obtain ⟨nw, hnw⟩ : ∃ nw, splice (List.replicate 512 0) 0 l = nw := ⟨_, rfl⟩
  have NB : Aside0 (∀ x ∈ nw, 0 ≤ x ∧ x ≤ 255) := ⟨fun x hx => by
    rw [← hnw] at hx
    unfold splice at hx
    rcases List.mem_append.1 hx with hx | hx
    · have := List.eq_of_mem_replicate (List.mem_of_mem_take hx); omega
    · rcases List.mem_append.1 hx with hx | hx
      · exact hby x hx
      · have := List.eq_of_mem_replicate (List.mem_of_mem_drop hx); omega⟩
  rw [hnw] at hD
  have HNW := Aside0.mk hnw
  have HD2 := Aside0.mk hD
  have B2 := Aside0.mk (Tn.below B1.out ht B1.out.size (fun k q => by have := G1.out; rcases q with q | q <;> omega))
  clear hnw hD ht WR HD1 B0
  go_wp2_with fail
  refine (jd_sync HD2.out (by omega) (by omega) (fun q => by obtain ⟨r, hr⟩ := HD2.out.hs; exact ty_ne (q ▸ HD2.out.hd) hr (by decide))).mono ?_
  rintro e w3 ⟨rfl, hD, ht⟩
  have HD3 := Aside0.mk hD
  have B3 := Aside0.mk (Tn.below B2.out ht B2.out.size (fun k q => by have := G1.out; rcases q with q | q <;> omega))
  clear hD ht HD2 B1
  go_wp2_with fail
  refine (jo_open w.heap.size B3.out.size HD3.out (by omega) (by omega) NB.out (by omega)).mono ?_
  rintro e w4 ⟨rs, rest, bj, st', D', rfl, hbj, e1, hno, hJ, hD, ht⟩
  have HJ4 := Aside0.mk hJ
  have HD4 := Aside0.mk hD
  have HU := Aside0.mk (And.intro e1 hno)
  have B4 := Aside0.mk (Tn.below B3.out ht B3.out.size (fun k q => by have := G1.out; rcases q with q | q | q <;> omega))
  clear hJ hD e1 hno ht hbj HD3 B2
  go_wp2_with fail
  refine (jm_new 8 _ (by omega) (by omega)).mono ?_
  rintro e w5 ⟨md, ms, mn, mb, rfl, hM, g1, g2, g3, g4, hb⟩
  have M5 := Aside0.mk (show Md w5 md ms mn mb 512 8 (List.replicate 512 0) (List.replicate 512 0) from hM)
  have HJ5 := Aside0.mk (HJ4.out.below hb)
  have HD5 := Aside0.mk (HD4.out.below hb)
  have B5 := Aside0.mk (below_step B4.out hb)
  have G5 : Aside0 (w4.heap.size ≤ md ∧ w4.heap.size ≤ ms ∧ w4.heap.size ≤ mn ∧ w4.heap.size ≤ mb) := ⟨⟨g1, g2, g3, g4⟩⟩
  have X5 := Aside0.mk hb
  clear hM g1 g2 g3 g4 hb
  go_wp2_with fail
  refine (jm_write M5.out (by omega) 0 A0 l c0 (fun h ad q => ⟨(HS.out ad q).below B5.out, by obtain ⟨a', e, h2⟩ := HA.out h; rw [q] at e; cases e; have := G5.out; have := B4.out.size; omega⟩) (fun h => by obtain ⟨a', e, -⟩ := HA.out h; exact ⟨_, e⟩) (by omega)).mono ?_
  rintro e w6 ⟨rfl, hM, ht⟩
  rw [HNW.out] at hM
  have M6 := Aside0.mk hM
  have X6 := Aside0.mk (Tn.below X5.out ht X5.out.size (fun k q => by have := G5.out; rcases q with q | q <;> omega))
  clear hM ht M5
  go_wp2_with fail
  refine (jm_sync M6.out (by omega)).mono ?_
  rintro e w7 ⟨rfl, hM, ht⟩
  have M7 := Aside0.mk hM
  have X7 := Aside0.mk (Tn.below X6.out ht X6.out.size (fun k q => by have := G5.out; rcases q with q | q | q <;> omega))
  clear hM ht M6 X6
  go_wp2_with fail
  refine (jm_open M7.out (by omega) NB.out).mono ?_
  rintro e w8 ⟨rs2, rest2, jb, vo, st2, rfl, e2, hno2, hjb, hrs2, hM, ht⟩
  obtain ⟨v, hj, hrs⟩ := HJ4.out.hj
  obtain ⟨rfl, rfl⟩ := scan_uniq2 (HU.out.1.symm.trans e2) HU.out.2 hno2 hrs.lens hrs2.lens
  have M8 := Aside0.mk hM
  have X8 := Aside0.mk (Tn.below X7.out ht X7.out.size (fun k q => by have := G5.out; rcases q with q | q | q <;> omega))
  have HD8 := Aside0.mk (HD4.out.below X8.out)
  have B8 := Aside0.mk (below_step B4.out X8.out)
  have hj8 : w8.heap[bj]? = some (.cells #[.pointer (some ⟨bd, 0, none⟩), v, .int .i64 ↑(enc rs).length, .bool false] 72 (0, 0)) := X8.out.block bj (blk_lt hj) |>.trans hj
  have HR8 : Aside0 (Rs w8 w.heap.size (fun k => k = bs ∨ k = bn) v rs) := ⟨hrs.below X8.out⟩
  have HRM := Aside0.mk hrs2
  have HJB := Aside0.mk hjb
  have HJ8 := Aside0.mk hj8
  have hln : (enc rs).length + rest.length = 512 := by have := HD8.out.ln; rwa [List.length_append, List.length_replicate] at this
  have hel := enc_len rs
  clear hj hrs hjb hrs2 hno2 e2 hM ht hj8 HJ5 HD5 M7 X7 HD4 HJ4 HU
  go_wp2_with fail
  refine (jd_read HD8.out 0 512 (by omega) (by omega) (by omega)).mono ?_
  rintro e w9 ⟨ga, capa, rfl, hga, hba, hca, hb⟩
  rw [List.drop_zero, List.take_of_length_le (Nat.le_of_eq HD8.out.ln)] at hba
  have BA := Aside0.mk hba
  have M9 := Aside0.mk (M8.out.below hb)
  have B9 := Aside0.mk (below_step B8.out hb)
  have X9 := Aside0.mk hb
  have hll := HD8.out.ln
  obtain ⟨nx, hnx⟩ : ∃ nx, enc rs ++ List.replicate rest.length 0 = nx := ⟨_, rfl⟩
  rw [hnx] at M9 BA hll
  obtain ⟨sx, hsx⟩ : ∃ sx, strOfNums nx = sx := ⟨_, rfl⟩
  have SS : Aside0 (∀ W, Below w9.heap.size w9 W → (W.cell? ⟨jb, 1, none⟩ = some vo ∧ W.cell? ⟨md, 1, none⟩ = some (.slice (some ⟨mn, 0, none⟩) 512 512) ∧ (convert 22 9 (.slice (some ⟨ga, 0, none⟩) 512 capa)).run Try.prog W = .ok (.string sx) W ∧ (convert 22 9 (.slice (some ⟨mn, 0, none⟩) 512 512)).run Try.prog W = .ok (.string sx) W)) := ⟨fun W hW => by
    have hsa := (BA.out.turn (S := fun _ => False) (Tn.of_below hW) id).str capa (by omega)
    have hsm := (M9.out.below hW).hn.str 512 (by omega)
    rw [hll, hsx] at hsa hsm
    have hjb := X9.out.block jb (blk_lt HJB.out)
    rw [HJB.out] at hjb
    have hj2 := hW.block jb (blk_lt hjb)
    rw [hjb] at hj2
    exact ⟨(blk_cell hj2 1).trans rfl, (M9.out.below hW).cells.2.1, hsa, hsm⟩⟩
  clear hb hba hga hca hsx hnx
  obtain ⟨Av, nv, cv, rfl⟩ := HRM.out.shape
  go_wp2_with fail
  refine start_ (n := 25) (S := fun W => W.cell? ⟨jb, 1, none⟩ = some (.slice Av nv cv) ∧ W.cell? ⟨md, 1, none⟩ = some (.slice (some ⟨mn, 0, none⟩) 512 512) ∧ (convert 22 9 (.slice (some ⟨ga, 0, none⟩) 512 capa)).run Try.prog W = .ok (.string sx) W ∧ (convert 22 9 (.slice (some ⟨mn, 0, none⟩) 512 512)).run Try.prog W = .ok (.string sx) W) (ds := []) #[false, false, false, false, false, false, false, false, false, false, false, false, false, false, false, false, false, false, false, false, false, false, false, false, false] (by kernel_rfl) rfl rfl (SS.out _ (below_drew1 (Below.refl _ _))) (fun hHeld => ?_)
  have B10 := Aside0.mk (below_drew1 B9.out)
  have X10 := Aside0.mk (below_drew1 (Below.refl w9.heap.size w9))
  generalize w9.drew = wd at hHeld B10 X10 ⊢
  refine pure_ (i := 0) (N := some 61) (v := ?_) (a' := ?_) #[true, false, false, false, false, false, false, false, false, false, false, false, false, false, false, false, false, false, false, false, false, false, false, false, false] rfl rfl (by kernel_rfl) (fun _ _ _ h => h) (Or.inl ⟨by rfl, ?_⟩) ?_ ?_
  rotate_left
  · intro w'
    go_simp
    with_reducible rfl
  rotate_left
  · simp only [Act.put, List.setIfInBounds_toArray, List.set_cons_zero, List.set_cons_succ, i64_w, i32_w]
    rfl
  refine pure_ (i := 1) (N := some 62) (v := ?_) (a' := ?_) #[true, true, false, false, false, false, false, false, false, false, false, false, false, false, false, false, false, false, false, false, false, false, false, false, false] rfl rfl (by kernel_rfl) (fun _ _ _ h => h) (Or.inl ⟨by rfl, ?_⟩) ?_ ?_
  rotate_left
  · intro w'
    go_simp
    with_reducible rfl
  rotate_left
  · simp only [Act.put, List.setIfInBounds_toArray, List.set_cons_zero, List.set_cons_succ, i64_w, i32_w]
    rfl
  refine pure_ (i := 2) (N := some 63) (v := ?_) (a' := ?_) #[true, true, true, false, false, false, false, false, false, false, false, false, false, false, false, false, false, false, false, false, false, false, false, false, false] rfl rfl (by kernel_rfl) (fun _ _ _ h => h) (Or.inl ⟨by rfl, ?_⟩) ?_ ?_
  rotate_left
  · intro w'
    go_simp
    with_reducible rfl
  rotate_left
  · simp only [Act.put, List.setIfInBounds_toArray, List.set_cons_zero, List.set_cons_succ, i64_w, i32_w]
    rfl
  refine pure_ (i := 3) (N := some 64) (v := ?_) (a' := ?_) #[true, true, true, true, false, false, false, false, false, false, false, false, false, false, false, false, false, false, false, false, false, false, false, false, false] rfl rfl (by kernel_rfl) (fun _ _ _ h => h) (Or.inl ⟨by rfl, ?_⟩) ?_ ?_
  rotate_left
  · intro w'
    go_simp
    with_reducible rfl
  rotate_left
  · simp only [Act.put, List.setIfInBounds_toArray, List.set_cons_zero, List.set_cons_succ, i64_w, i32_w]
    rfl
  refine pure_ (i := 4) (N := some 65) (v := ?_) (a' := ?_) #[true, true, true, true, true, false, false, false, false, false, false, false, false, false, false, false, false, false, false, false, false, false, false, false, false] rfl rfl (by kernel_rfl) (fun _ _ _ h => h) (Or.inl ⟨by rfl, ?_⟩) ?_ ?_
  rotate_left
  · intro w'
    go_simp
    with_reducible rfl
  rotate_left
  · simp only [Act.put, List.setIfInBounds_toArray, List.set_cons_zero, List.set_cons_succ, i64_w, i32_w]
    rfl
  refine pure_ (i := 5) (N := some 66) (v := ?_) (a' := ?_) #[true, true, true, true, true, true, false, false, false, false, false, false, false, false, false, false, false, false, false, false, false, false, false, false, false] rfl rfl (by kernel_rfl) (fun _ _ _ h => h) (Or.inl ⟨by rfl, ?_⟩) ?_ ?_
  rotate_left
  · intro w'
    go_simp
    with_reducible rfl
  rotate_left
  · simp only [Act.put, List.setIfInBounds_toArray, List.set_cons_zero, List.set_cons_succ, i64_w, i32_w]
    rfl
  refine pure_ (i := 6) (N := some 67) (v := ?_) (a' := ?_) #[true, true, true, true, true, true, true, false, false, false, false, false, false, false, false, false, false, false, false, false, false, false, false, false, false] rfl rfl (by kernel_rfl) (fun _ _ _ h => h) (Or.inl ⟨by rfl, ?_⟩) ?_ ?_
  rotate_left
  · intro w'
    go_simp
    with_reducible rfl
  rotate_left
  · simp only [Act.put, List.setIfInBounds_toArray, List.set_cons_zero, List.set_cons_succ, i64_w, i32_w]
    rfl
  refine take_ (i := 7) (N := some 68) (v := ?_) (a' := ?_) #[true, true, true, true, true, true, true, true, false, false, false, false, false, false, false, false, false, false, false, false, false, false, false, false, false] rfl rfl (by kernel_rfl) (fun _ _ _ h => h) (Or.inl ⟨by rfl, ?_⟩) hHeld ?_ ?_
  rotate_left
  · rintro w' ⟨-, -, s0, -⟩
    go_simp
    with_reducible rfl
  rotate_left
  · simp only [Act.put, List.setIfInBounds_toArray, List.set_cons_zero, List.set_cons_succ, i64_w, i32_w]
    rfl
  refine pure_ (i := 8) (N := some 69) (v := ?_) (a' := ?_) #[true, true, true, true, true, true, true, true, true, false, false, false, false, false, false, false, false, false, false, false, false, false, false, false, false] rfl rfl (by kernel_rfl) (fun _ _ _ h => h) (Or.inl ⟨by rfl, ?_⟩) ?_ ?_
  rotate_left
  · intro w'
    go_simp
    with_reducible rfl
  rotate_left
  · simp only [Act.put, List.setIfInBounds_toArray, List.set_cons_zero, List.set_cons_succ, i64_w, i32_w]
    rfl
  refine pure_ (i := 9) (N := some 70) (v := ?_) (a' := ?_) #[true, true, true, true, true, true, true, true, true, true, false, false, false, false, false, false, false, false, false, false, false, false, false, false, false] rfl rfl (by kernel_rfl) (fun _ _ _ h => h) (Or.inl ⟨by rfl, ?_⟩) ?_ ?_
  rotate_left
  · intro w'
    go_simp
    with_reducible rfl
  rotate_left
  · simp only [Act.put, List.setIfInBounds_toArray, List.set_cons_zero, List.set_cons_succ, i64_w, i32_w]
    rfl
  refine pure_ (i := 10) (N := some 71) (v := ?_) (a' := ?_) #[true, true, true, true, true, true, true, true, true, true, true, false, false, false, false, false, false, false, false, false, false, false, false, false, false] rfl rfl (by kernel_rfl) (fun _ _ _ h => h) (Or.inl ⟨by rfl, ?_⟩) ?_ ?_
  rotate_left
  · intro w'
    go_simp
    with_reducible rfl
  rotate_left
  · simp only [Act.put, List.setIfInBounds_toArray, List.set_cons_zero, List.set_cons_succ, i64_w, i32_w]
    rfl
  refine take_ (i := 11) (N := some 72) (v := ?_) (a' := ?_) #[true, true, true, true, true, true, true, true, true, true, true, true, false, false, false, false, false, false, false, false, false, false, false, false, false] rfl rfl (by kernel_rfl) (fun _ _ _ h => h) (Or.inl ⟨by rfl, ?_⟩) hHeld ?_ ?_
  rotate_left
  · rintro w' ⟨-, s0, -, -⟩
    go_simp
    with_reducible rfl
  rotate_left
  · simp only [Act.put, List.setIfInBounds_toArray, List.set_cons_zero, List.set_cons_succ, i64_w, i32_w]
    rfl
  refine take_ (i := 12) (N := some 73) (v := ?_) (a' := ?_) #[true, true, true, true, true, true, true, true, true, true, true, true, true, false, false, false, false, false, false, false, false, false, false, false, false] rfl rfl (by kernel_rfl) (fun _ _ _ h => h) (Or.inl ⟨by rfl, ?_⟩) hHeld ?_ ?_
  rotate_left
  · rintro w' ⟨-, -, -, s0⟩
    go_simp
    with_reducible rfl
  rotate_left
  · simp only [Act.put, List.setIfInBounds_toArray, List.set_cons_zero, List.set_cons_succ, i64_w, i32_w]
    rfl
  refine pure_ (i := 13) (N := some 74) (v := ?_) (a' := ?_) #[true, true, true, true, true, true, true, true, true, true, true, true, true, true, false, false, false, false, false, false, false, false, false, false, false] rfl rfl (by kernel_rfl) (fun _ _ _ h => h) (Or.inl ⟨by rfl, ?_⟩) ?_ ?_
  rotate_left
  · intro w'
    go_simp
    with_reducible rfl
  rotate_left
  · simp only [Act.put, List.setIfInBounds_toArray, List.set_cons_zero, List.set_cons_succ, i64_w, i32_w]
    rfl
  refine pure_ (i := 14) (N := some 75) (v := ?_) (a' := ?_) #[true, true, true, true, true, true, true, true, true, true, true, true, true, true, true, false, false, false, false, false, false, false, false, false, false] rfl rfl (by kernel_rfl) (fun _ _ _ h => h) (Or.inl ⟨by rfl, ?_⟩) ?_ ?_
  rotate_left
  · intro w'
    go_simp
    with_reducible rfl
  rotate_left
  · simp only [Act.put, List.setIfInBounds_toArray, List.set_cons_zero, List.set_cons_succ, i64_w, i32_w]
    rfl
  refine pure_ (i := 15) (N := some 76) (v := ?_) (a' := ?_) #[true, true, true, true, true, true, true, true, true, true, true, true, true, true, true, true, false, false, false, false, false, false, false, false, false] rfl rfl (by kernel_rfl) (fun _ _ _ h => h) (Or.inl ⟨by rfl, ?_⟩) ?_ ?_
  rotate_left
  · intro w'
    go_simp
    with_reducible rfl
  rotate_left
  · simp only [Act.put, List.setIfInBounds_toArray, List.set_cons_zero, List.set_cons_succ, i64_w, i32_w]
    rfl
  refine pure_ (i := 16) (N := some 77) (v := ?_) (a' := ?_) #[true, true, true, true, true, true, true, true, true, true, true, true, true, true, true, true, true, false, false, false, false, false, false, false, false] rfl rfl (by kernel_rfl) (fun _ _ _ h => h) (Or.inl ⟨by rfl, ?_⟩) ?_ ?_
  rotate_left
  · intro w'
    go_simp
    with_reducible rfl
  rotate_left
  · simp only [Act.put, List.setIfInBounds_toArray, List.set_cons_zero, List.set_cons_succ, i64_w, i32_w]
    rfl
  refine pure_ (i := 18) (N := some 79) (v := ?_) (a' := ?_) #[true, true, true, true, true, true, true, true, true, true, true, true, true, true, true, true, true, false, true, false, false, false, false, false, false] rfl rfl (by kernel_rfl) (fun _ _ _ h => h) (Or.inl ⟨by rfl, ?_⟩) ?_ ?_
  rotate_left
  · intro w'
    go_simp
    with_reducible rfl
  rotate_left
  · simp only [Act.put, List.setIfInBounds_toArray, List.set_cons_zero, List.set_cons_succ, i64_w, i32_w]
    rfl
  refine pure_ (i := 19) (N := some 80) (v := ?_) (a' := ?_) #[true, true, true, true, true, true, true, true, true, true, true, true, true, true, true, true, true, false, true, true, false, false, false, false, false] rfl rfl (by kernel_rfl) (fun _ _ _ h => h) (Or.inl ⟨by rfl, ?_⟩) ?_ ?_
  rotate_left
  · intro w'
    go_simp
    with_reducible rfl
  rotate_left
  · simp only [Act.put, List.setIfInBounds_toArray, List.set_cons_zero, List.set_cons_succ, i64_w, i32_w]
    rfl
  refine pure_ (i := 20) (N := some 81) (v := ?_) (a' := ?_) #[true, true, true, true, true, true, true, true, true, true, true, true, true, true, true, true, true, false, true, true, true, false, false, false, false] rfl rfl (by kernel_rfl) (fun _ _ _ h => h) (Or.inl ⟨by rfl, ?_⟩) ?_ ?_
  rotate_left
  · intro w'
    go_simp
    with_reducible rfl
  rotate_left
  · simp only [Act.put, List.setIfInBounds_toArray, List.set_cons_zero, List.set_cons_succ, i64_w, i32_w]
    rfl
  refine take_ (i := 21) (N := some 82) (v := ?_) (a' := ?_) #[true, true, true, true, true, true, true, true, true, true, true, true, true, true, true, true, true, false, true, true, true, true, false, false, false] rfl rfl (by kernel_rfl) (fun _ _ _ h => h) (Or.inl ⟨by rfl, ?_⟩) hHeld ?_ ?_
  rotate_left
  · rintro w' ⟨s0, -, -, -⟩
    go_simp
    with_reducible rfl
  rotate_left
  · simp only [Act.put, List.setIfInBounds_toArray, List.set_cons_zero, List.set_cons_succ, i64_w, i32_w]
    rfl
  refine one_ (i := 17) (N := some 78) #[true, true, true, true, true, true, true, true, true, true, true, true, true, true, true, true, true, true, true, true, true, true, false, false, false] rfl rfl (by kernel_rfl) (by decide) (fun K hK => ?_)
  refine goes_ Try.func23 (by kernel_rfl) rfl #[.pointer (some ⟨bj, 0, none⟩)] (by rfl) rfl rfl (by simp only [List.map_toArray, List.map_cons, List.map_nil]; first | done | rfl) ?_
  refine (jq_records (show Jb wd bj bd v (enc rs).length false from (Tn.of_below (S := fun _ => False) X10.out).blk ((Tn.of_below (S := fun _ => False) X9.out).blk HJ8.out id) id) ((HR8.out.below X9.out).below X10.out) (by omega)).mono ?_
  rintro e w11 ⟨v2, rfl, hr2, hb⟩
  refine ⟨_, rfl, ?_⟩
  have R11 := Aside0.mk hr2
  have B11 := Aside0.mk (below_step B10.out hb)
  have X11 := Aside0.mk (below_step X10.out hb)
  refine hK.out _ _ (SS.out _ X11.out) (fun hHeld => ?_)
  clear hK K hr2 hb
  refine norm_ (a' := ?_) ?_ ?_
  rotate_left
  · show Act.put _ (some 78) _ = _
    simp only [Act.put, List.setIfInBounds_toArray, List.set_cons_zero, List.set_cons_succ, i64_w, i32_w]
    rfl
  refine one_ (i := 22) (N := some 83) #[true, true, true, true, true, true, true, true, true, true, true, true, true, true, true, true, true, true, true, true, true, true, true, false, false] rfl rfl (by kernel_rfl) (by decide) (fun K hK => ?_)
  refine goes_ Try.func22 (by kernel_rfl) rfl #[v2, .slice Av nv cv] (by rfl) rfl rfl (by simp only [List.map_toArray, List.map_cons, List.map_nil]; first | done | rfl) ?_
  refine (jz_same R11.out.rv ((HRM.out.below X9.out).below X11.out).rv (by omega)).mono ?_
  rintro e w12 ⟨rfl, hb⟩
  refine ⟨_, rfl, ?_⟩
  have B12 := Aside0.mk (below_step B11.out hb)
  have X12 := Aside0.mk (below_step X11.out hb)
  refine hK.out _ _ (SS.out _ X12.out) (fun hHeld => ?_)
  clear hK K hb
  refine norm_ (a' := ?_) ?_ ?_
  rotate_left
  · show Act.put _ (some 83) _ = _
    simp only [Act.put, List.setIfInBounds_toArray, List.set_cons_zero, List.set_cons_succ, i64_w, i32_w]
    rfl
  refine pure_ (i := 23) (N := some 84) (v := ?_) (a' := ?_) #[true, true, true, true, true, true, true, true, true, true, true, true, true, true, true, true, true, true, true, true, true, true, true, true, false] rfl rfl (by kernel_rfl) (fun _ _ _ h => h) (Or.inl ⟨by rfl, ?_⟩) ?_ ?_
  rotate_left
  · intro w'
    go_simp
    with_reducible rfl
  rotate_left
  · simp only [Act.put, List.setIfInBounds_toArray, List.set_cons_zero, List.set_cons_succ, i64_w, i32_w]
    rfl
  refine pure_ (i := 24) (N := some 2) (v := ?_) (a' := ?_) #[true, true, true, true, true, true, true, true, true, true, true, true, true, true, true, true, true, true, true, true, true, true, true, true, true] rfl rfl (by kernel_rfl) (fun _ _ _ h => h) (Or.inl ⟨by rfl, ?_⟩) ?_ ?_
  rotate_left
  · intro w'
    go_simp
    with_reducible rfl
  rotate_left
  · simp only [Act.put, List.setIfInBounds_toArray, List.set_cons_zero, List.set_cons_succ, i64_w, i32_w]
    rfl
  refine done_ (by kernel_rfl) ?_
  clear hHeld
  go_wp2_with fail
  go_ret
  exact ⟨rfl, B12.out⟩


end Go.Proofs.Ythblaehmdailhaa.PJournalStays
