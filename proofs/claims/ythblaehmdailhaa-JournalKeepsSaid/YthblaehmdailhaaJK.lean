import Derived.Test.YthblaehmdailhaaJDU
namespace Go.Proofs.Ythblaehmdailhaa.PJournalStays
open Go.RowKit Go.Proofs.YthblaehmdailhaaW.PrintWords Go.Proofs.YthblaehmdailhaaW.PrintLast Go.Proofs.YthblaehmdailhaaW.PrintMore
set_option linter.unusedVariables false
set_option linter.unusedSimpArgs false
attribute [local go_sem high] slEq slNe slEq0 slNe0 cerEqI cerEqL cerEqR cerNeI cerNeL cerNeR
theorem scan_uniq2 {rest rest' : List Int} : ∀ {rs rs' : List (List Int)}, enc rs ++ rest = enc rs' ++ rest' → (∀ m, ¬ isRec rest m) → (∀ m, ¬ isRec rest' m) → (∀ r ∈ rs, 1 ≤ r.length ∧ r.length ≤ 1024) → (∀ r ∈ rs', 1 ≤ r.length ∧ r.length ≤ 1024) → rs = rs' ∧ rest = rest' := by
  have key : ∀ {r : List Int} {t : List (List Int)} {x y : List Int}, 1 ≤ r.length ∧ r.length ≤ 1024 → enc (r :: t) ++ x = y → (∀ m, ¬ isRec y m) → False := by
    intro r t x y hr h hno
    rw [enc_cons] at h
    refine hno ↑r.length ⟨by omega, by omega, ?_, ?_⟩
    · rw [← h, List.length_append, List.length_append, show (hdl ↑r.length).length = 8 from rfl]
      omega
    · rw [← h, List.take_append_of_le_length (by show 8 ≤ 8; exact Nat.le_refl _)]
      rfl
  intro rs
  induction rs with
  | nil =>
    intro rs' h hno hno' hv hv'
    rcases rs' with _ | ⟨r', t'⟩
    · exact ⟨rfl, h⟩
    · exact (key (hv' r' List.mem_cons_self) h.symm hno).elim
  | cons r t ih =>
    intro rs' h hno hno' hv hv'
    have hr := hv r List.mem_cons_self
    rcases rs' with _ | ⟨r', t'⟩
    · exact (key hr h hno').elim
    · have hr' := hv' r' List.mem_cons_self
      rw [enc_cons, enc_cons] at h
      obtain ⟨h1, h2⟩ := List.append_inj h rfl
      have e := hdl_inj ⟨by omega, by omega⟩ ⟨by omega, by omega⟩ h1
      obtain ⟨h3, h4⟩ := List.append_inj h2 (by omega)
      obtain ⟨e1, e2⟩ := ih h4 hno hno' (fun q hq => hv q (List.mem_cons_of_mem _ hq)) (fun q hq => hv' q (List.mem_cons_of_mem _ hq))
      exact ⟨by rw [h3, e1], e2⟩
set_option maxHeartbeats 1000000 in
set_option maxRecDepth 100000 in
theorem jo_open2 {w : World} {bd bs bn bm n : Nat} {st nw : List Int} {N : Nat} {D : DataW Unit} (B : Nat) (hB : B ≤ w.heap.size) (h : Dk w bd bs bn bm n st nw N D) (hn : n ≤ 65536) (n0 : 8 < n) (hby : ∀ x ∈ nw, 0 ≤ x ∧ x ≤ 255) (hN : N + n < 4294967296) :
    Calls Try.prog 16 #[.pointer (some ⟨bd, 0, none⟩)] w fun e w' => ∃ rs rest bj st' D', e = .returned (.tuple #[.pointer (some ⟨bj, 0, none⟩), .nilIface]) ∧ w.heap.size ≤ bj ∧ nw = enc rs ++ rest ∧ (∀ m, ¬ isRec rest m) ∧ Jn w' B bj bd (fun k => k = bs ∨ k = bn) rs (enc rs).length false ∧ Dk w' bd bs bn bm n st' (enc rs ++ List.replicate rest.length 0) (N + n) D' ∧ Tn (fun k => k = bs ∨ k = bn ∨ k = bm) w w' ∧ (st = nw → D = .map [] → st' = enc rs ++ List.replicate rest.length 0 ∧ D' = .map []) := by
  have HD := Aside0.mk h
  have HBY := Aside0.mk hby
  clear h hby
  go_enter Try.func16, Try.ntmps16
  go_wp2_with fail
  refine (jd_size HD.out).mono ?_
  rintro e w1 ⟨rfl, hb⟩
  have HD1 := Aside0.mk (HD.out.below hb)
  have B1 := Aside0.mk hb
  clear hb
  go_wp2_with fail
  refine (jd_read HD1.out 0 n hn (by omega) (by omega)).mono ?_
  rintro e w2 ⟨ga, capa, rfl, hga, hba, hca, hb⟩
  rw [List.drop_zero, List.take_of_length_le (Nat.le_of_eq HD1.out.ln)] at hba
  have HD2 := Aside0.mk (HD1.out.below hb)
  have B2 := Aside0.mk (below_step B1.out hb)
  have BA := Aside0.mk hba
  have HG := Aside0.mk (And.intro hga B1.out.size)
  clear hb hba hga B1 HD1
  go_wp2_with fail
  have BA3 := Aside0.mk (BA.out.turn (S := fun _ => False) (Tn.of_below (below_alloc (Below.refl _ _) (.cells #[.pointer (some ⟨bd, 0, none⟩), .slice none 0 0, .int .i64 0, .bool false] 72))) id)
  have HD3 := Aside0.mk (HD2.out.below (below_alloc (Below.refl _ _) (.cells #[.pointer (some ⟨bd, 0, none⟩), .slice none 0 0, .int .i64 0, .bool false] 72)))
  have B3 := Aside0.mk (below_alloc B2.out (.cells #[.pointer (some ⟨bd, 0, none⟩), .slice none 0 0, .int .i64 0, .bool false] 72))
  have J3 : Aside0 (Jn (w2.alloc (.cells #[.pointer (some ⟨bd, 0, none⟩), .slice none 0 0, .int .i64 0, .bool false] 72)) w.heap.size w2.heap.size bd (fun k => k = bs ∨ k = bn) [] (enc []).length false) := ⟨⟨B2.out.size, _, blk_new w2 _, Rs.nil _ _ _⟩⟩
  have HJ := Aside0.mk B2.out.size
  generalize w2.alloc (.cells #[.pointer (some ⟨bd, 0, none⟩), .slice none 0 0, .int .i64 0, .bool false] 72) = w3 at BA3 HD3 B3 J3 ⊢
  generalize w2.heap.size = bj at J3 HJ ⊢
  clear BA HD2 B2
  have R3 := jr_at ga 0 capa capa ⟨ga, 0, none⟩ nw w3 BA3.out.src0 (fun _ => rfl) HBY.out rfl (by rw [HD3.out.ln]; exact hca.1) hca.2
  rw [HD3.out.ln] at R3
  refine R3.mono ?_
  rintro e w4 ⟨u, rfl, hu, hb⟩
  have HL : Aside0 (∃ rs rest, nw = enc rs ++ rest ∧ Jn w4 w.heap.size bj bd (fun k => k = bs ∨ k = bn) rs (enc rs).length false ∧ RV ga (enc rs).length capa rest u ∧ Dk w4 bd bs bn bm n st nw N D ∧ Blk w4 ga nw ∧ Below w.heap.size w w4) :=
    ⟨⟨[], nw, rfl, J3.out.below hb, hu, HD3.out.below hb, BA3.out.turn (S := fun _ => False) (Tn.of_below hb) id, below_step B3.out hb⟩⟩
  clear hb hu R3 BA3 HD3 B3 J3
  go_wp2_with fail
  skip
  go_loopw [7] (fun v7 wr => Aside0 (∃ rs rest, nw = enc rs ++ rest ∧ Jn wr w.heap.size bj bd (fun k => k = bs ∨ k = bn) rs (enc rs).length false ∧ RV ga (enc rs).length capa rest v7 ∧ Dk wr bd bs bn bm n st nw N D ∧ Blk wr ga nw ∧ Below w.heap.size w wr)) (fun _ wr => n - (intOf ((wr.cell? ⟨bj, 2, none⟩).getD undef)).toNat)
  case atStart => exact HL
  case round =>
    obtain ⟨rs, rest, hnw, hJ, hR, hD, hA, hBl⟩ := hrel.out
    have hln := hD.ln
    rw [hnw, List.length_append] at hln
    have hel := enc_len rs
    rcases hR with ⟨m, hm, rfl⟩ | ⟨hno, rfl⟩
    · obtain ⟨m1, m2, m3, m4⟩ := hm
      obtain ⟨v, hj, vs, ho, hvs⟩ := hJ.hj
      obtain ⟨i0, hi, hz0, hz1, hz2⟩ := info_parts jo_info
      have HI := Aside0.mk hi
      have HVS := Aside0.mk hvs
      have HJJ := Aside0.mk hj
      have HO := Aside0.mk ho
      have HX := Aside0.mk (And.intro hD (And.intro hA (And.intro hBl m4)))
      have HNW := Aside0.mk hnw
      clear hi hvs hJ hD hA hBl hrel hnw m4 ho
      obtain ⟨q0, q1, q2, q3, f1, f2, f3⟩ := jn_cells hj
      have hjb := blk_lt hj
      have BL := Aside0.mk HX.out.2.2.1.size
      clear hj
      by_cases hx0 : capa = (enc rs).length + (8 + m)
      · have hxx : (capa = (enc rs).length + (8 + m)) = True := eq_true hx0
        have HX0 := Aside0.mk hx0
        clear hx0
        go_wp2_with (at_builtin; refine wpList_append_own_at _ rfl _ _ 44 rfl w.heap.size 22 i0 (.slice none 0 0) 1 24 Try.underlying44 HI.out hz0 hz1 hz2 rfl (by decide) v rs.length vs rfl (HO.out.alloc _) ⟨wr.heap.size, 0, none⟩ 1 1 [.slice (some ⟨ga, (enc rs).length + 8, none⟩) m (capa - (enc rs).length - 8)] rfl rfl (jo_one _ _) (by simp [Value.oneCell']) (by unfold maxLen; omega) (by omega) (by have := BL.out; simp; omega) ?_; intro v' w5 hown5 hgrow5 hnil5 hloc5; obtain ⟨A5, c5, rfl⟩ := own_slice hown5; obtain ⟨p0, p1, p2, p3, e1, e2, e3⟩ := jn_cells (jn_keep HJJ.out HO.out hgrow5); have OO := Aside0.mk hown5; have GG := Aside0.mk hgrow5; clear hown5 hgrow5 hnil5 hloc5)
        generalize hW6 : ((w5.setCell ⟨bj, 1, none⟩ _).setCell ⟨bj, 2, none⟩ _) = W6
        obtain ⟨hj6, t6⟩ := jn_set (jn_keep HJJ.out HO.out GG.out) _ _ W6 hW6.symm
        have hgab : ¬ (ga = bs ∨ ga = bn) := by
          have k1 := HD.out.hs.lt
          have k2 := HD.out.hn.lt
          have k3 := HG.out
          omega
        have hA6 : Blk W6 ga nw := HX.out.2.1.turn (((jn_tn GG.out).mono (fun k _ q => Or.inl q)).trans (t6.mono (S' := fun k => v.ownBlock = some k ∨ k = bj) (fun k _ q => Or.inr q))) (fun q => by
          obtain ⟨r, hr⟩ := HX.out.2.1
          rcases q with q | q
          · obtain ⟨c, hc⟩ := own_typed HO.out q
            rw [hr] at hc
            cases hc
          · have hc := HJJ.out
            rw [← q] at hc
            exact ty_ne hr hc (by decide))
        have hl' : (rest.drop (8 + m)).length = n - ((enc rs).length + (8 + m)) := by rw [List.length_drop]; omega
        have R := jr_at ga ((enc rs).length + (8 + m)) capa (capa - ((enc rs).length + (8 + m))) ⟨ga, 0, none⟩ (rest.drop (8 + m)) W6 (fun j x hx => by rw [List.getElem?_eq_none (by have := HX0.out; omega)] at hx; cases hx) (fun h => by have := HX0.out; omega) (fun x hx => HBY.out x (by rw [HNW.out]; exact List.mem_append_right _ (List.mem_of_mem_drop hx))) rfl (by omega) (by have := hca.2; omega)
        rw [hl'] at R
        refine R.mono ?_
        rintro e w7 ⟨u2, rfl, hu2, hb7⟩
        have ST := jo_step (u := u2) ⟨m1, m2, m3, HX.out.2.2.2⟩ HNW.out HJ.out (by have := HG.out; omega) hgab hca.1 HJJ.out HO.out HVS.out HX.out.1 HX.out.2.1 HX.out.2.2.1 HJ.out OO.out GG.out (Nat.le_refl _) hj6 t6 hu2 hb7
        have c7 : w7.cell? ⟨bj, 2, none⟩ = some (.int .i64 (↑(enc rs).length + (8 + ↑m))) := (blk_cell (hb7.block bj (blk_lt hj6) |>.trans hj6) 2).trans rfl
        clear hW6 hj6 t6 hA6 R hu2 hb7
        go_wp2_with fail
        refine ⟨⟨ST⟩, ?_⟩
        rw [c7, q2]
        simp [intOf]
        omega
      · have hxx : (capa = (enc rs).length + (8 + m)) = False := eq_false hx0
        clear hx0
        go_wp2_with (at_builtin; refine wpList_append_own_at _ rfl _ _ 44 rfl w.heap.size 22 i0 (.slice none 0 0) 1 24 Try.underlying44 HI.out hz0 hz1 hz2 rfl (by decide) v rs.length vs rfl (HO.out.alloc _) ⟨wr.heap.size, 0, none⟩ 1 1 [.slice (some ⟨ga, (enc rs).length + 8, none⟩) m (capa - (enc rs).length - 8)] rfl rfl (jo_one _ _) (by simp [Value.oneCell']) (by unfold maxLen; omega) (by omega) (by have := BL.out; simp; omega) ?_; intro v' w5 hown5 hgrow5 hnil5 hloc5; obtain ⟨A5, c5, rfl⟩ := own_slice hown5; obtain ⟨p0, p1, p2, p3, e1, e2, e3⟩ := jn_cells (jn_keep HJJ.out HO.out hgrow5); have OO := Aside0.mk hown5; have GG := Aside0.mk hgrow5; clear hown5 hgrow5 hnil5 hloc5)
        generalize hW6 : ((w5.setCell ⟨bj, 1, none⟩ _).setCell ⟨bj, 2, none⟩ _) = W6
        obtain ⟨hj6, t6⟩ := jn_set (jn_keep HJJ.out HO.out GG.out) _ _ W6 hW6.symm
        have hgab : ¬ (ga = bs ∨ ga = bn) := by
          have k1 := HD.out.hs.lt
          have k2 := HD.out.hn.lt
          have k3 := HG.out
          omega
        have hA6 : Blk W6 ga nw := HX.out.2.1.turn (((jn_tn GG.out).mono (fun k _ q => Or.inl q)).trans (t6.mono (S' := fun k => v.ownBlock = some k ∨ k = bj) (fun k _ q => Or.inr q))) (fun q => by
          obtain ⟨r, hr⟩ := HX.out.2.1
          rcases q with q | q
          · obtain ⟨c, hc⟩ := own_typed HO.out q
            rw [hr] at hc
            cases hc
          · have hc := HJJ.out
            rw [← q] at hc
            exact ty_ne hr hc (by decide))
        have hl' : (rest.drop (8 + m)).length = n - ((enc rs).length + (8 + m)) := by rw [List.length_drop]; omega
        have R := jr_at ga ((enc rs).length + (8 + m)) capa (capa - ((enc rs).length + (8 + m))) ⟨ga, (enc rs).length + (8 + m), none⟩ (rest.drop (8 + m)) W6 ((hA6.src ((enc rs).length + (8 + m)) (fun j x hx => by rw [HNW.out, Nat.add_assoc, List.getElem?_append_right (by omega), show (enc rs).length + ((8 + m) + j) - (enc rs).length = (8 + m) + j by omega]; rwa [List.getElem?_drop] at hx))) (fun _ => rfl) (fun x hx => HBY.out x (by rw [HNW.out]; exact List.mem_append_right _ (List.mem_of_mem_drop hx))) rfl (by omega) (by have := hca.2; omega)
        rw [hl'] at R
        refine R.mono ?_
        rintro e w7 ⟨u2, rfl, hu2, hb7⟩
        have ST := jo_step (u := u2) ⟨m1, m2, m3, HX.out.2.2.2⟩ HNW.out HJ.out (by have := HG.out; omega) hgab hca.1 HJJ.out HO.out HVS.out HX.out.1 HX.out.2.1 HX.out.2.2.1 HJ.out OO.out GG.out (Nat.le_refl _) hj6 t6 hu2 hb7
        have c7 : w7.cell? ⟨bj, 2, none⟩ = some (.int .i64 (↑(enc rs).length + (8 + ↑m))) := (blk_cell (hb7.block bj (blk_lt hj6) |>.trans hj6) 2).trans rfl
        clear hW6 hj6 t6 hA6 R hu2 hb7
        go_wp2_with fail
        refine ⟨⟨ST⟩, ?_⟩
        rw [c7, q2]
        simp [intOf]
        omega
    · obtain ⟨v, hj, -⟩ := hJ.hj
      obtain ⟨q0, q1, q2, q3, -⟩ := jn_cells hj
      have HJW := Aside0.mk hJ
      clear hj
      by_cases hx0 : capa = (enc rs).length
      · have hxx : (capa = (enc rs).length) = True := eq_true hx0
        have HX0 := Aside0.mk hx0
        clear hx0
        go_wp2_with fail
        have hl' : rest.length = n - (enc rs).length := by omega
        have R := jf_contains ⟨ga, 0, none⟩ (capa - (enc rs).length) rest wr (fun j x hx => by rw [List.getElem?_eq_none (by have := HX0.out; omega)] at hx; cases hx) (by omega)
        rw [hl'] at R
        refine R.mono ?_
        rintro e w5 ⟨rfl, hb5⟩
        have X5 := Aside0.mk hb5
        clear R hb5 hl'
        generalize hz : rest.any (· != 0) = z
        have HZ := Aside0.mk hz
        clear hz
        cases z
        · go_wp2_with fail
          go_ret2
          refine ⟨rs, rest, bj, st, D, rfl, HJ.out, hnw, hno, (hJ.below X5.out).lower hB, ?_, Tn.of_below (below_step hBl X5.out), fun q1 q2 => ⟨by rw [← any_zero HZ.out, ← hnw]; exact q1, q2⟩⟩
          rw [← any_zero HZ.out, ← hnw]
          exact (hD.below X5.out).grow (by omega)
        · have hpos : 0 < rest.length := by
            rcases rest with _ | ⟨x, xs⟩
            · have := HZ.out; cases this
            · exact Nat.succ_pos _
          have kn : (↑n - ↑(enc rs).length : Int) = ↑(n - (enc rs).length) := by omega
          have hmk := fun W => run_make_row' (P := Try.prog) 22 5 (.int .u8 0) 1 Try.underlying22 jd_info rfl .i64 .i64 (n - (enc rs).length) (by omega) (by omega) W
          have hJ5 := hJ.below X5.out
          obtain ⟨v5, hj5, -⟩ := hJ5.hj
          obtain ⟨p0, p1, p2, p3, -⟩ := jn_cells hj5
          have HJ5 := Aside0.mk hJ5
          clear hJ5 hj5
          go_wp2_with fail
          refine start_ (n := 10) (S := fun w' => w'.cell? ⟨bj, 2, none⟩ = some (.int .i64 ↑(enc rs).length)) (ds := []) #[false, false, false, false, false, false, false, false, false, false] (by kernel_rfl) rfl rfl p2 (fun hHeld => ?_)
          have hD5 := (hD.below X5.out).below (below_drew1 (Below.refl _ _))
          have J5 := HJ5.out.below (below_drew1 (Below.refl w5.heap.size w5))
          have B5 := Aside0.mk (below_drew1 (below_step hBl X5.out))
          generalize w5.drew = wd at hHeld hD5 J5 B5 ⊢
          have HD5 := Aside0.mk hD5
          have HJ6 := Aside0.mk J5
          clear hD5 J5 p0 p1 p2 p3 HJ5
          refine pure_ (i := 0) (N := some 65) (v := ?_) (a' := ?_) #[true, false, false, false, false, false, false, false, false, false] rfl rfl (by kernel_rfl) (fun _ _ _ h => h) (Or.inl ⟨by rfl, ?_⟩) ?_ ?_
          rotate_left
          · intro w'
            go_simp
            with_reducible rfl
          rotate_left
          · simp only [Act.put, List.setIfInBounds_toArray, List.set_cons_zero, List.set_cons_succ, i64_w, i32_w]
            rfl
          refine pure_ (i := 1) (N := some 66) (v := ?_) (a' := ?_) #[true, true, false, false, false, false, false, false, false, false] rfl rfl (by kernel_rfl) (fun _ _ _ h => h) (Or.inl ⟨by rfl, ?_⟩) ?_ ?_
          rotate_left
          · intro w'
            go_simp
            with_reducible rfl
          rotate_left
          · simp only [Act.put, List.setIfInBounds_toArray, List.set_cons_zero, List.set_cons_succ, i64_w, i32_w]
            rfl
          refine pure_ (i := 2) (N := some 67) (v := ?_) (a' := ?_) #[true, true, true, false, false, false, false, false, false, false] rfl rfl (by kernel_rfl) (fun _ _ _ h => h) (Or.inl ⟨by rfl, ?_⟩) ?_ ?_
          rotate_left
          · intro w'
            go_simp
            with_reducible rfl
          rotate_left
          · simp only [Act.put, List.setIfInBounds_toArray, List.set_cons_zero, List.set_cons_succ, i64_w, i32_w]
            rfl
          refine pure_ (i := 3) (N := some 68) (v := ?_) (a' := ?_) #[true, true, true, true, false, false, false, false, false, false] rfl rfl (by kernel_rfl) (fun _ _ _ h => h) (Or.inl ⟨by rfl, ?_⟩) ?_ ?_
          rotate_left
          · intro w'
            go_simp
            with_reducible rfl
          rotate_left
          · simp only [Act.put, List.setIfInBounds_toArray, List.set_cons_zero, List.set_cons_succ, i64_w, i32_w]
            rfl
          refine take_ (i := 4) (N := some 69) (v := ?_) (a' := ?_) #[true, true, true, true, true, false, false, false, false, false] rfl rfl (by kernel_rfl) (fun _ _ _ h => h) (Or.inl ⟨by rfl, ?_⟩) hHeld ?_ ?_
          rotate_left
          · rintro w' s0
            go_simp
            with_reducible rfl
          rotate_left
          · simp only [Act.put, List.setIfInBounds_toArray, List.set_cons_zero, List.set_cons_succ, i64_w, i32_w]
            rfl
          refine pure_ (i := 5) (N := some 70) (v := ?_) (a' := ?_) #[true, true, true, true, true, true, false, false, false, false] rfl rfl (by kernel_rfl) (fun _ _ _ h => h) (Or.inl ⟨by rfl, ?_⟩) ?_ ?_
          rotate_left
          · intro w'
            go_simp
            with_reducible rfl
          rotate_left
          · simp only [Act.put, List.setIfInBounds_toArray, List.set_cons_zero, List.set_cons_succ, i64_w, i32_w]
            rfl
          refine pure_ (i := 6) (N := some 71) (v := ?_) (a' := ?_) #[true, true, true, true, true, true, true, false, false, false] rfl rfl (by kernel_rfl) (fun _ _ _ h => h) (Or.inl ⟨by rfl, ?_⟩) ?_ ?_
          rotate_left
          · intro w'
            go_simp
            with_reducible rfl
          rotate_left
          · simp only [Act.put, List.setIfInBounds_toArray, List.set_cons_zero, List.set_cons_succ, i64_w, i32_w]
            rfl
          refine one_ (i := 7) (N := some 72) #[true, true, true, true, true, true, true, true, false, false] rfl rfl (by kernel_rfl) (by decide) (fun K hK => ?_)
          refine value_ (w1 := ?_) (v := ?_) (by rfl) rfl ?_ ?_
          rotate_left 2
          · go_simp
            constructor
            · rfl
            · rfl
          clear hmk
          have HD6 := Aside0.mk (HD5.out.below (below_alloc (Below.refl _ _) (.cells (madeCells #[.int .u8 0] (n - (enc rs).length)) 5)))
          have HJ7 := Aside0.mk (HJ6.out.below (below_alloc (Below.refl _ _) (.cells (madeCells #[.int .u8 0] (n - (enc rs).length)) 5)))
          have B6 := Aside0.mk (below_alloc B5.out (.cells (madeCells #[.int .u8 0] (n - (enc rs).length)) 5))
          have Z6 : Aside0 (Blk (wd.alloc (.cells (madeCells #[.int .u8 0] (n - (enc rs).length)) 5)) wd.heap.size (List.replicate (n - (enc rs).length) 0)) := ⟨⟨[], by rw [bv_made]; exact blk_new wd _⟩⟩
          refine hK.out _ _ (by obtain ⟨v6, h6, -⟩ := HJ7.out.hj; exact (jn_cells h6).2.2.1) (fun hHeld => ?_)
          clear hK K
          generalize wd.alloc (.cells (madeCells #[.int .u8 0] (n - (enc rs).length)) 5) = w6 at HD6 HJ7 B6 Z6 hHeld ⊢
          generalize wd.heap.size = gz at Z6 ⊢
          refine norm_ (a' := ?_) ?_ ?_
          rotate_left
          · show Act.put _ (some 72) _ = _
            simp only [Act.put, List.setIfInBounds_toArray, List.set_cons_zero, List.set_cons_succ, i64_w, i32_w]
            rfl
          refine one_ (i := 8) (N := some 73) #[true, true, true, true, true, true, true, true, true, false] rfl rfl (by kernel_rfl) (by decide) (fun K hK => ?_)
          refine goes_ Try.func14 (by kernel_rfl) rfl #[.pointer (some ⟨bd, 0, none⟩), .int .i64 ↑(enc rs).length, .slice (some ⟨gz, 0, none⟩) (n - (enc rs).length) (n - (enc rs).length)] (by rfl) rfl rfl (by simp only [List.map_toArray, List.map_cons, List.map_nil]; first | done | rfl) ?_
          have W := jd_write HD6.out hn (fun q => by obtain ⟨r, hr⟩ := HD6.out.hn; exact ty_ne (q ▸ HD6.out.hd) hr (by decide)) (enc rs).length ⟨gz, 0, none⟩ (List.replicate (n - (enc rs).length) 0) (n - (enc rs).length) (by rw [List.length_replicate]; omega) Z6.out.src0 (by rw [List.length_replicate]; omega) (by rw [List.length_replicate]; omega)
          rw [List.length_replicate] at W
          refine W.mono ?_
          rintro e w7 ⟨rfl, hD7, t7⟩
          refine ⟨_, rfl, ?_⟩
          have HD7 := Aside0.mk hD7
          have HJ8 := Aside0.mk (jn_disk HJ7.out HD6.out (t7.mono (fun k _ q => Or.inr q)))
          have T7 : Aside0 (Tn (fun k => k = bs ∨ k = bn ∨ k = bm) w w7) := ⟨(Tn.of_below B6.out).trans (t7.mono (fun k _ q => Or.inr q))⟩
          refine hK.out _ _ (by obtain ⟨v6, h6, -⟩ := HJ8.out.hj; exact (jn_cells h6).2.2.1) (fun hHeld => ?_)
          clear hK K W hD7 t7 HJ7 HD6
          refine norm_ (a' := ?_) ?_ ?_
          rotate_left
          · show Act.put _ (some 73) _ = _
            simp only [Act.put, List.setIfInBounds_toArray, List.set_cons_zero, List.set_cons_succ, i64_w, i32_w]
            rfl
          refine pure_ (i := 9) (N := some 9) (v := ?_) (a' := ?_) #[true, true, true, true, true, true, true, true, true, true] rfl rfl (by kernel_rfl) (fun _ _ _ h => h) (Or.inl ⟨by rfl, ?_⟩) ?_ ?_
          rotate_left
          · intro w'
            go_simp
            with_reducible rfl
          rotate_left
          · simp only [Act.put, List.setIfInBounds_toArray, List.set_cons_zero, List.set_cons_succ, i64_w, i32_w]
            rfl
          refine done_ (by kernel_rfl) ?_
          clear hHeld
          go_wp2_with fail
          refine (jd_sync HD7.out hn (by omega) (fun q => by obtain ⟨r, hr⟩ := HD7.out.hs; exact ty_ne (q ▸ HD7.out.hd) hr (by decide))).mono ?_
          rintro e w8 ⟨rfl, hD8, t8⟩
          have HD8 := Aside0.mk hD8
          have HJ9 := Aside0.mk (jn_disk HJ8.out HD7.out (t8.mono (fun k _ q => by rcases q with q | q; exact Or.inl q; exact Or.inr (Or.inr q))))
          have T8 : Aside0 (Tn (fun k => k = bs ∨ k = bn ∨ k = bm) w w8) := ⟨T7.out.trans (t8.mono (fun k _ q => by rcases q with q | q; exact Or.inl q; exact Or.inr (Or.inr q)))⟩
          clear hD8 t8
          go_wp2_with fail
          go_ret2
          have e8 := HD8.out
          rw [hnw, show n - (enc rs).length = rest.length by omega, splice_end _ _ _ (by rw [List.length_replicate])] at e8
          exact ⟨rs, rest, bj, enc rs ++ List.replicate rest.length 0, .map [], rfl, HJ.out, hnw, hno, HJ9.out.lower hB, e8.grow (by omega), T8.out, fun _ _ => ⟨rfl, rfl⟩⟩
      · have hxx : (capa = (enc rs).length) = False := eq_false hx0
        clear hx0
        go_wp2_with fail
        have hl' : rest.length = n - (enc rs).length := by omega
        have R := jf_contains ⟨ga, (enc rs).length, none⟩ (capa - (enc rs).length) rest wr ((hA.src (enc rs).length (fun j x hx => by rw [hnw, List.getElem?_append_right (by omega), show (enc rs).length + j - (enc rs).length = j by omega]; exact hx))) (by omega)
        rw [hl'] at R
        refine R.mono ?_
        rintro e w5 ⟨rfl, hb5⟩
        have X5 := Aside0.mk hb5
        clear R hb5 hl'
        generalize hz : rest.any (· != 0) = z
        have HZ := Aside0.mk hz
        clear hz
        cases z
        · go_wp2_with fail
          go_ret2
          refine ⟨rs, rest, bj, st, D, rfl, HJ.out, hnw, hno, (hJ.below X5.out).lower hB, ?_, Tn.of_below (below_step hBl X5.out), fun q1 q2 => ⟨by rw [← any_zero HZ.out, ← hnw]; exact q1, q2⟩⟩
          rw [← any_zero HZ.out, ← hnw]
          exact (hD.below X5.out).grow (by omega)
        · have hpos : 0 < rest.length := by
            rcases rest with _ | ⟨x, xs⟩
            · have := HZ.out; cases this
            · exact Nat.succ_pos _
          have kn : (↑n - ↑(enc rs).length : Int) = ↑(n - (enc rs).length) := by omega
          have hmk := fun W => run_make_row' (P := Try.prog) 22 5 (.int .u8 0) 1 Try.underlying22 jd_info rfl .i64 .i64 (n - (enc rs).length) (by omega) (by omega) W
          have hJ5 := hJ.below X5.out
          obtain ⟨v5, hj5, -⟩ := hJ5.hj
          obtain ⟨p0, p1, p2, p3, -⟩ := jn_cells hj5
          have HJ5 := Aside0.mk hJ5
          clear hJ5 hj5
          go_wp2_with fail
          refine start_ (n := 10) (S := fun w' => w'.cell? ⟨bj, 2, none⟩ = some (.int .i64 ↑(enc rs).length)) (ds := []) #[false, false, false, false, false, false, false, false, false, false] (by kernel_rfl) rfl rfl p2 (fun hHeld => ?_)
          have hD5 := (hD.below X5.out).below (below_drew1 (Below.refl _ _))
          have J5 := HJ5.out.below (below_drew1 (Below.refl w5.heap.size w5))
          have B5 := Aside0.mk (below_drew1 (below_step hBl X5.out))
          generalize w5.drew = wd at hHeld hD5 J5 B5 ⊢
          have HD5 := Aside0.mk hD5
          have HJ6 := Aside0.mk J5
          clear hD5 J5 p0 p1 p2 p3 HJ5
          refine pure_ (i := 0) (N := some 65) (v := ?_) (a' := ?_) #[true, false, false, false, false, false, false, false, false, false] rfl rfl (by kernel_rfl) (fun _ _ _ h => h) (Or.inl ⟨by rfl, ?_⟩) ?_ ?_
          rotate_left
          · intro w'
            go_simp
            with_reducible rfl
          rotate_left
          · simp only [Act.put, List.setIfInBounds_toArray, List.set_cons_zero, List.set_cons_succ, i64_w, i32_w]
            rfl
          refine pure_ (i := 1) (N := some 66) (v := ?_) (a' := ?_) #[true, true, false, false, false, false, false, false, false, false] rfl rfl (by kernel_rfl) (fun _ _ _ h => h) (Or.inl ⟨by rfl, ?_⟩) ?_ ?_
          rotate_left
          · intro w'
            go_simp
            with_reducible rfl
          rotate_left
          · simp only [Act.put, List.setIfInBounds_toArray, List.set_cons_zero, List.set_cons_succ, i64_w, i32_w]
            rfl
          refine pure_ (i := 2) (N := some 67) (v := ?_) (a' := ?_) #[true, true, true, false, false, false, false, false, false, false] rfl rfl (by kernel_rfl) (fun _ _ _ h => h) (Or.inl ⟨by rfl, ?_⟩) ?_ ?_
          rotate_left
          · intro w'
            go_simp
            with_reducible rfl
          rotate_left
          · simp only [Act.put, List.setIfInBounds_toArray, List.set_cons_zero, List.set_cons_succ, i64_w, i32_w]
            rfl
          refine pure_ (i := 3) (N := some 68) (v := ?_) (a' := ?_) #[true, true, true, true, false, false, false, false, false, false] rfl rfl (by kernel_rfl) (fun _ _ _ h => h) (Or.inl ⟨by rfl, ?_⟩) ?_ ?_
          rotate_left
          · intro w'
            go_simp
            with_reducible rfl
          rotate_left
          · simp only [Act.put, List.setIfInBounds_toArray, List.set_cons_zero, List.set_cons_succ, i64_w, i32_w]
            rfl
          refine take_ (i := 4) (N := some 69) (v := ?_) (a' := ?_) #[true, true, true, true, true, false, false, false, false, false] rfl rfl (by kernel_rfl) (fun _ _ _ h => h) (Or.inl ⟨by rfl, ?_⟩) hHeld ?_ ?_
          rotate_left
          · rintro w' s0
            go_simp
            with_reducible rfl
          rotate_left
          · simp only [Act.put, List.setIfInBounds_toArray, List.set_cons_zero, List.set_cons_succ, i64_w, i32_w]
            rfl
          refine pure_ (i := 5) (N := some 70) (v := ?_) (a' := ?_) #[true, true, true, true, true, true, false, false, false, false] rfl rfl (by kernel_rfl) (fun _ _ _ h => h) (Or.inl ⟨by rfl, ?_⟩) ?_ ?_
          rotate_left
          · intro w'
            go_simp
            with_reducible rfl
          rotate_left
          · simp only [Act.put, List.setIfInBounds_toArray, List.set_cons_zero, List.set_cons_succ, i64_w, i32_w]
            rfl
          refine pure_ (i := 6) (N := some 71) (v := ?_) (a' := ?_) #[true, true, true, true, true, true, true, false, false, false] rfl rfl (by kernel_rfl) (fun _ _ _ h => h) (Or.inl ⟨by rfl, ?_⟩) ?_ ?_
          rotate_left
          · intro w'
            go_simp
            with_reducible rfl
          rotate_left
          · simp only [Act.put, List.setIfInBounds_toArray, List.set_cons_zero, List.set_cons_succ, i64_w, i32_w]
            rfl
          refine one_ (i := 7) (N := some 72) #[true, true, true, true, true, true, true, true, false, false] rfl rfl (by kernel_rfl) (by decide) (fun K hK => ?_)
          refine value_ (w1 := ?_) (v := ?_) (by rfl) rfl ?_ ?_
          rotate_left 2
          · go_simp
            constructor
            · rfl
            · rfl
          clear hmk
          have HD6 := Aside0.mk (HD5.out.below (below_alloc (Below.refl _ _) (.cells (madeCells #[.int .u8 0] (n - (enc rs).length)) 5)))
          have HJ7 := Aside0.mk (HJ6.out.below (below_alloc (Below.refl _ _) (.cells (madeCells #[.int .u8 0] (n - (enc rs).length)) 5)))
          have B6 := Aside0.mk (below_alloc B5.out (.cells (madeCells #[.int .u8 0] (n - (enc rs).length)) 5))
          have Z6 : Aside0 (Blk (wd.alloc (.cells (madeCells #[.int .u8 0] (n - (enc rs).length)) 5)) wd.heap.size (List.replicate (n - (enc rs).length) 0)) := ⟨⟨[], by rw [bv_made]; exact blk_new wd _⟩⟩
          refine hK.out _ _ (by obtain ⟨v6, h6, -⟩ := HJ7.out.hj; exact (jn_cells h6).2.2.1) (fun hHeld => ?_)
          clear hK K
          generalize wd.alloc (.cells (madeCells #[.int .u8 0] (n - (enc rs).length)) 5) = w6 at HD6 HJ7 B6 Z6 hHeld ⊢
          generalize wd.heap.size = gz at Z6 ⊢
          refine norm_ (a' := ?_) ?_ ?_
          rotate_left
          · show Act.put _ (some 72) _ = _
            simp only [Act.put, List.setIfInBounds_toArray, List.set_cons_zero, List.set_cons_succ, i64_w, i32_w]
            rfl
          refine one_ (i := 8) (N := some 73) #[true, true, true, true, true, true, true, true, true, false] rfl rfl (by kernel_rfl) (by decide) (fun K hK => ?_)
          refine goes_ Try.func14 (by kernel_rfl) rfl #[.pointer (some ⟨bd, 0, none⟩), .int .i64 ↑(enc rs).length, .slice (some ⟨gz, 0, none⟩) (n - (enc rs).length) (n - (enc rs).length)] (by rfl) rfl rfl (by simp only [List.map_toArray, List.map_cons, List.map_nil]; first | done | rfl) ?_
          have W := jd_write HD6.out hn (fun q => by obtain ⟨r, hr⟩ := HD6.out.hn; exact ty_ne (q ▸ HD6.out.hd) hr (by decide)) (enc rs).length ⟨gz, 0, none⟩ (List.replicate (n - (enc rs).length) 0) (n - (enc rs).length) (by rw [List.length_replicate]; omega) Z6.out.src0 (by rw [List.length_replicate]; omega) (by rw [List.length_replicate]; omega)
          rw [List.length_replicate] at W
          refine W.mono ?_
          rintro e w7 ⟨rfl, hD7, t7⟩
          refine ⟨_, rfl, ?_⟩
          have HD7 := Aside0.mk hD7
          have HJ8 := Aside0.mk (jn_disk HJ7.out HD6.out (t7.mono (fun k _ q => Or.inr q)))
          have T7 : Aside0 (Tn (fun k => k = bs ∨ k = bn ∨ k = bm) w w7) := ⟨(Tn.of_below B6.out).trans (t7.mono (fun k _ q => Or.inr q))⟩
          refine hK.out _ _ (by obtain ⟨v6, h6, -⟩ := HJ8.out.hj; exact (jn_cells h6).2.2.1) (fun hHeld => ?_)
          clear hK K W hD7 t7 HJ7 HD6
          refine norm_ (a' := ?_) ?_ ?_
          rotate_left
          · show Act.put _ (some 73) _ = _
            simp only [Act.put, List.setIfInBounds_toArray, List.set_cons_zero, List.set_cons_succ, i64_w, i32_w]
            rfl
          refine pure_ (i := 9) (N := some 9) (v := ?_) (a' := ?_) #[true, true, true, true, true, true, true, true, true, true] rfl rfl (by kernel_rfl) (fun _ _ _ h => h) (Or.inl ⟨by rfl, ?_⟩) ?_ ?_
          rotate_left
          · intro w'
            go_simp
            with_reducible rfl
          rotate_left
          · simp only [Act.put, List.setIfInBounds_toArray, List.set_cons_zero, List.set_cons_succ, i64_w, i32_w]
            rfl
          refine done_ (by kernel_rfl) ?_
          clear hHeld
          go_wp2_with fail
          refine (jd_sync HD7.out hn (by omega) (fun q => by obtain ⟨r, hr⟩ := HD7.out.hs; exact ty_ne (q ▸ HD7.out.hd) hr (by decide))).mono ?_
          rintro e w8 ⟨rfl, hD8, t8⟩
          have HD8 := Aside0.mk hD8
          have HJ9 := Aside0.mk (jn_disk HJ8.out HD7.out (t8.mono (fun k _ q => by rcases q with q | q; exact Or.inl q; exact Or.inr (Or.inr q))))
          have T8 : Aside0 (Tn (fun k => k = bs ∨ k = bn ∨ k = bm) w w8) := ⟨T7.out.trans (t8.mono (fun k _ q => by rcases q with q | q; exact Or.inl q; exact Or.inr (Or.inr q)))⟩
          clear hD8 t8
          go_wp2_with fail
          go_ret2
          have e8 := HD8.out
          rw [hnw, show n - (enc rs).length = rest.length by omega, splice_end _ _ _ (by rw [List.length_replicate])] at e8
          exact ⟨rs, rest, bj, enc rs ++ List.replicate rest.length 0, .map [], rfl, HJ.out, hnw, hno, HJ9.out.lower hB, e8.grow (by omega), T8.out, fun _ _ => ⟨rfl, rfl⟩⟩
set_option maxRecDepth 100000 in
theorem jp_may2 {w : World} {bj bd bs bn bm n en : Nat} {v : Value} {st nw : List Int} {N : Nat} {D : DataW Unit} (hJ : Jb w bj bd v en false) (h : Dk w bd bs bn bm n st nw N D) (hn : n ≤ 65536) (he : en ≤ n) (A : Option Addr) (len cap : Nat) (hl : len ≤ 9223372036854775807) : Calls Try.prog 42 #[.pointer (some ⟨bj, 0, none⟩), .slice A len cap] w fun e w' => e = .returned (cer (jmay n en len)) ∧ Below w.heap.size w w' := by
  have FR := Aside0.mk (jp_free hJ h hn he)
  obtain ⟨q0, q1, q2, q3, f1, f2, f3⟩ := jn_cells hJ
  unfold jmay
  by_cases c1 : len < 1
  · have c1b : decide ((↑len : Int) < 1) = true := decide_eq_true (by omega)
    rw [if_pos (Or.inl c1)]
    go_enter Try.func42, Try.ntmps42
    go_wp2_with fail
    go_ret
    exact ⟨rfl, Below.refl _ _⟩
  have c1b : decide ((↑len : Int) < 1) = false := decide_eq_false (by omega)
  by_cases c2 : 1024 < len
  · have c2b : decide ((1024 : Int) < ↑len) = true := decide_eq_true (by omega)
    rw [if_pos (Or.inr c2)]
    go_enter Try.func42, Try.ntmps42
    go_wp2_with fail
    go_ret
    exact ⟨rfl, Below.refl _ _⟩
  have c2b : decide ((1024 : Int) < ↑len) = false := decide_eq_false (by omega)
  rw [if_neg (by omega)]
  generalize jfree n en = f at FR ⊢
  obtain ⟨r, hr⟩ : ∃ r, cer (if f < ↑len then some 8 else none) = r := ⟨_, rfl⟩
  rw [hr]
  have HR := Aside0.mk hr
  clear hr
  go_enter Try.func42, Try.ntmps42
  go_wp2_with fail
  refine FR.out.mono ?_
  rintro e w2 ⟨rfl, hb⟩
  have HB := Aside0.mk hb
  clear hb
  by_cases c3 : f < ↑len
  · have C3 := Aside0.mk c3
    go_wp2_with fail
    go_ret
    exact ⟨congrArg Ending.returned (by rw [← HR.out, if_pos C3.out]; rfl), HB.out⟩
  · have C3 := Aside0.mk c3
    go_wp2_with fail
    go_ret
    exact ⟨congrArg Ending.returned (by rw [← HR.out, if_neg (by have := C3.out; omega)]; rfl), HB.out⟩
set_option maxRecDepth 100000 in
theorem ja_fail2 {w : World} {bj bd bs bn bm n en : Nat} {v : Value} {st nw : List Int} {N : Nat} {D : DataW Unit} (hJ : Jb w bj bd v en false) (h : Dk w bd bs bn bm n st nw N D) (hn : n ≤ 65536) (he : en ≤ n) (A : Option Addr) (len cap : Nat) (hl : len ≤ 9223372036854775807) (c : Int) (hc : jmay n en len = some c) : Calls Try.prog 24 #[.pointer (some ⟨bj, 0, none⟩), .slice A len cap] w fun e w' => e = .returned (.iface 55 (.int .i64 c)) ∧ Below w.heap.size w w' := by
  have MY := Aside0.mk (jp_may2 hJ h hn he A len cap hl)
  rw [hc] at MY
  go_enter Try.func24, Try.ntmps24
  go_wp2_with fail
  refine MY.out.mono ?_
  rintro e w2 ⟨rfl, hb⟩
  have HB := Aside0.mk hb
  clear hb
  unfold cer
  go_wp2_with fail
  go_ret
  exact ⟨rfl, HB.out⟩
set_option maxHeartbeats 1000000 in
set_option maxRecDepth 100000 in
theorem jp_stages1 {w : World} {bj bd bs bn bm n en : Nat} {v : Value} {st nw : List Int} {N : Nat} {D : DataW Unit} {sp : Bool} (hJ : Jb w bj bd v en sp) (h : Dk w bd bs bn bm n st nw N D) (hn : n ≤ 65536) (ad : Addr) (l : List Int) (cap : Nat) (hs : Src w ad l) (hb : ad.block ≠ bs ∧ ad.block ≠ bn ∧ ad.block ≠ bm) (h1 : 1 ≤ l.length) (h2 : l.length ≤ 1024) (h3 : en + 8 + l.length ≤ n) (hN : N + l.length + 8 < 4294967296) :
    Calls Try.prog 43 #[.pointer (some ⟨bj, 0, none⟩), .slice (some ad) l.length cap, .int .i64 1] w fun e w' => e = .returned .nilIface ∧ Dk w' bd bs bn bm n st (splice nw (en + 8) l) (N + l.length) (dirt D (en + 8) l.length) ∧ Tn (fun k => k = bs ∨ k = bn ∨ k = bm) w w' := by
  have HD := Aside0.mk h
  have HJ := Aside0.mk hJ
  have HS := Aside0.mk hs
  have HB := Aside0.mk hb
  obtain ⟨q0, q1, q2, q3, f1, f2, f3⟩ := jn_cells hJ
  clear h hJ hs hb
  go_enter Try.func43, Try.ntmps43
  go_wp2_with fail
  refine start_ (n := 12) (S := (fun w' => w'.cell? ⟨bj, 0, none⟩ = some (.pointer (some ⟨bd, 0, none⟩)) ∧ w'.cell? ⟨bj, 2, none⟩ = some (.int .i64 ↑en))) (ds := []) #[false, false, false, false, false, false, false, false, false, false, false, false] (by kernel_rfl) rfl rfl ⟨q0, q2⟩ (fun hHeld => ?_)
  have HD1 := Aside0.mk (HD.out.below (below_drew1 (Below.refl _ _)))
  have HJ1 := Aside0.mk (HJ.out.below (below_drew1 (Below.refl w.heap.size w)))
  have HS1 := Aside0.mk (HS.out.below (below_drew1 (Below.refl w.heap.size w)))
  have B1 := Aside0.mk (below_drew1 (Below.refl w.heap.size w))
  generalize w.drew = w1 at hHeld HD1 HJ1 HS1 B1 ⊢
  clear q0 q1 q2 q3 f1 f2 f3
  refine pure_ (i := 0) (N := some 9) (v := ?_) (a' := ?_) #[true, false, false, false, false, false, false, false, false, false, false, false] rfl rfl (by kernel_rfl) (fun _ _ _ h => h) (Or.inl ⟨by rfl, ?_⟩) ?_ ?_
  rotate_left
  · intro w'
    go_simp
    with_reducible rfl
  rotate_left
  · simp only [Act.put, List.setIfInBounds_toArray, List.set_cons_zero, List.set_cons_succ, i64_w, i32_w]
    rfl
  refine pure_ (i := 1) (N := some 10) (v := ?_) (a' := ?_) #[true, true, false, false, false, false, false, false, false, false, false, false] rfl rfl (by kernel_rfl) (fun _ _ _ h => h) (Or.inl ⟨by rfl, ?_⟩) ?_ ?_
  rotate_left
  · intro w'
    go_simp
    with_reducible rfl
  rotate_left
  · simp only [Act.put, List.setIfInBounds_toArray, List.set_cons_zero, List.set_cons_succ, i64_w, i32_w]
    rfl
  refine pure_ (i := 2) (N := some 11) (v := ?_) (a' := ?_) #[true, true, true, false, false, false, false, false, false, false, false, false] rfl rfl (by kernel_rfl) (fun _ _ _ h => h) (Or.inl ⟨by rfl, ?_⟩) ?_ ?_
  rotate_left
  · intro w'
    go_simp
    with_reducible rfl
  rotate_left
  · simp only [Act.put, List.setIfInBounds_toArray, List.set_cons_zero, List.set_cons_succ, i64_w, i32_w]
    rfl
  refine take_ (i := 3) (N := some 12) (v := ?_) (a' := ?_) #[true, true, true, true, false, false, false, false, false, false, false, false] rfl rfl (by kernel_rfl) (fun _ _ _ h => h) (Or.inl ⟨by rfl, ?_⟩) hHeld ?_ ?_
  rotate_left
  · rintro w' ⟨s0, s1⟩
    go_simp
    with_reducible rfl
  rotate_left
  · simp only [Act.put, List.setIfInBounds_toArray, List.set_cons_zero, List.set_cons_succ, i64_w, i32_w]
    rfl
  refine pure_ (i := 4) (N := some 13) (v := ?_) (a' := ?_) #[true, true, true, true, true, false, false, false, false, false, false, false] rfl rfl (by kernel_rfl) (fun _ _ _ h => h) (Or.inl ⟨by rfl, ?_⟩) ?_ ?_
  rotate_left
  · intro w'
    go_simp
    with_reducible rfl
  rotate_left
  · simp only [Act.put, List.setIfInBounds_toArray, List.set_cons_zero, List.set_cons_succ, i64_w, i32_w]
    rfl
  refine pure_ (i := 5) (N := some 14) (v := ?_) (a' := ?_) #[true, true, true, true, true, true, false, false, false, false, false, false] rfl rfl (by kernel_rfl) (fun _ _ _ h => h) (Or.inl ⟨by rfl, ?_⟩) ?_ ?_
  rotate_left
  · intro w'
    go_simp
    with_reducible rfl
  rotate_left
  · simp only [Act.put, List.setIfInBounds_toArray, List.set_cons_zero, List.set_cons_succ, i64_w, i32_w]
    rfl
  refine pure_ (i := 6) (N := some 15) (v := ?_) (a' := ?_) #[true, true, true, true, true, true, true, false, false, false, false, false] rfl rfl (by kernel_rfl) (fun _ _ _ h => h) (Or.inl ⟨by rfl, ?_⟩) ?_ ?_
  rotate_left
  · intro w'
    go_simp
    with_reducible rfl
  rotate_left
  · simp only [Act.put, List.setIfInBounds_toArray, List.set_cons_zero, List.set_cons_succ, i64_w, i32_w]
    rfl
  refine take_ (i := 7) (N := some 16) (v := ?_) (a' := ?_) #[true, true, true, true, true, true, true, true, false, false, false, false] rfl rfl (by kernel_rfl) (fun _ _ _ h => h) (Or.inl ⟨by rfl, ?_⟩) hHeld ?_ ?_
  rotate_left
  · rintro w' ⟨s0, s1⟩
    go_simp
    with_reducible rfl
  rotate_left
  · simp only [Act.put, List.setIfInBounds_toArray, List.set_cons_zero, List.set_cons_succ, i64_w, i32_w]
    rfl
  refine pure_ (i := 8) (N := some 17) (v := ?_) (a' := ?_) #[true, true, true, true, true, true, true, true, true, false, false, false] rfl rfl (by kernel_rfl) (fun _ _ _ h => h) (Or.inl ⟨by rfl, ?_⟩) ?_ ?_
  rotate_left
  · intro w'
    go_simp
    with_reducible rfl
  rotate_left
  · simp only [Act.put, List.setIfInBounds_toArray, List.set_cons_zero, List.set_cons_succ, i64_w, i32_w]
    rfl
  rw [show wrap64 (↑en + 8) = ↑en + 8 by unfold wrap64; omega]
  refine pure_ (i := 9) (N := some 18) (v := ?_) (a' := ?_) #[true, true, true, true, true, true, true, true, true, true, false, false] rfl rfl (by kernel_rfl) (fun _ _ _ h => h) (Or.inl ⟨by rfl, ?_⟩) ?_ ?_
  rotate_left
  · intro w'
    go_simp
    with_reducible rfl
  rotate_left
  · simp only [Act.put, List.setIfInBounds_toArray, List.set_cons_zero, List.set_cons_succ, i64_w, i32_w]
    rfl
  refine one_ (i := 10) (N := some 19) #[true, true, true, true, true, true, true, true, true, true, true, false] rfl rfl (by kernel_rfl) (by decide) (fun K hK => ?_)
  refine goes_ Try.func14 (by kernel_rfl) rfl #[.pointer (some ⟨bd, 0, none⟩), .int .i64 (↑en + 8), .slice (some ad) l.length cap] (by rfl) rfl rfl (by simp only [List.map_toArray, List.map_cons, List.map_nil]; first | done | rfl) ?_
  have e8 : ((en + 8 : Nat) : Int) = ↑en + 8 := by omega
  have W := jd_write HD1.out hn HD1.out.nes.2 (en + 8) ad l cap h1 HS1.out (by omega) (by omega)
  rw [e8] at W
  refine W.mono ?_
  rintro e w2 ⟨rfl, hD2, t2⟩
  refine ⟨_, rfl, ?_⟩
  have HD2 := Aside0.mk hD2
  have T2' := t2.mono (S' := fun k => k = bs ∨ k = bn ∨ k = bm) (fun k _ q => Or.inr q)
  have HJ2 := Aside0.mk (HJ1.out.disk HD1.out T2')
  have T2 : Aside0 (Tn (fun k => k = bs ∨ k = bn ∨ k = bm) w w2) := ⟨(Tn.of_below B1.out).trans T2'⟩
  refine hK.out _ _ HJ2.out.cs (fun hHeld => ?_)
  clear hK K W hD2 t2 T2' e8
  refine norm_ (a' := ?_) ?_ ?_
  rotate_left
  · show Act.put _ (some 19) _ = _
    simp only [Act.put, List.setIfInBounds_toArray, List.set_cons_zero, List.set_cons_succ, i64_w, i32_w]
    rfl
  refine pure_ (i := 11) (N := some 7) (v := ?_) (a' := ?_) #[true, true, true, true, true, true, true, true, true, true, true, true] rfl rfl (by kernel_rfl) (fun _ _ _ h => h) (Or.inl ⟨by rfl, ?_⟩) ?_ ?_
  rotate_left
  · intro w'
    go_simp
    with_reducible rfl
  rotate_left
  · simp only [Act.put, List.setIfInBounds_toArray, List.set_cons_zero, List.set_cons_succ, i64_w, i32_w]
    rfl
  refine done_ (by kernel_rfl) ?_
  clear hHeld
  obtain ⟨q0, q2⟩ := HJ2.out.cs
  go_wp2_with fail
  go_ret
  exact ⟨rfl, HD2.out, T2.out⟩
set_option maxHeartbeats 1000000 in
set_option maxRecDepth 100000 in
theorem jp_stages2 {w : World} {bj bd bs bn bm n en : Nat} {v : Value} {st nw : List Int} {N : Nat} {D : DataW Unit} {sp : Bool} (hJ : Jb w bj bd v en sp) (h : Dk w bd bs bn bm n st nw N D) (hn : n ≤ 65536) (ad : Addr) (l : List Int) (cap : Nat) (hs : Src w ad l) (hb : ad.block ≠ bs ∧ ad.block ≠ bn ∧ ad.block ≠ bm) (h1 : 1 ≤ l.length) (h2 : l.length ≤ 1024) (h3 : en + 8 + l.length ≤ n) (hN : N + l.length + 8 < 4294967296) :
    Calls Try.prog 43 #[.pointer (some ⟨bj, 0, none⟩), .slice (some ad) l.length cap, .int .i64 2] w fun e w' => e = .returned .nilIface ∧ Dk w' bd bs bn bm n (splice nw (en + 8) l) (splice nw (en + 8) l) (N + l.length) (.map []) ∧ Tn (fun k => k = bs ∨ k = bn ∨ k = bm) w w' := by
  have HD := Aside0.mk h
  have HJ := Aside0.mk hJ
  have HS := Aside0.mk hs
  have HB := Aside0.mk hb
  obtain ⟨q0, q1, q2, q3, f1, f2, f3⟩ := jn_cells hJ
  clear h hJ hs hb
  go_enter Try.func43, Try.ntmps43
  go_wp2_with fail
  refine start_ (n := 12) (S := (fun w' => w'.cell? ⟨bj, 0, none⟩ = some (.pointer (some ⟨bd, 0, none⟩)) ∧ w'.cell? ⟨bj, 2, none⟩ = some (.int .i64 ↑en))) (ds := []) #[false, false, false, false, false, false, false, false, false, false, false, false] (by kernel_rfl) rfl rfl ⟨q0, q2⟩ (fun hHeld => ?_)
  have HD1 := Aside0.mk (HD.out.below (below_drew1 (Below.refl _ _)))
  have HJ1 := Aside0.mk (HJ.out.below (below_drew1 (Below.refl w.heap.size w)))
  have HS1 := Aside0.mk (HS.out.below (below_drew1 (Below.refl w.heap.size w)))
  have B1 := Aside0.mk (below_drew1 (Below.refl w.heap.size w))
  generalize w.drew = w1 at hHeld HD1 HJ1 HS1 B1 ⊢
  clear q0 q1 q2 q3 f1 f2 f3
  refine pure_ (i := 0) (N := some 9) (v := ?_) (a' := ?_) #[true, false, false, false, false, false, false, false, false, false, false, false] rfl rfl (by kernel_rfl) (fun _ _ _ h => h) (Or.inl ⟨by rfl, ?_⟩) ?_ ?_
  rotate_left
  · intro w'
    go_simp
    with_reducible rfl
  rotate_left
  · simp only [Act.put, List.setIfInBounds_toArray, List.set_cons_zero, List.set_cons_succ, i64_w, i32_w]
    rfl
  refine pure_ (i := 1) (N := some 10) (v := ?_) (a' := ?_) #[true, true, false, false, false, false, false, false, false, false, false, false] rfl rfl (by kernel_rfl) (fun _ _ _ h => h) (Or.inl ⟨by rfl, ?_⟩) ?_ ?_
  rotate_left
  · intro w'
    go_simp
    with_reducible rfl
  rotate_left
  · simp only [Act.put, List.setIfInBounds_toArray, List.set_cons_zero, List.set_cons_succ, i64_w, i32_w]
    rfl
  refine pure_ (i := 2) (N := some 11) (v := ?_) (a' := ?_) #[true, true, true, false, false, false, false, false, false, false, false, false] rfl rfl (by kernel_rfl) (fun _ _ _ h => h) (Or.inl ⟨by rfl, ?_⟩) ?_ ?_
  rotate_left
  · intro w'
    go_simp
    with_reducible rfl
  rotate_left
  · simp only [Act.put, List.setIfInBounds_toArray, List.set_cons_zero, List.set_cons_succ, i64_w, i32_w]
    rfl
  refine take_ (i := 3) (N := some 12) (v := ?_) (a' := ?_) #[true, true, true, true, false, false, false, false, false, false, false, false] rfl rfl (by kernel_rfl) (fun _ _ _ h => h) (Or.inl ⟨by rfl, ?_⟩) hHeld ?_ ?_
  rotate_left
  · rintro w' ⟨s0, s1⟩
    go_simp
    with_reducible rfl
  rotate_left
  · simp only [Act.put, List.setIfInBounds_toArray, List.set_cons_zero, List.set_cons_succ, i64_w, i32_w]
    rfl
  refine pure_ (i := 4) (N := some 13) (v := ?_) (a' := ?_) #[true, true, true, true, true, false, false, false, false, false, false, false] rfl rfl (by kernel_rfl) (fun _ _ _ h => h) (Or.inl ⟨by rfl, ?_⟩) ?_ ?_
  rotate_left
  · intro w'
    go_simp
    with_reducible rfl
  rotate_left
  · simp only [Act.put, List.setIfInBounds_toArray, List.set_cons_zero, List.set_cons_succ, i64_w, i32_w]
    rfl
  refine pure_ (i := 5) (N := some 14) (v := ?_) (a' := ?_) #[true, true, true, true, true, true, false, false, false, false, false, false] rfl rfl (by kernel_rfl) (fun _ _ _ h => h) (Or.inl ⟨by rfl, ?_⟩) ?_ ?_
  rotate_left
  · intro w'
    go_simp
    with_reducible rfl
  rotate_left
  · simp only [Act.put, List.setIfInBounds_toArray, List.set_cons_zero, List.set_cons_succ, i64_w, i32_w]
    rfl
  refine pure_ (i := 6) (N := some 15) (v := ?_) (a' := ?_) #[true, true, true, true, true, true, true, false, false, false, false, false] rfl rfl (by kernel_rfl) (fun _ _ _ h => h) (Or.inl ⟨by rfl, ?_⟩) ?_ ?_
  rotate_left
  · intro w'
    go_simp
    with_reducible rfl
  rotate_left
  · simp only [Act.put, List.setIfInBounds_toArray, List.set_cons_zero, List.set_cons_succ, i64_w, i32_w]
    rfl
  refine take_ (i := 7) (N := some 16) (v := ?_) (a' := ?_) #[true, true, true, true, true, true, true, true, false, false, false, false] rfl rfl (by kernel_rfl) (fun _ _ _ h => h) (Or.inl ⟨by rfl, ?_⟩) hHeld ?_ ?_
  rotate_left
  · rintro w' ⟨s0, s1⟩
    go_simp
    with_reducible rfl
  rotate_left
  · simp only [Act.put, List.setIfInBounds_toArray, List.set_cons_zero, List.set_cons_succ, i64_w, i32_w]
    rfl
  refine pure_ (i := 8) (N := some 17) (v := ?_) (a' := ?_) #[true, true, true, true, true, true, true, true, true, false, false, false] rfl rfl (by kernel_rfl) (fun _ _ _ h => h) (Or.inl ⟨by rfl, ?_⟩) ?_ ?_
  rotate_left
  · intro w'
    go_simp
    with_reducible rfl
  rotate_left
  · simp only [Act.put, List.setIfInBounds_toArray, List.set_cons_zero, List.set_cons_succ, i64_w, i32_w]
    rfl
  rw [show wrap64 (↑en + 8) = ↑en + 8 by unfold wrap64; omega]
  refine pure_ (i := 9) (N := some 18) (v := ?_) (a' := ?_) #[true, true, true, true, true, true, true, true, true, true, false, false] rfl rfl (by kernel_rfl) (fun _ _ _ h => h) (Or.inl ⟨by rfl, ?_⟩) ?_ ?_
  rotate_left
  · intro w'
    go_simp
    with_reducible rfl
  rotate_left
  · simp only [Act.put, List.setIfInBounds_toArray, List.set_cons_zero, List.set_cons_succ, i64_w, i32_w]
    rfl
  refine one_ (i := 10) (N := some 19) #[true, true, true, true, true, true, true, true, true, true, true, false] rfl rfl (by kernel_rfl) (by decide) (fun K hK => ?_)
  refine goes_ Try.func14 (by kernel_rfl) rfl #[.pointer (some ⟨bd, 0, none⟩), .int .i64 (↑en + 8), .slice (some ad) l.length cap] (by rfl) rfl rfl (by simp only [List.map_toArray, List.map_cons, List.map_nil]; first | done | rfl) ?_
  have e8 : ((en + 8 : Nat) : Int) = ↑en + 8 := by omega
  have W := jd_write HD1.out hn HD1.out.nes.2 (en + 8) ad l cap h1 HS1.out (by omega) (by omega)
  rw [e8] at W
  refine W.mono ?_
  rintro e w2 ⟨rfl, hD2, t2⟩
  refine ⟨_, rfl, ?_⟩
  have HD2 := Aside0.mk hD2
  have T2' := t2.mono (S' := fun k => k = bs ∨ k = bn ∨ k = bm) (fun k _ q => Or.inr q)
  have HJ2 := Aside0.mk (HJ1.out.disk HD1.out T2')
  have T2 : Aside0 (Tn (fun k => k = bs ∨ k = bn ∨ k = bm) w w2) := ⟨(Tn.of_below B1.out).trans T2'⟩
  refine hK.out _ _ HJ2.out.cs (fun hHeld => ?_)
  clear hK K W hD2 t2 T2' e8
  refine norm_ (a' := ?_) ?_ ?_
  rotate_left
  · show Act.put _ (some 19) _ = _
    simp only [Act.put, List.setIfInBounds_toArray, List.set_cons_zero, List.set_cons_succ, i64_w, i32_w]
    rfl
  refine pure_ (i := 11) (N := some 7) (v := ?_) (a' := ?_) #[true, true, true, true, true, true, true, true, true, true, true, true] rfl rfl (by kernel_rfl) (fun _ _ _ h => h) (Or.inl ⟨by rfl, ?_⟩) ?_ ?_
  rotate_left
  · intro w'
    go_simp
    with_reducible rfl
  rotate_left
  · simp only [Act.put, List.setIfInBounds_toArray, List.set_cons_zero, List.set_cons_succ, i64_w, i32_w]
    rfl
  refine done_ (by kernel_rfl) ?_
  clear hHeld
  obtain ⟨q0, q2⟩ := HJ2.out.cs
  go_wp2_with fail
  refine (jd_sync HD2.out hn (by omega) HD2.out.nes.1).mono ?_
  rintro e w3 ⟨rfl, hD3, t3⟩
  have HD3 := Aside0.mk hD3
  have T3' := t3.mono (S' := fun k => k = bs ∨ k = bn ∨ k = bm) (fun k _ q => by rcases q with q | q; exact Or.inl q; exact Or.inr (Or.inr q))
  have HJ3 := Aside0.mk (HJ2.out.disk HD2.out T3')
  have T3 := Aside0.mk (T2.out.trans T3')
  clear hD3 t3 T3' q0 q2
  obtain ⟨q0, q2⟩ := HJ3.out.cs
  go_wp2_with fail
  go_ret
  exact ⟨rfl, HD3.out, T3.out⟩
set_option maxHeartbeats 1000000 in
set_option maxRecDepth 100000 in
theorem jp_stages3 {w : World} {bj bd bs bn bm n en : Nat} {v : Value} {st nw : List Int} {N : Nat} {D : DataW Unit} {sp : Bool} (hJ : Jb w bj bd v en sp) (h : Dk w bd bs bn bm n st nw N D) (hn : n ≤ 65536) (ad : Addr) (l : List Int) (cap : Nat) (hs : Src w ad l) (hb : ad.block ≠ bs ∧ ad.block ≠ bn ∧ ad.block ≠ bm) (h1 : 1 ≤ l.length) (h2 : l.length ≤ 1024) (h3 : en + 8 + l.length ≤ n) (hN : N + l.length + 8 < 4294967296) :
    Calls Try.prog 43 #[.pointer (some ⟨bj, 0, none⟩), .slice (some ad) l.length cap, .int .i64 3] w fun e w' => e = .returned .nilIface ∧ Dk w' bd bs bn bm n (splice nw (en + 8) l) (splice (splice nw (en + 8) l) en (hdl ↑l.length)) (N + l.length + 8) (dirt (.map []) en 8) ∧ Tn (fun k => k = bs ∨ k = bn ∨ k = bm) w w' := by
  have HD := Aside0.mk h
  have HJ := Aside0.mk hJ
  have HS := Aside0.mk hs
  have HB := Aside0.mk hb
  obtain ⟨q0, q1, q2, q3, f1, f2, f3⟩ := jn_cells hJ
  clear h hJ hs hb
  go_enter Try.func43, Try.ntmps43
  go_wp2_with fail
  refine start_ (n := 12) (S := (fun w' => w'.cell? ⟨bj, 0, none⟩ = some (.pointer (some ⟨bd, 0, none⟩)) ∧ w'.cell? ⟨bj, 2, none⟩ = some (.int .i64 ↑en))) (ds := []) #[false, false, false, false, false, false, false, false, false, false, false, false] (by kernel_rfl) rfl rfl ⟨q0, q2⟩ (fun hHeld => ?_)
  have HD1 := Aside0.mk (HD.out.below (below_drew1 (Below.refl _ _)))
  have HJ1 := Aside0.mk (HJ.out.below (below_drew1 (Below.refl w.heap.size w)))
  have HS1 := Aside0.mk (HS.out.below (below_drew1 (Below.refl w.heap.size w)))
  have B1 := Aside0.mk (below_drew1 (Below.refl w.heap.size w))
  generalize w.drew = w1 at hHeld HD1 HJ1 HS1 B1 ⊢
  clear q0 q1 q2 q3 f1 f2 f3
  refine pure_ (i := 0) (N := some 9) (v := ?_) (a' := ?_) #[true, false, false, false, false, false, false, false, false, false, false, false] rfl rfl (by kernel_rfl) (fun _ _ _ h => h) (Or.inl ⟨by rfl, ?_⟩) ?_ ?_
  rotate_left
  · intro w'
    go_simp
    with_reducible rfl
  rotate_left
  · simp only [Act.put, List.setIfInBounds_toArray, List.set_cons_zero, List.set_cons_succ, i64_w, i32_w]
    rfl
  refine pure_ (i := 1) (N := some 10) (v := ?_) (a' := ?_) #[true, true, false, false, false, false, false, false, false, false, false, false] rfl rfl (by kernel_rfl) (fun _ _ _ h => h) (Or.inl ⟨by rfl, ?_⟩) ?_ ?_
  rotate_left
  · intro w'
    go_simp
    with_reducible rfl
  rotate_left
  · simp only [Act.put, List.setIfInBounds_toArray, List.set_cons_zero, List.set_cons_succ, i64_w, i32_w]
    rfl
  refine pure_ (i := 2) (N := some 11) (v := ?_) (a' := ?_) #[true, true, true, false, false, false, false, false, false, false, false, false] rfl rfl (by kernel_rfl) (fun _ _ _ h => h) (Or.inl ⟨by rfl, ?_⟩) ?_ ?_
  rotate_left
  · intro w'
    go_simp
    with_reducible rfl
  rotate_left
  · simp only [Act.put, List.setIfInBounds_toArray, List.set_cons_zero, List.set_cons_succ, i64_w, i32_w]
    rfl
  refine take_ (i := 3) (N := some 12) (v := ?_) (a' := ?_) #[true, true, true, true, false, false, false, false, false, false, false, false] rfl rfl (by kernel_rfl) (fun _ _ _ h => h) (Or.inl ⟨by rfl, ?_⟩) hHeld ?_ ?_
  rotate_left
  · rintro w' ⟨s0, s1⟩
    go_simp
    with_reducible rfl
  rotate_left
  · simp only [Act.put, List.setIfInBounds_toArray, List.set_cons_zero, List.set_cons_succ, i64_w, i32_w]
    rfl
  refine pure_ (i := 4) (N := some 13) (v := ?_) (a' := ?_) #[true, true, true, true, true, false, false, false, false, false, false, false] rfl rfl (by kernel_rfl) (fun _ _ _ h => h) (Or.inl ⟨by rfl, ?_⟩) ?_ ?_
  rotate_left
  · intro w'
    go_simp
    with_reducible rfl
  rotate_left
  · simp only [Act.put, List.setIfInBounds_toArray, List.set_cons_zero, List.set_cons_succ, i64_w, i32_w]
    rfl
  refine pure_ (i := 5) (N := some 14) (v := ?_) (a' := ?_) #[true, true, true, true, true, true, false, false, false, false, false, false] rfl rfl (by kernel_rfl) (fun _ _ _ h => h) (Or.inl ⟨by rfl, ?_⟩) ?_ ?_
  rotate_left
  · intro w'
    go_simp
    with_reducible rfl
  rotate_left
  · simp only [Act.put, List.setIfInBounds_toArray, List.set_cons_zero, List.set_cons_succ, i64_w, i32_w]
    rfl
  refine pure_ (i := 6) (N := some 15) (v := ?_) (a' := ?_) #[true, true, true, true, true, true, true, false, false, false, false, false] rfl rfl (by kernel_rfl) (fun _ _ _ h => h) (Or.inl ⟨by rfl, ?_⟩) ?_ ?_
  rotate_left
  · intro w'
    go_simp
    with_reducible rfl
  rotate_left
  · simp only [Act.put, List.setIfInBounds_toArray, List.set_cons_zero, List.set_cons_succ, i64_w, i32_w]
    rfl
  refine take_ (i := 7) (N := some 16) (v := ?_) (a' := ?_) #[true, true, true, true, true, true, true, true, false, false, false, false] rfl rfl (by kernel_rfl) (fun _ _ _ h => h) (Or.inl ⟨by rfl, ?_⟩) hHeld ?_ ?_
  rotate_left
  · rintro w' ⟨s0, s1⟩
    go_simp
    with_reducible rfl
  rotate_left
  · simp only [Act.put, List.setIfInBounds_toArray, List.set_cons_zero, List.set_cons_succ, i64_w, i32_w]
    rfl
  refine pure_ (i := 8) (N := some 17) (v := ?_) (a' := ?_) #[true, true, true, true, true, true, true, true, true, false, false, false] rfl rfl (by kernel_rfl) (fun _ _ _ h => h) (Or.inl ⟨by rfl, ?_⟩) ?_ ?_
  rotate_left
  · intro w'
    go_simp
    with_reducible rfl
  rotate_left
  · simp only [Act.put, List.setIfInBounds_toArray, List.set_cons_zero, List.set_cons_succ, i64_w, i32_w]
    rfl
  rw [show wrap64 (↑en + 8) = ↑en + 8 by unfold wrap64; omega]
  refine pure_ (i := 9) (N := some 18) (v := ?_) (a' := ?_) #[true, true, true, true, true, true, true, true, true, true, false, false] rfl rfl (by kernel_rfl) (fun _ _ _ h => h) (Or.inl ⟨by rfl, ?_⟩) ?_ ?_
  rotate_left
  · intro w'
    go_simp
    with_reducible rfl
  rotate_left
  · simp only [Act.put, List.setIfInBounds_toArray, List.set_cons_zero, List.set_cons_succ, i64_w, i32_w]
    rfl
  refine one_ (i := 10) (N := some 19) #[true, true, true, true, true, true, true, true, true, true, true, false] rfl rfl (by kernel_rfl) (by decide) (fun K hK => ?_)
  refine goes_ Try.func14 (by kernel_rfl) rfl #[.pointer (some ⟨bd, 0, none⟩), .int .i64 (↑en + 8), .slice (some ad) l.length cap] (by rfl) rfl rfl (by simp only [List.map_toArray, List.map_cons, List.map_nil]; first | done | rfl) ?_
  have e8 : ((en + 8 : Nat) : Int) = ↑en + 8 := by omega
  have W := jd_write HD1.out hn HD1.out.nes.2 (en + 8) ad l cap h1 HS1.out (by omega) (by omega)
  rw [e8] at W
  refine W.mono ?_
  rintro e w2 ⟨rfl, hD2, t2⟩
  refine ⟨_, rfl, ?_⟩
  have HD2 := Aside0.mk hD2
  have T2' := t2.mono (S' := fun k => k = bs ∨ k = bn ∨ k = bm) (fun k _ q => Or.inr q)
  have HJ2 := Aside0.mk (HJ1.out.disk HD1.out T2')
  have T2 : Aside0 (Tn (fun k => k = bs ∨ k = bn ∨ k = bm) w w2) := ⟨(Tn.of_below B1.out).trans T2'⟩
  refine hK.out _ _ HJ2.out.cs (fun hHeld => ?_)
  clear hK K W hD2 t2 T2' e8
  refine norm_ (a' := ?_) ?_ ?_
  rotate_left
  · show Act.put _ (some 19) _ = _
    simp only [Act.put, List.setIfInBounds_toArray, List.set_cons_zero, List.set_cons_succ, i64_w, i32_w]
    rfl
  refine pure_ (i := 11) (N := some 7) (v := ?_) (a' := ?_) #[true, true, true, true, true, true, true, true, true, true, true, true] rfl rfl (by kernel_rfl) (fun _ _ _ h => h) (Or.inl ⟨by rfl, ?_⟩) ?_ ?_
  rotate_left
  · intro w'
    go_simp
    with_reducible rfl
  rotate_left
  · simp only [Act.put, List.setIfInBounds_toArray, List.set_cons_zero, List.set_cons_succ, i64_w, i32_w]
    rfl
  refine done_ (by kernel_rfl) ?_
  clear hHeld
  obtain ⟨q0, q2⟩ := HJ2.out.cs
  go_wp2_with fail
  refine (jd_sync HD2.out hn (by omega) HD2.out.nes.1).mono ?_
  rintro e w3 ⟨rfl, hD3, t3⟩
  have HD3 := Aside0.mk hD3
  have T3' := t3.mono (S' := fun k => k = bs ∨ k = bn ∨ k = bm) (fun k _ q => by rcases q with q | q; exact Or.inl q; exact Or.inr (Or.inr q))
  have HJ3 := Aside0.mk (HJ2.out.disk HD2.out T3')
  have T3 := Aside0.mk (T2.out.trans T3')
  clear hD3 t3 T3' q0 q2
  obtain ⟨q0, q2⟩ := HJ3.out.cs
  go_wp2_with fail
  refine start_ (n := 13) (S := (fun w' => w'.cell? ⟨bj, 0, none⟩ = some (.pointer (some ⟨bd, 0, none⟩)) ∧ w'.cell? ⟨bj, 2, none⟩ = some (.int .i64 ↑en))) (ds := []) #[false, false, false, false, false, false, false, false, false, false, false, false, false] (by kernel_rfl) rfl rfl ⟨q0, q2⟩ (fun hHeld => ?_)
  have HD4 := Aside0.mk (HD3.out.below (below_drew1 (Below.refl _ _)))
  have HJ4 := Aside0.mk (HJ3.out.below (below_drew1 (Below.refl w3.heap.size w3)))
  have B4 := Aside0.mk (below_drew1 (Below.refl w3.heap.size w3))
  generalize w3.drew = w4 at hHeld HD4 HJ4 B4 ⊢
  clear q0 q2
  refine pure_ (i := 0) (N := some 32) (v := ?_) (a' := ?_) #[true, false, false, false, false, false, false, false, false, false, false, false, false] rfl rfl (by kernel_rfl) (fun _ _ _ h => h) (Or.inl ⟨by rfl, ?_⟩) ?_ ?_
  rotate_left
  · intro w'
    go_simp
    with_reducible rfl
  rotate_left
  · simp only [Act.put, List.setIfInBounds_toArray, List.set_cons_zero, List.set_cons_succ, i64_w, i32_w]
    rfl
  refine pure_ (i := 1) (N := some 33) (v := ?_) (a' := ?_) #[true, true, false, false, false, false, false, false, false, false, false, false, false] rfl rfl (by kernel_rfl) (fun _ _ _ h => h) (Or.inl ⟨by rfl, ?_⟩) ?_ ?_
  rotate_left
  · intro w'
    go_simp
    with_reducible rfl
  rotate_left
  · simp only [Act.put, List.setIfInBounds_toArray, List.set_cons_zero, List.set_cons_succ, i64_w, i32_w]
    rfl
  refine pure_ (i := 2) (N := some 34) (v := ?_) (a' := ?_) #[true, true, true, false, false, false, false, false, false, false, false, false, false] rfl rfl (by kernel_rfl) (fun _ _ _ h => h) (Or.inl ⟨by rfl, ?_⟩) ?_ ?_
  rotate_left
  · intro w'
    go_simp
    with_reducible rfl
  rotate_left
  · simp only [Act.put, List.setIfInBounds_toArray, List.set_cons_zero, List.set_cons_succ, i64_w, i32_w]
    rfl
  refine take_ (i := 3) (N := some 35) (v := ?_) (a' := ?_) #[true, true, true, true, false, false, false, false, false, false, false, false, false] rfl rfl (by kernel_rfl) (fun _ _ _ h => h) (Or.inl ⟨by rfl, ?_⟩) hHeld ?_ ?_
  rotate_left
  · rintro w' ⟨s0, s1⟩
    go_simp
    with_reducible rfl
  rotate_left
  · simp only [Act.put, List.setIfInBounds_toArray, List.set_cons_zero, List.set_cons_succ, i64_w, i32_w]
    rfl
  refine pure_ (i := 4) (N := some 36) (v := ?_) (a' := ?_) #[true, true, true, true, true, false, false, false, false, false, false, false, false] rfl rfl (by kernel_rfl) (fun _ _ _ h => h) (Or.inl ⟨by rfl, ?_⟩) ?_ ?_
  rotate_left
  · intro w'
    go_simp
    with_reducible rfl
  rotate_left
  · simp only [Act.put, List.setIfInBounds_toArray, List.set_cons_zero, List.set_cons_succ, i64_w, i32_w]
    rfl
  refine pure_ (i := 5) (N := some 37) (v := ?_) (a' := ?_) #[true, true, true, true, true, true, false, false, false, false, false, false, false] rfl rfl (by kernel_rfl) (fun _ _ _ h => h) (Or.inl ⟨by rfl, ?_⟩) ?_ ?_
  rotate_left
  · intro w'
    go_simp
    with_reducible rfl
  rotate_left
  · simp only [Act.put, List.setIfInBounds_toArray, List.set_cons_zero, List.set_cons_succ, i64_w, i32_w]
    rfl
  refine pure_ (i := 6) (N := some 38) (v := ?_) (a' := ?_) #[true, true, true, true, true, true, true, false, false, false, false, false, false] rfl rfl (by kernel_rfl) (fun _ _ _ h => h) (Or.inl ⟨by rfl, ?_⟩) ?_ ?_
  rotate_left
  · intro w'
    go_simp
    with_reducible rfl
  rotate_left
  · simp only [Act.put, List.setIfInBounds_toArray, List.set_cons_zero, List.set_cons_succ, i64_w, i32_w]
    rfl
  refine take_ (i := 7) (N := some 39) (v := ?_) (a' := ?_) #[true, true, true, true, true, true, true, true, false, false, false, false, false] rfl rfl (by kernel_rfl) (fun _ _ _ h => h) (Or.inl ⟨by rfl, ?_⟩) hHeld ?_ ?_
  rotate_left
  · rintro w' ⟨s0, s1⟩
    go_simp
    with_reducible rfl
  rotate_left
  · simp only [Act.put, List.setIfInBounds_toArray, List.set_cons_zero, List.set_cons_succ, i64_w, i32_w]
    rfl
  refine pure_ (i := 8) (N := some 40) (v := ?_) (a' := ?_) #[true, true, true, true, true, true, true, true, true, false, false, false, false] rfl rfl (by kernel_rfl) (fun _ _ _ h => h) (Or.inl ⟨by rfl, ?_⟩) ?_ ?_
  rotate_left
  · intro w'
    go_simp
    with_reducible rfl
  rotate_left
  · simp only [Act.put, List.setIfInBounds_toArray, List.set_cons_zero, List.set_cons_succ, i64_w, i32_w]
    rfl
  refine pure_ (i := 9) (N := some 41) (v := ?_) (a' := ?_) #[true, true, true, true, true, true, true, true, true, true, false, false, false] rfl rfl (by kernel_rfl) (fun _ _ _ h => h) (Or.inl ⟨by rfl, ?_⟩) ?_ ?_
  rotate_left
  · intro w'
    go_simp
    with_reducible rfl
  rotate_left
  · simp only [Act.put, List.setIfInBounds_toArray, List.set_cons_zero, List.set_cons_succ, i64_w, i32_w]
    rfl
  refine one_ (i := 10) (N := some 42) #[true, true, true, true, true, true, true, true, true, true, true, false, false] rfl rfl (by kernel_rfl) (by decide) (fun K hK => ?_)
  refine goes_ Try.func49 (by kernel_rfl) rfl #[.int .i64 ↑l.length] (by rfl) rfl rfl (by simp only [List.map_toArray, List.map_cons, List.map_nil]; first | done | rfl) ?_
  refine (jh_head ↑l.length _ (by omega) (by omega)).mono ?_
  rintro e w5 ⟨gh, gc, rfl, hgh, hbh, hgc, hb5⟩
  refine ⟨_, rfl, ?_⟩
  have BH := Aside0.mk hbh
  have HD5 := Aside0.mk (HD4.out.below hb5)
  have HJ5 := Aside0.mk (HJ4.out.below hb5)
  have B5 := Aside0.mk (below_step B4.out hb5)
  refine hK.out _ _ HJ5.out.cs (fun hHeld => ?_)
  clear hK K hbh hb5 hgh
  refine norm_ (a' := ?_) ?_ ?_
  rotate_left
  · show Act.put _ (some 42) _ = _
    simp only [Act.put, List.setIfInBounds_toArray, List.set_cons_zero, List.set_cons_succ, i64_w, i32_w]
    rfl
  refine one_ (i := 11) (N := some 43) #[true, true, true, true, true, true, true, true, true, true, true, true, false] rfl rfl (by kernel_rfl) (by decide) (fun K hK => ?_)
  refine goes_ Try.func14 (by kernel_rfl) rfl #[.pointer (some ⟨bd, 0, none⟩), .int .i64 ↑en, .slice (some ⟨gh, 0, none⟩) 8 gc] (by rfl) rfl rfl (by simp only [List.map_toArray, List.map_cons, List.map_nil]; first | done | rfl) ?_
  have W := jd_write HD5.out hn HD5.out.nes.2 en ⟨gh, 0, none⟩ (hdl ↑l.length) gc (by show 0 < 8; decide) BH.out.src0 (by show en + 8 ≤ n; omega) (by show N + l.length + 8 < 4294967296; omega)
  rw [show (hdl ↑l.length).length = 8 from rfl] at W
  refine W.mono ?_
  rintro e w6 ⟨rfl, hD6, t6⟩
  refine ⟨_, rfl, ?_⟩
  have HD6 := Aside0.mk hD6
  have T6' := t6.mono (S' := fun k => k = bs ∨ k = bn ∨ k = bm) (fun k _ q => Or.inr q)
  have HJ6 := Aside0.mk (HJ5.out.disk HD5.out T6')
  have T6 : Aside0 (Tn (fun k => k = bs ∨ k = bn ∨ k = bm) w w6) := ⟨T3.out.trans ((Tn.of_below B5.out).trans T6')⟩
  refine hK.out _ _ HJ6.out.cs (fun hHeld => ?_)
  clear hK K W hD6 t6 T6'
  refine norm_ (a' := ?_) ?_ ?_
  rotate_left
  · show Act.put _ (some 43) _ = _
    simp only [Act.put, List.setIfInBounds_toArray, List.set_cons_zero, List.set_cons_succ, i64_w, i32_w]
    rfl
  refine pure_ (i := 12) (N := some 8) (v := ?_) (a' := ?_) #[true, true, true, true, true, true, true, true, true, true, true, true, true] rfl rfl (by kernel_rfl) (fun _ _ _ h => h) (Or.inl ⟨by rfl, ?_⟩) ?_ ?_
  rotate_left
  · intro w'
    go_simp
    with_reducible rfl
  rotate_left
  · simp only [Act.put, List.setIfInBounds_toArray, List.set_cons_zero, List.set_cons_succ, i64_w, i32_w]
    rfl
  refine done_ (by kernel_rfl) ?_
  clear hHeld
  obtain ⟨q0, q2⟩ := HJ6.out.cs
  go_wp2_with fail
  go_ret
  exact ⟨rfl, HD6.out, T6.out⟩
set_option maxHeartbeats 1000000 in
set_option maxRecDepth 100000 in
theorem jp_stages4 {w : World} {bj bd bs bn bm n en : Nat} {v : Value} {st nw : List Int} {N : Nat} {D : DataW Unit} {sp : Bool} (hJ : Jb w bj bd v en sp) (h : Dk w bd bs bn bm n st nw N D) (hn : n ≤ 65536) (ad : Addr) (l : List Int) (cap : Nat) (hs : Src w ad l) (hb : ad.block ≠ bs ∧ ad.block ≠ bn ∧ ad.block ≠ bm) (h1 : 1 ≤ l.length) (h2 : l.length ≤ 1024) (h3 : en + 8 + l.length ≤ n) (hN : N + l.length + 8 < 4294967296) :
    Calls Try.prog 43 #[.pointer (some ⟨bj, 0, none⟩), .slice (some ad) l.length cap, .int .i64 4] w fun e w' => e = .returned .nilIface ∧ Dk w' bd bs bn bm n (splice (splice nw (en + 8) l) en (hdl ↑l.length)) (splice (splice nw (en + 8) l) en (hdl ↑l.length)) (N + l.length + 8) (.map []) ∧ Tn (fun k => k = bs ∨ k = bn ∨ k = bm) w w' := by
  have HD := Aside0.mk h
  have HJ := Aside0.mk hJ
  have HS := Aside0.mk hs
  have HB := Aside0.mk hb
  obtain ⟨q0, q1, q2, q3, f1, f2, f3⟩ := jn_cells hJ
  clear h hJ hs hb
  go_enter Try.func43, Try.ntmps43
  go_wp2_with fail
  refine start_ (n := 12) (S := (fun w' => w'.cell? ⟨bj, 0, none⟩ = some (.pointer (some ⟨bd, 0, none⟩)) ∧ w'.cell? ⟨bj, 2, none⟩ = some (.int .i64 ↑en))) (ds := []) #[false, false, false, false, false, false, false, false, false, false, false, false] (by kernel_rfl) rfl rfl ⟨q0, q2⟩ (fun hHeld => ?_)
  have HD1 := Aside0.mk (HD.out.below (below_drew1 (Below.refl _ _)))
  have HJ1 := Aside0.mk (HJ.out.below (below_drew1 (Below.refl w.heap.size w)))
  have HS1 := Aside0.mk (HS.out.below (below_drew1 (Below.refl w.heap.size w)))
  have B1 := Aside0.mk (below_drew1 (Below.refl w.heap.size w))
  generalize w.drew = w1 at hHeld HD1 HJ1 HS1 B1 ⊢
  clear q0 q1 q2 q3 f1 f2 f3
  refine pure_ (i := 0) (N := some 9) (v := ?_) (a' := ?_) #[true, false, false, false, false, false, false, false, false, false, false, false] rfl rfl (by kernel_rfl) (fun _ _ _ h => h) (Or.inl ⟨by rfl, ?_⟩) ?_ ?_
  rotate_left
  · intro w'
    go_simp
    with_reducible rfl
  rotate_left
  · simp only [Act.put, List.setIfInBounds_toArray, List.set_cons_zero, List.set_cons_succ, i64_w, i32_w]
    rfl
  refine pure_ (i := 1) (N := some 10) (v := ?_) (a' := ?_) #[true, true, false, false, false, false, false, false, false, false, false, false] rfl rfl (by kernel_rfl) (fun _ _ _ h => h) (Or.inl ⟨by rfl, ?_⟩) ?_ ?_
  rotate_left
  · intro w'
    go_simp
    with_reducible rfl
  rotate_left
  · simp only [Act.put, List.setIfInBounds_toArray, List.set_cons_zero, List.set_cons_succ, i64_w, i32_w]
    rfl
  refine pure_ (i := 2) (N := some 11) (v := ?_) (a' := ?_) #[true, true, true, false, false, false, false, false, false, false, false, false] rfl rfl (by kernel_rfl) (fun _ _ _ h => h) (Or.inl ⟨by rfl, ?_⟩) ?_ ?_
  rotate_left
  · intro w'
    go_simp
    with_reducible rfl
  rotate_left
  · simp only [Act.put, List.setIfInBounds_toArray, List.set_cons_zero, List.set_cons_succ, i64_w, i32_w]
    rfl
  refine take_ (i := 3) (N := some 12) (v := ?_) (a' := ?_) #[true, true, true, true, false, false, false, false, false, false, false, false] rfl rfl (by kernel_rfl) (fun _ _ _ h => h) (Or.inl ⟨by rfl, ?_⟩) hHeld ?_ ?_
  rotate_left
  · rintro w' ⟨s0, s1⟩
    go_simp
    with_reducible rfl
  rotate_left
  · simp only [Act.put, List.setIfInBounds_toArray, List.set_cons_zero, List.set_cons_succ, i64_w, i32_w]
    rfl
  refine pure_ (i := 4) (N := some 13) (v := ?_) (a' := ?_) #[true, true, true, true, true, false, false, false, false, false, false, false] rfl rfl (by kernel_rfl) (fun _ _ _ h => h) (Or.inl ⟨by rfl, ?_⟩) ?_ ?_
  rotate_left
  · intro w'
    go_simp
    with_reducible rfl
  rotate_left
  · simp only [Act.put, List.setIfInBounds_toArray, List.set_cons_zero, List.set_cons_succ, i64_w, i32_w]
    rfl
  refine pure_ (i := 5) (N := some 14) (v := ?_) (a' := ?_) #[true, true, true, true, true, true, false, false, false, false, false, false] rfl rfl (by kernel_rfl) (fun _ _ _ h => h) (Or.inl ⟨by rfl, ?_⟩) ?_ ?_
  rotate_left
  · intro w'
    go_simp
    with_reducible rfl
  rotate_left
  · simp only [Act.put, List.setIfInBounds_toArray, List.set_cons_zero, List.set_cons_succ, i64_w, i32_w]
    rfl
  refine pure_ (i := 6) (N := some 15) (v := ?_) (a' := ?_) #[true, true, true, true, true, true, true, false, false, false, false, false] rfl rfl (by kernel_rfl) (fun _ _ _ h => h) (Or.inl ⟨by rfl, ?_⟩) ?_ ?_
  rotate_left
  · intro w'
    go_simp
    with_reducible rfl
  rotate_left
  · simp only [Act.put, List.setIfInBounds_toArray, List.set_cons_zero, List.set_cons_succ, i64_w, i32_w]
    rfl
  refine take_ (i := 7) (N := some 16) (v := ?_) (a' := ?_) #[true, true, true, true, true, true, true, true, false, false, false, false] rfl rfl (by kernel_rfl) (fun _ _ _ h => h) (Or.inl ⟨by rfl, ?_⟩) hHeld ?_ ?_
  rotate_left
  · rintro w' ⟨s0, s1⟩
    go_simp
    with_reducible rfl
  rotate_left
  · simp only [Act.put, List.setIfInBounds_toArray, List.set_cons_zero, List.set_cons_succ, i64_w, i32_w]
    rfl
  refine pure_ (i := 8) (N := some 17) (v := ?_) (a' := ?_) #[true, true, true, true, true, true, true, true, true, false, false, false] rfl rfl (by kernel_rfl) (fun _ _ _ h => h) (Or.inl ⟨by rfl, ?_⟩) ?_ ?_
  rotate_left
  · intro w'
    go_simp
    with_reducible rfl
  rotate_left
  · simp only [Act.put, List.setIfInBounds_toArray, List.set_cons_zero, List.set_cons_succ, i64_w, i32_w]
    rfl
  rw [show wrap64 (↑en + 8) = ↑en + 8 by unfold wrap64; omega]
  refine pure_ (i := 9) (N := some 18) (v := ?_) (a' := ?_) #[true, true, true, true, true, true, true, true, true, true, false, false] rfl rfl (by kernel_rfl) (fun _ _ _ h => h) (Or.inl ⟨by rfl, ?_⟩) ?_ ?_
  rotate_left
  · intro w'
    go_simp
    with_reducible rfl
  rotate_left
  · simp only [Act.put, List.setIfInBounds_toArray, List.set_cons_zero, List.set_cons_succ, i64_w, i32_w]
    rfl
  refine one_ (i := 10) (N := some 19) #[true, true, true, true, true, true, true, true, true, true, true, false] rfl rfl (by kernel_rfl) (by decide) (fun K hK => ?_)
  refine goes_ Try.func14 (by kernel_rfl) rfl #[.pointer (some ⟨bd, 0, none⟩), .int .i64 (↑en + 8), .slice (some ad) l.length cap] (by rfl) rfl rfl (by simp only [List.map_toArray, List.map_cons, List.map_nil]; first | done | rfl) ?_
  have e8 : ((en + 8 : Nat) : Int) = ↑en + 8 := by omega
  have W := jd_write HD1.out hn HD1.out.nes.2 (en + 8) ad l cap h1 HS1.out (by omega) (by omega)
  rw [e8] at W
  refine W.mono ?_
  rintro e w2 ⟨rfl, hD2, t2⟩
  refine ⟨_, rfl, ?_⟩
  have HD2 := Aside0.mk hD2
  have T2' := t2.mono (S' := fun k => k = bs ∨ k = bn ∨ k = bm) (fun k _ q => Or.inr q)
  have HJ2 := Aside0.mk (HJ1.out.disk HD1.out T2')
  have T2 : Aside0 (Tn (fun k => k = bs ∨ k = bn ∨ k = bm) w w2) := ⟨(Tn.of_below B1.out).trans T2'⟩
  refine hK.out _ _ HJ2.out.cs (fun hHeld => ?_)
  clear hK K W hD2 t2 T2' e8
  refine norm_ (a' := ?_) ?_ ?_
  rotate_left
  · show Act.put _ (some 19) _ = _
    simp only [Act.put, List.setIfInBounds_toArray, List.set_cons_zero, List.set_cons_succ, i64_w, i32_w]
    rfl
  refine pure_ (i := 11) (N := some 7) (v := ?_) (a' := ?_) #[true, true, true, true, true, true, true, true, true, true, true, true] rfl rfl (by kernel_rfl) (fun _ _ _ h => h) (Or.inl ⟨by rfl, ?_⟩) ?_ ?_
  rotate_left
  · intro w'
    go_simp
    with_reducible rfl
  rotate_left
  · simp only [Act.put, List.setIfInBounds_toArray, List.set_cons_zero, List.set_cons_succ, i64_w, i32_w]
    rfl
  refine done_ (by kernel_rfl) ?_
  clear hHeld
  obtain ⟨q0, q2⟩ := HJ2.out.cs
  go_wp2_with fail
  refine (jd_sync HD2.out hn (by omega) HD2.out.nes.1).mono ?_
  rintro e w3 ⟨rfl, hD3, t3⟩
  have HD3 := Aside0.mk hD3
  have T3' := t3.mono (S' := fun k => k = bs ∨ k = bn ∨ k = bm) (fun k _ q => by rcases q with q | q; exact Or.inl q; exact Or.inr (Or.inr q))
  have HJ3 := Aside0.mk (HJ2.out.disk HD2.out T3')
  have T3 := Aside0.mk (T2.out.trans T3')
  clear hD3 t3 T3' q0 q2
  obtain ⟨q0, q2⟩ := HJ3.out.cs
  go_wp2_with fail
  refine start_ (n := 13) (S := (fun w' => w'.cell? ⟨bj, 0, none⟩ = some (.pointer (some ⟨bd, 0, none⟩)) ∧ w'.cell? ⟨bj, 2, none⟩ = some (.int .i64 ↑en))) (ds := []) #[false, false, false, false, false, false, false, false, false, false, false, false, false] (by kernel_rfl) rfl rfl ⟨q0, q2⟩ (fun hHeld => ?_)
  have HD4 := Aside0.mk (HD3.out.below (below_drew1 (Below.refl _ _)))
  have HJ4 := Aside0.mk (HJ3.out.below (below_drew1 (Below.refl w3.heap.size w3)))
  have B4 := Aside0.mk (below_drew1 (Below.refl w3.heap.size w3))
  generalize w3.drew = w4 at hHeld HD4 HJ4 B4 ⊢
  clear q0 q2
  refine pure_ (i := 0) (N := some 32) (v := ?_) (a' := ?_) #[true, false, false, false, false, false, false, false, false, false, false, false, false] rfl rfl (by kernel_rfl) (fun _ _ _ h => h) (Or.inl ⟨by rfl, ?_⟩) ?_ ?_
  rotate_left
  · intro w'
    go_simp
    with_reducible rfl
  rotate_left
  · simp only [Act.put, List.setIfInBounds_toArray, List.set_cons_zero, List.set_cons_succ, i64_w, i32_w]
    rfl
  refine pure_ (i := 1) (N := some 33) (v := ?_) (a' := ?_) #[true, true, false, false, false, false, false, false, false, false, false, false, false] rfl rfl (by kernel_rfl) (fun _ _ _ h => h) (Or.inl ⟨by rfl, ?_⟩) ?_ ?_
  rotate_left
  · intro w'
    go_simp
    with_reducible rfl
  rotate_left
  · simp only [Act.put, List.setIfInBounds_toArray, List.set_cons_zero, List.set_cons_succ, i64_w, i32_w]
    rfl
  refine pure_ (i := 2) (N := some 34) (v := ?_) (a' := ?_) #[true, true, true, false, false, false, false, false, false, false, false, false, false] rfl rfl (by kernel_rfl) (fun _ _ _ h => h) (Or.inl ⟨by rfl, ?_⟩) ?_ ?_
  rotate_left
  · intro w'
    go_simp
    with_reducible rfl
  rotate_left
  · simp only [Act.put, List.setIfInBounds_toArray, List.set_cons_zero, List.set_cons_succ, i64_w, i32_w]
    rfl
  refine take_ (i := 3) (N := some 35) (v := ?_) (a' := ?_) #[true, true, true, true, false, false, false, false, false, false, false, false, false] rfl rfl (by kernel_rfl) (fun _ _ _ h => h) (Or.inl ⟨by rfl, ?_⟩) hHeld ?_ ?_
  rotate_left
  · rintro w' ⟨s0, s1⟩
    go_simp
    with_reducible rfl
  rotate_left
  · simp only [Act.put, List.setIfInBounds_toArray, List.set_cons_zero, List.set_cons_succ, i64_w, i32_w]
    rfl
  refine pure_ (i := 4) (N := some 36) (v := ?_) (a' := ?_) #[true, true, true, true, true, false, false, false, false, false, false, false, false] rfl rfl (by kernel_rfl) (fun _ _ _ h => h) (Or.inl ⟨by rfl, ?_⟩) ?_ ?_
  rotate_left
  · intro w'
    go_simp
    with_reducible rfl
  rotate_left
  · simp only [Act.put, List.setIfInBounds_toArray, List.set_cons_zero, List.set_cons_succ, i64_w, i32_w]
    rfl
  refine pure_ (i := 5) (N := some 37) (v := ?_) (a' := ?_) #[true, true, true, true, true, true, false, false, false, false, false, false, false] rfl rfl (by kernel_rfl) (fun _ _ _ h => h) (Or.inl ⟨by rfl, ?_⟩) ?_ ?_
  rotate_left
  · intro w'
    go_simp
    with_reducible rfl
  rotate_left
  · simp only [Act.put, List.setIfInBounds_toArray, List.set_cons_zero, List.set_cons_succ, i64_w, i32_w]
    rfl
  refine pure_ (i := 6) (N := some 38) (v := ?_) (a' := ?_) #[true, true, true, true, true, true, true, false, false, false, false, false, false] rfl rfl (by kernel_rfl) (fun _ _ _ h => h) (Or.inl ⟨by rfl, ?_⟩) ?_ ?_
  rotate_left
  · intro w'
    go_simp
    with_reducible rfl
  rotate_left
  · simp only [Act.put, List.setIfInBounds_toArray, List.set_cons_zero, List.set_cons_succ, i64_w, i32_w]
    rfl
  refine take_ (i := 7) (N := some 39) (v := ?_) (a' := ?_) #[true, true, true, true, true, true, true, true, false, false, false, false, false] rfl rfl (by kernel_rfl) (fun _ _ _ h => h) (Or.inl ⟨by rfl, ?_⟩) hHeld ?_ ?_
  rotate_left
  · rintro w' ⟨s0, s1⟩
    go_simp
    with_reducible rfl
  rotate_left
  · simp only [Act.put, List.setIfInBounds_toArray, List.set_cons_zero, List.set_cons_succ, i64_w, i32_w]
    rfl
  refine pure_ (i := 8) (N := some 40) (v := ?_) (a' := ?_) #[true, true, true, true, true, true, true, true, true, false, false, false, false] rfl rfl (by kernel_rfl) (fun _ _ _ h => h) (Or.inl ⟨by rfl, ?_⟩) ?_ ?_
  rotate_left
  · intro w'
    go_simp
    with_reducible rfl
  rotate_left
  · simp only [Act.put, List.setIfInBounds_toArray, List.set_cons_zero, List.set_cons_succ, i64_w, i32_w]
    rfl
  refine pure_ (i := 9) (N := some 41) (v := ?_) (a' := ?_) #[true, true, true, true, true, true, true, true, true, true, false, false, false] rfl rfl (by kernel_rfl) (fun _ _ _ h => h) (Or.inl ⟨by rfl, ?_⟩) ?_ ?_
  rotate_left
  · intro w'
    go_simp
    with_reducible rfl
  rotate_left
  · simp only [Act.put, List.setIfInBounds_toArray, List.set_cons_zero, List.set_cons_succ, i64_w, i32_w]
    rfl
  refine one_ (i := 10) (N := some 42) #[true, true, true, true, true, true, true, true, true, true, true, false, false] rfl rfl (by kernel_rfl) (by decide) (fun K hK => ?_)
  refine goes_ Try.func49 (by kernel_rfl) rfl #[.int .i64 ↑l.length] (by rfl) rfl rfl (by simp only [List.map_toArray, List.map_cons, List.map_nil]; first | done | rfl) ?_
  refine (jh_head ↑l.length _ (by omega) (by omega)).mono ?_
  rintro e w5 ⟨gh, gc, rfl, hgh, hbh, hgc, hb5⟩
  refine ⟨_, rfl, ?_⟩
  have BH := Aside0.mk hbh
  have HD5 := Aside0.mk (HD4.out.below hb5)
  have HJ5 := Aside0.mk (HJ4.out.below hb5)
  have B5 := Aside0.mk (below_step B4.out hb5)
  refine hK.out _ _ HJ5.out.cs (fun hHeld => ?_)
  clear hK K hbh hb5 hgh
  refine norm_ (a' := ?_) ?_ ?_
  rotate_left
  · show Act.put _ (some 42) _ = _
    simp only [Act.put, List.setIfInBounds_toArray, List.set_cons_zero, List.set_cons_succ, i64_w, i32_w]
    rfl
  refine one_ (i := 11) (N := some 43) #[true, true, true, true, true, true, true, true, true, true, true, true, false] rfl rfl (by kernel_rfl) (by decide) (fun K hK => ?_)
  refine goes_ Try.func14 (by kernel_rfl) rfl #[.pointer (some ⟨bd, 0, none⟩), .int .i64 ↑en, .slice (some ⟨gh, 0, none⟩) 8 gc] (by rfl) rfl rfl (by simp only [List.map_toArray, List.map_cons, List.map_nil]; first | done | rfl) ?_
  have W := jd_write HD5.out hn HD5.out.nes.2 en ⟨gh, 0, none⟩ (hdl ↑l.length) gc (by show 0 < 8; decide) BH.out.src0 (by show en + 8 ≤ n; omega) (by show N + l.length + 8 < 4294967296; omega)
  rw [show (hdl ↑l.length).length = 8 from rfl] at W
  refine W.mono ?_
  rintro e w6 ⟨rfl, hD6, t6⟩
  refine ⟨_, rfl, ?_⟩
  have HD6 := Aside0.mk hD6
  have T6' := t6.mono (S' := fun k => k = bs ∨ k = bn ∨ k = bm) (fun k _ q => Or.inr q)
  have HJ6 := Aside0.mk (HJ5.out.disk HD5.out T6')
  have T6 : Aside0 (Tn (fun k => k = bs ∨ k = bn ∨ k = bm) w w6) := ⟨T3.out.trans ((Tn.of_below B5.out).trans T6')⟩
  refine hK.out _ _ HJ6.out.cs (fun hHeld => ?_)
  clear hK K W hD6 t6 T6'
  refine norm_ (a' := ?_) ?_ ?_
  rotate_left
  · show Act.put _ (some 43) _ = _
    simp only [Act.put, List.setIfInBounds_toArray, List.set_cons_zero, List.set_cons_succ, i64_w, i32_w]
    rfl
  refine pure_ (i := 12) (N := some 8) (v := ?_) (a' := ?_) #[true, true, true, true, true, true, true, true, true, true, true, true, true] rfl rfl (by kernel_rfl) (fun _ _ _ h => h) (Or.inl ⟨by rfl, ?_⟩) ?_ ?_
  rotate_left
  · intro w'
    go_simp
    with_reducible rfl
  rotate_left
  · simp only [Act.put, List.setIfInBounds_toArray, List.set_cons_zero, List.set_cons_succ, i64_w, i32_w]
    rfl
  refine done_ (by kernel_rfl) ?_
  clear hHeld
  obtain ⟨q0, q2⟩ := HJ6.out.cs
  go_wp2_with fail
  refine (jd_sync HD6.out hn (by omega) HD6.out.nes.1).mono ?_
  rintro e w7 ⟨rfl, hD7, t7⟩
  have HF := Aside0.mk (And.intro hD7 (T6.out.trans (t7.mono (S' := fun k => k = bs ∨ k = bn ∨ k = bm) (fun k _ q => by rcases q with q | q; exact Or.inl q; exact Or.inr (Or.inr q)))))
  clear hD7 t7 q0 q2
  go_wp2_with fail
  go_ret
  exact ⟨rfl, HF.out.1, HF.out.2⟩
theorem ja_end2 {bad : Nat → Prop} {w w3 w5 w7 W6 : World} {B bj bd bs bn bm n N' en gc cc : Nat} {v v7 : Value} {rs : List (List Int)} {vs : List Value} {l st' nw' : List Int} {ob : Obj}
    (hJ5 : Jb w5 bj bd v en false) (ho5 : w5.ownsRow B 22 1 v rs.length vs)
    (hvs : ∀ (i : Nat) (r : List Int), rs[i]? = some r → ∃ g o c, vs[i]? = some (.slice (some ⟨g, o, none⟩) r.length c) ∧ Src w5 ⟨g, o, none⟩ r ∧ B ≤ g ∧ ¬ bad g ∧ 1 ≤ r.length ∧ r.length ≤ 1024 ∧ r.length ≤ c ∧ ∃ cs, w5.heap[g]? = some (.cells cs 5 (0, 0)))
    (hg : (w5.alloc ob).grownBy w7 v.ownBlock) (ho7 : w7.ownsRow B 22 1 v7 (rs.length + 1) (vs ++ [.slice (some ⟨gc, 0, none⟩) l.length cc])) (hloc : v7.ownBlock = v.ownBlock ∨ v7.ownBlock = some (w5.alloc ob).heap.size)
    (t6 : Tn (fun k => k = bj) w7 W6) (hj6 : W6.heap[bj]? = some (.cells #[.pointer (some ⟨bd, 0, none⟩), v7, .int .i64 (↑en + (8 + ↑l.length)), .bool false] 72 (0, 0)))
    (hD3 : Dk w3 bd bs bn bm n st' nw' N' (.map [])) (T3 : Tn (fun k => k = bs ∨ k = bn ∨ k = bm) w w3) (B5 : Below w3.heap.size w3 w5) (BC : Blk w5 gc l) (hgc : w3.heap.size ≤ gc) (hgb : ¬ bad gc ∧ B ≤ gc) (hcc : l.length ≤ cc) (h1 : 1 ≤ l.length) (h2 : l.length ≤ 1024) :
    ∃ v', Jb W6 bj bd v' (en + (8 + l.length)) false ∧ Rs W6 B bad v' (rs ++ [l]) ∧ Dk W6 bd bs bn bm n st' nw' N' (.map []) ∧ Tn (fun k => k = bs ∨ k = bn ∨ k = bm ∨ k = bj ∨ v.ownBlock = some k) w W6 ∧ (v'.ownBlock = v.ownBlock ∨ ∃ k, v'.ownBlock = some k ∧ w.heap.size ≤ k) := by
  have t : Tn (fun k => v.ownBlock = some k ∨ k = bj) w5 W6 := ((jn_tn hg).mono (fun k _ q => Or.inl q)).trans (t6.mono (fun k _ q => Or.inr q))
  have hSt : ∀ k, (v.ownBlock = some k ∨ k = bj) → (∃ c, w5.heap[k]? = some (.cells c 22 (0, 0))) ∨ (∃ c, w5.heap[k]? = some (.cells c 72 (0, 0))) := fun k q => by
    rcases q with q | rfl
    · exact Or.inl (own_typed ho5 q)
    · exact Or.inr ⟨_, hJ5⟩
  have hS5 : ∀ k c, (v.ownBlock = some k ∨ k = bj) → w5.heap[k]? ≠ some (.cells c 5 (0, 0)) := fun k c q h => by
    rcases hSt k q with ⟨c', h'⟩ | ⟨c', h'⟩
    · exact ty_ne h h' (by decide)
    · exact ty_ne h h' (by decide)
  have hD := hD3
  have hD5 := hD.below B5
  have hD6 : Dk W6 bd bs bn bm n st' nw' N' (.map []) := by
    refine hD5.turn t (fun q => ?_) (fun q => ?_) (fun q => ?_) (fun q => ?_)
    · rcases hSt bd q with ⟨c', h'⟩ | ⟨c', h'⟩
      · exact ty_ne hD5.hd h' (by decide)
      · exact ty_ne hD5.hd h' (by decide)
    · obtain ⟨r, hr⟩ := hD5.hs; exact hS5 bs _ q hr
    · obtain ⟨r, hr⟩ := hD5.hn; exact hS5 bn _ q hr
    · obtain ⟨es, cl, hm⟩ := hD5.map
      rcases hSt bm q with ⟨c', h'⟩ | ⟨c', h'⟩ <;> (rw [hm] at h'; cases h')
  have hs5 : w.heap.size ≤ w5.heap.size := Nat.le_trans T3.size B5.size
  refine ⟨v7, ?_, ?_, hD6, ?_, ?_⟩
  · unfold Jb
    rw [hj6]
    simp
  · refine Rs.snoc hvs t (fun k c q h => hS5 k c q h) ?_ ?_ BC.src0 hgb.2 hgb.1 h1 h2 hcc (by obtain ⟨r, hr⟩ := BC; exact ⟨_, hr⟩)
    · have := ho5.1; omega
    · exact own_turn ho7 t6 (fun k hk q => by
        obtain ⟨c1, e1⟩ := own_typed ho7 hk
        have e2 := jn_keep hJ5 ho5 hg
        rw [q] at e1
        exact ty_ne e1 e2 (by decide))
  · exact ((T3.mono (fun k _ q => by rcases q with q | q | q; exact Or.inl q; exact Or.inr (Or.inl q); exact Or.inr (Or.inr (Or.inl q)))).trans (Tn.of_below B5)).trans (t.mono (fun k _ q => by rcases q with q | q; exact Or.inr (Or.inr (Or.inr (Or.inr q))); exact Or.inr (Or.inr (Or.inr (Or.inl q)))))
  · rcases hloc with q | q
    · exact Or.inl q
    · exact Or.inr ⟨_, q, Nat.le_trans hs5 (by simp)⟩
set_option maxHeartbeats 1000000 in
set_option maxRecDepth 100000 in
theorem ja_ok2 {bad : Nat → Prop} {w : World} {B bj bd bs bn bm n en : Nat} {v : Value} {rs : List (List Int)} {st nw : List Int} {N : Nat} {D : DataW Unit} (hJ : Jb w bj bd v en false) (hR : Rs w B bad v rs) (b1 : bad bs) (b2 : bad bn) (bf : ∀ k, bad k → k < w.heap.size) (hB : B ≤ w.heap.size) (h : Dk w bd bs bn bm n st nw N D) (hn : n ≤ 65536) (ad : Addr) (l : List Int) (cap : Nat) (hs : Src w ad l) (hb : ad.block ≠ bs ∧ ad.block ≠ bn ∧ ad.block ≠ bm) (h1 : 1 ≤ l.length) (h2 : l.length ≤ 1024) (h3 : en + 8 + l.length ≤ n) (hN : N + l.length + 8 < 4294967296) (hrl : rs.length ≤ 65536) :
    Calls Try.prog 24 #[.pointer (some ⟨bj, 0, none⟩), .slice (some ad) l.length cap] w fun e w' => e = .returned .nilIface ∧ ∃ v', Jb w' bj bd v' (en + (8 + l.length)) false ∧ Rs w' B bad v' (rs ++ [l]) ∧ Dk w' bd bs bn bm n (splice (splice nw (en + 8) l) en (hdl ↑l.length)) (splice (splice nw (en + 8) l) en (hdl ↑l.length)) (N + l.length + 8) (.map []) ∧ Tn (fun k => k = bs ∨ k = bn ∨ k = bm ∨ k = bj ∨ v.ownBlock = some k) w w' ∧ (v'.ownBlock = v.ownBlock ∨ ∃ k, v'.ownBlock = some k ∧ w.heap.size ≤ k) := by
  have hm0 : jmay n en l.length = none := by unfold jmay jfree; rw [if_neg (by omega), if_neg (by omega)]
  have MY := Aside0.mk (jp_may hJ h hn (by omega) (some ad) l.length cap (by omega))
  rw [hm0] at MY
  have HJ := Aside0.mk hJ
  have HR := Aside0.mk hR
  have HD := Aside0.mk h
  have HS := Aside0.mk hs
  have HAD := Aside0.mk hb
  have BF := Aside0.mk bf
  clear hJ hR h hs hb hm0 bf
  go_enter Try.func24, Try.ntmps24
  go_wp2_with fail
  refine MY.out.mono ?_
  rintro e w2 ⟨rfl, hb⟩
  have HJ2 := Aside0.mk (HJ.out.below hb)
  have HR2 := Aside0.mk (HR.out.below hb)
  have HD2 := Aside0.mk (HD.out.below hb)
  have HS2 := Aside0.mk (HS.out.below hb)
  have B2 := Aside0.mk hb
  clear hb
  unfold cer
  go_wp2_with fail
  refine (jp_stages4 HJ2.out HD2.out hn ad l cap HS2.out HAD.out h1 h2 h3 hN).mono ?_
  rintro e w3 ⟨rfl, hD3, t3⟩
  have HD3 := Aside0.mk hD3
  have HJ3 := Aside0.mk (HJ2.out.disk HD2.out t3)
  have HR3 : Aside0 (Rs w3 B bad v rs) := ⟨rs_disk HR2.out b1 b2 HD2.out t3⟩
  have HS3 := Aside0.mk (HS2.out.turn t3 (fun q => by have := HAD.out; rcases q with q | q | q; exact this.1 q; exact this.2.1 q; exact this.2.2 q))
  have T3 := Aside0.mk ((Tn.of_below B2.out).trans t3)
  clear hD3 t3
  obtain ⟨q0, q1, q2, q3, f1, f2, f3⟩ := jn_cells HJ3.out
  go_wp2_with fail
  refine start_ (n := 12) (S := fun w' => w'.cell? ⟨bj, 1, none⟩ = some v) (ds := [11]) #[false, false, false, false, false, false, false, false, false, false, false, false] (by kernel_rfl) rfl rfl q1 (fun hHeld => ?_)
  have B4 := Aside0.mk (below_drew1 (Below.refl w3.heap.size w3))
  have HJ4 := Aside0.mk (HJ3.out.below B4.out)
  have HS4 := Aside0.mk (HS3.out.below B4.out)
  have HL := Aside0.mk (show w.heap.size ≤ w3.drew.heap.size ∧ B ≤ w3.drew.heap.size from ⟨T3.out.size, Nat.le_trans hB T3.out.size⟩)
  generalize w3.drew = wd at hHeld B4 HJ4 HS4 HL ⊢
  clear q0 q1 q2 q3 f1 f2 f3
  refine pure_ (i := 0) (N := some 19) (v := ?_) (a' := ?_) #[true, false, false, false, false, false, false, false, false, false, false, false] rfl rfl (by kernel_rfl) (fun _ _ _ h => h) (Or.inl ⟨by rfl, ?_⟩) ?_ ?_
  rotate_left
  · intro w'
    go_simp
    with_reducible rfl
  rotate_left
  · simp only [Act.put, List.setIfInBounds_toArray, List.set_cons_zero, List.set_cons_succ, i64_w, i32_w]
    rfl
  refine pure_ (i := 1) (N := some 20) (v := ?_) (a' := ?_) #[true, true, false, false, false, false, false, false, false, false, false, false] rfl rfl (by kernel_rfl) (fun _ _ _ h => h) (Or.inl ⟨by rfl, ?_⟩) ?_ ?_
  rotate_left
  · intro w'
    go_simp
    with_reducible rfl
  rotate_left
  · simp only [Act.put, List.setIfInBounds_toArray, List.set_cons_zero, List.set_cons_succ, i64_w, i32_w]
    rfl
  refine pure_ (i := 2) (N := some 21) (v := ?_) (a' := ?_) #[true, true, true, false, false, false, false, false, false, false, false, false] rfl rfl (by kernel_rfl) (fun _ _ _ h => h) (Or.inl ⟨by rfl, ?_⟩) ?_ ?_
  rotate_left
  · intro w'
    go_simp
    with_reducible rfl
  rotate_left
  · simp only [Act.put, List.setIfInBounds_toArray, List.set_cons_zero, List.set_cons_succ, i64_w, i32_w]
    rfl
  refine pure_ (i := 3) (N := some 22) (v := ?_) (a' := ?_) #[true, true, true, true, false, false, false, false, false, false, false, false] rfl rfl (by kernel_rfl) (fun _ _ _ h => h) (Or.inl ⟨by rfl, ?_⟩) ?_ ?_
  rotate_left
  · intro w'
    go_simp
    with_reducible rfl
  rotate_left
  · simp only [Act.put, List.setIfInBounds_toArray, List.set_cons_zero, List.set_cons_succ, i64_w, i32_w]
    rfl
  refine take_ (i := 4) (N := some 23) (v := ?_) (a' := ?_) #[true, true, true, true, true, false, false, false, false, false, false, false] rfl rfl (by kernel_rfl) (fun _ _ _ h => h) (Or.inl ⟨by rfl, ?_⟩) hHeld ?_ ?_
  rotate_left
  · rintro w' s0
    go_simp
    with_reducible rfl
  rotate_left
  · simp only [Act.put, List.setIfInBounds_toArray, List.set_cons_zero, List.set_cons_succ, i64_w, i32_w]
    rfl
  refine pure_ (i := 5) (N := some 24) (v := ?_) (a' := ?_) #[true, true, true, true, true, true, false, false, false, false, false, false] rfl rfl (by kernel_rfl) (fun _ _ _ h => h) (Or.inl ⟨by rfl, ?_⟩) ?_ ?_
  rotate_left
  · intro w'
    go_simp
    with_reducible rfl
  rotate_left
  · simp only [Act.put, List.setIfInBounds_toArray, List.set_cons_zero, List.set_cons_succ, i64_w, i32_w]
    rfl
  refine one_ (i := 6) (N := some 25) #[true, true, true, true, true, true, true, false, false, false, false, false] rfl rfl (by kernel_rfl) (by decide) (fun K hK => ?_)
  refine goes_ Try.func41 (by kernel_rfl) rfl #[.slice (some ad) l.length cap] (by rfl) rfl rfl (by simp only [List.map_toArray, List.map_cons, List.map_nil]; first | done | rfl) ?_
  refine (jd_clone ad cap l (by omega) (by omega) HS4.out).mono ?_
  rintro e w5 ⟨gc, cc, rfl, hgc, hbc, hcc, hb5⟩
  refine ⟨_, rfl, ?_⟩
  have BC := Aside0.mk hbc
  have GC := Aside0.mk (And.intro hgc hcc)
  have HJ5 := Aside0.mk (HJ4.out.below hb5)
  have B5 := Aside0.mk (below_step B4.out hb5)
  have HR5 := (HR3.out.below B5.out)
  obtain ⟨vs, ho5, hvs5⟩ := HR5
  have HO5 := Aside0.mk ho5
  have HVS5 := Aside0.mk hvs5
  have HZ5 := Aside0.mk hb5.size
  refine hK.out _ _ (jn_cells HJ5.out).2.1 (fun hHeld => ?_)
  clear hK K hbc hb5 hgc hcc ho5 hvs5
  refine norm_ (a' := ?_) ?_ ?_
  rotate_left
  · show Act.put _ (some 25) _ = _
    simp only [Act.put, List.setIfInBounds_toArray, List.set_cons_zero, List.set_cons_succ, i64_w, i32_w]
    rfl
  refine one_ (i := 7) (N := some 26) #[true, true, true, true, true, true, true, true, false, false, false, false] rfl rfl (by kernel_rfl) (by decide) (fun K hK => ?_)
  refine value_ (w1 := ?_) (v := ?_) (by rfl) rfl ?_ ?_
  rotate_left 2
  · go_simp
    constructor
    · rfl
    · rfl
  refine hK.out _ _ (jn_cells (HJ5.out.below (below_alloc (Below.refl _ _) _))).2.1 (fun hHeld => ?_)
  clear hK K
  refine norm_ (a' := ?_) ?_ ?_
  rotate_left
  · show Act.put _ (some 26) _ = _
    simp only [Act.put, List.setIfInBounds_toArray, List.set_cons_zero, List.set_cons_succ, i64_w, i32_w]
    rfl
  refine one_ (i := 8) (N := some 27) #[true, true, true, true, true, true, true, true, true, false, false, false] rfl rfl (by kernel_rfl) (by decide) (fun K hK => ?_)
  obtain ⟨i0, hi, hz0, hz1, hz2⟩ := info_parts jo_info
  obtain ⟨v7, w7, hr, hown7, hgrow7, -, hloc7⟩ := run_append_own_at (P := Try.prog) (w5.alloc (.cells #[.slice (some ⟨gc, 0, none⟩) l.length cc] 22)) B 44 44 22 i0 (.slice none 0 0) 1 24 Try.underlying44 hi hz0 hz1 hz2 rfl (by decide) v rs.length vs (HO5.out.alloc _) ⟨w5.heap.size, 0, none⟩ 1 1 [.slice (some ⟨gc, 0, none⟩) l.length cc] rfl (jo_one _ _) (by simp [Value.oneCell']) (by unfold maxLen; omega) (by omega) (by have h1 := HL.out.2; have h2 := HZ5.out; simp; omega)
  obtain ⟨A7, c7, rfl⟩ := own_slice hown7
  have OO := Aside0.mk hown7
  have GG := Aside0.mk hgrow7
  have LL := Aside0.mk hloc7
  clear hown7 hgrow7 hloc7 hi hz0 hz1 hz2
  refine append_value (by rfl) rfl rfl rfl rfl hr ?_
  clear hr
  have HJ7 : Aside0 (Jb w7 bj bd v en false) := ⟨jn_keep HJ5.out HO5.out GG.out⟩
  refine hK.out _ _ (jn_cells HJ7.out).2.1 (fun hHeld => ?_)
  clear hK K
  refine norm_ (a' := ?_) ?_ ?_
  rotate_left
  · show Act.put _ (some 27) _ = _
    simp only [Act.put, List.setIfInBounds_toArray, List.set_cons_zero, List.set_cons_succ, i64_w, i32_w]
    rfl
  refine pure_ (i := 9) (N := some 28) (v := ?_) (a' := ?_) #[true, true, true, true, true, true, true, true, true, true, false, false] rfl rfl (by kernel_rfl) (fun _ _ _ h => h) (Or.inl ⟨by rfl, ?_⟩) ?_ ?_
  rotate_left
  · intro w'
    go_simp
    with_reducible rfl
  rotate_left
  · simp only [Act.put, List.setIfInBounds_toArray, List.set_cons_zero, List.set_cons_succ, i64_w, i32_w]
    rfl
  refine pure_ (i := 10) (N := some 29) (v := ?_) (a' := ?_) #[true, true, true, true, true, true, true, true, true, true, true, false] rfl rfl (by kernel_rfl) (fun _ _ _ h => h) (Or.inl ⟨by rfl, ?_⟩) ?_ ?_
  rotate_left
  · intro w'
    go_simp
    with_reducible rfl
  rotate_left
  · simp only [Act.put, List.setIfInBounds_toArray, List.set_cons_zero, List.set_cons_succ, i64_w, i32_w]
    rfl
  obtain ⟨q0, q1, q2, q3, f1, f2, f3⟩ := jn_cells HJ7.out
  refine last_ (i := 11) (N := none) #[true, true, true, true, true, true, true, true, true, true, true, true] rfl rfl (by kernel_rfl) (by decide) (fun K hK => ?_)
  go_simp
  refine hK.out _ _ ?_
  clear hK K
  refine done_ (by kernel_rfl) ?_
  clear hHeld
  go_wp2_with fail
  go_ret
  generalize hW6 : ((w7.setCell ⟨bj, 1, none⟩ _).setCell ⟨bj, 2, none⟩ _) = W6
  obtain ⟨hj6, t6⟩ := jn_set HJ7.out _ _ W6 hW6.symm
  exact ⟨rfl, ja_end2 HJ5.out HO5.out HVS5.out GG.out OO.out LL.out t6 hj6 HD3.out T3.out B5.out BC.out (by have h1 := GC.out.1; have h2 := B4.out.size; omega) ⟨fun q => by have h1 := HL.out; have h2 := GC.out.1; have h3 := BF.out _ q; omega, by have h1 := HL.out; have h2 := GC.out.1; omega⟩ GC.out.2.1 h1 h2⟩

end Go.Proofs.Ythblaehmdailhaa.PJournalStays
