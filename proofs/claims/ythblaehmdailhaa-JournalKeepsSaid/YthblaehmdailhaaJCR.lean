import Derived.Test.YthblaehmdailhaaJSO
namespace Go.Proofs.Ythblaehmdailhaa.PJournalStays
open Go.RowKit Go.Proofs.YthblaehmdailhaaW.PrintWords Go.Proofs.YthblaehmdailhaaW.PrintLast Go.Proofs.YthblaehmdailhaaW.PrintMore
set_option linter.unusedVariables false
set_option linter.unusedSimpArgs false
/-- How many bytes of the i-th dirty block a crash keeps. -/
def keepN (P : List Int) (i : Nat) : Nat := match P[i]? with | some p => (min (max p 0) 64).toNat | none => 0
theorem keepN_le (P : List Int) (i : Nat) : keepN P i ≤ 64 := by unfold keepN; split <;> omega
/-- What stands behind the first i dirty blocks of a crash. -/
def crashN (st nw : List Int) (ks : List Nat) (P : List Int) : Nat → List Int
  | 0 => st
  | i + 1 => match ks[i]? with | some b => splice (crashN st nw ks P i) (b * 64) ((nw.drop (b * 64)).take (keepN P i)) | none => crashN st nw ks P i
theorem crashN_length {st nw : List Int} {ks : List Nat} {P : List Int} {n : Nat} (h1 : st.length = n) (h2 : nw.length = n) (hk : ∀ b ∈ ks, b * 64 + 64 ≤ n) : ∀ i, (crashN st nw ks P i).length = n := by
  intro i
  induction i with
  | zero => exact h1
  | succ i ih =>
    unfold crashN
    split
    · rename_i b hb
      have := hk b (List.mem_of_getElem? hb)
      have kl := keepN_le P i
      rw [length_splice _ _ _ (by rw [ih, List.length_take, List.length_drop]; omega), ih]
    · exact ih
theorem ad_block (ad : Addr) (i : Nat) : (ad.add i).block = ad.block := by unfold Addr.add; split <;> rfl
theorem Tn.cell {S : Nat → Prop} {w W : World} {ad : Addr} {x : Value} (t : Tn S w W) (h : w.cell? ad = some x) (hn : ¬ S ad.block) : W.cell? ad = some x :=
  (World.cell?_of_block (w := w) (t.block ad.block (World.block_lt_of_cell? w _ h) hn)).trans h
theorem ik_row {w : World} {base n : Nat} {v : Value} {xs : List Value} (h : w.ownsRow base 3 1 v n xs) : ∃ A c, v = .slice A n c ∧ ∀ (S : Nat → Prop) (W : World), Tn S w W → (∀ k, S k → k < base) → ∀ (i : Nat) (x : Value), xs[i]? = some x → ∃ g, A = some ⟨g, 0, none⟩ ∧ W.cell? ⟨g, i, none⟩ = some x := by
  obtain ⟨h1, ⟨rfl, rfl⟩ | ⟨g, cap, cur, rfl, h4, h5, h6, h7, h8, h9⟩⟩ := h
  · refine ⟨_, _, rfl, fun S W hW hS i x hx => ?_⟩
    rw [List.eq_nil_of_length_eq_zero h1] at hx
    cases hx
  · refine ⟨_, _, rfl, fun S W hW hS i x hx => ⟨g, rfl, ?_⟩⟩
    have hb := hW.blk h5 (fun q => by have := hS g q; omega)
    refine (blk_cell hb i).trans ?_
    rw [← h9, Nat.mul_one] at hx
    rw [← Array.getElem?_toList]
    rw [List.getElem?_take] at hx
    split at hx
    · exact hx
    · cases hx
set_option maxHeartbeats 1000000 in
set_option maxRecDepth 100000 in
theorem jd_crash {w : World} {bd bs bn bm n : Nat} {st nw : List Int} {N : Nat} {D : DataW Unit} {ks : List Nat} (h : Dk w bd bs bn bm n st nw N D) (hk : Ks D ks) (hkn : ∀ b ∈ ks, b * 64 + 64 ≤ n) (hN : N ≤ 4294967296) (hn : n ≤ 65536) (n0 : 0 < n) (A : Option Addr) (P : List Int) (cap : Nat) (hP : P.length ≤ 65536) (hs : ∀ i p, P[i]? = some p → ∃ ad, A = some ad ∧ ad.block ≠ bs ∧ w.cell? (ad.add i) = some (.int .i64 p)) (hb : ∀ p ∈ P, -9223372036854775808 ≤ p ∧ p ≤ 9223372036854775807) :
    Calls Try.prog 30 #[.pointer (some ⟨bd, 0, none⟩), .slice A P.length cap] w fun e w' => e = .returned (.tuple #[]) ∧ Dk w' bd bs bn bm n (crashN st nw ks P ks.length) (crashN st nw ks P ks.length) N (.map []) ∧ Tn (fun k => k = bs ∨ k = bn ∨ k = bm) w w' := by
  have HD := Aside0.mk h
  have HKN := Aside0.mk hkn
  have HS := Aside0.mk hs
  have HB := Aside0.mk hb
  obtain ⟨c0, c1, c2⟩ := h.cells
  clear h hkn hs hb
  go_enter Try.func30, Try.ntmps30
  go_wp2_with fail
  refine (jd_keys (some bm) w).mono ?_
  rintro e w1 ⟨rfl, rfl⟩
  obtain ⟨m, hm, hown⟩ := HD.out.hm
  have al := below_alloc (Below.refl w.heap.size w) (.cells #[.map (some bm)] 67)
  have HD1 := Aside0.mk (HD.out.below al)
  have B1 := Aside0.mk al
  have hown1 := hown.alloc (.cells #[.map (some bm)] 67)
  have SO := jd_sorted (w := w.alloc (.cells #[.map (some bm)] 67)) (g := w.heap.size) hown1 hk (by simp) (by simp) (by omega)
  have hkl : ks.length ≤ 4294967296 := by have := (hk.size hown).2; omega
  clear al hown hown1
  go_wp2_with fail
  refine SO.mono ?_
  rintro e w2 ⟨v, rfl, hrow, hb2⟩
  obtain ⟨Av, cv, rfl, hav⟩ := ik_row hrow
  have HD2 := Aside0.mk (HD1.out.below hb2)
  have T2 : Aside0 (Tn (fun k => k = bs) w w2) := ⟨Tn.of_below (below_step B1.out hb2)⟩
  have AV : Aside0 (∀ W, Tn (fun k => k = bs) w2 W → ∀ (i b : Nat), ks[i]? = some b → ∃ g, Av = some ⟨g, 0, none⟩ ∧ W.cell? ⟨g, i, none⟩ = some (.int .i64 ↑b)) := ⟨fun W hW i b hb => hav _ W hW (fun k q => by have := HD1.out.hs.lt; rw [q]; exact this) i _ (by rw [List.getElem?_map, hb]; rfl)⟩
  clear hav hrow SO hb2 HD1 B1
  go_wp2_with fail
  go_loopw [15] (fun v15 wr => ∃ i : Nat, v15 = .int .i64 ↑i ∧ Aside0 (i ≤ ks.length ∧ Dk wr bd bs bn bm n (crashN st nw ks P i) nw N D ∧ Tn (fun k => k = bs) w2 wr)) (fun v15 _ => (ks.length - intOf v15).toNat)
  case atStart => exact ⟨0, rfl, ⟨Nat.zero_le _, HD2.out, Tn.refl _ _⟩⟩
  case round =>
    obtain ⟨i, rfl, HX⟩ := hrel
    obtain ⟨c0, c1, c2⟩ := HX.out.2.1.cells
    by_cases ci : i < ks.length
    · have ci2 : (↑i : Int) < ↑ks.length := by omega
      have i0' : (0 : Int) ≤ ↑i := by omega
      obtain ⟨b, hb⟩ : ∃ b, ks[i]? = some b := ⟨ks[i], List.getElem?_eq_getElem ci⟩
      obtain ⟨gk, rfl, hck⟩ := AV.out _ HX.out.2.2 i b hb
      have hbn := HKN.out b (List.mem_of_getElem? hb)
      have HBB := Aside0.mk hb
      clear hb
      by_cases cp : i < P.length
      · have cp2 : decide ((↑i : Int) < ↑P.length) = true := decide_eq_true (by omega)
        have cp3 : (↑i : Int) < ↑P.length := by omega
        obtain ⟨p, hp⟩ : ∃ p, P[i]? = some p := ⟨P[i], List.getElem?_eq_getElem cp⟩
        obtain ⟨ad, rfl, hab, hcp⟩ := HS.out i p hp
        have hcp2 := (T2.out.trans HX.out.2.2).cell hcp (by rw [ad_block]; exact hab)
        go_wp2_with fail
        have KE : min (max p 0) 64 = ((keepN P i : Nat) : Int) := by
          have : keepN P i = (min (max p 0) 64).toNat := by unfold keepN; rw [hp]
          rw [this]
          omega
        obtain ⟨q, hq⟩ : ∃ q, b * 64 = q := ⟨_, rfl⟩
        have KQ : (↑b * 64 : Int) = ↑q := by omega
        rw [KQ]
        have kpl := keepN_le P i
        obtain ⟨kp, hkp⟩ : ∃ kp, keepN P i = kp := ⟨_, rfl⟩
        rw [hkp] at KE kpl
        rw [KE]
        clear KE KQ
        obtain ⟨e, he⟩ : ∃ e, q + kp = e := ⟨_, rfl⟩
        have HW : Aside0 (wrap64 (↑q + ↑kp) = (↑e : Int)) := ⟨by unfold wrap64; omega⟩
        have cne : (n = q) = False := eq_false (by omega)
        have z1 : (0 : Int) ≤ ↑q := by omega
        have z2 : (↑q : Int) ≤ ↑e := by omega
        have z3 : (↑e : Int) ≤ ↑n := by omega
        have z4 : e - q = kp := by omega
        have HQ := Aside0.mk (And.intro hq (And.intro hkp hbn))
        clear hq hkp he hbn
        refine start_ (n := 19) (S := fun w' => w'.cell? ⟨bd, 0, none⟩ = some (.slice (some ⟨bs, 0, none⟩) n n) ∧ w'.cell? ⟨bd, 1, none⟩ = some (.slice (some ⟨bn, 0, none⟩) n n)) (ds := []) #[false, false, false, false, false, false, false, false, false, false, false, false, false, false, false, false, false, false, false] (by kernel_rfl) rfl rfl ⟨c0, c1⟩ (fun hHeld => ?_)
        have HD3 := Aside0.mk (HX.out.2.1.below (below_drew1 (Below.refl wr.heap.size wr)))
        have T3 := Aside0.mk (HX.out.2.2.trans (Tn.of_below (below_drew1 (Below.refl wr.heap.size wr))))
        generalize wr.drew = w3 at hHeld HD3 T3 ⊢
        clear c0 c1 c2
        refine pure_ (i := 0) (N := some 32) (v := ?_) (a' := ?_) #[true, false, false, false, false, false, false, false, false, false, false, false, false, false, false, false, false, false, false] rfl rfl (by kernel_rfl) (fun _ _ _ h => h) (Or.inl ⟨by rfl, ?_⟩) ?_ ?_
        rotate_left
        · intro w'
          go_simp
          with_reducible rfl
        rotate_left
        · simp only [Act.put, List.setIfInBounds_toArray, List.set_cons_zero, List.set_cons_succ, i64_w, i32_w]
          rfl
        refine pure_ (i := 1) (N := some 33) (v := ?_) (a' := ?_) #[true, true, false, false, false, false, false, false, false, false, false, false, false, false, false, false, false, false, false] rfl rfl (by kernel_rfl) (fun _ _ _ h => h) (Or.inl ⟨by rfl, ?_⟩) ?_ ?_
        rotate_left
        · intro w'
          go_simp
          with_reducible rfl
        rotate_left
        · simp only [Act.put, List.setIfInBounds_toArray, List.set_cons_zero, List.set_cons_succ, i64_w, i32_w]
          rfl
        refine pure_ (i := 2) (N := some 34) (v := ?_) (a' := ?_) #[true, true, true, false, false, false, false, false, false, false, false, false, false, false, false, false, false, false, false] rfl rfl (by kernel_rfl) (fun _ _ _ h => h) (Or.inl ⟨by rfl, ?_⟩) ?_ ?_
        rotate_left
        · intro w'
          go_simp
          with_reducible rfl
        rotate_left
        · simp only [Act.put, List.setIfInBounds_toArray, List.set_cons_zero, List.set_cons_succ, i64_w, i32_w]
          rfl
        refine take_ (i := 3) (N := some 35) (v := ?_) (a' := ?_) #[true, true, true, true, false, false, false, false, false, false, false, false, false, false, false, false, false, false, false] rfl rfl (by kernel_rfl) (fun _ _ _ h => h) (Or.inl ⟨by rfl, ?_⟩) hHeld ?_ ?_
        rotate_left
        · rintro w' ⟨s0, s1⟩
          go_simp
          with_reducible rfl
        rotate_left
        · simp only [Act.put, List.setIfInBounds_toArray, List.set_cons_zero, List.set_cons_succ, i64_w, i32_w]
          rfl
        refine pure_ (i := 4) (N := some 36) (v := ?_) (a' := ?_) #[true, true, true, true, true, false, false, false, false, false, false, false, false, false, false, false, false, false, false] rfl rfl (by kernel_rfl) (fun _ _ _ h => h) (Or.inl ⟨by rfl, ?_⟩) ?_ ?_
        rotate_left
        · intro w'
          go_simp
          with_reducible rfl
        rotate_left
        · simp only [Act.put, List.setIfInBounds_toArray, List.set_cons_zero, List.set_cons_succ, i64_w, i32_w]
          rfl
        refine pure_ (i := 5) (N := some 37) (v := ?_) (a' := ?_) #[true, true, true, true, true, true, false, false, false, false, false, false, false, false, false, false, false, false, false] rfl rfl (by kernel_rfl) (fun _ _ _ h => h) (Or.inl ⟨by rfl, ?_⟩) ?_ ?_
        rotate_left
        · intro w'
          go_simp
          with_reducible rfl
        rotate_left
        · simp only [Act.put, List.setIfInBounds_toArray, List.set_cons_zero, List.set_cons_succ, i64_w, i32_w]
          rfl
        refine pure_ (i := 6) (N := some 38) (v := ?_) (a' := ?_) #[true, true, true, true, true, true, true, false, false, false, false, false, false, false, false, false, false, false, false] rfl rfl (by kernel_rfl) (fun _ _ _ h => h) (Or.inl ⟨by rfl, ?_⟩) ?_ ?_
        rotate_left
        · intro w'
          go_simp
          with_reducible rfl
        rotate_left
        · simp only [Act.put, List.setIfInBounds_toArray, List.set_cons_zero, List.set_cons_succ, i64_w, i32_w]
          rfl
        refine pure_ (i := 7) (N := some 39) (v := ?_) (a' := ?_) #[true, true, true, true, true, true, true, true, false, false, false, false, false, false, false, false, false, false, false] rfl rfl (by kernel_rfl) (fun _ _ _ h => h) (Or.inl ⟨by rfl, ?_⟩) ?_ ?_
        rotate_left
        · intro w'
          go_simp
          with_reducible rfl
        rotate_left
        · simp only [Act.put, List.setIfInBounds_toArray, List.set_cons_zero, List.set_cons_succ, i64_w, i32_w]
          rfl
        rw [HW.out]
        refine pure_ (i := 8) (N := some 40) (v := ?_) (a' := ?_) #[true, true, true, true, true, true, true, true, true, false, false, false, false, false, false, false, false, false, false] rfl rfl (by kernel_rfl) (fun _ _ _ h => h) (Or.inl ⟨by rfl, ?_⟩) ?_ ?_
        rotate_left
        · intro w'
          go_simp
          with_reducible rfl
        rotate_left
        · simp only [Act.put, List.setIfInBounds_toArray, List.set_cons_zero, List.set_cons_succ, i64_w, i32_w]
          rfl
        refine pure_ (i := 9) (N := some 41) (v := ?_) (a' := ?_) #[true, true, true, true, true, true, true, true, true, true, false, false, false, false, false, false, false, false, false] rfl rfl (by kernel_rfl) (fun _ _ _ h => h) (Or.inl ⟨by rfl, ?_⟩) ?_ ?_
        rotate_left
        · intro w'
          go_simp
          with_reducible rfl
        rotate_left
        · simp only [Act.put, List.setIfInBounds_toArray, List.set_cons_zero, List.set_cons_succ, i64_w, i32_w]
          rfl
        refine pure_ (i := 10) (N := some 42) (v := ?_) (a' := ?_) #[true, true, true, true, true, true, true, true, true, true, true, false, false, false, false, false, false, false, false] rfl rfl (by kernel_rfl) (fun _ _ _ h => h) (Or.inl ⟨by rfl, ?_⟩) ?_ ?_
        rotate_left
        · intro w'
          go_simp
          with_reducible rfl
        rotate_left
        · simp only [Act.put, List.setIfInBounds_toArray, List.set_cons_zero, List.set_cons_succ, i64_w, i32_w]
          rfl
        refine pure_ (i := 11) (N := some 43) (v := ?_) (a' := ?_) #[true, true, true, true, true, true, true, true, true, true, true, true, false, false, false, false, false, false, false] rfl rfl (by kernel_rfl) (fun _ _ _ h => h) (Or.inl ⟨by rfl, ?_⟩) ?_ ?_
        rotate_left
        · intro w'
          go_simp
          with_reducible rfl
        rotate_left
        · simp only [Act.put, List.setIfInBounds_toArray, List.set_cons_zero, List.set_cons_succ, i64_w, i32_w]
          rfl
        refine take_ (i := 12) (N := some 44) (v := ?_) (a' := ?_) #[true, true, true, true, true, true, true, true, true, true, true, true, true, false, false, false, false, false, false] rfl rfl (by kernel_rfl) (fun _ _ _ h => h) (Or.inl ⟨by rfl, ?_⟩) hHeld ?_ ?_
        rotate_left
        · rintro w' ⟨s0, s1⟩
          go_simp
          with_reducible rfl
        rotate_left
        · simp only [Act.put, List.setIfInBounds_toArray, List.set_cons_zero, List.set_cons_succ, i64_w, i32_w]
          rfl
        refine pure_ (i := 13) (N := some 45) (v := ?_) (a' := ?_) #[true, true, true, true, true, true, true, true, true, true, true, true, true, true, false, false, false, false, false] rfl rfl (by kernel_rfl) (fun _ _ _ h => h) (Or.inl ⟨by rfl, ?_⟩) ?_ ?_
        rotate_left
        · intro w'
          go_simp
          with_reducible rfl
        rotate_left
        · simp only [Act.put, List.setIfInBounds_toArray, List.set_cons_zero, List.set_cons_succ, i64_w, i32_w]
          rfl
        refine pure_ (i := 14) (N := some 46) (v := ?_) (a' := ?_) #[true, true, true, true, true, true, true, true, true, true, true, true, true, true, true, false, false, false, false] rfl rfl (by kernel_rfl) (fun _ _ _ h => h) (Or.inl ⟨by rfl, ?_⟩) ?_ ?_
        rotate_left
        · intro w'
          go_simp
          with_reducible rfl
        rotate_left
        · simp only [Act.put, List.setIfInBounds_toArray, List.set_cons_zero, List.set_cons_succ, i64_w, i32_w]
          rfl
        refine pure_ (i := 15) (N := some 47) (v := ?_) (a' := ?_) #[true, true, true, true, true, true, true, true, true, true, true, true, true, true, true, true, false, false, false] rfl rfl (by kernel_rfl) (fun _ _ _ h => h) (Or.inl ⟨by rfl, ?_⟩) ?_ ?_
        rotate_left
        · intro w'
          go_simp
          with_reducible rfl
        rotate_left
        · simp only [Act.put, List.setIfInBounds_toArray, List.set_cons_zero, List.set_cons_succ, i64_w, i32_w]
          rfl
        refine pure_ (i := 16) (N := some 48) (v := ?_) (a' := ?_) #[true, true, true, true, true, true, true, true, true, true, true, true, true, true, true, true, true, false, false] rfl rfl (by kernel_rfl) (fun _ _ _ h => h) (Or.inl ⟨by rfl, ?_⟩) ?_ ?_
        rotate_left
        · intro w'
          go_simp
          with_reducible rfl
        rotate_left
        · simp only [Act.put, List.setIfInBounds_toArray, List.set_cons_zero, List.set_cons_succ, i64_w, i32_w]
          rfl
        rw [HW.out]
        refine pure_ (i := 17) (N := some 49) (v := ?_) (a' := ?_) #[true, true, true, true, true, true, true, true, true, true, true, true, true, true, true, true, true, true, false] rfl rfl (by kernel_rfl) (fun _ _ _ h => h) (Or.inl ⟨by rfl, ?_⟩) ?_ ?_
        rotate_left
        · intro w'
          go_simp
          with_reducible rfl
        rotate_left
        · simp only [Act.put, List.setIfInBounds_toArray, List.set_cons_zero, List.set_cons_succ, i64_w, i32_w]
          rfl
        refine one_ (i := 18) (N := some 50) #[true, true, true, true, true, true, true, true, true, true, true, true, true, true, true, true, true, true, true] rfl rfl (by kernel_rfl) (by decide) (fun K hK => ?_)
        have hcl := crashN_length HD.out.ls HD.out.ln HKN.out (P := P) i
        obtain ⟨w4, hcp, hB, hT⟩ := cp_step HD3.out.hs ((nw.drop q).take kp) q ⟨bn, q, none⟩ kp (n - q) kp (n - q) 3 (by rw [hcl, List.length_take, List.length_drop, HD.out.ln]; omega) (by rw [List.length_take, List.length_drop, HD.out.ln]; show min _ _ = min _ _; omega) (HD3.out.hn.src q (fun j x hx => jd_sub hx))
        have HB4 := Aside0.mk hB
        have HT4 := Aside0.mk hT
        clear hB hT
        refine value_ (w1 := ?_) (v := ?_) (by rfl) rfl ?_ ?_
        rotate_left 2
        · go_simp
          constructor
          · rfl
          · rfl
        clear hcp
        have ec : crashN st nw ks P (i + 1) = splice (crashN st nw ks P i) q ((nw.drop q).take kp) := by
          show (match ks[i]? with | some b => splice (crashN st nw ks P i) (b * 64) ((nw.drop (b * 64)).take (keepN P i)) | none => crashN st nw ks P i) = _
          rw [HBB.out, ← HQ.out.1, ← HQ.out.2.1]
        have HD4 := Aside0.mk (show Dk w4 bd bs bn bm n (crashN st nw ks P (i + 1)) nw N D from
          have h := HD3.out
          ⟨HT4.out.blk h.hd (fun q => by obtain ⟨r, hr⟩ := h.hs; exact ty_ne (q ▸ h.hd) hr (by decide)), by rw [ec]; exact HB4.out, h.hn.turn HT4.out (fun q => h.ne q.symm), crashN_length HD.out.ls HD.out.ln HKN.out (i + 1), h.ln, h.ne, by
            obtain ⟨m, h1, es, cl, h2, h3⟩ := h.hm
            exact ⟨m, h1, es, cl, HT4.out.blk h2 (fun q => by obtain ⟨r, hr⟩ := h.hs; rw [q] at h2; rw [hr] at h2; cases h2), h3⟩⟩)
        have T4 := Aside0.mk (T3.out.trans HT4.out)
        refine hK.out _ _ ⟨HD4.out.cells.1, HD4.out.cells.2.1⟩ (fun hHeld => ?_)
        clear hK K ec HT4 HB4 T3 HD3
        refine norm_ (a' := ?_) ?_ ?_
        rotate_left
        · show Act.put _ (some 50) _ = _
          simp only [Act.put, List.setIfInBounds_toArray, List.set_cons_zero, List.set_cons_succ, i64_w, i32_w]
          rfl
        refine done_ (by kernel_rfl) ?_
        clear hHeld
        go_wp2_with fail
        exact ⟨⟨i + 1, rfl, ⟨by omega, HD4.out, T4.out⟩⟩, by simp [intOf]; omega⟩
      · have cp2 : decide ((↑i : Int) < ↑P.length) = false := decide_eq_false (by omega)
        have cp3 : ¬ (↑i : Int) < ↑P.length := by omega
        go_wp2_with fail
        have KE : Value.int .i64 0 = Value.int .i64 ((keepN P i : Nat) : Int) := by
          have : keepN P i = 0 := by unfold keepN; rw [List.getElem?_eq_none (by omega)]
          rw [this]
          rfl
        obtain ⟨q, hq⟩ : ∃ q, b * 64 = q := ⟨_, rfl⟩
        have KQ : (↑b * 64 : Int) = ↑q := by omega
        rw [KQ]
        have kpl := keepN_le P i
        obtain ⟨kp, hkp⟩ : ∃ kp, keepN P i = kp := ⟨_, rfl⟩
        rw [hkp] at KE kpl
        rw [KE]
        clear KE KQ
        obtain ⟨e, he⟩ : ∃ e, q + kp = e := ⟨_, rfl⟩
        have HW : Aside0 (wrap64 (↑q + ↑kp) = (↑e : Int)) := ⟨by unfold wrap64; omega⟩
        have cne : (n = q) = False := eq_false (by omega)
        have z1 : (0 : Int) ≤ ↑q := by omega
        have z2 : (↑q : Int) ≤ ↑e := by omega
        have z3 : (↑e : Int) ≤ ↑n := by omega
        have z4 : e - q = kp := by omega
        have HQ := Aside0.mk (And.intro hq (And.intro hkp hbn))
        clear hq hkp he hbn
        refine start_ (n := 19) (S := fun w' => w'.cell? ⟨bd, 0, none⟩ = some (.slice (some ⟨bs, 0, none⟩) n n) ∧ w'.cell? ⟨bd, 1, none⟩ = some (.slice (some ⟨bn, 0, none⟩) n n)) (ds := []) #[false, false, false, false, false, false, false, false, false, false, false, false, false, false, false, false, false, false, false] (by kernel_rfl) rfl rfl ⟨c0, c1⟩ (fun hHeld => ?_)
        have HD3 := Aside0.mk (HX.out.2.1.below (below_drew1 (Below.refl wr.heap.size wr)))
        have T3 := Aside0.mk (HX.out.2.2.trans (Tn.of_below (below_drew1 (Below.refl wr.heap.size wr))))
        generalize wr.drew = w3 at hHeld HD3 T3 ⊢
        clear c0 c1 c2
        refine pure_ (i := 0) (N := some 32) (v := ?_) (a' := ?_) #[true, false, false, false, false, false, false, false, false, false, false, false, false, false, false, false, false, false, false] rfl rfl (by kernel_rfl) (fun _ _ _ h => h) (Or.inl ⟨by rfl, ?_⟩) ?_ ?_
        rotate_left
        · intro w'
          go_simp
          with_reducible rfl
        rotate_left
        · simp only [Act.put, List.setIfInBounds_toArray, List.set_cons_zero, List.set_cons_succ, i64_w, i32_w]
          rfl
        refine pure_ (i := 1) (N := some 33) (v := ?_) (a' := ?_) #[true, true, false, false, false, false, false, false, false, false, false, false, false, false, false, false, false, false, false] rfl rfl (by kernel_rfl) (fun _ _ _ h => h) (Or.inl ⟨by rfl, ?_⟩) ?_ ?_
        rotate_left
        · intro w'
          go_simp
          with_reducible rfl
        rotate_left
        · simp only [Act.put, List.setIfInBounds_toArray, List.set_cons_zero, List.set_cons_succ, i64_w, i32_w]
          rfl
        refine pure_ (i := 2) (N := some 34) (v := ?_) (a' := ?_) #[true, true, true, false, false, false, false, false, false, false, false, false, false, false, false, false, false, false, false] rfl rfl (by kernel_rfl) (fun _ _ _ h => h) (Or.inl ⟨by rfl, ?_⟩) ?_ ?_
        rotate_left
        · intro w'
          go_simp
          with_reducible rfl
        rotate_left
        · simp only [Act.put, List.setIfInBounds_toArray, List.set_cons_zero, List.set_cons_succ, i64_w, i32_w]
          rfl
        refine take_ (i := 3) (N := some 35) (v := ?_) (a' := ?_) #[true, true, true, true, false, false, false, false, false, false, false, false, false, false, false, false, false, false, false] rfl rfl (by kernel_rfl) (fun _ _ _ h => h) (Or.inl ⟨by rfl, ?_⟩) hHeld ?_ ?_
        rotate_left
        · rintro w' ⟨s0, s1⟩
          go_simp
          with_reducible rfl
        rotate_left
        · simp only [Act.put, List.setIfInBounds_toArray, List.set_cons_zero, List.set_cons_succ, i64_w, i32_w]
          rfl
        refine pure_ (i := 4) (N := some 36) (v := ?_) (a' := ?_) #[true, true, true, true, true, false, false, false, false, false, false, false, false, false, false, false, false, false, false] rfl rfl (by kernel_rfl) (fun _ _ _ h => h) (Or.inl ⟨by rfl, ?_⟩) ?_ ?_
        rotate_left
        · intro w'
          go_simp
          with_reducible rfl
        rotate_left
        · simp only [Act.put, List.setIfInBounds_toArray, List.set_cons_zero, List.set_cons_succ, i64_w, i32_w]
          rfl
        refine pure_ (i := 5) (N := some 37) (v := ?_) (a' := ?_) #[true, true, true, true, true, true, false, false, false, false, false, false, false, false, false, false, false, false, false] rfl rfl (by kernel_rfl) (fun _ _ _ h => h) (Or.inl ⟨by rfl, ?_⟩) ?_ ?_
        rotate_left
        · intro w'
          go_simp
          with_reducible rfl
        rotate_left
        · simp only [Act.put, List.setIfInBounds_toArray, List.set_cons_zero, List.set_cons_succ, i64_w, i32_w]
          rfl
        refine pure_ (i := 6) (N := some 38) (v := ?_) (a' := ?_) #[true, true, true, true, true, true, true, false, false, false, false, false, false, false, false, false, false, false, false] rfl rfl (by kernel_rfl) (fun _ _ _ h => h) (Or.inl ⟨by rfl, ?_⟩) ?_ ?_
        rotate_left
        · intro w'
          go_simp
          with_reducible rfl
        rotate_left
        · simp only [Act.put, List.setIfInBounds_toArray, List.set_cons_zero, List.set_cons_succ, i64_w, i32_w]
          rfl
        refine pure_ (i := 7) (N := some 39) (v := ?_) (a' := ?_) #[true, true, true, true, true, true, true, true, false, false, false, false, false, false, false, false, false, false, false] rfl rfl (by kernel_rfl) (fun _ _ _ h => h) (Or.inl ⟨by rfl, ?_⟩) ?_ ?_
        rotate_left
        · intro w'
          go_simp
          with_reducible rfl
        rotate_left
        · simp only [Act.put, List.setIfInBounds_toArray, List.set_cons_zero, List.set_cons_succ, i64_w, i32_w]
          rfl
        rw [HW.out]
        refine pure_ (i := 8) (N := some 40) (v := ?_) (a' := ?_) #[true, true, true, true, true, true, true, true, true, false, false, false, false, false, false, false, false, false, false] rfl rfl (by kernel_rfl) (fun _ _ _ h => h) (Or.inl ⟨by rfl, ?_⟩) ?_ ?_
        rotate_left
        · intro w'
          go_simp
          with_reducible rfl
        rotate_left
        · simp only [Act.put, List.setIfInBounds_toArray, List.set_cons_zero, List.set_cons_succ, i64_w, i32_w]
          rfl
        refine pure_ (i := 9) (N := some 41) (v := ?_) (a' := ?_) #[true, true, true, true, true, true, true, true, true, true, false, false, false, false, false, false, false, false, false] rfl rfl (by kernel_rfl) (fun _ _ _ h => h) (Or.inl ⟨by rfl, ?_⟩) ?_ ?_
        rotate_left
        · intro w'
          go_simp
          with_reducible rfl
        rotate_left
        · simp only [Act.put, List.setIfInBounds_toArray, List.set_cons_zero, List.set_cons_succ, i64_w, i32_w]
          rfl
        refine pure_ (i := 10) (N := some 42) (v := ?_) (a' := ?_) #[true, true, true, true, true, true, true, true, true, true, true, false, false, false, false, false, false, false, false] rfl rfl (by kernel_rfl) (fun _ _ _ h => h) (Or.inl ⟨by rfl, ?_⟩) ?_ ?_
        rotate_left
        · intro w'
          go_simp
          with_reducible rfl
        rotate_left
        · simp only [Act.put, List.setIfInBounds_toArray, List.set_cons_zero, List.set_cons_succ, i64_w, i32_w]
          rfl
        refine pure_ (i := 11) (N := some 43) (v := ?_) (a' := ?_) #[true, true, true, true, true, true, true, true, true, true, true, true, false, false, false, false, false, false, false] rfl rfl (by kernel_rfl) (fun _ _ _ h => h) (Or.inl ⟨by rfl, ?_⟩) ?_ ?_
        rotate_left
        · intro w'
          go_simp
          with_reducible rfl
        rotate_left
        · simp only [Act.put, List.setIfInBounds_toArray, List.set_cons_zero, List.set_cons_succ, i64_w, i32_w]
          rfl
        refine take_ (i := 12) (N := some 44) (v := ?_) (a' := ?_) #[true, true, true, true, true, true, true, true, true, true, true, true, true, false, false, false, false, false, false] rfl rfl (by kernel_rfl) (fun _ _ _ h => h) (Or.inl ⟨by rfl, ?_⟩) hHeld ?_ ?_
        rotate_left
        · rintro w' ⟨s0, s1⟩
          go_simp
          with_reducible rfl
        rotate_left
        · simp only [Act.put, List.setIfInBounds_toArray, List.set_cons_zero, List.set_cons_succ, i64_w, i32_w]
          rfl
        refine pure_ (i := 13) (N := some 45) (v := ?_) (a' := ?_) #[true, true, true, true, true, true, true, true, true, true, true, true, true, true, false, false, false, false, false] rfl rfl (by kernel_rfl) (fun _ _ _ h => h) (Or.inl ⟨by rfl, ?_⟩) ?_ ?_
        rotate_left
        · intro w'
          go_simp
          with_reducible rfl
        rotate_left
        · simp only [Act.put, List.setIfInBounds_toArray, List.set_cons_zero, List.set_cons_succ, i64_w, i32_w]
          rfl
        refine pure_ (i := 14) (N := some 46) (v := ?_) (a' := ?_) #[true, true, true, true, true, true, true, true, true, true, true, true, true, true, true, false, false, false, false] rfl rfl (by kernel_rfl) (fun _ _ _ h => h) (Or.inl ⟨by rfl, ?_⟩) ?_ ?_
        rotate_left
        · intro w'
          go_simp
          with_reducible rfl
        rotate_left
        · simp only [Act.put, List.setIfInBounds_toArray, List.set_cons_zero, List.set_cons_succ, i64_w, i32_w]
          rfl
        refine pure_ (i := 15) (N := some 47) (v := ?_) (a' := ?_) #[true, true, true, true, true, true, true, true, true, true, true, true, true, true, true, true, false, false, false] rfl rfl (by kernel_rfl) (fun _ _ _ h => h) (Or.inl ⟨by rfl, ?_⟩) ?_ ?_
        rotate_left
        · intro w'
          go_simp
          with_reducible rfl
        rotate_left
        · simp only [Act.put, List.setIfInBounds_toArray, List.set_cons_zero, List.set_cons_succ, i64_w, i32_w]
          rfl
        refine pure_ (i := 16) (N := some 48) (v := ?_) (a' := ?_) #[true, true, true, true, true, true, true, true, true, true, true, true, true, true, true, true, true, false, false] rfl rfl (by kernel_rfl) (fun _ _ _ h => h) (Or.inl ⟨by rfl, ?_⟩) ?_ ?_
        rotate_left
        · intro w'
          go_simp
          with_reducible rfl
        rotate_left
        · simp only [Act.put, List.setIfInBounds_toArray, List.set_cons_zero, List.set_cons_succ, i64_w, i32_w]
          rfl
        rw [HW.out]
        refine pure_ (i := 17) (N := some 49) (v := ?_) (a' := ?_) #[true, true, true, true, true, true, true, true, true, true, true, true, true, true, true, true, true, true, false] rfl rfl (by kernel_rfl) (fun _ _ _ h => h) (Or.inl ⟨by rfl, ?_⟩) ?_ ?_
        rotate_left
        · intro w'
          go_simp
          with_reducible rfl
        rotate_left
        · simp only [Act.put, List.setIfInBounds_toArray, List.set_cons_zero, List.set_cons_succ, i64_w, i32_w]
          rfl
        refine one_ (i := 18) (N := some 50) #[true, true, true, true, true, true, true, true, true, true, true, true, true, true, true, true, true, true, true] rfl rfl (by kernel_rfl) (by decide) (fun K hK => ?_)
        have hcl := crashN_length HD.out.ls HD.out.ln HKN.out (P := P) i
        obtain ⟨w4, hcp, hB, hT⟩ := cp_step HD3.out.hs ((nw.drop q).take kp) q ⟨bn, q, none⟩ kp (n - q) kp (n - q) 3 (by rw [hcl, List.length_take, List.length_drop, HD.out.ln]; omega) (by rw [List.length_take, List.length_drop, HD.out.ln]; show min _ _ = min _ _; omega) (HD3.out.hn.src q (fun j x hx => jd_sub hx))
        have HB4 := Aside0.mk hB
        have HT4 := Aside0.mk hT
        clear hB hT
        refine value_ (w1 := ?_) (v := ?_) (by rfl) rfl ?_ ?_
        rotate_left 2
        · go_simp
          constructor
          · rfl
          · rfl
        clear hcp
        have ec : crashN st nw ks P (i + 1) = splice (crashN st nw ks P i) q ((nw.drop q).take kp) := by
          show (match ks[i]? with | some b => splice (crashN st nw ks P i) (b * 64) ((nw.drop (b * 64)).take (keepN P i)) | none => crashN st nw ks P i) = _
          rw [HBB.out, ← HQ.out.1, ← HQ.out.2.1]
        have HD4 := Aside0.mk (show Dk w4 bd bs bn bm n (crashN st nw ks P (i + 1)) nw N D from
          have h := HD3.out
          ⟨HT4.out.blk h.hd (fun q => by obtain ⟨r, hr⟩ := h.hs; exact ty_ne (q ▸ h.hd) hr (by decide)), by rw [ec]; exact HB4.out, h.hn.turn HT4.out (fun q => h.ne q.symm), crashN_length HD.out.ls HD.out.ln HKN.out (i + 1), h.ln, h.ne, by
            obtain ⟨m, h1, es, cl, h2, h3⟩ := h.hm
            exact ⟨m, h1, es, cl, HT4.out.blk h2 (fun q => by obtain ⟨r, hr⟩ := h.hs; rw [q] at h2; rw [hr] at h2; cases h2), h3⟩⟩)
        have T4 := Aside0.mk (T3.out.trans HT4.out)
        refine hK.out _ _ ⟨HD4.out.cells.1, HD4.out.cells.2.1⟩ (fun hHeld => ?_)
        clear hK K ec HT4 HB4 T3 HD3
        refine norm_ (a' := ?_) ?_ ?_
        rotate_left
        · show Act.put _ (some 50) _ = _
          simp only [Act.put, List.setIfInBounds_toArray, List.set_cons_zero, List.set_cons_succ, i64_w, i32_w]
          rfl
        refine done_ (by kernel_rfl) ?_
        clear hHeld
        go_wp2_with fail
        exact ⟨⟨i + 1, rfl, ⟨by omega, HD4.out, T4.out⟩⟩, by simp [intOf]; omega⟩
    · have ci2 : ¬ (↑i : Int) < ↑ks.length := by omega
      go_wp2_with fail
      obtain ⟨h1, h2, h3⟩ := HX.out
      obtain rfl : i = ks.length := by omega
      have HD5 := Aside0.mk (h2.below (below_drew1 (Below.refl wr.heap.size wr)))
      have T5 : Aside0 (Tn (fun k => k = bs ∨ k = bn ∨ k = bm) w wr.drew) := ⟨(T2.out.trans h3).mono (fun k _ q => Or.inl q) |>.trans (Tn.of_below (below_drew1 (Below.refl wr.heap.size wr)))⟩
      refine start_ (n := 9) (S := fun w' => w'.cell? ⟨bd, 0, none⟩ = some (.slice (some ⟨bs, 0, none⟩) n n) ∧ w'.cell? ⟨bd, 1, none⟩ = some (.slice (some ⟨bn, 0, none⟩) n n)) (ds := []) #[false, false, false, false, false, false, false, false, false] (by kernel_rfl) rfl rfl ⟨c0, c1⟩ (fun hHeld => ?_)
      generalize wr.drew = w5 at hHeld HD5 T5 ⊢
      clear c0 c1 c2 h2 h3
      obtain ⟨sx, hsx⟩ : ∃ sx, crashN st nw ks P ks.length = sx := ⟨_, rfl⟩
      rw [hsx] at HD5
      refine pure_ (i := 0) (N := some 52) (v := ?_) (a' := ?_) #[true, false, false, false, false, false, false, false, false] rfl rfl (by kernel_rfl) (fun _ _ _ h => h) (Or.inl ⟨by rfl, ?_⟩) ?_ ?_
      rotate_left
      · intro w'
        go_simp
        with_reducible rfl
      rotate_left
      · simp only [Act.put, List.setIfInBounds_toArray, List.set_cons_zero, List.set_cons_succ, i64_w, i32_w]
        rfl
      refine pure_ (i := 1) (N := some 53) (v := ?_) (a' := ?_) #[true, true, false, false, false, false, false, false, false] rfl rfl (by kernel_rfl) (fun _ _ _ h => h) (Or.inl ⟨by rfl, ?_⟩) ?_ ?_
      rotate_left
      · intro w'
        go_simp
        with_reducible rfl
      rotate_left
      · simp only [Act.put, List.setIfInBounds_toArray, List.set_cons_zero, List.set_cons_succ, i64_w, i32_w]
        rfl
      refine pure_ (i := 2) (N := some 54) (v := ?_) (a' := ?_) #[true, true, true, false, false, false, false, false, false] rfl rfl (by kernel_rfl) (fun _ _ _ h => h) (Or.inl ⟨by rfl, ?_⟩) ?_ ?_
      rotate_left
      · intro w'
        go_simp
        with_reducible rfl
      rotate_left
      · simp only [Act.put, List.setIfInBounds_toArray, List.set_cons_zero, List.set_cons_succ, i64_w, i32_w]
        rfl
      refine take_ (i := 3) (N := some 55) (v := ?_) (a' := ?_) #[true, true, true, true, false, false, false, false, false] rfl rfl (by kernel_rfl) (fun _ _ _ h => h) (Or.inl ⟨by rfl, ?_⟩) hHeld ?_ ?_
      rotate_left
      · rintro w' ⟨s0, s1⟩
        go_simp
        with_reducible rfl
      rotate_left
      · simp only [Act.put, List.setIfInBounds_toArray, List.set_cons_zero, List.set_cons_succ, i64_w, i32_w]
        rfl
      refine pure_ (i := 4) (N := some 56) (v := ?_) (a' := ?_) #[true, true, true, true, true, false, false, false, false] rfl rfl (by kernel_rfl) (fun _ _ _ h => h) (Or.inl ⟨by rfl, ?_⟩) ?_ ?_
      rotate_left
      · intro w'
        go_simp
        with_reducible rfl
      rotate_left
      · simp only [Act.put, List.setIfInBounds_toArray, List.set_cons_zero, List.set_cons_succ, i64_w, i32_w]
        rfl
      refine pure_ (i := 5) (N := some 57) (v := ?_) (a' := ?_) #[true, true, true, true, true, true, false, false, false] rfl rfl (by kernel_rfl) (fun _ _ _ h => h) (Or.inl ⟨by rfl, ?_⟩) ?_ ?_
      rotate_left
      · intro w'
        go_simp
        with_reducible rfl
      rotate_left
      · simp only [Act.put, List.setIfInBounds_toArray, List.set_cons_zero, List.set_cons_succ, i64_w, i32_w]
        rfl
      refine pure_ (i := 6) (N := some 58) (v := ?_) (a' := ?_) #[true, true, true, true, true, true, true, false, false] rfl rfl (by kernel_rfl) (fun _ _ _ h => h) (Or.inl ⟨by rfl, ?_⟩) ?_ ?_
      rotate_left
      · intro w'
        go_simp
        with_reducible rfl
      rotate_left
      · simp only [Act.put, List.setIfInBounds_toArray, List.set_cons_zero, List.set_cons_succ, i64_w, i32_w]
        rfl
      refine take_ (i := 7) (N := some 59) (v := ?_) (a' := ?_) #[true, true, true, true, true, true, true, true, false] rfl rfl (by kernel_rfl) (fun _ _ _ h => h) (Or.inl ⟨by rfl, ?_⟩) hHeld ?_ ?_
      rotate_left
      · rintro w' ⟨s0, s1⟩
        go_simp
        with_reducible rfl
      rotate_left
      · simp only [Act.put, List.setIfInBounds_toArray, List.set_cons_zero, List.set_cons_succ, i64_w, i32_w]
        rfl
      refine one_ (i := 8) (N := some 60) #[true, true, true, true, true, true, true, true, true] rfl rfl (by kernel_rfl) (by decide) (fun K hK => ?_)
      obtain ⟨w6, hcp, hB, hT⟩ := cp_step HD5.out.hn sx 0 ⟨bs, 0, none⟩ n n n n 3 (by rw [HD5.out.ls, HD5.out.ln]; omega) (by rw [HD5.out.ls]; exact (Nat.min_self n).symm) HD5.out.hs.src0
      rw [splice_all (HD5.out.ln.trans HD5.out.ls.symm)] at hB
      have HB6 := Aside0.mk hB
      have HT6 := Aside0.mk hT
      clear hB hT
      refine value_ (w1 := ?_) (v := ?_) (by rfl) rfl ?_ ?_
      rotate_left 2
      · go_simp
        constructor
        · rfl
        · rfl
      clear hcp
      have HD6 := Aside0.mk (show Dk w6 bd bs bn bm n sx sx N D from
        have h := HD5.out
        ⟨HT6.out.blk h.hd (fun q => by obtain ⟨r, hr⟩ := h.hn; exact ty_ne (q ▸ h.hd) hr (by decide)), h.hs.turn HT6.out (fun q => h.ne q), HB6.out, h.ls, h.ls, h.ne, by
          obtain ⟨m, h1, es, cl, h2, h3⟩ := h.hm
          exact ⟨m, h1, es, cl, HT6.out.blk h2 (fun q => by obtain ⟨r, hr⟩ := h.hn; rw [q] at h2; rw [hr] at h2; cases h2), h3⟩⟩)
      have T6 : Aside0 (Tn (fun k => k = bs ∨ k = bn ∨ k = bm) w w6) := ⟨T5.out.trans (HT6.out.mono (fun k _ q => Or.inr (Or.inl q)))⟩
      obtain ⟨c0, c1, c2⟩ := HD6.out.cells
      refine hK.out _ _ ⟨c0, c1⟩ (fun hHeld => ?_)
      clear hK K
      refine norm_ (a' := ?_) ?_ ?_
      rotate_left
      · show Act.put _ (some 60) _ = _
        simp only [Act.put, List.setIfInBounds_toArray, List.set_cons_zero, List.set_cons_succ, i64_w, i32_w]
        rfl
      refine done_ (by kernel_rfl) ?_
      clear hHeld
      obtain ⟨es, cl, hmap⟩ := HD6.out.map
      obtain ⟨w7, hcl, hM, hT7⟩ := cl_step hmap 0
      go_wp2
      refine bodyPost_end (v := .tuple #[]) (by simp [results, Try.results30, go_sem]) rfl ⟨rfl, ?_, T6.out.trans (hT7.mono (fun k _ q => Or.inr (Or.inr q)))⟩
      have h := HD6.out
      have x1 : bd ≠ bm := fun q => by have := h.hd; rw [q, hmap] at this; cases this
      have x2 : bs ≠ bm := fun q => by obtain ⟨r, hr⟩ := h.hs; rw [q, hmap] at hr; cases hr
      have x3 : bn ≠ bm := fun q => by obtain ⟨r, hr⟩ := h.hn; rw [q, hmap] at hr; cases hr
      rw [hsx]
      exact ⟨hT7.blk h.hd x1, h.hs.turn hT7 x2, h.hn.turn hT7 x3, h.ls, h.ls, h.ne, 0, Nat.zero_le _, #[], cl, hM, ⟨by simp, Go.MapKept.stamped_empty cl, by simp⟩, Nat.le_refl _, rfl⟩

end Go.Proofs.Ythblaehmdailhaa.PJournalStays
