import Derived.Test.YthblaehmdailhaaJM
namespace Go.Proofs.Ythblaehmdailhaa.PJournalStays
open Go.RowKit Go.Proofs.YthblaehmdailhaaW.PrintWords Go.Proofs.YthblaehmdailhaaW.PrintLast Go.Proofs.YthblaehmdailhaaW.PrintMore
set_option linter.unusedVariables false
set_option linter.unusedSimpArgs false
attribute [local go_sem high] slEq slNe slEq0 slNe0
theorem splice_nil (a : List Int) (at_ : Nat) (h : at_ ≤ a.length) : splice a at_ [] = a := by
  unfold splice
  rw [List.nil_append, List.length_nil, Nat.add_zero, List.take_append_drop]
theorem splice_snoc (a l : List Int) (at_ i : Nat) (x : Int) (hx : l[i]? = some x) (h : at_ + l.length ≤ a.length) : (splice a at_ (l.take i)).set (at_ + i) x = splice a at_ (l.take (i + 1)) := by
  have hi : i < l.length := (List.getElem?_eq_some_iff.1 hx).1
  have e1 : (l.take i).length = i := by rw [List.length_take]; omega
  have e2 : (l.take (i + 1)).length = i + 1 := by rw [List.length_take]; omega
  have e3 : (a.take at_).length = at_ := by rw [List.length_take]; omega
  unfold splice
  rw [e1, e2, List.take_add_one, hx]
  rw [List.set_append_right _ _ (by omega), e3, Nat.add_sub_cancel_left, List.set_append_right _ _ (by omega), e1, Nat.sub_self]
  rw [List.drop_eq_getElem_cons (show at_ + i < a.length by omega)]
  simp [Nat.add_assoc]
set_option maxHeartbeats 1000000 in
set_option maxRecDepth 100000 in
theorem jm_write {w : World} {md ms mn mb n nb : Nat} {st nw : List Int} (h : Md w md ms mn mb n nb st nw) (hn : n ≤ 65536) (at_ : Nat) (A : Option Addr) (l : List Int) (cap : Nat) (hs : 0 < l.length → ∀ ad, A = some ad → Src w ad l ∧ ad.block ≠ mn ∧ ad.block ≠ mb) (hA : 0 < l.length → ∃ ad, A = some ad) (hf : at_ + l.length ≤ n) :
    Calls Try.prog 18 #[.pointer (some ⟨md, 0, none⟩), .int .i64 ↑at_, .slice A l.length cap] w fun e w' => e = .returned (.tuple #[]) ∧ Md w' md ms mn mb n nb st (splice nw at_ l) ∧ Tn (fun k => k = mn ∨ k = mb) w w' := by
  have HD := Aside0.mk h
  have HS := Aside0.mk hs
  have HA := Aside0.mk hA
  clear h hs hA
  go_enter Try.func18, Try.ntmps18
  go_wp2_with fail
  go_loopw [6] (fun v6 wr => ∃ i : Nat, v6 = .int .i64 ↑i ∧ Aside0 (i ≤ l.length ∧ Md wr md ms mn mb n nb st (splice nw at_ (l.take i)) ∧ Tn (fun k => k = mn ∨ k = mb) w wr)) (fun v6 _ => (l.length - intOf v6).toNat)
  case atStart => exact ⟨0, rfl, ⟨Nat.zero_le _, by rw [List.take_zero, splice_nil _ _ (by rw [HD.out.ln]; omega)]; exact HD.out, Tn.refl _ _⟩⟩
  case round =>
    obtain ⟨i, rfl, HX⟩ := hrel
    by_cases ci : i < l.length
    · have ci2 : (↑i : Int) < ↑l.length := by omega
      have i0' : (0 : Int) ≤ ↑i := by omega
      obtain ⟨ad, rfl⟩ := HA.out (by omega)
      obtain ⟨hsr, hb1, hb2⟩ := HS.out (by omega) ad rfl
      obtain ⟨x, hx⟩ : ∃ x, l[i]? = some x := ⟨l[i], List.getElem?_eq_getElem ci⟩
      have cb := (hsr.turn HX.out.2.2 (fun q => by rcases q with q | q; exact hb1 q; exact hb2 q)) i x hx
      have cm := HX.out.2.1.cells.2.1
      have HXX := Aside0.mk hx
      clear hx hsr hb1 hb2
      go_wp2_with fail
      have MX := Aside0.mk (HX.out.2.1.below (below_drew1 (Below.refl wr.heap.size wr)))
      have TX := Aside0.mk (HX.out.2.2.trans (Tn.of_below (below_drew1 (Below.refl wr.heap.size wr))))
      obtain ⟨q, hq⟩ : ∃ q, at_ + i = q := ⟨_, rfl⟩
      have HQ := Aside0.mk hq
      have hw1 : wrap64 (↑at_ + ↑i) = (↑q : Int) := by unfold wrap64; omega
      have HW1 := Aside0.mk hw1
      clear hw1
      refine start_ (n := 13) (S := fun w' => w'.cell? ⟨md, 1, none⟩ = some (.slice (some ⟨mn, 0, none⟩) n n) ∧ w'.cell? (ad.add i) = some (.int .u8 x)) (ds := [12]) #[false, false, false, false, false, false, false, false, false, false, false, false, false] (by kernel_rfl) rfl rfl ⟨cm, cb⟩ (fun hHeld => ?_)
      generalize wr.drew = wd at hHeld MX TX ⊢
      clear cm cb
      have j0 : (0 : Int) ≤ ↑q := by omega
      have j1 : (↑q : Int) < ↑n := by omega
      clear hq
      refine pure_ (i := 0) (N := some 13) (v := ?_) (a' := ?_) #[true, false, false, false, false, false, false, false, false, false, false, false, false] rfl rfl (by kernel_rfl) (fun _ _ _ h => h) (Or.inl ⟨by rfl, ?_⟩) ?_ ?_
      rotate_left
      · intro w'
        go_simp
        with_reducible rfl
      rotate_left
      · simp only [Act.put, List.setIfInBounds_toArray, List.set_cons_zero, List.set_cons_succ, i64_w, i32_w]
        rfl
      refine pure_ (i := 1) (N := some 14) (v := ?_) (a' := ?_) #[true, true, false, false, false, false, false, false, false, false, false, false, false] rfl rfl (by kernel_rfl) (fun _ _ _ h => h) (Or.inl ⟨by rfl, ?_⟩) ?_ ?_
      rotate_left
      · intro w'
        go_simp
        with_reducible rfl
      rotate_left
      · simp only [Act.put, List.setIfInBounds_toArray, List.set_cons_zero, List.set_cons_succ, i64_w, i32_w]
        rfl
      refine pure_ (i := 2) (N := some 15) (v := ?_) (a' := ?_) #[true, true, true, false, false, false, false, false, false, false, false, false, false] rfl rfl (by kernel_rfl) (fun _ _ _ h => h) (Or.inl ⟨by rfl, ?_⟩) ?_ ?_
      rotate_left
      · intro w'
        go_simp
        with_reducible rfl
      rotate_left
      · simp only [Act.put, List.setIfInBounds_toArray, List.set_cons_zero, List.set_cons_succ, i64_w, i32_w]
        rfl
      refine take_ (i := 3) (N := some 16) (v := ?_) (a' := ?_) #[true, true, true, true, false, false, false, false, false, false, false, false, false] rfl rfl (by kernel_rfl) (fun _ _ _ h => h) (Or.inl ⟨by rfl, ?_⟩) hHeld ?_ ?_
      rotate_left
      · rintro w' ⟨s0, s1⟩
        go_simp
        with_reducible rfl
      rotate_left
      · simp only [Act.put, List.setIfInBounds_toArray, List.set_cons_zero, List.set_cons_succ, i64_w, i32_w]
        rfl
      refine pure_ (i := 4) (N := some 17) (v := ?_) (a' := ?_) #[true, true, true, true, true, false, false, false, false, false, false, false, false] rfl rfl (by kernel_rfl) (fun _ _ _ h => h) (Or.inl ⟨by rfl, ?_⟩) ?_ ?_
      rotate_left
      · intro w'
        go_simp
        with_reducible rfl
      rotate_left
      · simp only [Act.put, List.setIfInBounds_toArray, List.set_cons_zero, List.set_cons_succ, i64_w, i32_w]
        rfl
      refine pure_ (i := 5) (N := some 18) (v := ?_) (a' := ?_) #[true, true, true, true, true, true, false, false, false, false, false, false, false] rfl rfl (by kernel_rfl) (fun _ _ _ h => h) (Or.inl ⟨by rfl, ?_⟩) ?_ ?_
      rotate_left
      · intro w'
        go_simp
        with_reducible rfl
      rotate_left
      · simp only [Act.put, List.setIfInBounds_toArray, List.set_cons_zero, List.set_cons_succ, i64_w, i32_w]
        rfl
      refine pure_ (i := 6) (N := some 19) (v := ?_) (a' := ?_) #[true, true, true, true, true, true, true, false, false, false, false, false, false] rfl rfl (by kernel_rfl) (fun _ _ _ h => h) (Or.inl ⟨by rfl, ?_⟩) ?_ ?_
      rotate_left
      · intro w'
        go_simp
        with_reducible rfl
      rotate_left
      · simp only [Act.put, List.setIfInBounds_toArray, List.set_cons_zero, List.set_cons_succ, i64_w, i32_w]
        rfl
      rw [HW1.out]
      refine pure_ (i := 7) (N := some 20) (v := ?_) (a' := ?_) #[true, true, true, true, true, true, true, true, false, false, false, false, false] rfl rfl (by kernel_rfl) (fun _ _ _ h => h) (Or.inl ⟨by rfl, ?_⟩) ?_ ?_
      rotate_left
      · intro w'
        go_simp
        with_reducible rfl
      rotate_left
      · simp only [Act.put, List.setIfInBounds_toArray, List.set_cons_zero, List.set_cons_succ, i64_w, i32_w]
        rfl
      refine pure_ (i := 8) (N := some 21) (v := ?_) (a' := ?_) #[true, true, true, true, true, true, true, true, true, false, false, false, false] rfl rfl (by kernel_rfl) (fun _ _ _ h => h) (Or.inl ⟨by rfl, ?_⟩) ?_ ?_
      rotate_left
      · intro w'
        go_simp
        with_reducible rfl
      rotate_left
      · simp only [Act.put, List.setIfInBounds_toArray, List.set_cons_zero, List.set_cons_succ, i64_w, i32_w]
        rfl
      refine pure_ (i := 9) (N := some 22) (v := ?_) (a' := ?_) #[true, true, true, true, true, true, true, true, true, true, false, false, false] rfl rfl (by kernel_rfl) (fun _ _ _ h => h) (Or.inl ⟨by rfl, ?_⟩) ?_ ?_
      rotate_left
      · intro w'
        go_simp
        with_reducible rfl
      rotate_left
      · simp only [Act.put, List.setIfInBounds_toArray, List.set_cons_zero, List.set_cons_succ, i64_w, i32_w]
        rfl
      refine take_ (i := 10) (N := some 23) (v := ?_) (a' := ?_) #[true, true, true, true, true, true, true, true, true, true, true, false, false] rfl rfl (by kernel_rfl) (fun _ _ _ h => h) (Or.inl ⟨by rfl, ?_⟩) hHeld ?_ ?_
      rotate_left
      · rintro w' ⟨s0, s1⟩
        go_simp
        with_reducible rfl
      rotate_left
      · simp only [Act.put, List.setIfInBounds_toArray, List.set_cons_zero, List.set_cons_succ, i64_w, i32_w]
        rfl
      refine pure_ (i := 11) (N := some 24) (v := ?_) (a' := ?_) #[true, true, true, true, true, true, true, true, true, true, true, true, false] rfl rfl (by kernel_rfl) (fun _ _ _ h => h) (Or.inl ⟨by rfl, ?_⟩) ?_ ?_
      rotate_left
      · intro w'
        go_simp
        with_reducible rfl
      rotate_left
      · simp only [Act.put, List.setIfInBounds_toArray, List.set_cons_zero, List.set_cons_succ, i64_w, i32_w]
        rfl
      obtain ⟨s0, s1⟩ := hHeld
      have f := MX.out.hn.fz q
      obtain ⟨y, hy⟩ : ∃ y, (splice nw at_ (l.take i))[q]? = some y := ⟨_, List.getElem?_eq_getElem (by rw [MX.out.ln]; omega)⟩
      have c := MX.out.hn.cell hy
      refine last_ (i := 12) (N := none) #[true, true, true, true, true, true, true, true, true, true, true, true, true] rfl rfl (by kernel_rfl) (by decide) (fun K hK => ?_)
      go_simp
      refine hK.out _ _ ?_
      clear hK K hy
      refine done_ (by kernel_rfl) ?_
      have M3 := Aside0.mk (MX.out.setn (i := q) (by omega) x)
      have T3 := Aside0.mk (TX.out.trans ((tn_set wd mn q (.int .u8 x)).mono (S' := fun k => k = mn ∨ k = mb) (fun k _ q => Or.inl q)))
      generalize wd.setCell ⟨mn, q, none⟩ (.int .u8 x) = w3 at M3 T3 ⊢
      clear s0 s1 f c j0 j1
      have c2 := M3.out.cells.2.2
      have hnn := M3.out.nn
      have g0 : (0 : Int) ≤ (↑at_ + ↑i) / 64 := by omega
      have g1 : (↑at_ + ↑i : Int) / 64 < ↑nb := by omega
      obtain ⟨jb, hjb⟩ : ∃ jb : Nat, (↑at_ + ↑i : Int) / 64 = ↑jb := ⟨((↑at_ + ↑i : Int) / 64).toNat, by omega⟩
      have p0 : (0 : Int) ≤ ↑at_ + ↑i := by omega
      obtain ⟨⟨b, cb⟩, fb⟩ := M3.out.bcell (i := jb) (by omega)
      clear hnn
      go_wp2_with fail
      refine ⟨⟨i + 1, rfl, ⟨by omega, ?_, T3.out.trans ((tn_set w3 mb jb (.bool true)).mono (fun k _ q => Or.inr q))⟩⟩, by simp [intOf]; omega⟩
      rw [← splice_snoc nw l at_ i x HXX.out (by rw [HD.out.ln]; omega), HQ.out]
      exact M3.out.setb jb true

    · have ci2 : ¬ (↑i : Int) < ↑l.length := by omega
      go_wp2_with fail
      refine bodyPost_end (v := .tuple #[]) (by simp [results, Try.results18, go_sem]) rfl ?_
      obtain ⟨h1, h2, h3⟩ := HX.out
      rw [List.take_of_length_le (by omega)] at h2
      exact ⟨rfl, h2, h3⟩
set_option maxHeartbeats 1000000 in
set_option maxRecDepth 100000 in
theorem jm_settle {w : World} {md ms mn mb n nb : Nat} {st nw : List Int} (h : Md w md ms mn mb n nb st nw) (hn : n ≤ 65536) : Calls Try.prog 39 #[.pointer (some ⟨md, 0, none⟩)] w fun e w' => e = .returned (.tuple #[]) ∧ Md w' md ms mn mb n nb st st ∧ Tn (fun k => k = mn ∨ k = mb) w w' := by
  have HD := Aside0.mk h
  clear h
  go_enter Try.func39, Try.ntmps39
  go_wp2_with fail
  go_loopw [2] (fun v2 wr => ∃ i : Nat, v2 = .int .i64 ↑i ∧ Aside0 (i ≤ n ∧ Md wr md ms mn mb n nb st (splice nw 0 (st.take i)) ∧ Tn (fun k => k = mn ∨ k = mb) w wr)) (fun v2 _ => (n - intOf v2).toNat)
  case atStart => exact ⟨0, rfl, ⟨Nat.zero_le _, by rw [List.take_zero, splice_nil _ _ (by omega)]; exact HD.out, Tn.refl _ _⟩⟩
  case round =>
    obtain ⟨i, rfl, HX⟩ := hrel
    have c0 := HX.out.2.1.cells.1
    have c1 := HX.out.2.1.cells.2.1
    by_cases ci : i < n
    · have ci2 : (↑i : Int) < ↑n := by omega
      have i0' : (0 : Int) ≤ ↑i := by omega
      obtain ⟨x, hx⟩ : ∃ x, st[i]? = some x := ⟨_, List.getElem?_eq_getElem (by rw [HD.out.ls]; exact ci)⟩
      have cb := HX.out.2.1.hs.cell hx
      have HXX := Aside0.mk hx
      clear hx
      go_wp2_with fail
      have MX := Aside0.mk (HX.out.2.1.below (below_drew1 (Below.refl wr.heap.size wr)))
      have TX := Aside0.mk (HX.out.2.2.trans (Tn.of_below (below_drew1 (Below.refl wr.heap.size wr))))
      refine start_ (n := 14) (S := fun w' => w'.cell? ⟨md, 1, none⟩ = some (.slice (some ⟨mn, 0, none⟩) n n) ∧ w'.cell? ⟨md, 0, none⟩ = some (.slice (some ⟨ms, 0, none⟩) n n) ∧ w'.cell? ⟨ms, i, none⟩ = some (.int .u8 x)) (ds := [13]) #[false, false, false, false, false, false, false, false, false, false, false, false, false, false] (by kernel_rfl) rfl rfl ⟨c1, c0, cb⟩ (fun hHeld => ?_)
      generalize wr.drew = wd at hHeld MX TX ⊢
      clear c0 c1 cb
      refine pure_ (i := 0) (N := some 13) (v := ?_) (a' := ?_) #[true, false, false, false, false, false, false, false, false, false, false, false, false, false] rfl rfl (by kernel_rfl) (fun _ _ _ h => h) (Or.inl ⟨by rfl, ?_⟩) ?_ ?_
      rotate_left
      · intro w'
        go_simp
        with_reducible rfl
      rotate_left
      · simp only [Act.put, List.setIfInBounds_toArray, List.set_cons_zero, List.set_cons_succ, i64_w, i32_w]
        rfl
      refine pure_ (i := 1) (N := some 14) (v := ?_) (a' := ?_) #[true, true, false, false, false, false, false, false, false, false, false, false, false, false] rfl rfl (by kernel_rfl) (fun _ _ _ h => h) (Or.inl ⟨by rfl, ?_⟩) ?_ ?_
      rotate_left
      · intro w'
        go_simp
        with_reducible rfl
      rotate_left
      · simp only [Act.put, List.setIfInBounds_toArray, List.set_cons_zero, List.set_cons_succ, i64_w, i32_w]
        rfl
      refine pure_ (i := 2) (N := some 15) (v := ?_) (a' := ?_) #[true, true, true, false, false, false, false, false, false, false, false, false, false, false] rfl rfl (by kernel_rfl) (fun _ _ _ h => h) (Or.inl ⟨by rfl, ?_⟩) ?_ ?_
      rotate_left
      · intro w'
        go_simp
        with_reducible rfl
      rotate_left
      · simp only [Act.put, List.setIfInBounds_toArray, List.set_cons_zero, List.set_cons_succ, i64_w, i32_w]
        rfl
      refine take_ (i := 3) (N := some 16) (v := ?_) (a' := ?_) #[true, true, true, true, false, false, false, false, false, false, false, false, false, false] rfl rfl (by kernel_rfl) (fun _ _ _ h => h) (Or.inl ⟨by rfl, ?_⟩) hHeld ?_ ?_
      rotate_left
      · rintro w' ⟨s0, s1, s2⟩
        go_simp
        with_reducible rfl
      rotate_left
      · simp only [Act.put, List.setIfInBounds_toArray, List.set_cons_zero, List.set_cons_succ, i64_w, i32_w]
        rfl
      refine pure_ (i := 4) (N := some 17) (v := ?_) (a' := ?_) #[true, true, true, true, true, false, false, false, false, false, false, false, false, false] rfl rfl (by kernel_rfl) (fun _ _ _ h => h) (Or.inl ⟨by rfl, ?_⟩) ?_ ?_
      rotate_left
      · intro w'
        go_simp
        with_reducible rfl
      rotate_left
      · simp only [Act.put, List.setIfInBounds_toArray, List.set_cons_zero, List.set_cons_succ, i64_w, i32_w]
        rfl
      refine pure_ (i := 5) (N := some 18) (v := ?_) (a' := ?_) #[true, true, true, true, true, true, false, false, false, false, false, false, false, false] rfl rfl (by kernel_rfl) (fun _ _ _ h => h) (Or.inl ⟨by rfl, ?_⟩) ?_ ?_
      rotate_left
      · intro w'
        go_simp
        with_reducible rfl
      rotate_left
      · simp only [Act.put, List.setIfInBounds_toArray, List.set_cons_zero, List.set_cons_succ, i64_w, i32_w]
        rfl
      refine pure_ (i := 6) (N := some 19) (v := ?_) (a' := ?_) #[true, true, true, true, true, true, true, false, false, false, false, false, false, false] rfl rfl (by kernel_rfl) (fun _ _ _ h => h) (Or.inl ⟨by rfl, ?_⟩) ?_ ?_
      rotate_left
      · intro w'
        go_simp
        with_reducible rfl
      rotate_left
      · simp only [Act.put, List.setIfInBounds_toArray, List.set_cons_zero, List.set_cons_succ, i64_w, i32_w]
        rfl
      refine pure_ (i := 7) (N := some 20) (v := ?_) (a' := ?_) #[true, true, true, true, true, true, true, true, false, false, false, false, false, false] rfl rfl (by kernel_rfl) (fun _ _ _ h => h) (Or.inl ⟨by rfl, ?_⟩) ?_ ?_
      rotate_left
      · intro w'
        go_simp
        with_reducible rfl
      rotate_left
      · simp only [Act.put, List.setIfInBounds_toArray, List.set_cons_zero, List.set_cons_succ, i64_w, i32_w]
        rfl
      refine take_ (i := 8) (N := some 21) (v := ?_) (a' := ?_) #[true, true, true, true, true, true, true, true, true, false, false, false, false, false] rfl rfl (by kernel_rfl) (fun _ _ _ h => h) (Or.inl ⟨by rfl, ?_⟩) hHeld ?_ ?_
      rotate_left
      · rintro w' ⟨s0, s1, s2⟩
        go_simp
        with_reducible rfl
      rotate_left
      · simp only [Act.put, List.setIfInBounds_toArray, List.set_cons_zero, List.set_cons_succ, i64_w, i32_w]
        rfl
      refine pure_ (i := 9) (N := some 22) (v := ?_) (a' := ?_) #[true, true, true, true, true, true, true, true, true, true, false, false, false, false] rfl rfl (by kernel_rfl) (fun _ _ _ h => h) (Or.inl ⟨by rfl, ?_⟩) ?_ ?_
      rotate_left
      · intro w'
        go_simp
        with_reducible rfl
      rotate_left
      · simp only [Act.put, List.setIfInBounds_toArray, List.set_cons_zero, List.set_cons_succ, i64_w, i32_w]
        rfl
      refine pure_ (i := 10) (N := some 23) (v := ?_) (a' := ?_) #[true, true, true, true, true, true, true, true, true, true, true, false, false, false] rfl rfl (by kernel_rfl) (fun _ _ _ h => h) (Or.inl ⟨by rfl, ?_⟩) ?_ ?_
      rotate_left
      · intro w'
        go_simp
        with_reducible rfl
      rotate_left
      · simp only [Act.put, List.setIfInBounds_toArray, List.set_cons_zero, List.set_cons_succ, i64_w, i32_w]
        rfl
      refine take_ (i := 11) (N := some 24) (v := ?_) (a' := ?_) #[true, true, true, true, true, true, true, true, true, true, true, true, false, false] rfl rfl (by kernel_rfl) (fun _ _ _ h => h) (Or.inl ⟨by rfl, ?_⟩) hHeld ?_ ?_
      rotate_left
      · rintro w' ⟨s0, s1, s2⟩
        go_simp
        with_reducible rfl
      rotate_left
      · simp only [Act.put, List.setIfInBounds_toArray, List.set_cons_zero, List.set_cons_succ, i64_w, i32_w]
        rfl
      refine pure_ (i := 12) (N := some 25) (v := ?_) (a' := ?_) #[true, true, true, true, true, true, true, true, true, true, true, true, true, false] rfl rfl (by kernel_rfl) (fun _ _ _ h => h) (Or.inl ⟨by rfl, ?_⟩) ?_ ?_
      rotate_left
      · intro w'
        go_simp
        with_reducible rfl
      rotate_left
      · simp only [Act.put, List.setIfInBounds_toArray, List.set_cons_zero, List.set_cons_succ, i64_w, i32_w]
        rfl
      obtain ⟨s0, s1, s2⟩ := hHeld
      have f := MX.out.hn.fz i
      obtain ⟨y, hy⟩ : ∃ y, (splice nw 0 (st.take i))[i]? = some y := ⟨_, List.getElem?_eq_getElem (by rw [MX.out.ln]; omega)⟩
      have c := MX.out.hn.cell hy
      refine last_ (i := 13) (N := none) #[true, true, true, true, true, true, true, true, true, true, true, true, true, true] rfl rfl (by kernel_rfl) (by decide) (fun K hK => ?_)
      go_simp
      refine hK.out _ _ ?_
      clear hK K hy
      refine done_ (by kernel_rfl) ?_
      have M3 := MX.out.setn (i := i) ci x
      have e := splice_snoc nw st 0 i x HXX.out (by rw [HD.out.ls, HD.out.ln]; omega)
      rw [Nat.zero_add] at e
      rw [e] at M3
      have HM3 := Aside0.mk M3
      have T3 := Aside0.mk (TX.out.trans ((tn_set wd mn i (.int .u8 x)).mono (S' := (fun k => k = mn ∨ k = mb)) (fun k _ q => Or.inl q)))
      generalize wd.setCell ⟨mn, i, none⟩ (.int .u8 x) = w3 at M3 HM3 T3 ⊢
      clear s0 s1 s2 f c M3 e
      go_wp2_with fail
      exact ⟨⟨i + 1, rfl, ⟨by omega, HM3.out, T3.out⟩⟩, by simp [intOf]; omega⟩

    · have ci2 : ¬ (↑i : Int) < ↑n := by omega
      have hM := HX.out.2.1
      rw [List.take_of_length_le (by rw [HD.out.ls]; omega), splice_all (by rw [HD.out.ln, HD.out.ls])] at hM
      have HM := Aside0.mk hM
      clear hM
      go_wp2_with fail
      have hs1 := HM.out.cells
      go_loopw [3] (fun v3 wq => ∃ j : Nat, v3 = .int .i64 ↑j ∧ Aside0 (Md wq md ms mn mb n nb st st ∧ Tn (fun k => k = mn ∨ k = mb) w wq)) (fun v3 _ => (nb - intOf v3).toNat)
      case atStart => exact ⟨0, rfl, ⟨HM.out, HX.out.2.2⟩⟩
      case round =>
        obtain ⟨j, rfl, HY⟩ := hrel
        have c2 := HY.out.1.cells.2.2
        have hnb : nb ≤ 65536 := by have := HD.out.nn; omega
        by_cases cj : j < nb
        · have cj2 : (↑j : Int) < ↑nb := by omega
          have j0' : (0 : Int) ≤ ↑j := by omega
          obtain ⟨⟨b, cb⟩, fb⟩ := HY.out.1.bcell cj
          go_wp2_with fail
          exact ⟨⟨j + 1, rfl, ⟨HY.out.1.setb j false, HY.out.2.trans ((tn_set _ mb j (.bool false)).mono (fun k _ q => Or.inr q))⟩⟩, by simp [intOf]; omega⟩
        · have cj2 : ¬ (↑j : Int) < ↑nb := by omega
          go_wp2_with fail
          refine bodyPost_end (v := .tuple #[]) (by simp [results, Try.results39, go_sem]) rfl ⟨rfl, HY.out.1, HY.out.2⟩


set_option maxHeartbeats 1000000 in
set_option maxRecDepth 100000 in
theorem jm_sync {w : World} {md ms mn mb n nb : Nat} {st nw : List Int} (h : Md w md ms mn mb n nb st nw) (hn : n ≤ 65536) : Calls Try.prog 19 #[.pointer (some ⟨md, 0, none⟩)] w fun e w' => e = .returned (.tuple #[]) ∧ Md w' md ms mn mb n nb nw nw ∧ Tn (fun k => k = ms ∨ k = mn ∨ k = mb) w w' := by
  have HD := Aside0.mk h
  clear h
  go_enter Try.func19, Try.ntmps19
  go_wp2_with fail
  go_loopw [2] (fun v2 wr => ∃ i : Nat, v2 = .int .i64 ↑i ∧ Aside0 (i ≤ n ∧ Md wr md ms mn mb n nb (splice st 0 (nw.take i)) nw ∧ Tn (fun k => k = ms) w wr)) (fun v2 _ => (n - intOf v2).toNat)
  case atStart => exact ⟨0, rfl, ⟨Nat.zero_le _, by rw [List.take_zero, splice_nil _ _ (by omega)]; exact HD.out, Tn.refl _ _⟩⟩
  case round =>
    obtain ⟨i, rfl, HX⟩ := hrel
    have c0 := HX.out.2.1.cells.1
    have c1 := HX.out.2.1.cells.2.1
    by_cases ci : i < n
    · have ci2 : (↑i : Int) < ↑n := by omega
      have i0' : (0 : Int) ≤ ↑i := by omega
      obtain ⟨x, hx⟩ : ∃ x, nw[i]? = some x := ⟨_, List.getElem?_eq_getElem (by rw [HD.out.ln]; exact ci)⟩
      have cb := HX.out.2.1.hn.cell hx
      have HXX := Aside0.mk hx
      clear hx
      go_wp2_with fail
      have MX := Aside0.mk (HX.out.2.1.below (below_drew1 (Below.refl wr.heap.size wr)))
      have TX := Aside0.mk (HX.out.2.2.trans (Tn.of_below (below_drew1 (Below.refl wr.heap.size wr))))
      refine start_ (n := 14) (S := fun w' => w'.cell? ⟨md, 0, none⟩ = some (.slice (some ⟨ms, 0, none⟩) n n) ∧ w'.cell? ⟨md, 1, none⟩ = some (.slice (some ⟨mn, 0, none⟩) n n) ∧ w'.cell? ⟨mn, i, none⟩ = some (.int .u8 x)) (ds := [13]) #[false, false, false, false, false, false, false, false, false, false, false, false, false, false] (by kernel_rfl) rfl rfl ⟨c0, c1, cb⟩ (fun hHeld => ?_)
      generalize wr.drew = wd at hHeld MX TX ⊢
      clear c0 c1 cb
      refine pure_ (i := 0) (N := some 12) (v := ?_) (a' := ?_) #[true, false, false, false, false, false, false, false, false, false, false, false, false, false] rfl rfl (by kernel_rfl) (fun _ _ _ h => h) (Or.inl ⟨by rfl, ?_⟩) ?_ ?_
      rotate_left
      · intro w'
        go_simp
        with_reducible rfl
      rotate_left
      · simp only [Act.put, List.setIfInBounds_toArray, List.set_cons_zero, List.set_cons_succ, i64_w, i32_w]
        rfl
      refine pure_ (i := 1) (N := some 13) (v := ?_) (a' := ?_) #[true, true, false, false, false, false, false, false, false, false, false, false, false, false] rfl rfl (by kernel_rfl) (fun _ _ _ h => h) (Or.inl ⟨by rfl, ?_⟩) ?_ ?_
      rotate_left
      · intro w'
        go_simp
        with_reducible rfl
      rotate_left
      · simp only [Act.put, List.setIfInBounds_toArray, List.set_cons_zero, List.set_cons_succ, i64_w, i32_w]
        rfl
      refine pure_ (i := 2) (N := some 14) (v := ?_) (a' := ?_) #[true, true, true, false, false, false, false, false, false, false, false, false, false, false] rfl rfl (by kernel_rfl) (fun _ _ _ h => h) (Or.inl ⟨by rfl, ?_⟩) ?_ ?_
      rotate_left
      · intro w'
        go_simp
        with_reducible rfl
      rotate_left
      · simp only [Act.put, List.setIfInBounds_toArray, List.set_cons_zero, List.set_cons_succ, i64_w, i32_w]
        rfl
      refine take_ (i := 3) (N := some 15) (v := ?_) (a' := ?_) #[true, true, true, true, false, false, false, false, false, false, false, false, false, false] rfl rfl (by kernel_rfl) (fun _ _ _ h => h) (Or.inl ⟨by rfl, ?_⟩) hHeld ?_ ?_
      rotate_left
      · rintro w' ⟨s0, s1, s2⟩
        go_simp
        with_reducible rfl
      rotate_left
      · simp only [Act.put, List.setIfInBounds_toArray, List.set_cons_zero, List.set_cons_succ, i64_w, i32_w]
        rfl
      refine pure_ (i := 4) (N := some 16) (v := ?_) (a' := ?_) #[true, true, true, true, true, false, false, false, false, false, false, false, false, false] rfl rfl (by kernel_rfl) (fun _ _ _ h => h) (Or.inl ⟨by rfl, ?_⟩) ?_ ?_
      rotate_left
      · intro w'
        go_simp
        with_reducible rfl
      rotate_left
      · simp only [Act.put, List.setIfInBounds_toArray, List.set_cons_zero, List.set_cons_succ, i64_w, i32_w]
        rfl
      refine pure_ (i := 5) (N := some 17) (v := ?_) (a' := ?_) #[true, true, true, true, true, true, false, false, false, false, false, false, false, false] rfl rfl (by kernel_rfl) (fun _ _ _ h => h) (Or.inl ⟨by rfl, ?_⟩) ?_ ?_
      rotate_left
      · intro w'
        go_simp
        with_reducible rfl
      rotate_left
      · simp only [Act.put, List.setIfInBounds_toArray, List.set_cons_zero, List.set_cons_succ, i64_w, i32_w]
        rfl
      refine pure_ (i := 6) (N := some 18) (v := ?_) (a' := ?_) #[true, true, true, true, true, true, true, false, false, false, false, false, false, false] rfl rfl (by kernel_rfl) (fun _ _ _ h => h) (Or.inl ⟨by rfl, ?_⟩) ?_ ?_
      rotate_left
      · intro w'
        go_simp
        with_reducible rfl
      rotate_left
      · simp only [Act.put, List.setIfInBounds_toArray, List.set_cons_zero, List.set_cons_succ, i64_w, i32_w]
        rfl
      refine pure_ (i := 7) (N := some 19) (v := ?_) (a' := ?_) #[true, true, true, true, true, true, true, true, false, false, false, false, false, false] rfl rfl (by kernel_rfl) (fun _ _ _ h => h) (Or.inl ⟨by rfl, ?_⟩) ?_ ?_
      rotate_left
      · intro w'
        go_simp
        with_reducible rfl
      rotate_left
      · simp only [Act.put, List.setIfInBounds_toArray, List.set_cons_zero, List.set_cons_succ, i64_w, i32_w]
        rfl
      refine take_ (i := 8) (N := some 20) (v := ?_) (a' := ?_) #[true, true, true, true, true, true, true, true, true, false, false, false, false, false] rfl rfl (by kernel_rfl) (fun _ _ _ h => h) (Or.inl ⟨by rfl, ?_⟩) hHeld ?_ ?_
      rotate_left
      · rintro w' ⟨s0, s1, s2⟩
        go_simp
        with_reducible rfl
      rotate_left
      · simp only [Act.put, List.setIfInBounds_toArray, List.set_cons_zero, List.set_cons_succ, i64_w, i32_w]
        rfl
      refine pure_ (i := 9) (N := some 21) (v := ?_) (a' := ?_) #[true, true, true, true, true, true, true, true, true, true, false, false, false, false] rfl rfl (by kernel_rfl) (fun _ _ _ h => h) (Or.inl ⟨by rfl, ?_⟩) ?_ ?_
      rotate_left
      · intro w'
        go_simp
        with_reducible rfl
      rotate_left
      · simp only [Act.put, List.setIfInBounds_toArray, List.set_cons_zero, List.set_cons_succ, i64_w, i32_w]
        rfl
      refine pure_ (i := 10) (N := some 22) (v := ?_) (a' := ?_) #[true, true, true, true, true, true, true, true, true, true, true, false, false, false] rfl rfl (by kernel_rfl) (fun _ _ _ h => h) (Or.inl ⟨by rfl, ?_⟩) ?_ ?_
      rotate_left
      · intro w'
        go_simp
        with_reducible rfl
      rotate_left
      · simp only [Act.put, List.setIfInBounds_toArray, List.set_cons_zero, List.set_cons_succ, i64_w, i32_w]
        rfl
      refine take_ (i := 11) (N := some 23) (v := ?_) (a' := ?_) #[true, true, true, true, true, true, true, true, true, true, true, true, false, false] rfl rfl (by kernel_rfl) (fun _ _ _ h => h) (Or.inl ⟨by rfl, ?_⟩) hHeld ?_ ?_
      rotate_left
      · rintro w' ⟨s0, s1, s2⟩
        go_simp
        with_reducible rfl
      rotate_left
      · simp only [Act.put, List.setIfInBounds_toArray, List.set_cons_zero, List.set_cons_succ, i64_w, i32_w]
        rfl
      refine pure_ (i := 12) (N := some 24) (v := ?_) (a' := ?_) #[true, true, true, true, true, true, true, true, true, true, true, true, true, false] rfl rfl (by kernel_rfl) (fun _ _ _ h => h) (Or.inl ⟨by rfl, ?_⟩) ?_ ?_
      rotate_left
      · intro w'
        go_simp
        with_reducible rfl
      rotate_left
      · simp only [Act.put, List.setIfInBounds_toArray, List.set_cons_zero, List.set_cons_succ, i64_w, i32_w]
        rfl
      obtain ⟨s0, s1, s2⟩ := hHeld
      have f := MX.out.hs.fz i
      obtain ⟨y, hy⟩ : ∃ y, (splice st 0 (nw.take i))[i]? = some y := ⟨_, List.getElem?_eq_getElem (by rw [MX.out.ls]; omega)⟩
      have c := MX.out.hs.cell hy
      refine last_ (i := 13) (N := none) #[true, true, true, true, true, true, true, true, true, true, true, true, true, true] rfl rfl (by kernel_rfl) (by decide) (fun K hK => ?_)
      go_simp
      refine hK.out _ _ ?_
      clear hK K hy
      refine done_ (by kernel_rfl) ?_
      have M3 := MX.out.sets (i := i) ci x
      have e := splice_snoc st nw 0 i x HXX.out (by rw [HD.out.ln, HD.out.ls]; omega)
      rw [Nat.zero_add] at e
      rw [e] at M3
      have HM3 := Aside0.mk M3
      have T3 := Aside0.mk (TX.out.trans ((tn_set wd ms i (.int .u8 x)).mono (S' := (fun k => k = ms)) (fun k _ q => q)))
      generalize wd.setCell ⟨ms, i, none⟩ (.int .u8 x) = w3 at M3 HM3 T3 ⊢
      clear s0 s1 s2 f c M3 e
      go_wp2_with fail
      exact ⟨⟨i + 1, rfl, ⟨by omega, HM3.out, T3.out⟩⟩, by simp [intOf]; omega⟩

    · have ci2 : ¬ (↑i : Int) < ↑n := by omega
      have hM := HX.out.2.1
      rw [List.take_of_length_le (by rw [HD.out.ln]; omega), splice_all (by rw [HD.out.ls, HD.out.ln])] at hM
      have HM := Aside0.mk hM
      clear hM
      go_wp2_with fail
      refine (jm_settle HM.out hn).mono ?_
      rintro e w5 ⟨rfl, hM5, t5⟩
      have H5 := Aside0.mk (And.intro hM5 ((HX.out.2.2.mono (S' := fun k => k = ms ∨ k = mn ∨ k = mb) (fun k _ q => Or.inl q)).trans (t5.mono (fun k _ q => Or.inr q))))
      clear hM5 t5
      go_wp2_with fail
      refine bodyPost_end (v := .tuple #[]) (by simp [results, Try.results19, go_sem]) rfl ⟨rfl, H5.out.1, H5.out.2⟩



end Go.Proofs.Ythblaehmdailhaa.PJournalStays
