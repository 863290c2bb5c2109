import Derived.Test.YthblaehmdailhaaJB
namespace Go.Proofs.Ythblaehmdailhaa.PJournalStays
open Go.RowKit Go.Proofs.YthblaehmdailhaaW.PrintWords Go.Proofs.YthblaehmdailhaaW.PrintLast Go.Proofs.YthblaehmdailhaaW.PrintMore
set_option linter.unusedVariables false
set_option linter.unusedSimpArgs false
attribute [local go_sem high] slEq slNe
theorem jd_size1 : (Try.prog.info? 5).map (·.size) = some 1 := by kernel_rfl
theorem cp_step {w : World} {g : Nat} {l : List Int} (h : Blk w g l) (cs : List Int) (off : Nat) (ad : Addr) (dLen dCap sLen sCap : Nat) (ty : TypeId) (hf : off + cs.length ≤ l.length) (hn : cs.length = Nat.min sLen dLen) (hc : Src w ad cs) :
    ∃ W, (Builtin.copy_ #[22, 22] ty #[.slice (some ⟨g, off, none⟩) dLen dCap, .slice (some ad) sLen sCap]).run Try.prog w = .ok (.int .i64 ↑cs.length) W ∧ Blk W g (splice l off cs) ∧ Tn (fun k => k = g) w W := by
  obtain ⟨rs, hrs⟩ := h
  have e := run_copy_row (P := Try.prog) w 22 22 ty 5 g off dLen dCap ad sLen sCap (bv l ++ rs).toArray 5 (bv cs) Try.underlying22 jd_size1 hrs (by simp [bv]; exact hn) (bv_cells hc) (by simp [bv]; omega) (bv_one cs)
  have hlen : (bv cs).length = cs.length := by simp [bv]
  have key : (bv l ++ rs).toArray.toList.take off ++ bv cs ++ (bv l ++ rs).toArray.toList.drop (off + (bv cs).length) = bv (splice l off cs) ++ rs := by
    have h1 : off ≤ (bv l).length := by simp [bv]; omega
    have h2 : off + cs.length ≤ (bv l).length := by simp [bv]; omega
    rw [hlen, List.take_append_of_le_length h1, List.drop_append_of_le_length h2]
    simp [bv, splice]
  rw [key, hlen] at e
  exact ⟨_, e, ⟨rs, setRow_heap _ _ _ _ _ _ hrs⟩, ⟨rfl, rfl, rfl, by simp, fun k hk hne => setRow_other _ _ _ _ hne⟩⟩
theorem splice_all {l cs : List Int} (h : l.length = cs.length) : splice l 0 cs = cs := by
  unfold splice
  rw [List.take_zero, List.nil_append, List.drop_eq_nil_of_le (by omega), List.append_nil]
theorem cl_step {w : World} {b : Nat} {es : Array MapEntry} {cl : Nat} (h : w.heap[b]? = some (.map es cl)) (ty : TypeId) : ∃ W, (Builtin.clear_ #[67] ty #[.map (some b)]).run Try.prog w = .ok (.tuple #[]) W ∧ W.heap[b]? = some (.map #[] cl) ∧ Tn (fun k => k = b) w W := by
  refine ⟨{ w with heap := w.heap.setIfInBounds b (.map #[] cl) }, ?_, (Go.MapKept.heap_set h).1, ⟨rfl, rfl, rfl, by simp, fun k hk hne => ?_⟩⟩
  · simp [Builtin.clear_, Go.MapKept.run_getObj_map h, Go.MapKept.run_setObj_map _ h, Result.andThen, run_underlying Try.underlying67]
  · exact (Go.MapKept.heap_set h).2 k hne
set_option maxRecDepth 100000 in
theorem jd_sync {w : World} {bd bs bn bm n : Nat} {st nw : List Int} {N : Nat} {D : DataW Unit} (h : Dk w bd bs bn bm n st nw N D) (hn : n ≤ 65536) (n0 : 0 < n) (hbd : bd ≠ bs) : Calls Try.prog 15 #[.pointer (some ⟨bd, 0, none⟩)] w fun e w' => e = .returned (.tuple #[]) ∧ Dk w' bd bs bn bm n nw nw N (.map []) ∧ Tn (fun k => k = bs ∨ k = bm) w w' := by
  obtain ⟨c0, c1, c2⟩ := h.cells
  have HD := Aside0.mk h
  clear h
  go_enter Try.func15, Try.ntmps15
  go_wp2_with (fail)
  refine start_ (n := 9) (S := fun w' => w'.cell? ⟨bd, 0, none⟩ = some (.slice (some ⟨bs, 0, none⟩) n n) ∧ w'.cell? ⟨bd, 1, none⟩ = some (.slice (some ⟨bn, 0, none⟩) n n)) (ds := []) #[false, false, false, false, false, false, false, false, false] (by kernel_rfl) rfl rfl ⟨c0, c1⟩ (fun hHeld => ?_)
  have HD1 := Aside0.mk (HD.out.below (below_drew1 (Below.refl _ _)))
  have T1 := Aside0.mk (Tn.of_below (S := fun k => k = bs ∨ k = bm) (below_drew1 (Below.refl w.heap.size w)))
  generalize w.drew = w1 at hHeld HD1 T1 ⊢
  clear c0 c1 c2 HD
  refine pure_ (i := 0) (N := some 2) (v := ?_) (a' := ?_) #[true, false, false, false, false, false, false, false, false] rfl rfl (by kernel_rfl) (fun _ _ _ h => h) (Or.inl ⟨by rfl, ?_⟩) ?_ ?_
  rotate_left
  · intro w'
    go_simp
    with_reducible rfl
  rotate_left
  · simp only [Act.put, List.setIfInBounds_toArray, List.set_cons_zero, List.set_cons_succ, i64_w, i32_w]
    rfl
  refine pure_ (i := 1) (N := some 3) (v := ?_) (a' := ?_) #[true, true, false, false, false, false, false, false, false] rfl rfl (by kernel_rfl) (fun _ _ _ h => h) (Or.inl ⟨by rfl, ?_⟩) ?_ ?_
  rotate_left
  · intro w'
    go_simp
    with_reducible rfl
  rotate_left
  · simp only [Act.put, List.setIfInBounds_toArray, List.set_cons_zero, List.set_cons_succ, i64_w, i32_w]
    rfl
  refine pure_ (i := 2) (N := some 4) (v := ?_) (a' := ?_) #[true, true, true, false, false, false, false, false, false] rfl rfl (by kernel_rfl) (fun _ _ _ h => h) (Or.inl ⟨by rfl, ?_⟩) ?_ ?_
  rotate_left
  · intro w'
    go_simp
    with_reducible rfl
  rotate_left
  · simp only [Act.put, List.setIfInBounds_toArray, List.set_cons_zero, List.set_cons_succ, i64_w, i32_w]
    rfl
  refine take_ (i := 3) (N := some 5) (v := ?_) (a' := ?_) #[true, true, true, true, false, false, false, false, false] rfl rfl (by kernel_rfl) (fun _ _ _ h => h) (Or.inl ⟨by rfl, ?_⟩) hHeld ?_ ?_
  rotate_left
  · rintro w' ⟨s0, s1⟩
    go_simp
    with_reducible rfl
  rotate_left
  · simp only [Act.put, List.setIfInBounds_toArray, List.set_cons_zero, List.set_cons_succ, i64_w, i32_w]
    rfl
  refine pure_ (i := 4) (N := some 6) (v := ?_) (a' := ?_) #[true, true, true, true, true, false, false, false, false] rfl rfl (by kernel_rfl) (fun _ _ _ h => h) (Or.inl ⟨by rfl, ?_⟩) ?_ ?_
  rotate_left
  · intro w'
    go_simp
    with_reducible rfl
  rotate_left
  · simp only [Act.put, List.setIfInBounds_toArray, List.set_cons_zero, List.set_cons_succ, i64_w, i32_w]
    rfl
  refine pure_ (i := 5) (N := some 7) (v := ?_) (a' := ?_) #[true, true, true, true, true, true, false, false, false] rfl rfl (by kernel_rfl) (fun _ _ _ h => h) (Or.inl ⟨by rfl, ?_⟩) ?_ ?_
  rotate_left
  · intro w'
    go_simp
    with_reducible rfl
  rotate_left
  · simp only [Act.put, List.setIfInBounds_toArray, List.set_cons_zero, List.set_cons_succ, i64_w, i32_w]
    rfl
  refine pure_ (i := 6) (N := some 8) (v := ?_) (a' := ?_) #[true, true, true, true, true, true, true, false, false] rfl rfl (by kernel_rfl) (fun _ _ _ h => h) (Or.inl ⟨by rfl, ?_⟩) ?_ ?_
  rotate_left
  · intro w'
    go_simp
    with_reducible rfl
  rotate_left
  · simp only [Act.put, List.setIfInBounds_toArray, List.set_cons_zero, List.set_cons_succ, i64_w, i32_w]
    rfl
  refine take_ (i := 7) (N := some 9) (v := ?_) (a' := ?_) #[true, true, true, true, true, true, true, true, false] rfl rfl (by kernel_rfl) (fun _ _ _ h => h) (Or.inl ⟨by rfl, ?_⟩) hHeld ?_ ?_
  rotate_left
  · rintro w' ⟨s0, s1⟩
    go_simp
    with_reducible rfl
  rotate_left
  · simp only [Act.put, List.setIfInBounds_toArray, List.set_cons_zero, List.set_cons_succ, i64_w, i32_w]
    rfl
  refine one_ (i := 8) (N := some 10) #[true, true, true, true, true, true, true, true, true] rfl rfl (by kernel_rfl) (by decide) (fun K hK => ?_)

  obtain ⟨w2, hcp, hB, hT⟩ := cp_step HD1.out.hs nw 0 ⟨bn, 0, none⟩ n n n n 3 (by rw [HD1.out.ls, HD1.out.ln]; omega) (by rw [HD1.out.ln]; exact (Nat.min_self n).symm) HD1.out.hn.src0
  rw [splice_all (HD1.out.ls.trans HD1.out.ln.symm)] at hB
  have HB := Aside0.mk hB
  have HT := Aside0.mk hT
  clear hB hT
  refine value_ (w1 := ?_) (v := ?_) (by rfl) rfl ?_ ?_
  rotate_left 2
  · go_simp
    constructor
    · rfl
    · rfl
  clear hcp
  have HD2 := Aside0.mk (show Dk w2 bd bs bn bm n nw nw N D from
    have h := HD1.out
    have hm := h.map
    ⟨HT.out.blk h.hd hbd, HB.out, h.hn.turn HT.out (fun q => h.ne q.symm), h.ln, h.ln, h.ne, by
      obtain ⟨m, h1, es, cl, h2, h3⟩ := h.hm
      exact ⟨m, h1, es, cl, HT.out.blk h2 (fun q => by obtain ⟨r, hr⟩ := h.hs; rw [q] at h2; rw [hr] at h2; cases h2), h3⟩⟩)
  obtain ⟨c0, c1, c2⟩ := HD2.out.cells
  refine hK.out _ _ ⟨c0, c1⟩ (fun hHeld => ?_)
  clear hK K
  refine done_ (by kernel_rfl) ?_
  clear hHeld
  obtain ⟨es, cl, hmap⟩ := HD2.out.map
  have hlen := HD2.out.ls
  obtain ⟨w3, hcl, hM, hT3⟩ := cl_step hmap 0
  go_wp2
  refine bodyPost_end (v := .tuple #[]) (by simp [results, Try.results15, go_sem]) rfl ⟨rfl, ?_, T1.out.trans ((HT.out.mono (fun k _ q => Or.inl q)).trans (hT3.mono (fun k _ q => Or.inr q)))⟩
  have h := HD2.out
  have x1 : bd ≠ bm := fun q => by have := h.hd; rw [q, hmap] at this; cases this
  have x2 : bs ≠ bm := fun q => by obtain ⟨r, hr⟩ := h.hs; rw [q, hmap] at hr; cases hr
  have x3 : bn ≠ bm := fun q => by obtain ⟨r, hr⟩ := h.hn; rw [q, hmap] at hr; cases hr
  exact ⟨hT3.blk h.hd x1, h.hs.turn hT3 x2, h.hn.turn hT3 x3, h.ln, h.ln, h.ne, 0, Nat.zero_le _, #[], cl, hM, ⟨by simp, Go.MapKept.stamped_empty cl, by simp⟩, Nat.le_refl _, rfl⟩
/-- What a write makes dirty. -/
def dirt (D : DataW Unit) (at_ : Nat) : Nat → DataW Unit
  | 0 => D
  | i + 1 => (dirt D at_ i).put (.int .i64 ((↑at_ + ↑i : Int) / 64)) (.lit (.bool true))
set_option maxRecDepth 100000 in
theorem jd_write {w : World} {bd bs bn bm n : Nat} {st nw : List Int} {N : Nat} {D : DataW Unit} (h : Dk w bd bs bn bm n st nw N D) (hn : n ≤ 65536) (hbd : bd ≠ bn) (at_ : Nat) (ad : Addr) (l : List Int) (cap : Nat) (hl : 0 < l.length) (hs : Src w ad l) (hf : at_ + l.length ≤ n) (hN : N + l.length < 4294967296) :
    Calls Try.prog 14 #[.pointer (some ⟨bd, 0, none⟩), .int .i64 ↑at_, .slice (some ad) l.length cap] w fun e w' => e = .returned .nilIface ∧ Dk w' bd bs bn bm n st (splice nw at_ l) (N + l.length) (dirt D at_ l.length) ∧ Tn (fun k => k = bn ∨ k = bm) w w' := by
  have TH := Aside0.mk (jd_there h at_ l.length hn)
  rw [decide_eq_true (show (0 : Int) ≤ ↑at_ ∧ (0 : Int) ≤ ↑l.length ∧ (↑at_ : Int) ≤ ↑n ∧ (↑l.length : Int) ≤ ↑n - ↑at_ by omega)] at TH
  have HD := Aside0.mk h
  have HS := Aside0.mk hs
  clear h hs
  go_enter Try.func14, Try.ntmps14
  go_wp2_with fail
  refine TH.out.mono ?_
  rintro e w1 ⟨rfl, hb⟩
  have HD1 := Aside0.mk (HD.out.below hb)
  have HS1 := Aside0.mk (HS.out.below hb)
  have T1 := Aside0.mk (Tn.of_below (S := fun k => k = bn ∨ k = bm) hb)
  clear hb
  obtain ⟨c0, c1, c2⟩ := HD1.out.cells
  obtain ⟨w2, hcp, hB, hT⟩ := cp_step HD1.out.hn l at_ ad (n - at_) (n - at_) l.length cap 3 (by rw [HD1.out.ln]; omega) (by show _ = min _ _; omega) HS1.out
  have hD2 : Dk w2 bd bs bn bm n st (splice nw at_ l) N D := by
    have h := HD1.out
    have x3 : bm ≠ bn := fun q => by obtain ⟨es, cl, hm⟩ := h.map; obtain ⟨r, hr⟩ := h.hn; rw [← q, hm] at hr; cases hr
    obtain ⟨m, h1, es, cl, h2, h3⟩ := h.hm
    exact ⟨hT.blk h.hd hbd, h.hs.turn hT h.ne, hB, h.ls, (length_splice nw at_ l (by rw [h.ln]; omega)).trans h.ln, h.ne, m, h1, es, cl, hT.blk h2 x3, h3⟩
  have HD2 := Aside0.mk hD2
  have T2 := Aside0.mk (T1.out.trans (hT.mono (S' := fun k => k = bn ∨ k = bm) (fun k _ q => Or.inl q)))
  clear hB hT hD2 HD1 T1 HS1
  have q1 : (0 : Int) ≤ ↑at_ := by omega
  have q2 : (↑at_ : Int) ≤ ↑n := by omega
  go_wp2_with fail
  clear hcp c0 c1 c2
  go_loopw [25] (fun v25 wr => ∃ i : Nat, v25 = .int .i64 ↑i ∧ Aside0 (i ≤ l.length ∧ Dk wr bd bs bn bm n st (splice nw at_ l) (N + i) (dirt D at_ i) ∧ Tn (fun k => k = bn ∨ k = bm) w wr)) (fun v25 _ => (l.length - intOf v25).toNat)
  case atStart => exact ⟨0, rfl, ⟨Nat.zero_le _, HD2.out, T2.out⟩⟩
  case round =>
    obtain ⟨i, rfl, HI⟩ := hrel
    obtain ⟨c0, c1, c2⟩ := HI.out.2.1.cells
    obtain ⟨m, hm1, hown⟩ := HI.out.2.1.hm
    by_cases ci : i < l.length
    · have ci2 : (↑i : Int) < ↑l.length := by omega
      go_wp2_with (at_mapUpdate; refine wpList_mapUpdate_own _ rfl _ _ _ 67 rfl 3 4 (Go.Maps.int_keyed Try.underlying3) Try.underlying67 _ bm m _ rfl hown (by unfold maxLen; omega) _ _ _ rfl rfl (Go.Maps.keyOf_int_mk Try.underlying3 (WalkArith.wf_i64 (by omega))) _ [] (plainElem_bool Try.underlying4 true) ?_; intro w4 hown4 hgrow4)
      have hg := Tn.of_grown hgrow4
      have h := HI.out.2.1
      obtain ⟨es, cl, hmap⟩ := h.map
      have x1 : ¬ (some bm = some bd) := fun q => by have := h.hd; rw [← Option.some.inj q, hmap] at this; cases this
      have x2 : ¬ (some bm = some bs) := fun q => by obtain ⟨r, hr⟩ := h.hs; rw [← Option.some.inj q, hmap] at hr; cases hr
      have x3 : ¬ (some bm = some bn) := fun q => by obtain ⟨r, hr⟩ := h.hn; rw [← Option.some.inj q, hmap] at hr; cases hr
      refine ⟨⟨i + 1, rfl, ⟨by omega, ⟨hg.blk h.hd x1, h.hs.turn hg x2, h.hn.turn hg x3, h.ls, h.ln, h.ne, m + 1, by omega, hown4⟩, HI.out.2.2.trans (hg.mono (fun k _ q => Or.inr (Option.some.inj q).symm))⟩⟩, ?_⟩
      simp [intOf]
      omega
    · have ci2 : ¬ (↑i : Int) < ↑l.length := by omega
      go_wp2
      go_ret
      obtain ⟨h1, h2, h3⟩ := HI.out
      have e : i = l.length := by omega
      rw [e] at h2
      exact ⟨rfl, h2, h3⟩

end Go.Proofs.Ythblaehmdailhaa.PJournalStays
