import Derived.Test.YthblaehmdailhaaJW
namespace Go.Proofs.Ythblaehmdailhaa.PJournalStays
open Go.RowKit Go.Proofs.YthblaehmdailhaaW.PrintWords Go.Proofs.YthblaehmdailhaaW.PrintLast Go.Proofs.YthblaehmdailhaaW.PrintMore
set_option linter.unusedVariables false
set_option linter.unusedSimpArgs false
attribute [local go_sem high] slEq slNe slEq0 slNe0
/-- A disk of the document's. -/
structure Md (w : World) (md ms mn mb n nb : Nat) (st nw : List Int) : Prop where
  hd : w.heap[md]? = some (.cells #[.slice (some ⟨ms, 0, none⟩) n n, .slice (some ⟨mn, 0, none⟩) n n, .slice (some ⟨mb, 0, none⟩) nb nb] 42 (0, 0))
  hs : Blk w ms st
  hn : Blk w mn nw
  hb : ∃ dy : Array Value, w.heap[mb]? = some (.cells dy 4 (0, 0)) ∧ dy.size = nb ∧ ∀ (j : Nat) (v : Value), dy[j]? = some v → ∃ b, v = Value.bool b
  ls : st.length = n
  ln : nw.length = n
  ne : ms ≠ mn
  nn : n = nb * 64
theorem Md.turn {S : Nat → Prop} {w W : World} {md ms mn mb n nb : Nat} {st nw : List Int} (h : Md w md ms mn mb n nb st nw) (t : Tn S w W) (h1 : ¬ S md) (h2 : ¬ S ms) (h3 : ¬ S mn) (h4 : ¬ S mb) : Md W md ms mn mb n nb st nw := by
  obtain ⟨dy, a, b⟩ := h.hb
  exact ⟨t.blk h.hd h1, h.hs.turn t h2, h.hn.turn t h3, ⟨dy, t.blk a h4, b⟩, h.ls, h.ln, h.ne, h.nn⟩
theorem Md.below {w W : World} {md ms mn mb n nb : Nat} {st nw : List Int} (h : Md w md ms mn mb n nb st nw) (t : Below w.heap.size w W) : Md W md ms mn mb n nb st nw :=
  h.turn (S := fun _ => False) (Tn.of_below t) id id id id
theorem Md.nes {w : World} {md ms mn mb n nb : Nat} {st nw : List Int} (h : Md w md ms mn mb n nb st nw) : md ≠ ms ∧ md ≠ mn ∧ md ≠ mb ∧ ms ≠ mb ∧ mn ≠ mb := by
  obtain ⟨r1, h1⟩ := h.hs
  obtain ⟨r2, h2⟩ := h.hn
  obtain ⟨dy, h3, -⟩ := h.hb
  exact ⟨fun q => ty_ne (q ▸ h.hd) h1 (by decide), fun q => ty_ne (q ▸ h.hd) h2 (by decide), fun q => ty_ne (q ▸ h.hd) h3 (by decide), fun q => ty_ne (q ▸ h1) h3 (by decide), fun q => ty_ne (q ▸ h2) h3 (by decide)⟩
theorem Md.cells {w : World} {md ms mn mb n nb : Nat} {st nw : List Int} (h : Md w md ms mn mb n nb st nw) : w.cell? ⟨md, 0, none⟩ = some (.slice (some ⟨ms, 0, none⟩) n n) ∧ w.cell? ⟨md, 1, none⟩ = some (.slice (some ⟨mn, 0, none⟩) n n) ∧ w.cell? ⟨md, 2, none⟩ = some (.slice (some ⟨mb, 0, none⟩) nb nb) :=
  ⟨(blk_cell h.hd 0).trans rfl, (blk_cell h.hd 1).trans rfl, (blk_cell h.hd 2).trans rfl⟩
theorem Md.setn {w : World} {md ms mn mb n nb : Nat} {st nw : List Int} (h : Md w md ms mn mb n nb st nw) {i : Nat} (hi : i < n) (y : Int) : Md (w.setCell ⟨mn, i, none⟩ (.int .u8 y)) md ms mn mb n nb st (nw.set i y) := by
  obtain ⟨a, b, c, d, e⟩ := h.nes
  have t := tn_set w mn i (.int .u8 y)
  obtain ⟨dy, h3, h4⟩ := h.hb
  exact ⟨t.blk h.hd b, h.hs.turn t h.ne, h.hn.set (by rw [h.ln]; exact hi) y, ⟨dy, t.blk h3 (fun q => e q.symm), h4⟩, h.ls, by rw [List.length_set]; exact h.ln, h.ne, h.nn⟩
theorem Md.sets {w : World} {md ms mn mb n nb : Nat} {st nw : List Int} (h : Md w md ms mn mb n nb st nw) {i : Nat} (hi : i < n) (y : Int) : Md (w.setCell ⟨ms, i, none⟩ (.int .u8 y)) md ms mn mb n nb (st.set i y) nw := by
  obtain ⟨a, b, c, d, e⟩ := h.nes
  have t := tn_set w ms i (.int .u8 y)
  obtain ⟨dy, h3, h4⟩ := h.hb
  exact ⟨t.blk h.hd a, h.hs.set (by rw [h.ls]; exact hi) y, h.hn.turn t (fun q => h.ne q.symm), ⟨dy, t.blk h3 (fun q => d q.symm), h4⟩, by rw [List.length_set]; exact h.ls, h.ln, h.ne, h.nn⟩
theorem Md.setb {w : World} {md ms mn mb n nb : Nat} {st nw : List Int} (h : Md w md ms mn mb n nb st nw) (i : Nat) (y : Bool) : Md (w.setCell ⟨mb, i, none⟩ (.bool y)) md ms mn mb n nb st nw := by
  obtain ⟨a, b, c, d, e⟩ := h.nes
  have t := tn_set w mb i (.bool y)
  obtain ⟨dy, h3, h4, h5⟩ := h.hb
  refine ⟨t.blk h.hd c, h.hs.turn t d, h.hn.turn t e, ⟨_, blk_set h3 i (.bool y), by simpa using h4, fun j v hv => ?_⟩, h.ls, h.ln, h.ne, h.nn⟩
  rw [Array.getElem?_setIfInBounds] at hv
  split at hv
  · split at hv
    · exact ⟨y, (Option.some.inj hv).symm⟩
    · cases hv
  · exact h5 j v hv
theorem Md.bcell {w : World} {md ms mn mb n nb : Nat} {st nw : List Int} (h : Md w md ms mn mb n nb st nw) {i : Nat} (hi : i < nb) : (∃ b, w.cell? ⟨mb, i, none⟩ = some (.bool b)) ∧ w.frozen? ⟨mb, i, none⟩ = false := by
  obtain ⟨dy, h3, h4, h5⟩ := h.hb
  obtain ⟨b, hb⟩ := h5 i dy[i] (Array.getElem?_eq_getElem (by omega))
  exact ⟨⟨b, (blk_cell h3 i).trans ((Array.getElem?_eq_getElem (by omega)).trans (by rw [hb]))⟩, blk_frozen h3 i⟩
theorem Blk.fz {w : World} {g : Nat} {l : List Int} (h : Blk w g l) (i : Nat) : w.frozen? ⟨g, i, none⟩ = false := by
  obtain ⟨r, hr⟩ := h
  exact blk_frozen hr i
theorem jm_info : (Try.prog.info? 4).map (fun i => (i.zero, i.size, i.bytes)) = some (some (Value.bool false), 1, 1) := by kernel_rfl
theorem jm_made (wl : World) (ms mn mb n nb : Nat) (w : World) (hk : nb * 64 = n) (hs : wl.heap[ms]? = some (.cells (madeCells #[.int .u8 0] n) 5 (0, 0))) (hn : wl.heap[mn]? = some (.cells (madeCells #[.int .u8 0] n) 5 (0, 0))) (hm : wl.heap[mb]? = some (.cells (madeCells #[.bool false] nb) 4 (0, 0))) (ne : ms ≠ mn) (g1 : w.heap.size ≤ ms) (g2 : w.heap.size ≤ mn) (g3 : w.heap.size ≤ mb) (hb : Below w.heap.size w wl) :
    ∃ md ms' mn' mb', Ending.returned (.pointer (some ⟨wl.heap.size, 0, none⟩)) = .returned (.pointer (some ⟨md, 0, none⟩)) ∧ Md (wl.alloc (.cells #[.slice (some ⟨ms, 0, none⟩) n n, .slice (some ⟨mn, 0, none⟩) n n, .slice (some ⟨mb, 0, none⟩) nb nb] 42)) md ms' mn' mb' n nb (List.replicate n 0) (List.replicate n 0) ∧ w.heap.size ≤ md ∧ w.heap.size ≤ ms' ∧ w.heap.size ≤ mn' ∧ w.heap.size ≤ mb' ∧ Below w.heap.size w (wl.alloc (.cells #[.slice (some ⟨ms, 0, none⟩) n n, .slice (some ⟨mn, 0, none⟩) n n, .slice (some ⟨mb, 0, none⟩) nb nb] 42)) := by
  rw [bv_made] at hs hn
  refine ⟨_, ms, mn, mb, rfl, ⟨blk_new wl _, ⟨[], blk_alloc hs _⟩, ⟨[], blk_alloc hn _⟩, ⟨_, blk_alloc hm _, by simp [madeCells], fun j v hv => ?_⟩, List.length_replicate, List.length_replicate, ne, hk.symm⟩, hb.size, g1, g2, g3, below_alloc hb _⟩
  simp [madeCells, Nat.mod_one] at hv
  obtain ⟨_, rfl⟩ := hv
  exact ⟨false, rfl⟩
set_option maxRecDepth 100000 in
theorem jm_new (nb : Nat) (w : World) (h0 : 1 ≤ nb) (h1 : nb ≤ 64) : Calls Try.prog 17 #[.int .i64 ↑nb] w fun e w' => ∃ md ms mn mb, e = .returned (.pointer (some ⟨md, 0, none⟩)) ∧ Md w' md ms mn mb (nb * 64) nb (List.replicate (nb * 64) 0) (List.replicate (nb * 64) 0) ∧ w.heap.size ≤ md ∧ w.heap.size ≤ ms ∧ w.heap.size ≤ mn ∧ w.heap.size ≤ mb ∧ Below w.heap.size w w' := by
  obtain ⟨n, hn⟩ : ∃ n : Nat, nb * 64 = n := ⟨_, rfl⟩
  rw [hn]
  have HN := Aside0.mk hn
  have hw : wrap64 (↑nb * 64) = (↑n : Int) := by unfold wrap64; omega
  have HW64 := Aside0.mk hw
  have hmk := fun W => run_make_row' (P := Try.prog) 22 5 (.int .u8 0) 1 Try.underlying22 jd_info rfl .i64 .i64 n (by omega) (by omega) W
  have hmb := fun W => run_make_row' (P := Try.prog) 40 4 (.bool false) 1 Try.underlying40 jm_info rfl .i64 .i64 nb (by omega) (by omega) W
  clear hn hw
  go_enter Try.func17, Try.ntmps17
  go_wp2_with fail
  refine start_ (n := 11) (S := fun _ => True) (ds := []) #[false, false, false, false, false, false, false, false, false, false, false] (by kernel_rfl) rfl rfl trivial (fun _ => ?_)
  refine pure_ (i := 0) (N := some 3) (v := ?_) (a' := ?_) #[true, false, false, false, false, false, false, false, false, false, false] rfl rfl (by kernel_rfl) (fun _ _ _ h => h) (Or.inl ⟨by rfl, ?_⟩) ?_ ?_
  rotate_left
  · intro w'
    go_simp
    with_reducible rfl
  rotate_left
  · simp only [Act.put, List.setIfInBounds_toArray, List.set_cons_zero, List.set_cons_succ, i64_w, i32_w]
    rfl
  refine pure_ (i := 1) (N := some 4) (v := ?_) (a' := ?_) #[true, true, false, false, false, false, false, false, false, false, false] rfl rfl (by kernel_rfl) (fun _ _ _ h => h) (Or.inl ⟨by rfl, ?_⟩) ?_ ?_
  rotate_left
  · intro w'
    go_simp
    with_reducible rfl
  rotate_left
  · simp only [Act.put, List.setIfInBounds_toArray, List.set_cons_zero, List.set_cons_succ, i64_w, i32_w]
    rfl
  rw [HW64.out]
  refine pure_ (i := 3) (N := some 6) (v := ?_) (a' := ?_) #[true, true, false, true, false, false, false, false, false, false, false] rfl rfl (by kernel_rfl) (fun _ _ _ h => h) (Or.inl ⟨by rfl, ?_⟩) ?_ ?_
  rotate_left
  · intro w'
    go_simp
    with_reducible rfl
  rotate_left
  · simp only [Act.put, List.setIfInBounds_toArray, List.set_cons_zero, List.set_cons_succ, i64_w, i32_w]
    rfl
  refine pure_ (i := 4) (N := some 7) (v := ?_) (a' := ?_) #[true, true, false, true, true, false, false, false, false, false, false] rfl rfl (by kernel_rfl) (fun _ _ _ h => h) (Or.inl ⟨by rfl, ?_⟩) ?_ ?_
  rotate_left
  · intro w'
    go_simp
    with_reducible rfl
  rotate_left
  · simp only [Act.put, List.setIfInBounds_toArray, List.set_cons_zero, List.set_cons_succ, i64_w, i32_w]
    rfl
  rw [HW64.out]
  refine pure_ (i := 6) (N := some 9) (v := ?_) (a' := ?_) #[true, true, false, true, true, false, true, false, false, false, false] rfl rfl (by kernel_rfl) (fun _ _ _ h => h) (Or.inl ⟨by rfl, ?_⟩) ?_ ?_
  rotate_left
  · intro w'
    go_simp
    with_reducible rfl
  rotate_left
  · simp only [Act.put, List.setIfInBounds_toArray, List.set_cons_zero, List.set_cons_succ, i64_w, i32_w]
    rfl
  refine three_ (i := 2) (j := 5) (k := 7) (Ni := some 5) (Nj := some 8) (Nk := some 10) #[true, true, true, true, true, false, true, false, false, false, false] #[true, true, false, true, true, true, true, false, false, false, false] #[true, true, false, true, true, false, true, true, false, false, false] rfl rfl rfl rfl rfl rfl (by kernel_rfl) (by decide) (by decide) (by decide) (fun K hK => ?_) (fun K hK => ?_) (fun K hK => ?_)
  · refine value_ (w1 := ?_) (v := ?_) (by rfl) rfl ?_ ?_
    rotate_left 2
    · go_simp
      constructor
      · rfl
      · rfl
    refine hK.out _ _ trivial (fun _ => ?_)
    clear hK K
    refine norm_ (a' := ?_) ?_ ?_
    rotate_left
    · show Act.put _ (some 5) _ = _
      simp only [Act.put, List.setIfInBounds_toArray, List.set_cons_zero, List.set_cons_succ, i64_w, i32_w]
      rfl
    refine two_ (i := 5) (j := 7) (Ni := some 8) (Nj := some 10) #[true, true, true, true, true, true, true, false, false, false, false] #[true, true, true, true, true, false, true, true, false, false, false] rfl rfl rfl rfl (by kernel_rfl) (by decide) (by decide) (fun K hK => ?_) (fun K hK => ?_)
    · refine value_ (w1 := ?_) (v := ?_) (by rfl) rfl ?_ ?_
      rotate_left 2
      · go_simp
        constructor
        · rfl
        · rfl
      refine hK.out _ _ trivial (fun _ => ?_)
      clear hK K
      refine norm_ (a' := ?_) ?_ ?_
      rotate_left
      · show Act.put _ (some 8) _ = _
        simp only [Act.put, List.setIfInBounds_toArray, List.set_cons_zero, List.set_cons_succ, i64_w, i32_w]
        rfl
      refine one_ (i := 7) (N := some 10) #[true, true, true, true, true, true, true, true, false, false, false] rfl rfl (by kernel_rfl) (by decide) (fun K hK => ?_)
      refine value_ (w1 := ?_) (v := ?_) (by rfl) rfl ?_ ?_
      rotate_left 2
      · go_simp
        constructor
        · rfl
        · rfl
      refine hK.out _ _ trivial (fun _ => ?_)
      clear hK K
      refine norm_ (a' := ?_) ?_ ?_
      rotate_left
      · show Act.put _ (some 10) _ = _
        simp only [Act.put, List.setIfInBounds_toArray, List.set_cons_zero, List.set_cons_succ, i64_w, i32_w]
        rfl
      obtain ⟨hs, hn, hm, hb⟩ := jd_lay w (.cells (madeCells #[.int .u8 0] n) 5) (.cells (madeCells #[.int .u8 0] n) 5) (.cells (madeCells #[.bool false] nb) 4)
      have hne : w.heap.size ≠ w.heap.size + 1 ∧ w.heap.size ≠ w.heap.size + 1 + 1 ∧ w.heap.size + 1 ≠ w.heap.size + 1 + 1 := ⟨by omega, by omega, by omega⟩
      generalize hX : (((w.alloc (.cells (madeCells #[.int .u8 0] n) 5)).alloc (.cells (madeCells #[.int .u8 0] n) 5)).alloc (.cells (madeCells #[.bool false] nb) 4)).drew = wl at hs hn hm hb ⊢
      clear hX
      have g1 : w.heap.size ≤ w.heap.size + 1 := by omega
      have g2 : w.heap.size ≤ w.heap.size + 1 + 1 := by omega
      have g0 : w.heap.size ≤ w.heap.size := by omega
      generalize h2 : w.heap.size + 1 + 1 = b2 at hs hn hm hne g2 ⊢
      generalize h1 : w.heap.size + 1 = b1 at hs hn hm hne g1 ⊢
      clear hmk hmb
      refine pure_ (i := 8) (N := some 11) (v := ?_) (a' := ?_) #[true, true, true, true, true, true, true, true, true, false, false] rfl rfl (by kernel_rfl) (fun _ _ _ h => h) (Or.inl ⟨by rfl, ?_⟩) ?_ ?_
      rotate_left
      · intro w'
        go_simp
        with_reducible rfl
      rotate_left
      · simp only [Act.put, List.setIfInBounds_toArray, List.set_cons_zero, List.set_cons_succ, i64_w, i32_w]
        rfl
      refine one_ (i := 9) (N := some 12) #[true, true, true, true, true, true, true, true, true, true, false] rfl rfl (by kernel_rfl) (by decide) (fun K hK => ?_)
      refine value_ (w1 := ?_) (v := ?_) (by rfl) rfl ?_ ?_
      rotate_left 2
      · go_simp
        constructor
        · rfl
        · rfl
      refine hK.out _ _ trivial (fun _ => ?_)
      clear hK K
      refine norm_ (a' := ?_) ?_ ?_
      rotate_left
      · show Act.put _ (some 12) _ = _
        simp only [Act.put, List.setIfInBounds_toArray, List.set_cons_zero, List.set_cons_succ, i64_w, i32_w]
        rfl
      refine pure_ (i := 10) (N := some 2) (v := ?_) (a' := ?_) #[true, true, true, true, true, true, true, true, true, true, true] rfl rfl (by kernel_rfl) (fun _ _ _ h => h) (Or.inl ⟨by rfl, ?_⟩) ?_ ?_
      rotate_left
      · intro w'
        go_simp
        with_reducible rfl
      rotate_left
      · simp only [Act.put, List.setIfInBounds_toArray, List.set_cons_zero, List.set_cons_succ, i64_w, i32_w]
        rfl
      refine done_ (by kernel_rfl) ?_
      go_wp2
      go_ret
      exact jm_made wl w.heap.size b1 b2 n nb w HN.out hs hn hm hne.1 g0 g1 g2 hb
    · refine value_ (w1 := ?_) (v := ?_) (by rfl) rfl ?_ ?_
      rotate_left 2
      · go_simp
        constructor
        · rfl
        · rfl
      refine hK.out _ _ trivial (fun _ => ?_)
      clear hK K
      refine norm_ (a' := ?_) ?_ ?_
      rotate_left
      · show Act.put _ (some 10) _ = _
        simp only [Act.put, List.setIfInBounds_toArray, List.set_cons_zero, List.set_cons_succ, i64_w, i32_w]
        rfl
      refine one_ (i := 5) (N := some 8) #[true, true, true, true, true, true, true, true, false, false, false] rfl rfl (by kernel_rfl) (by decide) (fun K hK => ?_)
      refine value_ (w1 := ?_) (v := ?_) (by rfl) rfl ?_ ?_
      rotate_left 2
      · go_simp
        constructor
        · rfl
        · rfl
      refine hK.out _ _ trivial (fun _ => ?_)
      clear hK K
      refine norm_ (a' := ?_) ?_ ?_
      rotate_left
      · show Act.put _ (some 8) _ = _
        simp only [Act.put, List.setIfInBounds_toArray, List.set_cons_zero, List.set_cons_succ, i64_w, i32_w]
        rfl
      obtain ⟨hs, hm, hn, hb⟩ := jd_lay w (.cells (madeCells #[.int .u8 0] n) 5) (.cells (madeCells #[.bool false] nb) 4) (.cells (madeCells #[.int .u8 0] n) 5)
      have hne : w.heap.size ≠ w.heap.size + 1 ∧ w.heap.size ≠ w.heap.size + 1 + 1 ∧ w.heap.size + 1 ≠ w.heap.size + 1 + 1 := ⟨by omega, by omega, by omega⟩
      generalize hX : (((w.alloc (.cells (madeCells #[.int .u8 0] n) 5)).alloc (.cells (madeCells #[.bool false] nb) 4)).alloc (.cells (madeCells #[.int .u8 0] n) 5)).drew = wl at hs hn hm hb ⊢
      clear hX
      have g1 : w.heap.size ≤ w.heap.size + 1 := by omega
      have g2 : w.heap.size ≤ w.heap.size + 1 + 1 := by omega
      have g0 : w.heap.size ≤ w.heap.size := by omega
      generalize h2 : w.heap.size + 1 + 1 = b2 at hs hn hm hne g2 ⊢
      generalize h1 : w.heap.size + 1 = b1 at hs hn hm hne g1 ⊢
      clear hmk hmb
      refine pure_ (i := 8) (N := some 11) (v := ?_) (a' := ?_) #[true, true, true, true, true, true, true, true, true, false, false] rfl rfl (by kernel_rfl) (fun _ _ _ h => h) (Or.inl ⟨by rfl, ?_⟩) ?_ ?_
      rotate_left
      · intro w'
        go_simp
        with_reducible rfl
      rotate_left
      · simp only [Act.put, List.setIfInBounds_toArray, List.set_cons_zero, List.set_cons_succ, i64_w, i32_w]
        rfl
      refine one_ (i := 9) (N := some 12) #[true, true, true, true, true, true, true, true, true, true, false] rfl rfl (by kernel_rfl) (by decide) (fun K hK => ?_)
      refine value_ (w1 := ?_) (v := ?_) (by rfl) rfl ?_ ?_
      rotate_left 2
      · go_simp
        constructor
        · rfl
        · rfl
      refine hK.out _ _ trivial (fun _ => ?_)
      clear hK K
      refine norm_ (a' := ?_) ?_ ?_
      rotate_left
      · show Act.put _ (some 12) _ = _
        simp only [Act.put, List.setIfInBounds_toArray, List.set_cons_zero, List.set_cons_succ, i64_w, i32_w]
        rfl
      refine pure_ (i := 10) (N := some 2) (v := ?_) (a' := ?_) #[true, true, true, true, true, true, true, true, true, true, true] rfl rfl (by kernel_rfl) (fun _ _ _ h => h) (Or.inl ⟨by rfl, ?_⟩) ?_ ?_
      rotate_left
      · intro w'
        go_simp
        with_reducible rfl
      rotate_left
      · simp only [Act.put, List.setIfInBounds_toArray, List.set_cons_zero, List.set_cons_succ, i64_w, i32_w]
        rfl
      refine done_ (by kernel_rfl) ?_
      go_wp2
      go_ret
      exact jm_made wl w.heap.size b2 b1 n nb w HN.out hs hn hm hne.2.1 g0 g2 g1 hb
  · refine value_ (w1 := ?_) (v := ?_) (by rfl) rfl ?_ ?_
    rotate_left 2
    · go_simp
      constructor
      · rfl
      · rfl
    refine hK.out _ _ trivial (fun _ => ?_)
    clear hK K
    refine norm_ (a' := ?_) ?_ ?_
    rotate_left
    · show Act.put _ (some 8) _ = _
      simp only [Act.put, List.setIfInBounds_toArray, List.set_cons_zero, List.set_cons_succ, i64_w, i32_w]
      rfl
    refine two_ (i := 2) (j := 7) (Ni := some 5) (Nj := some 10) #[true, true, true, true, true, true, true, false, false, false, false] #[true, true, false, true, true, true, true, true, false, false, false] rfl rfl rfl rfl (by kernel_rfl) (by decide) (by decide) (fun K hK => ?_) (fun K hK => ?_)
    · refine value_ (w1 := ?_) (v := ?_) (by rfl) rfl ?_ ?_
      rotate_left 2
      · go_simp
        constructor
        · rfl
        · rfl
      refine hK.out _ _ trivial (fun _ => ?_)
      clear hK K
      refine norm_ (a' := ?_) ?_ ?_
      rotate_left
      · show Act.put _ (some 5) _ = _
        simp only [Act.put, List.setIfInBounds_toArray, List.set_cons_zero, List.set_cons_succ, i64_w, i32_w]
        rfl
      refine one_ (i := 7) (N := some 10) #[true, true, true, true, true, true, true, true, false, false, false] rfl rfl (by kernel_rfl) (by decide) (fun K hK => ?_)
      refine value_ (w1 := ?_) (v := ?_) (by rfl) rfl ?_ ?_
      rotate_left 2
      · go_simp
        constructor
        · rfl
        · rfl
      refine hK.out _ _ trivial (fun _ => ?_)
      clear hK K
      refine norm_ (a' := ?_) ?_ ?_
      rotate_left
      · show Act.put _ (some 10) _ = _
        simp only [Act.put, List.setIfInBounds_toArray, List.set_cons_zero, List.set_cons_succ, i64_w, i32_w]
        rfl
      obtain ⟨hn, hs, hm, hb⟩ := jd_lay w (.cells (madeCells #[.int .u8 0] n) 5) (.cells (madeCells #[.int .u8 0] n) 5) (.cells (madeCells #[.bool false] nb) 4)
      have hne : w.heap.size ≠ w.heap.size + 1 ∧ w.heap.size ≠ w.heap.size + 1 + 1 ∧ w.heap.size + 1 ≠ w.heap.size + 1 + 1 := ⟨by omega, by omega, by omega⟩
      generalize hX : (((w.alloc (.cells (madeCells #[.int .u8 0] n) 5)).alloc (.cells (madeCells #[.int .u8 0] n) 5)).alloc (.cells (madeCells #[.bool false] nb) 4)).drew = wl at hs hn hm hb ⊢
      clear hX
      have g1 : w.heap.size ≤ w.heap.size + 1 := by omega
      have g2 : w.heap.size ≤ w.heap.size + 1 + 1 := by omega
      have g0 : w.heap.size ≤ w.heap.size := by omega
      generalize h2 : w.heap.size + 1 + 1 = b2 at hs hn hm hne g2 ⊢
      generalize h1 : w.heap.size + 1 = b1 at hs hn hm hne g1 ⊢
      clear hmk hmb
      refine pure_ (i := 8) (N := some 11) (v := ?_) (a' := ?_) #[true, true, true, true, true, true, true, true, true, false, false] rfl rfl (by kernel_rfl) (fun _ _ _ h => h) (Or.inl ⟨by rfl, ?_⟩) ?_ ?_
      rotate_left
      · intro w'
        go_simp
        with_reducible rfl
      rotate_left
      · simp only [Act.put, List.setIfInBounds_toArray, List.set_cons_zero, List.set_cons_succ, i64_w, i32_w]
        rfl
      refine one_ (i := 9) (N := some 12) #[true, true, true, true, true, true, true, true, true, true, false] rfl rfl (by kernel_rfl) (by decide) (fun K hK => ?_)
      refine value_ (w1 := ?_) (v := ?_) (by rfl) rfl ?_ ?_
      rotate_left 2
      · go_simp
        constructor
        · rfl
        · rfl
      refine hK.out _ _ trivial (fun _ => ?_)
      clear hK K
      refine norm_ (a' := ?_) ?_ ?_
      rotate_left
      · show Act.put _ (some 12) _ = _
        simp only [Act.put, List.setIfInBounds_toArray, List.set_cons_zero, List.set_cons_succ, i64_w, i32_w]
        rfl
      refine pure_ (i := 10) (N := some 2) (v := ?_) (a' := ?_) #[true, true, true, true, true, true, true, true, true, true, true] rfl rfl (by kernel_rfl) (fun _ _ _ h => h) (Or.inl ⟨by rfl, ?_⟩) ?_ ?_
      rotate_left
      · intro w'
        go_simp
        with_reducible rfl
      rotate_left
      · simp only [Act.put, List.setIfInBounds_toArray, List.set_cons_zero, List.set_cons_succ, i64_w, i32_w]
        rfl
      refine done_ (by kernel_rfl) ?_
      go_wp2
      go_ret
      exact jm_made wl b1 w.heap.size b2 n nb w HN.out hs hn hm (Ne.symm hne.1) g1 g0 g2 hb
    · refine value_ (w1 := ?_) (v := ?_) (by rfl) rfl ?_ ?_
      rotate_left 2
      · go_simp
        constructor
        · rfl
        · rfl
      refine hK.out _ _ trivial (fun _ => ?_)
      clear hK K
      refine norm_ (a' := ?_) ?_ ?_
      rotate_left
      · show Act.put _ (some 10) _ = _
        simp only [Act.put, List.setIfInBounds_toArray, List.set_cons_zero, List.set_cons_succ, i64_w, i32_w]
        rfl
      refine one_ (i := 2) (N := some 5) #[true, true, true, true, true, true, true, true, false, false, false] rfl rfl (by kernel_rfl) (by decide) (fun K hK => ?_)
      refine value_ (w1 := ?_) (v := ?_) (by rfl) rfl ?_ ?_
      rotate_left 2
      · go_simp
        constructor
        · rfl
        · rfl
      refine hK.out _ _ trivial (fun _ => ?_)
      clear hK K
      refine norm_ (a' := ?_) ?_ ?_
      rotate_left
      · show Act.put _ (some 5) _ = _
        simp only [Act.put, List.setIfInBounds_toArray, List.set_cons_zero, List.set_cons_succ, i64_w, i32_w]
        rfl
      obtain ⟨hn, hm, hs, hb⟩ := jd_lay w (.cells (madeCells #[.int .u8 0] n) 5) (.cells (madeCells #[.bool false] nb) 4) (.cells (madeCells #[.int .u8 0] n) 5)
      have hne : w.heap.size ≠ w.heap.size + 1 ∧ w.heap.size ≠ w.heap.size + 1 + 1 ∧ w.heap.size + 1 ≠ w.heap.size + 1 + 1 := ⟨by omega, by omega, by omega⟩
      generalize hX : (((w.alloc (.cells (madeCells #[.int .u8 0] n) 5)).alloc (.cells (madeCells #[.bool false] nb) 4)).alloc (.cells (madeCells #[.int .u8 0] n) 5)).drew = wl at hs hn hm hb ⊢
      clear hX
      have g1 : w.heap.size ≤ w.heap.size + 1 := by omega
      have g2 : w.heap.size ≤ w.heap.size + 1 + 1 := by omega
      have g0 : w.heap.size ≤ w.heap.size := by omega
      generalize h2 : w.heap.size + 1 + 1 = b2 at hs hn hm hne g2 ⊢
      generalize h1 : w.heap.size + 1 = b1 at hs hn hm hne g1 ⊢
      clear hmk hmb
      refine pure_ (i := 8) (N := some 11) (v := ?_) (a' := ?_) #[true, true, true, true, true, true, true, true, true, false, false] rfl rfl (by kernel_rfl) (fun _ _ _ h => h) (Or.inl ⟨by rfl, ?_⟩) ?_ ?_
      rotate_left
      · intro w'
        go_simp
        with_reducible rfl
      rotate_left
      · simp only [Act.put, List.setIfInBounds_toArray, List.set_cons_zero, List.set_cons_succ, i64_w, i32_w]
        rfl
      refine one_ (i := 9) (N := some 12) #[true, true, true, true, true, true, true, true, true, true, false] rfl rfl (by kernel_rfl) (by decide) (fun K hK => ?_)
      refine value_ (w1 := ?_) (v := ?_) (by rfl) rfl ?_ ?_
      rotate_left 2
      · go_simp
        constructor
        · rfl
        · rfl
      refine hK.out _ _ trivial (fun _ => ?_)
      clear hK K
      refine norm_ (a' := ?_) ?_ ?_
      rotate_left
      · show Act.put _ (some 12) _ = _
        simp only [Act.put, List.setIfInBounds_toArray, List.set_cons_zero, List.set_cons_succ, i64_w, i32_w]
        rfl
      refine pure_ (i := 10) (N := some 2) (v := ?_) (a' := ?_) #[true, true, true, true, true, true, true, true, true, true, true] rfl rfl (by kernel_rfl) (fun _ _ _ h => h) (Or.inl ⟨by rfl, ?_⟩) ?_ ?_
      rotate_left
      · intro w'
        go_simp
        with_reducible rfl
      rotate_left
      · simp only [Act.put, List.setIfInBounds_toArray, List.set_cons_zero, List.set_cons_succ, i64_w, i32_w]
        rfl
      refine done_ (by kernel_rfl) ?_
      go_wp2
      go_ret
      exact jm_made wl b2 w.heap.size b1 n nb w HN.out hs hn hm (Ne.symm hne.2.1) g2 g0 g1 hb
  · refine value_ (w1 := ?_) (v := ?_) (by rfl) rfl ?_ ?_
    rotate_left 2
    · go_simp
      constructor
      · rfl
      · rfl
    refine hK.out _ _ trivial (fun _ => ?_)
    clear hK K
    refine norm_ (a' := ?_) ?_ ?_
    rotate_left
    · show Act.put _ (some 10) _ = _
      simp only [Act.put, List.setIfInBounds_toArray, List.set_cons_zero, List.set_cons_succ, i64_w, i32_w]
      rfl
    refine two_ (i := 2) (j := 5) (Ni := some 5) (Nj := some 8) #[true, true, true, true, true, false, true, true, false, false, false] #[true, true, false, true, true, true, true, true, false, false, false] rfl rfl rfl rfl (by kernel_rfl) (by decide) (by decide) (fun K hK => ?_) (fun K hK => ?_)
    · refine value_ (w1 := ?_) (v := ?_) (by rfl) rfl ?_ ?_
      rotate_left 2
      · go_simp
        constructor
        · rfl
        · rfl
      refine hK.out _ _ trivial (fun _ => ?_)
      clear hK K
      refine norm_ (a' := ?_) ?_ ?_
      rotate_left
      · show Act.put _ (some 5) _ = _
        simp only [Act.put, List.setIfInBounds_toArray, List.set_cons_zero, List.set_cons_succ, i64_w, i32_w]
        rfl
      refine one_ (i := 5) (N := some 8) #[true, true, true, true, true, true, true, true, false, false, false] rfl rfl (by kernel_rfl) (by decide) (fun K hK => ?_)
      refine value_ (w1 := ?_) (v := ?_) (by rfl) rfl ?_ ?_
      rotate_left 2
      · go_simp
        constructor
        · rfl
        · rfl
      refine hK.out _ _ trivial (fun _ => ?_)
      clear hK K
      refine norm_ (a' := ?_) ?_ ?_
      rotate_left
      · show Act.put _ (some 8) _ = _
        simp only [Act.put, List.setIfInBounds_toArray, List.set_cons_zero, List.set_cons_succ, i64_w, i32_w]
        rfl
      obtain ⟨hm, hs, hn, hb⟩ := jd_lay w (.cells (madeCells #[.bool false] nb) 4) (.cells (madeCells #[.int .u8 0] n) 5) (.cells (madeCells #[.int .u8 0] n) 5)
      have hne : w.heap.size ≠ w.heap.size + 1 ∧ w.heap.size ≠ w.heap.size + 1 + 1 ∧ w.heap.size + 1 ≠ w.heap.size + 1 + 1 := ⟨by omega, by omega, by omega⟩
      generalize hX : (((w.alloc (.cells (madeCells #[.bool false] nb) 4)).alloc (.cells (madeCells #[.int .u8 0] n) 5)).alloc (.cells (madeCells #[.int .u8 0] n) 5)).drew = wl at hs hn hm hb ⊢
      clear hX
      have g1 : w.heap.size ≤ w.heap.size + 1 := by omega
      have g2 : w.heap.size ≤ w.heap.size + 1 + 1 := by omega
      have g0 : w.heap.size ≤ w.heap.size := by omega
      generalize h2 : w.heap.size + 1 + 1 = b2 at hs hn hm hne g2 ⊢
      generalize h1 : w.heap.size + 1 = b1 at hs hn hm hne g1 ⊢
      clear hmk hmb
      refine pure_ (i := 8) (N := some 11) (v := ?_) (a' := ?_) #[true, true, true, true, true, true, true, true, true, false, false] rfl rfl (by kernel_rfl) (fun _ _ _ h => h) (Or.inl ⟨by rfl, ?_⟩) ?_ ?_
      rotate_left
      · intro w'
        go_simp
        with_reducible rfl
      rotate_left
      · simp only [Act.put, List.setIfInBounds_toArray, List.set_cons_zero, List.set_cons_succ, i64_w, i32_w]
        rfl
      refine one_ (i := 9) (N := some 12) #[true, true, true, true, true, true, true, true, true, true, false] rfl rfl (by kernel_rfl) (by decide) (fun K hK => ?_)
      refine value_ (w1 := ?_) (v := ?_) (by rfl) rfl ?_ ?_
      rotate_left 2
      · go_simp
        constructor
        · rfl
        · rfl
      refine hK.out _ _ trivial (fun _ => ?_)
      clear hK K
      refine norm_ (a' := ?_) ?_ ?_
      rotate_left
      · show Act.put _ (some 12) _ = _
        simp only [Act.put, List.setIfInBounds_toArray, List.set_cons_zero, List.set_cons_succ, i64_w, i32_w]
        rfl
      refine pure_ (i := 10) (N := some 2) (v := ?_) (a' := ?_) #[true, true, true, true, true, true, true, true, true, true, true] rfl rfl (by kernel_rfl) (fun _ _ _ h => h) (Or.inl ⟨by rfl, ?_⟩) ?_ ?_
      rotate_left
      · intro w'
        go_simp
        with_reducible rfl
      rotate_left
      · simp only [Act.put, List.setIfInBounds_toArray, List.set_cons_zero, List.set_cons_succ, i64_w, i32_w]
        rfl
      refine done_ (by kernel_rfl) ?_
      go_wp2
      go_ret
      exact jm_made wl b1 b2 w.heap.size n nb w HN.out hs hn hm hne.2.2 g1 g2 g0 hb
    · refine value_ (w1 := ?_) (v := ?_) (by rfl) rfl ?_ ?_
      rotate_left 2
      · go_simp
        constructor
        · rfl
        · rfl
      refine hK.out _ _ trivial (fun _ => ?_)
      clear hK K
      refine norm_ (a' := ?_) ?_ ?_
      rotate_left
      · show Act.put _ (some 8) _ = _
        simp only [Act.put, List.setIfInBounds_toArray, List.set_cons_zero, List.set_cons_succ, i64_w, i32_w]
        rfl
      refine one_ (i := 2) (N := some 5) #[true, true, true, true, true, true, true, true, false, false, false] rfl rfl (by kernel_rfl) (by decide) (fun K hK => ?_)
      refine value_ (w1 := ?_) (v := ?_) (by rfl) rfl ?_ ?_
      rotate_left 2
      · go_simp
        constructor
        · rfl
        · rfl
      refine hK.out _ _ trivial (fun _ => ?_)
      clear hK K
      refine norm_ (a' := ?_) ?_ ?_
      rotate_left
      · show Act.put _ (some 5) _ = _
        simp only [Act.put, List.setIfInBounds_toArray, List.set_cons_zero, List.set_cons_succ, i64_w, i32_w]
        rfl
      obtain ⟨hm, hn, hs, hb⟩ := jd_lay w (.cells (madeCells #[.bool false] nb) 4) (.cells (madeCells #[.int .u8 0] n) 5) (.cells (madeCells #[.int .u8 0] n) 5)
      have hne : w.heap.size ≠ w.heap.size + 1 ∧ w.heap.size ≠ w.heap.size + 1 + 1 ∧ w.heap.size + 1 ≠ w.heap.size + 1 + 1 := ⟨by omega, by omega, by omega⟩
      generalize hX : (((w.alloc (.cells (madeCells #[.bool false] nb) 4)).alloc (.cells (madeCells #[.int .u8 0] n) 5)).alloc (.cells (madeCells #[.int .u8 0] n) 5)).drew = wl at hs hn hm hb ⊢
      clear hX
      have g1 : w.heap.size ≤ w.heap.size + 1 := by omega
      have g2 : w.heap.size ≤ w.heap.size + 1 + 1 := by omega
      have g0 : w.heap.size ≤ w.heap.size := by omega
      generalize h2 : w.heap.size + 1 + 1 = b2 at hs hn hm hne g2 ⊢
      generalize h1 : w.heap.size + 1 = b1 at hs hn hm hne g1 ⊢
      clear hmk hmb
      refine pure_ (i := 8) (N := some 11) (v := ?_) (a' := ?_) #[true, true, true, true, true, true, true, true, true, false, false] rfl rfl (by kernel_rfl) (fun _ _ _ h => h) (Or.inl ⟨by rfl, ?_⟩) ?_ ?_
      rotate_left
      · intro w'
        go_simp
        with_reducible rfl
      rotate_left
      · simp only [Act.put, List.setIfInBounds_toArray, List.set_cons_zero, List.set_cons_succ, i64_w, i32_w]
        rfl
      refine one_ (i := 9) (N := some 12) #[true, true, true, true, true, true, true, true, true, true, false] rfl rfl (by kernel_rfl) (by decide) (fun K hK => ?_)
      refine value_ (w1 := ?_) (v := ?_) (by rfl) rfl ?_ ?_
      rotate_left 2
      · go_simp
        constructor
        · rfl
        · rfl
      refine hK.out _ _ trivial (fun _ => ?_)
      clear hK K
      refine norm_ (a' := ?_) ?_ ?_
      rotate_left
      · show Act.put _ (some 12) _ = _
        simp only [Act.put, List.setIfInBounds_toArray, List.set_cons_zero, List.set_cons_succ, i64_w, i32_w]
        rfl
      refine pure_ (i := 10) (N := some 2) (v := ?_) (a' := ?_) #[true, true, true, true, true, true, true, true, true, true, true] rfl rfl (by kernel_rfl) (fun _ _ _ h => h) (Or.inl ⟨by rfl, ?_⟩) ?_ ?_
      rotate_left
      · intro w'
        go_simp
        with_reducible rfl
      rotate_left
      · simp only [Act.put, List.setIfInBounds_toArray, List.set_cons_zero, List.set_cons_succ, i64_w, i32_w]
        rfl
      refine done_ (by kernel_rfl) ?_
      go_wp2
      go_ret
      exact jm_made wl b2 b1 w.heap.size n nb w HN.out hs hn hm (Ne.symm hne.2.2) g2 g1 g0 hb


end Go.Proofs.Ythblaehmdailhaa.PJournalStays
