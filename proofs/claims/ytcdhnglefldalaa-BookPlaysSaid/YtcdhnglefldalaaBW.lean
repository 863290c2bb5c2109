import Derived.Test.YtcdhnglefldalaaBV
namespace Go.Proofs.Ytcdhnglefldalaa.PBook
open Go.RowKit Go.Proofs.YtcdhnglefldalaaW.PrintWords Go.Proofs.YtcdhnglefldalaaW.PrintLast Go.Proofs.YtcdhnglefldalaaW.PrintMore
set_option linter.unusedVariables false
set_option linter.unusedSimpArgs false
open Go.Proofs.Ytcdhnglefldalaa.PBookPlays (S32 S34 S40 k32 k34 k40 z32 z34 z40 rd_T34 at_T34 rd_T40 at_T40 errEqI errEqL errEqR errNeI errNeL errNeR cents_Add.f cents_Add.calls errW errW_none errW_some)
open Go.Maps Go.Shelf Go.RowKit
attribute [local go_sem high] errEqI errNeI errEqL errNeL errEqR errNeR bk_eqs
theorem bw_eqs (a : Addr) (n c : Nat) (w : World) : (binOp .eql 61 (.slice (some a) n c) (.slice none 0 0)).run Try.prog w = .ok (.bool false) w :=
  Lib.run_eql_slice_nil w _ _ _ _ _ _ _ Try.underlying61
theorem bw_eqs0 (w : World) : (binOp .eql 61 (.slice none 0 0) (.slice none 0 0)).run Try.prog w = .ok (.bool true) w :=
  Lib.run_eql_slice_nil w _ _ _ _ _ _ _ Try.underlying61
attribute [local go_sem high] bw_eqs bw_eqs0
theorem own_emptyE (w : World) : (w.alloc (.cells #[] 71)).ownsRow w.heap.size 71 2 (.slice (some ⟨w.heap.size, 0, none⟩) 0 0) 0 [] := ⟨rfl, Or.inr ⟨w.heap.size, 0, #[], rfl, Nat.le_refl _, blk_new w _, Nat.le_refl _, by unfold maxLen; omega, rfl, rfl⟩⟩
theorem ecs_one (R : List En) : ∀ u ∈ ecs R, u.oneCell' = true := by
  intro u hu
  obtain ⟨x, -, hx⟩ := List.mem_flatMap.1 hu
  simp [ec] at hx
  rcases hx with rfl | rfl <;> rfl
theorem own_cells {w : World} {B g n c : Nat} {R : List En} (h : w.ownsRow B 71 2 (.slice (some ⟨g, 0, none⟩) n c) n (ecs R)) (hn : n = R.length) : ∀ j u, (ecs R)[j]? = some u → w.cell? ((⟨g, 0, none⟩ : Addr).add j) = some u := by
  intro j u hu
  obtain ⟨hl, ⟨e, -⟩ | ⟨g', cap, cur, e, hg, hb, hc, hcm, hsz, ht⟩⟩ := h
  · cases e
  · cases e
    have hj : j < (ecs R).length := (List.getElem?_eq_some_iff.1 hu).1
    rw [ecs_len] at hj
    rw [ad_add, Nat.zero_add]
    refine (blk_cell hb j).trans ?_
    rw [← ht, List.getElem?_take, if_pos (by omega)] at hu
    rw [← Array.getElem?_toList]
    exact hu
set_option maxRecDepth 100000 in
theorem bw_clone {w : World} {B : Nat} {ev : Value} {R : List En} (h : w.ownsRow B 71 2 ev R.length (ecs R)) (hl : R.length ≤ 65536) : Calls Try.prog 34 #[ev] w fun e w' => ∃ v', e = .returned v' ∧ w'.ownsRow w.heap.size 71 2 v' R.length (ecs R) ∧ Below w.heap.size w w' := by
  obtain ⟨i0, hi, hz0, hz1, hz2⟩ := info_parts b_info71
  have HI := Aside0.mk hi
  have hln := ecs_len R
  obtain ⟨A, c, rfl⟩ := own_sl h
  have HO := Aside0.mk h
  clear hi h
  cases A with
  | none =>
    obtain ⟨n, hn⟩ : ∃ n, R.length = n := ⟨_, rfl⟩
    have h0 : R.length = 0 ∧ c = 0 := by
      obtain ⟨hl, ⟨e, h0⟩ | ⟨g', cap, cur, e, -⟩⟩ := HO.out
      · injection e with _ _ e3
        exact ⟨h0, e3⟩
      · cases e
    obtain ⟨h0, rfl⟩ := h0
    have hR : R = [] := List.eq_nil_of_length_eq_zero h0
    subst hR
    clear h0 hn hln
    go_enter Try.func34, Try.ntmps34
    go_wp2_with fail
    go_ret
    exact ⟨_, rfl, World.ownsRow_nil _ _ _ 2, Below.refl _ _⟩
  | some ad =>
    obtain ⟨g, rfl⟩ : ∃ g, ad = ⟨g, 0, none⟩ := by
      obtain ⟨hl, ⟨e, h0⟩ | ⟨g', cap, cur, e, -⟩⟩ := HO.out
      · cases e
      · cases e
        exact ⟨g', rfl⟩
    have hcl := own_cells (HO.out.alloc (.cells #[] 71)) rfl
    have HCL := Aside0.mk hcl
    clear hcl
    go_enter Try.func34, Try.ntmps34
    go_wp2_with (at_builtin; refine wpList_append_own_at _ rfl _ _ 61 rfl w.heap.size 71 i0 (.agg #[.slice none 0 0, .bool false]) 2 32 Try.underlying61 HI.out hz0 hz1 hz2 rfl (by decide) (.slice (some ⟨w.heap.size, 0, none⟩) 0 0) 0 [] rfl (own_emptyE w) ⟨g, 0, none⟩ R.length c (ecs R) rfl (by omega) HCL.out (ecs_one R) (by unfold maxLen; omega) (by omega) (by simp) ?_; intro v' w1 hown' hgrow hnil hloc)
    go_ret
    rw [Nat.zero_add, List.nil_append] at hown'
    exact ⟨_, rfl, hown', (below_alloc (Below.refl w.heap.size w) _).grown hgrow (by simp) (fun k hk => by cases hk; exact Nat.le_refl _)⟩
theorem bw_maps {w : World} {b n : Nat} {D : DataW Unit} (h : OM w b n D) : Calls Try.prog 35 #[.map (some b)] w fun e w' => e = .returned (.map (some w.heap.size)) ∧ OM w' w.heap.size n D ∧ Below w.heap.size w w' :=
  (AnyW.maps_Clone_owns (P := Try.prog) Try.mapsA 32 (plainElem Try.prog 2) b n D w h).mono fun e w' ⟨a, b, c, d⟩ => ⟨a, b, d⟩
set_option maxRecDepth 100000 in
theorem bw_book {w : World} {B bb bm : Nat} {ev : Value} {R : List En} (h : Bk w B bb bm ev R) (hB : B ≤ w.heap.size) : Calls Try.prog 13 #[.pointer (some ⟨bb, 0, none⟩)] w fun e w' => ∃ bb' bm' ev', e = .returned (.pointer (some ⟨bb', 0, none⟩)) ∧ Bk w' B bb' bm' ev' R ∧ (∀ k, own bb' bm' ev' k → w.heap.size ≤ k) ∧ Below w.heap.size w w' := by
  have HB := Aside0.mk h
  obtain ⟨c0, c1, c2⟩ := h.cells
  clear h
  go_enter Try.func13, Try.ntmps13
  go_wp2_with fail
  refine start_ (n := 13) (S := fun w' => w'.cell? ⟨bb, 0, none⟩ = some ev ∧ w'.cell? ⟨bb, 1, none⟩ = some (.map (some bm))) (ds := []) #[false, false, false, false, false, false, false, false, false, false, false, false, false] (by kernel_rfl) rfl rfl ⟨c0, c1⟩ (fun hHeld => ?_)
  have B4 := Aside0.mk (below_drew1 (Below.refl w.heap.size w))
  have HK4 := Aside0.mk (HB.out.below B4.out)
  generalize hwd : w.drew = wd at hHeld B4 HK4 ⊢
  have HSZ : Aside0 (w.heap.size ≤ wd.heap.size) := ⟨B4.out.size⟩
  clear c0 c1 c2 hwd
  refine pure_ (i := 0) (N := some 3) (v := ?_) (a' := ?_) #[true, false, false, false, false, false, false, false, false, false, false, false, false] rfl rfl (by kernel_rfl) (fun _ _ _ h => h) (Or.inl ⟨by rfl, ?_⟩) ?_ ?_
  rotate_left
  · intro w'
    go_simp
    with_reducible rfl
  rotate_left
  · simp only [Act.put, List.setIfInBounds_toArray, List.set_cons_zero, List.set_cons_succ, i64_w, i32_w]
    rfl
  refine pure_ (i := 1) (N := some 4) (v := ?_) (a' := ?_) #[true, true, false, false, false, false, false, false, false, false, false, false, false] rfl rfl (by kernel_rfl) (fun _ _ _ h => h) (Or.inl ⟨by rfl, ?_⟩) ?_ ?_
  rotate_left
  · intro w'
    go_simp
    with_reducible rfl
  rotate_left
  · simp only [Act.put, List.setIfInBounds_toArray, List.set_cons_zero, List.set_cons_succ, i64_w, i32_w]
    rfl
  refine pure_ (i := 2) (N := some 5) (v := ?_) (a' := ?_) #[true, true, true, false, false, false, false, false, false, false, false, false, false] rfl rfl (by kernel_rfl) (fun _ _ _ h => h) (Or.inl ⟨by rfl, ?_⟩) ?_ ?_
  rotate_left
  · intro w'
    go_simp
    with_reducible rfl
  rotate_left
  · simp only [Act.put, List.setIfInBounds_toArray, List.set_cons_zero, List.set_cons_succ, i64_w, i32_w]
    rfl
  refine pure_ (i := 5) (N := some 8) (v := ?_) (a' := ?_) #[true, true, true, false, false, true, false, false, false, false, false, false, false] rfl rfl (by kernel_rfl) (fun _ _ _ h => h) (Or.inl ⟨by rfl, ?_⟩) ?_ ?_
  rotate_left
  · intro w'
    go_simp
    with_reducible rfl
  rotate_left
  · simp only [Act.put, List.setIfInBounds_toArray, List.set_cons_zero, List.set_cons_succ, i64_w, i32_w]
    rfl
  refine pure_ (i := 6) (N := some 9) (v := ?_) (a' := ?_) #[true, true, true, false, false, true, true, false, false, false, false, false, false] rfl rfl (by kernel_rfl) (fun _ _ _ h => h) (Or.inl ⟨by rfl, ?_⟩) ?_ ?_
  rotate_left
  · intro w'
    go_simp
    with_reducible rfl
  rotate_left
  · simp only [Act.put, List.setIfInBounds_toArray, List.set_cons_zero, List.set_cons_succ, i64_w, i32_w]
    rfl
  refine pure_ (i := 7) (N := some 10) (v := ?_) (a' := ?_) #[true, true, true, false, false, true, true, true, false, false, false, false, false] rfl rfl (by kernel_rfl) (fun _ _ _ h => h) (Or.inl ⟨by rfl, ?_⟩) ?_ ?_
  rotate_left
  · intro w'
    go_simp
    with_reducible rfl
  rotate_left
  · simp only [Act.put, List.setIfInBounds_toArray, List.set_cons_zero, List.set_cons_succ, i64_w, i32_w]
    rfl
  refine take_ (i := 3) (N := some 6) (v := ?_) (a' := ?_) #[true, true, true, true, false, true, true, true, false, false, false, false, false] rfl rfl (by kernel_rfl) (fun _ _ _ h => h) (Or.inl ⟨by rfl, ?_⟩) hHeld ?_ ?_
  rotate_left
  · rintro w' ⟨s0, s1⟩
    go_simp
    with_reducible rfl
  rotate_left
  · simp only [Act.put, List.setIfInBounds_toArray, List.set_cons_zero, List.set_cons_succ, i64_w, i32_w]
    rfl
  refine take_ (i := 8) (N := some 11) (v := ?_) (a' := ?_) #[true, true, true, true, false, true, true, true, true, false, false, false, false] rfl rfl (by kernel_rfl) (fun _ _ _ h => h) (Or.inl ⟨by rfl, ?_⟩) hHeld ?_ ?_
  rotate_left
  · rintro w' ⟨s0, s1⟩
    go_simp
    with_reducible rfl
  rotate_left
  · simp only [Act.put, List.setIfInBounds_toArray, List.set_cons_zero, List.set_cons_succ, i64_w, i32_w]
    rfl
  refine one_ (i := 4) (N := some 7) #[true, true, true, true, true, true, true, true, true, false, false, false, false] rfl rfl (by kernel_rfl) (by decide) (fun K hK => ?_)
  refine goes_ Try.func34 (by kernel_rfl) rfl #[ev] (by rfl) rfl rfl (by simp only [List.map_toArray, List.map_cons, List.map_nil]; first | done | rfl) ?_
  refine (bw_clone HK4.out.row (by have := HK4.out.few; omega)).mono ?_
  rintro e w5 ⟨v5, rfl, ho5, hb5⟩
  obtain ⟨A5, c5, rfl⟩ := own_sl ho5
  refine ⟨_, rfl, ?_⟩
  have HO5 := Aside0.mk ho5
  have HK5 := Aside0.mk (HK4.out.below hb5)
  have B5 := Aside0.mk (below_step B4.out hb5)
  refine hK.out _ _ ⟨HK5.out.cells.1, HK5.out.cells.2.1⟩ (fun hHeld => ?_)
  clear hK K ho5 hb5
  refine norm_ (a' := ?_) ?_ ?_
  rotate_left
  · show Act.put _ (some 7) _ = _
    simp only [Act.put, List.setIfInBounds_toArray, List.set_cons_zero, List.set_cons_succ, i64_w, i32_w]
    rfl
  refine one_ (i := 9) (N := some 12) #[true, true, true, true, true, true, true, true, true, true, false, false, false] rfl rfl (by kernel_rfl) (by decide) (fun K hK => ?_)
  refine goes_ Try.func35 (by kernel_rfl) rfl #[.map (some bm)] (by rfl) rfl rfl (by simp only [List.map_toArray, List.map_cons, List.map_nil]; first | done | rfl) ?_
  obtain ⟨N5, D5, m1, m2, m3⟩ := HK5.out.map
  refine (bw_maps m1).mono ?_
  rintro e w6 ⟨rfl, hm6, hb6⟩
  refine ⟨_, rfl, ?_⟩
  have HM6 := Aside0.mk (And.intro hm6 (And.intro m2 m3))
  have HK6 := Aside0.mk (HK5.out.below hb6)
  have HO6 := Aside0.mk (own_turn (S := fun _ => False) HO5.out (Tn.of_below hb6) (fun _ _ => id))
  have B6 := Aside0.mk (below_step B5.out hb6)
  have HZ6 := Aside0.mk B5.out.size
  refine hK.out _ _ ⟨HK6.out.cells.1, HK6.out.cells.2.1⟩ (fun hHeld => ?_)
  clear hK K m1 m2 m3 hm6 hb6
  generalize w5.heap.size = bm' at HM6 HZ6 ⊢
  refine norm_ (a' := ?_) ?_ ?_
  rotate_left
  · show Act.put _ (some 12) _ = _
    simp only [Act.put, List.setIfInBounds_toArray, List.set_cons_zero, List.set_cons_succ, i64_w, i32_w]
    rfl
  refine pure_ (i := 10) (N := some 13) (v := ?_) (a' := ?_) #[true, true, true, true, true, true, true, true, true, true, true, false, false] rfl rfl (by kernel_rfl) (fun _ _ _ h => h) (Or.inl ⟨by rfl, ?_⟩) ?_ ?_
  rotate_left
  · intro w'
    go_simp
    with_reducible rfl
  rotate_left
  · simp only [Act.put, List.setIfInBounds_toArray, List.set_cons_zero, List.set_cons_succ, i64_w, i32_w]
    rfl
  refine one_ (i := 11) (N := some 14) #[true, true, true, true, true, true, true, true, true, true, true, true, false] rfl rfl (by kernel_rfl) (by decide) (fun K hK => ?_)
  refine value_ (w1 := ?_) (v := ?_) (by rfl) rfl ?_ ?_
  rotate_left 2
  · go_simp
    constructor
    · rfl
    · rfl
  have al := below_alloc (Below.refl w6.heap.size w6) (.cells #[.slice A5 R.length c5, .map (some bm')] 63)
  have HK7 := Aside0.mk (HK6.out.below al)
  have HN7 := Aside0.mk (blk_new w6 (.cells #[.slice A5 R.length c5, .map (some bm')] 63))
  have HO7 := Aside0.mk (own_turn (S := fun _ => False) HO6.out (Tn.of_below al) (fun _ _ => id))
  have HM7 := Aside0.mk (om_turn (S := fun _ => False) HM6.out.1 (Tn.of_below al) id)
  have B7 := Aside0.mk (below_step B6.out al)
  refine hK.out _ _ ⟨HK7.out.cells.1, HK7.out.cells.2.1⟩ (fun hHeld => ?_)
  clear hK K al
  generalize w6.alloc (.cells #[.slice A5 R.length c5, .map (some bm')] 63) = w7 at hHeld HK7 HN7 HO7 HM7 B7 ⊢
  refine norm_ (a' := ?_) ?_ ?_
  rotate_left
  · show Act.put _ (some 14) _ = _
    simp only [Act.put, List.setIfInBounds_toArray, List.set_cons_zero, List.set_cons_succ, i64_w, i32_w]
    rfl
  refine pure_ (i := 12) (N := some 2) (v := ?_) (a' := ?_) #[true, true, true, true, true, true, true, true, true, true, true, true, true] rfl rfl (by kernel_rfl) (fun _ _ _ h => h) (Or.inl ⟨by rfl, ?_⟩) ?_ ?_
  rotate_left
  · intro w'
    go_simp
    with_reducible rfl
  rotate_left
  · simp only [Act.put, List.setIfInBounds_toArray, List.set_cons_zero, List.set_cons_succ, i64_w, i32_w]
    rfl
  refine done_ (by kernel_rfl) ?_
  clear hHeld
  go_wp2_with fail
  go_ret
  refine ⟨w6.heap.size, bm', .slice A5 R.length c5, rfl, ⟨by have := B6.out.size; omega, by have := HZ6.out; omega, HN7.out, own_lower HO7.out (by have := HSZ.out; omega), HK7.out.ent, HK7.out.good, HK7.out.few, _, _, HM7.out, HM6.out.2.1, HM6.out.2.2⟩, fun k hk => ?_, B7.out⟩
  rcases hk with q | q | q
  · rw [q]; exact B6.out.size
  · rw [q]; exact HZ6.out
  · have := own_base HO7.out q; have := HSZ.out; omega


end Go.Proofs.Ytcdhnglefldalaa.PBook
