import Derived.Test.YtcdhnglefldalaaMNA
namespace Go.Proofs.Ytcdhnglefldalaa.PBook
open Go.RowKit Go.Proofs.YtcdhnglefldalaaW.PrintWords Go.Proofs.YtcdhnglefldalaaW.PrintLast Go.Proofs.YtcdhnglefldalaaW.PrintMore
set_option linter.unusedVariables false
set_option linter.unusedSimpArgs false
open Go.Proofs.Ytcdhnglefldalaa.PBookPlays (S32 S34 S40 k32 k34 k40 z32 z34 z40 rd_T34 at_T34 rd_T40 at_T40 errEqI errEqL errEqR errNeI errNeL errNeR)
open Go.Maps
attribute [local go_sem high] errEqI errNeI errEqL errNeL errEqR errNeR
theorem Lr.nil (w : World) : Lr w none [] := fun j x h => by cases h
theorem mf_sum0 {w : World} {B mb : Nat} {lv dv : Value} {M : List En} (h : Mb w B mb lv dv M) (a : S32) : Calls Try.prog 45 #[.pointer (some ⟨mb, 0, none⟩), .agg #[.int .i64 a.f0, .int .i64 a.f1], .slice none 0 0] w fun e w' => ∃ v, e = .returned v ∧ Nm w' v (tot M a) 6 ∧ Below w.heap.size w w' := by
  refine (md_sum h a none 0 [] (Lr.nil w) (by simp) (fun y hy => by cases hy)).mono ?_
  rintro e w' ⟨v, rfl, hn, hb⟩
  rw [show tot M a + adds [] a = tot M a from Int.add_zero _] at hn
  exact ⟨v, rfl, hn, hb⟩
set_option maxRecDepth 100000 in
theorem mf_bal {w : World} {B mb : Nat} {lv dv : Value} {M : List En} (h : Mb w B mb lv dv M) (a : S32) : Calls Try.prog 24 #[.pointer (some ⟨mb, 0, none⟩), .agg #[.int .i64 a.f0, .int .i64 a.f1]] w fun e w' => ∃ r, e = .returned (.int .i64 r) ∧ (W64 (tot M a) → r = tot M a) ∧ Below w.heap.size w w' := by
  have SM := Aside0.mk (fun (W : World) (hW : Below w.heap.size w W) => mf_sum0 (h.below hW) a)
  have al := Aside0.mk (fun o => below_alloc (Below.refl w.heap.size w) o)
  clear h
  go_enter Try.func24, Try.ntmps24
  go_wp2_with fail
  refine (SM.out _ (al.out _)).mono ?_
  rintro e w6 ⟨v6, rfl, hn6, hb6⟩
  have B6 := Aside0.mk (below_step (al.out _) hb6)
  have V6 := Aside0.mk hn6
  clear hn6 hb6
  obtain ⟨fz, hfz⟩ : ∃ fz, fits (tot M a) = fz := ⟨_, rfl⟩
  have HFZ := Aside0.mk hfz
  clear hfz
  go_wp2_with fail
  refine (mb_to V6.out).mono ?_
  rintro e w7 ⟨r7, rfl, hr7, hb7⟩
  have B7 := Aside0.mk (below_step B6.out hb7)
  have R7 := Aside0.mk hr7
  rw [HFZ.out]
  clear hr7 hb7
  go_wp2_with fail
  go_ret
  exact ⟨r7, rfl, R7.out, B7.out⟩
theorem ngs_take {l : List S34} {i : Nat} {x : S34} (hx : l[i]? = some x) : ngs (l.take (i + 1)) = ngs (l.take i) ++ [ng x] := by
  rw [List.take_add_one, hx]
  simp [ngs]
theorem mt_three (w : World) (a b c : Value) (T : TypeId) : ∀ j u, [a, b, c][j]? = some u → (w.alloc (.cells #[a, b, c] T)).cell? ((⟨w.heap.size, 0, none⟩ : Addr).add j) = some u := by
  intro j u hu
  rw [ad_add, Nat.zero_add]
  match j, hu with
  | 0, hu => exact ((blk_cell (blk_new w (.cells #[a, b, c] T)) 0).trans rfl).trans hu
  | 1, hu => exact ((blk_cell (blk_new w (.cells #[a, b, c] T)) 1).trans rfl).trans hu
  | 2, hu => exact ((blk_cell (blk_new w (.cells #[a, b, c] T)) 2).trans rfl).trans hu
  | k + 3, hu => cases hu
theorem lns_snoc (l : List S34) (x : S34) : lns (l ++ [x]) = lns l ++ ln x := by simp [lns]
theorem own_nilL (w : World) (b : Nat) : w.ownsRow b 34 3 (.slice none 0 0) 0 [] := World.ownsRow_nil _ _ _ 3
set_option maxRecDepth 100000 in
set_option maxHeartbeats 4000000 in
theorem mt_turn {w : World} (A : Option Addr) (cap : Nat) (l : List S34) (hA : Lr w A l) (hl : l.length ≤ 65536) (hw : WLs l) (hm : ∀ y ∈ l, y.f1 ≠ -9223372036854775808) : Calls Try.prog 54 #[.slice A l.length cap] w fun e w' => ∃ A' c', e = .returned (.slice A' l.length c') ∧ Lr w' A' (ngs l) ∧ l.length ≤ c' ∧ Below w.heap.size w w' := by
  have HA := Aside0.mk hA
  have HW := Aside0.mk (fun y hy => negw (hw y hy).2 (hm y hy))
  obtain ⟨ln', hln⟩ : ∃ n, l.length = n := ⟨_, rfl⟩
  have HLN := Aside0.mk hln
  obtain ⟨i0, hi, hz0, hz1, hz2⟩ := info_parts b_info34
  have HI0 := Aside0.mk (And.intro hi (And.intro hz0 (And.intro hz1 hz2)))
  rw [hln] at hl ⊢
  clear hA hw hm hln hi hz0 hz1 hz2
  go_enter Try.func54, Try.ntmps54
  go_wp2_with fail
  go_loopw [3, 4] (fun v3 v4 wr => ∃ (i c : Nat) (A' : Option Addr), v4 = .int .i64 ↑i ∧ v3 = .slice A' i c ∧ Aside0 (i ≤ ln' ∧ wr.ownsRow w.heap.size 34 3 (.slice A' i c) i (lns (ngs (l.take i))) ∧ Below w.heap.size w wr)) (fun _ v4 _ => (ln' - intOf v4).toNat)
  case atStart => exact ⟨0, 0, none, rfl, rfl, ⟨Nat.zero_le _, own_nilL _ _, Below.refl _ _⟩⟩
  case round =>
    obtain ⟨i, c, A', rfl, rfl, HI⟩ := hrel
    by_cases ci : i < ln'
    · have ci2 : (↑i : Int) < ↑ln' := by omega
      have i0' : (0 : Int) ≤ ↑i := by omega
      obtain ⟨x, hx⟩ : ∃ x, l[i]? = some x := ⟨l[i]'(by rw [HLN.out]; exact ci), List.getElem?_eq_getElem _⟩
      obtain ⟨ad, hAt, k0, k1, k2⟩ := (HA.out.below HI.out.2.2) i x hx
      subst hAt
      have HX := Aside0.mk hx
      have nw := HW.out x (List.mem_of_getElem? hx)
      obtain ⟨ny, hny⟩ : ∃ ny, -x.f1 = ny := ⟨_, rfl⟩
      have HNY := Aside0.mk hny
      rw [hny] at nw
      clear hx
      go_wp2_with fail
      refine start_ (n := 16) (S := fun w' => w'.cell? (ad.add (i * 3)) = some (.int .i64 x.f0.f0) ∧ w'.cell? ⟨(ad.add (i * 3)).block, (ad.add (i * 3)).off + 1, none⟩ = some (.int .i64 x.f0.f1) ∧ w'.cell? ⟨(ad.add (i * 3)).block, (ad.add (i * 3)).off + 2, none⟩ = some (.int .i64 x.f1)) (ds := []) #[false, false, false, false, false, false, false, false, false, false, false, false, false, false, false, false] (by kernel_rfl) rfl rfl ⟨k0, k1, k2⟩ (fun hHeld => ?_)
      have B4 := Aside0.mk (below_then HI.out.2.2 HI.out.2.2.size (below_drew1 (Below.refl wr.heap.size wr)))
      have R4 := Aside0.mk (own_drew HI.out.2.1)
      clear k0 k1 k2
      generalize wr.drew = wd at hHeld B4 R4 ⊢
      refine pure_ (i := 0) (N := some 11) (v := ?_) (a' := ?_) #[true, false, false, false, false, false, false, false, false, false, false, false, false, false, false, false] rfl rfl (by kernel_rfl) (fun _ _ _ h => h) (Or.inl ⟨by rfl, ?_⟩) ?_ ?_
      rotate_left
      · intro w'
        go_simp
        with_reducible rfl
      rotate_left
      · simp only [Act.put, List.setIfInBounds_toArray, List.set_cons_zero, List.set_cons_succ, i64_w, i32_w]
        rfl
      refine pure_ (i := 1) (N := some 12) (v := ?_) (a' := ?_) #[true, true, false, false, false, false, false, false, false, false, false, false, false, false, false, false] rfl rfl (by kernel_rfl) (fun _ _ _ h => h) (Or.inl ⟨by rfl, ?_⟩) ?_ ?_
      rotate_left
      · intro w'
        go_simp
        with_reducible rfl
      rotate_left
      · simp only [Act.put, List.setIfInBounds_toArray, List.set_cons_zero, List.set_cons_succ, i64_w, i32_w]
        rfl
      refine pure_ (i := 2) (N := some 13) (v := ?_) (a' := ?_) #[true, true, true, false, false, false, false, false, false, false, false, false, false, false, false, false] rfl rfl (by kernel_rfl) (fun _ _ _ h => h) (Or.inl ⟨by rfl, ?_⟩) ?_ ?_
      rotate_left
      · intro w'
        go_simp
        with_reducible rfl
      rotate_left
      · simp only [Act.put, List.setIfInBounds_toArray, List.set_cons_zero, List.set_cons_succ, i64_w, i32_w]
        rfl
      refine pure_ (i := 3) (N := some 14) (v := ?_) (a' := ?_) #[true, true, true, true, false, false, false, false, false, false, false, false, false, false, false, false] rfl rfl (by kernel_rfl) (fun _ _ _ h => h) (Or.inl ⟨by rfl, ?_⟩) ?_ ?_
      rotate_left
      · intro w'
        go_simp
        with_reducible rfl
      rotate_left
      · simp only [Act.put, List.setIfInBounds_toArray, List.set_cons_zero, List.set_cons_succ, i64_w, i32_w]
        rfl
      refine pure_ (i := 4) (N := some 15) (v := ?_) (a' := ?_) #[true, true, true, true, true, false, false, false, false, false, false, false, false, false, false, false] rfl rfl (by kernel_rfl) (fun _ _ _ h => h) (Or.inl ⟨by rfl, ?_⟩) ?_ ?_
      rotate_left
      · intro w'
        go_simp
        with_reducible rfl
      rotate_left
      · simp only [Act.put, List.setIfInBounds_toArray, List.set_cons_zero, List.set_cons_succ, i64_w, i32_w]
        rfl
      refine pure_ (i := 6) (N := some 17) (v := ?_) (a' := ?_) #[true, true, true, true, true, false, true, false, false, false, false, false, false, false, false, false] rfl rfl (by kernel_rfl) (fun _ _ _ h => h) (Or.inl ⟨by rfl, ?_⟩) ?_ ?_
      rotate_left
      · intro w'
        go_simp
        with_reducible rfl
      rotate_left
      · simp only [Act.put, List.setIfInBounds_toArray, List.set_cons_zero, List.set_cons_succ, i64_w, i32_w]
        rfl
      refine pure_ (i := 7) (N := some 18) (v := ?_) (a' := ?_) #[true, true, true, true, true, false, true, true, false, false, false, false, false, false, false, false] rfl rfl (by kernel_rfl) (fun _ _ _ h => h) (Or.inl ⟨by rfl, ?_⟩) ?_ ?_
      rotate_left
      · intro w'
        go_simp
        with_reducible rfl
      rotate_left
      · simp only [Act.put, List.setIfInBounds_toArray, List.set_cons_zero, List.set_cons_succ, i64_w, i32_w]
        rfl
      refine pure_ (i := 8) (N := some 19) (v := ?_) (a' := ?_) #[true, true, true, true, true, false, true, true, true, false, false, false, false, false, false, false] rfl rfl (by kernel_rfl) (fun _ _ _ h => h) (Or.inl ⟨by rfl, ?_⟩) ?_ ?_
      rotate_left
      · intro w'
        go_simp
        with_reducible rfl
      rotate_left
      · simp only [Act.put, List.setIfInBounds_toArray, List.set_cons_zero, List.set_cons_succ, i64_w, i32_w]
        rfl
      refine pure_ (i := 9) (N := some 20) (v := ?_) (a' := ?_) #[true, true, true, true, true, false, true, true, true, true, false, false, false, false, false, false] rfl rfl (by kernel_rfl) (fun _ _ _ h => h) (Or.inl ⟨by rfl, ?_⟩) ?_ ?_
      rotate_left
      · intro w'
        go_simp
        with_reducible rfl
      rotate_left
      · simp only [Act.put, List.setIfInBounds_toArray, List.set_cons_zero, List.set_cons_succ, i64_w, i32_w]
        rfl
      refine take_ (i := 5) (N := some 16) (v := ?_) (a' := ?_) #[true, true, true, true, true, true, true, true, true, true, false, false, false, false, false, false] rfl rfl (by kernel_rfl) (fun _ _ _ h => h) (Or.inl ⟨by rfl, ?_⟩) hHeld ?_ ?_
      rotate_left
      · rintro w' ⟨s0, s1, s2⟩
        go_simp
        with_reducible rfl
      rotate_left
      · simp only [Act.put, List.setIfInBounds_toArray, List.set_cons_zero, List.set_cons_succ, i64_w, i32_w]
        rfl
      refine take_ (i := 10) (N := some 21) (v := ?_) (a' := ?_) #[true, true, true, true, true, true, true, true, true, true, true, false, false, false, false, false] rfl rfl (by kernel_rfl) (fun _ _ _ h => h) (Or.inl ⟨by rfl, ?_⟩) hHeld ?_ ?_
      rotate_left
      · rintro w' ⟨s0, s1, s2⟩
        go_simp
        with_reducible rfl
      rotate_left
      · simp only [Act.put, List.setIfInBounds_toArray, List.set_cons_zero, List.set_cons_succ, i64_w, i32_w]
        rfl
      refine pure_ (i := 11) (N := some 22) (v := ?_) (a' := ?_) #[true, true, true, true, true, true, true, true, true, true, true, true, false, false, false, false] rfl rfl (by kernel_rfl) (fun _ _ _ h => h) (Or.inl ⟨by rfl, ?_⟩) ?_ ?_
      rotate_left
      · intro w'
        go_simp
        with_reducible rfl
      rotate_left
      · simp only [Act.put, List.setIfInBounds_toArray, List.set_cons_zero, List.set_cons_succ, i64_w, i32_w]
        rfl
      refine pure_ (i := 12) (N := some 23) (v := ?_) (a' := ?_) #[true, true, true, true, true, true, true, true, true, true, true, true, true, false, false, false] rfl rfl (by kernel_rfl) (fun _ _ _ h => h) (Or.inl ⟨by rfl, ?_⟩) ?_ ?_
      rotate_left
      · intro w'
        go_simp
        with_reducible rfl
      rotate_left
      · simp only [Act.put, List.setIfInBounds_toArray, List.set_cons_zero, List.set_cons_succ, i64_w, i32_w]
        rfl
      refine one_ (i := 13) (N := some 24) #[true, true, true, true, true, true, true, true, true, true, true, true, true, true, false, false] rfl rfl (by kernel_rfl) (by decide) (fun K hK => ?_)
      refine value_ (w1 := ?_) (v := ?_) (by rfl) rfl ?_ ?_
      rotate_left 2
      · go_simp
        constructor
        · rfl
        · rfl
      have al := below_alloc (Below.refl wd.heap.size wd) (.cells #[.int .i64 x.f0.f0, .int .i64 x.f0.f1, .int .i64 ny] 34)
      refine hK.out _ _ ⟨(al.cell (World.block_lt_of_cell? _ _ hHeld.1)).trans hHeld.1, bl_cell hHeld.2.1 al, bl_cell hHeld.2.2 al⟩ (fun hHeld => ?_)
      clear hK K al
      refine norm_ (a' := ?_) ?_ ?_
      rotate_left
      · show Act.put _ (some 24) _ = _
        simp only [Act.put, List.setIfInBounds_toArray, List.set_cons_zero, List.set_cons_succ, i64_w, i32_w]
        rfl
      refine one_ (i := 14) (N := some 25) #[true, true, true, true, true, true, true, true, true, true, true, true, true, true, true, false] rfl rfl (by kernel_rfl) (by decide) (fun K hK => ?_)
      obtain ⟨v7, w7, hr, hown7, hgrow7, -, hloc7⟩ := run_append_own_at (P := Try.prog) (w := wd.alloc (.cells #[.int .i64 x.f0.f0, .int .i64 x.f0.f1, .int .i64 ny] 34)) w.heap.size 22 22 34 i0 (.agg #[.int .i64 0, .int .i64 0, .int .i64 0]) 3 24 Try.underlying22 HI0.out.1 HI0.out.2.1 HI0.out.2.2.1 HI0.out.2.2.2 rfl (by decide) (.slice A' i c) i (lns (ngs (l.take i))) (R4.out.alloc _) ⟨wd.heap.size, 0, none⟩ 1 1 [.int .i64 x.f0.f0, .int .i64 x.f0.f1, .int .i64 ny] rfl (mt_three _ _ _ _ _) (by simp [Value.oneCell']) (by unfold maxLen; omega) (by omega) (by have := B4.out.size; simp; omega)
      obtain ⟨A7, c7, rfl⟩ := own_sl hown7
      have OO := Aside0.mk hown7
      have GG := Aside0.mk hgrow7
      clear hown7 hgrow7 hloc7
      refine append_value (by rfl) rfl rfl rfl rfl hr ?_
      clear hr
      have B7 := Aside0.mk ((below_alloc B4.out _).grown GG.out (by have := B4.out.size; simp; omega) (fun k hk => own_base R4.out hk))
      obtain ⟨ad', e', k0', k1', k2'⟩ := (HA.out.below B7.out) i x HX.out
      cases e'
      refine hK.out _ _ ⟨k0', k1', k2'⟩ (fun hHeld => ?_)
      clear hK K k0' k1' k2'
      refine norm_ (a' := ?_) ?_ ?_
      rotate_left
      · show Act.put _ (some 25) _ = _
        simp only [Act.put, List.setIfInBounds_toArray, List.set_cons_zero, List.set_cons_succ, i64_w, i32_w]
        rfl
      refine pure_ (i := 15) (N := some 3) (v := ?_) (a' := ?_) #[true, true, true, true, true, true, true, true, true, true, true, true, true, true, true, true] rfl rfl (by kernel_rfl) (fun _ _ _ h => h) (Or.inl ⟨by rfl, ?_⟩) ?_ ?_
      rotate_left
      · intro w'
        go_simp
        with_reducible rfl
      rotate_left
      · simp only [Act.put, List.setIfInBounds_toArray, List.set_cons_zero, List.set_cons_succ, i64_w, i32_w]
        rfl
      refine done_ (by kernel_rfl) ?_
      clear hHeld
      go_wp2_with fail
      refine ⟨⟨i + 1, c7, A7, rfl, rfl, ⟨by omega, ?_, B7.out⟩⟩, by simp [intOf]; omega⟩
      rw [ngs_take HX.out, lns_snoc]
      have e : ln (ng x) = [.int .i64 x.f0.f0, .int .i64 x.f0.f1, .int .i64 ny] := by rw [← HNY.out]; rfl
      rw [e]
      exact OO.out
    · have ci2 : ¬ (↑i : Int) < ↑ln' := by omega
      have hi : i = ln' := by have := HI.out.1; omega
      subst hi
      go_wp2_with fail
      go_ret
      have h := HI.out.2.1
      rw [← HLN.out, List.take_length] at h
      obtain ⟨A2, c2, e, h1, h2⟩ := own_lb (l := ngs l) (by rw [ngs_len]; exact h)
      rw [ngs_len] at e h1
      injection e with e1 e2 e3
      subst e1
      subst e3
      refine ⟨A', c, rfl, ?_, ?_, HI.out.2.2⟩
      · cases A' with
        | none => rw [h2 rfl]; exact Lr.nil _
        | some a0 =>
          obtain ⟨g, rfl, hg, hb, hcap⟩ := h1 a0 rfl
          exact hb.lr
      · cases A' with
        | none =>
          have := congrArg List.length (h2 rfl)
          rw [ngs_len, HLN.out] at this
          simp at this
          omega
        | some a0 =>
          obtain ⟨g, rfl, hg, hb, hcap⟩ := h1 a0 rfl
          rw [HLN.out] at hcap
          exact hcap

open Go.Proofs.Ytcdhnglefldalaa.PBookPlays (S32 S34 S40 k32 k34 k40 z32 z34 z40 rd_T34 at_T34 rd_T40 at_T40 errEqI errEqL errEqR errNeI errNeL errNeR)
open Go.Maps
attribute [local go_sem high] errEqI errNeI errEqL errNeL errEqR errNeR
theorem mg_info22 : (Try.prog.info? 22).map (fun i => (i.zero, i.size, i.bytes)) = some (some (.slice none 0 0), 1, 24) := by kernel_rfl
theorem mg_info4 : (Try.prog.info? 4).map (fun i => (i.zero, i.size, i.bytes)) = some (some (.bool false), 1, 1) := by kernel_rfl
/-- The model's book, half posted. -/
structure Mh (w : World) (B mb : Nat) (lv dv : Value) (M M' : List En) : Prop where
  hb : B ≤ mb
  book : w.heap[mb]? = some (.cells #[lv, dv] 55 (0, 0))
  row : w.ownsRow B 22 1 lv M'.length (mrow M')
  don : w.ownsRow B 4 1 dv M.length (mdon M)
  ent : ∀ x ∈ M', Eg w B x
  good : ∀ x ∈ M', WLs x.l
theorem mg_one {wd w7 w9 : World} {B mb gc cc : Nat} {lv dv v9 : Value} {M : List En} {l : List S34} {ob : Obj} (h : Mb wd B mb lv dv M) (hB : B ≤ wd.heap.size) (hb : Below wd.heap.size wd w7) (hl : LB w7 gc l) (hgc : wd.heap.size ≤ gc) (hw : WLs l) (h1 : 1 ≤ l.length) (h32 : l.length ≤ 32)
    (hg : (w7.alloc ob).grownBy w9 lv.ownBlock) (ho : w9.ownsRow B 22 1 v9 (M.length + 1) (mrow M ++ [.slice (some ⟨gc, 0, none⟩) l.length cc])) (hloc : v9.ownBlock = lv.ownBlock ∨ v9.ownBlock = some (w7.alloc ob).heap.size) :
    Mh (w9.setCell ⟨mb, 0, none⟩ v9) B mb v9 dv M (M ++ [⟨gc, cc, l, false⟩]) ∧ Tn (fun k => k = mb ∨ lv.ownBlock = some k) wd (w9.setCell ⟨mb, 0, none⟩ v9) ∧ (∀ k, v9.ownBlock = some k → lv.ownBlock = some k ∨ wd.heap.size ≤ k) := by
  have tb : Tn (fun k => lv.ownBlock = some k) wd w7 := Tn.of_below hb
  have t79 : Tn (fun k => lv.ownBlock = some k) w7 w9 := jn_tn hg
  have t9 := tb.trans t79
  have ts := tn_set w9 mb 0 v9
  have t10 : Tn (fun k => k = mb ∨ lv.ownBlock = some k) wd (w9.setCell ⟨mb, 0, none⟩ v9) := (t9.mono (fun k _ q => Or.inr q)).trans (ts.mono (fun k _ q => Or.inl q))
  have hk : w9.heap[mb]? = some (.cells #[lv, dv] 55 (0, 0)) := t9.blk h.book (fun q => by
    obtain ⟨cs, e⟩ := own_typed h.row q
    exact ty_ne e h.book (by decide))
  have hln : ∀ k cs, (k = mb ∨ lv.ownBlock = some k) → wd.heap[k]? ≠ some (.cells cs 34 (0, 0)) := fun k cs q => h.own_line k cs (q.elim Or.inl (fun q => Or.inr (Or.inl q)))
  refine ⟨⟨h.hb, blk_put hk 0 v9 rfl, ?_, ?_, fun x hx => ?_, fun x hx => ?_⟩, t10, fun k hk' => ?_⟩
  · have e : mrow (M ++ [(⟨gc, cc, l, false⟩ : En)]) = mrow M ++ [.slice (some ⟨gc, 0, none⟩) l.length cc] := by simp [mrow]
    rw [e, List.length_append, List.length_singleton]
    refine own_turn ho ts (fun k hk' q => ?_)
    obtain ⟨c1, e1⟩ := own_typed ho hk'
    rw [q] at e1
    exact ty_ne e1 hk (by decide)
  · have hd := own_turn h.don t9 (fun k hk' q => by
      obtain ⟨c1, e1⟩ := own_typed h.don hk'
      obtain ⟨c2, e2⟩ := own_typed h.row q
      exact ty_ne e1 e2 (by decide))
    refine own_turn hd ts (fun k hk' q => ?_)
    obtain ⟨c1, e1⟩ := own_typed hd hk'
    rw [q] at e1
    exact ty_ne e1 hk (by decide)
  · rcases List.mem_append.1 hx with hx | hx
    · exact (h.ent x hx).turn t10 hln
    · rw [List.mem_singleton] at hx
      subst hx
      refine ⟨Nat.le_trans hB hgc, ?_, h1, h32⟩
      obtain ⟨r, hr⟩ := hl
      have hl : LB w7 gc l := ⟨r, hr⟩
      have hl9 := hl.turn t79 (fun q => by
        obtain ⟨cs, e⟩ := own_typed (own_turn h.row (Tn.of_below (S := fun _ => False) hb) (fun _ _ => id)) q
        exact ty_ne e hr (by decide))
      refine hl9.turn ts (fun q => ?_)
      obtain ⟨r9, hr9⟩ := hl9
      rw [q] at hr9
      exact ty_ne hr9 hk (by decide)
  · rcases List.mem_append.1 hx with hx | hx
    · exact h.good x hx
    · rw [List.mem_singleton] at hx
      subst hx
      exact hw
  · rcases hloc with q | q
    · exact Or.inl (q ▸ hk')
    · rw [q] at hk'
      cases hk'
      exact Or.inr (by have := hb.size; simp; omega)
theorem mg_two {w w11 : World} {B mb : Nat} {lv dv v11 : Value} {M M' : List En} {x : En} {ob : Obj} (h : Mh w B mb lv dv M M') (hM : M' = M ++ [x]) (hd : x.d = false) (hf : M.length < 4096) (hg : (w.alloc ob).grownBy w11 dv.ownBlock) (ho : w11.ownsRow B 4 1 v11 (M.length + 1) (mdon M ++ [.bool false])) (hloc : v11.ownBlock = dv.ownBlock ∨ v11.ownBlock = some (w.alloc ob).heap.size) :
    Mb (w11.setCell ⟨mb, 1, none⟩ v11) B mb lv v11 M' ∧ Tn (fun k => k = mb ∨ dv.ownBlock = some k) w (w11.setCell ⟨mb, 1, none⟩ v11) ∧ (∀ k, v11.ownBlock = some k → dv.ownBlock = some k ∨ w.heap.size ≤ k) := by
  have t9 : Tn (fun k => dv.ownBlock = some k) w w11 := jn_tn hg
  have ts := tn_set w11 mb 1 v11
  have t10 : Tn (fun k => k = mb ∨ dv.ownBlock = some k) w (w11.setCell ⟨mb, 1, none⟩ v11) := (t9.mono (fun k _ q => Or.inr q)).trans (ts.mono (fun k _ q => Or.inl q))
  have hk : w11.heap[mb]? = some (.cells #[lv, dv] 55 (0, 0)) := t9.blk h.book (fun q => by
    obtain ⟨cs, e⟩ := own_typed h.don q
    exact ty_ne e h.book (by decide))
  have hln : ∀ k cs, (k = mb ∨ dv.ownBlock = some k) → w.heap[k]? ≠ some (.cells cs 34 (0, 0)) := fun k cs q e => by
    rcases q with q | q
    · rw [q] at e
      exact ty_ne h.book e (by decide)
    · obtain ⟨c1, e1⟩ := own_typed h.don q
      exact ty_ne e1 e (by decide)
  refine ⟨⟨h.hb, blk_put hk 1 v11 rfl, ?_, ?_, fun x hx => (h.ent x hx).turn t10 hln, h.good, by rw [hM]; simp; omega⟩, t10, fun k hk' => ?_⟩
  · have hd := own_turn h.row t9 (fun k hk' q => by
      obtain ⟨c1, e1⟩ := own_typed h.row hk'
      obtain ⟨c2, e2⟩ := own_typed h.don q
      exact ty_ne e1 e2 (by decide))
    refine own_turn hd ts (fun k hk' q => ?_)
    obtain ⟨c1, e1⟩ := own_typed hd hk'
    rw [q] at e1
    exact ty_ne e1 hk (by decide)
  · have e : mdon M' = mdon M ++ [.bool false] := by rw [hM]; simp [mdon, hd]
    rw [e, hM, List.length_append, List.length_singleton]
    refine own_turn ho ts (fun k hk' q => ?_)
    obtain ⟨c1, e1⟩ := own_typed ho hk'
    rw [q] at e1
    exact ty_ne e1 hk (by decide)
  · rcases hloc with q | q
    · exact Or.inl (q ▸ hk')
    · rw [q] at hk'
      cases hk'
      exact Or.inr (by simp)
set_option maxRecDepth 100000 in
set_option maxHeartbeats 4000000 in
theorem mg_post {w : World} {B mb : Nat} {lv dv : Value} {M : List En} (h : Mb w B mb lv dv M) (hB : B ≤ w.heap.size) (A : Option Addr) (cap : Nat) (l : List S34) (hA : Lr w A l) (h1 : 1 ≤ l.length) (h32 : l.length ≤ 32) (hw : WLs l) (hf : M.length < 4096) : Calls Try.prog 43 #[.pointer (some ⟨mb, 0, none⟩), .slice A l.length cap] w fun e w' => e = .returned (.tuple #[]) ∧ ∃ lv' dv' g c, Mb w' B mb lv' dv' (M ++ [⟨g, c, l, false⟩]) ∧ Tn (mown mb lv dv) w w' ∧ (∀ k, mown mb lv' dv' k → mown mb lv dv k ∨ w.heap.size ≤ k) := by
  have HA := Aside0.mk hA
  have HW := Aside0.mk hw
  obtain ⟨c0, -, f0, -⟩ := h.cells
  obtain ⟨LA, LC, rfl⟩ := own_sl h.row
  have HM := Aside0.mk h
  obtain ⟨N, hN⟩ : ∃ N, M.length = N := ⟨_, rfl⟩
  have HN := Aside0.mk hN
  obtain ⟨ln', hln⟩ : ∃ n, l.length = n := ⟨_, rfl⟩
  have HLN := Aside0.mk hln
  obtain ⟨i0, hi, hz0, hz1, hz2⟩ := info_parts b_info34
  have HI0 := Aside0.mk (And.intro hi (And.intro hz0 (And.intro hz1 hz2)))
  obtain ⟨i1, hi1, hy0, hy1, hy2⟩ := info_parts mg_info22
  have HI1 := Aside0.mk (And.intro hi1 (And.intro hy0 (And.intro hy1 hy2)))
  obtain ⟨i2, hi2, hx0, hx1, hx2⟩ := info_parts mg_info4
  have HI2 := Aside0.mk (And.intro hi2 (And.intro hx0 (And.intro hx1 hx2)))
  rw [hN] at hf c0
  rw [hln] at h1 h32 ⊢
  clear h hA hw hN hln hi hz0 hz1 hz2 hi1 hy0 hy1 hy2 hi2 hx0 hx1 hx2 f0
  go_enter Try.func43, Try.ntmps43
  go_wp2_with fail
  refine start_ (n := 13) (S := fun w' => w'.cell? ⟨mb, 0, none⟩ = some (.slice LA N LC)) (ds := [12]) #[false, false, false, false, false, false, false, false, false, false, false, false, false] (by kernel_rfl) rfl rfl c0 (fun hHeld => ?_)
  have B4 := Aside0.mk (below_drew1 (Below.refl w.heap.size w))
  have M4 := Aside0.mk (HM.out.below B4.out)
  have Z4 := Aside0.mk (Nat.le_trans hB B4.out.size)
  clear c0
  generalize w.drew = wd at hHeld B4 M4 Z4 ⊢
  refine pure_ (i := 0) (N := some 4) (v := ?_) (a' := ?_) #[true, false, false, false, false, false, false, false, false, false, false, false, false] rfl rfl (by kernel_rfl) (fun _ _ _ h => h) (Or.inl ⟨by rfl, ?_⟩) ?_ ?_
  rotate_left
  · intro w'
    go_simp
    with_reducible rfl
  rotate_left
  · simp only [Act.put, List.setIfInBounds_toArray, List.set_cons_zero, List.set_cons_succ, i64_w, i32_w]
    rfl
  refine pure_ (i := 1) (N := some 5) (v := ?_) (a' := ?_) #[true, true, false, false, false, false, false, false, false, false, false, false, false] rfl rfl (by kernel_rfl) (fun _ _ _ h => h) (Or.inl ⟨by rfl, ?_⟩) ?_ ?_
  rotate_left
  · intro w'
    go_simp
    with_reducible rfl
  rotate_left
  · simp only [Act.put, List.setIfInBounds_toArray, List.set_cons_zero, List.set_cons_succ, i64_w, i32_w]
    rfl
  refine pure_ (i := 2) (N := some 6) (v := ?_) (a' := ?_) #[true, true, true, false, false, false, false, false, false, false, false, false, false] rfl rfl (by kernel_rfl) (fun _ _ _ h => h) (Or.inl ⟨by rfl, ?_⟩) ?_ ?_
  rotate_left
  · intro w'
    go_simp
    with_reducible rfl
  rotate_left
  · simp only [Act.put, List.setIfInBounds_toArray, List.set_cons_zero, List.set_cons_succ, i64_w, i32_w]
    rfl
  refine pure_ (i := 3) (N := some 7) (v := ?_) (a' := ?_) #[true, true, true, true, false, false, false, false, false, false, false, false, false] rfl rfl (by kernel_rfl) (fun _ _ _ h => h) (Or.inl ⟨by rfl, ?_⟩) ?_ ?_
  rotate_left
  · intro w'
    go_simp
    with_reducible rfl
  rotate_left
  · simp only [Act.put, List.setIfInBounds_toArray, List.set_cons_zero, List.set_cons_succ, i64_w, i32_w]
    rfl
  refine pure_ (i := 6) (N := some 10) (v := ?_) (a' := ?_) #[true, true, true, true, false, false, true, false, false, false, false, false, false] rfl rfl (by kernel_rfl) (fun _ _ _ h => h) (Or.inl ⟨by rfl, ?_⟩) ?_ ?_
  rotate_left
  · intro w'
    go_simp
    with_reducible rfl
  rotate_left
  · simp only [Act.put, List.setIfInBounds_toArray, List.set_cons_zero, List.set_cons_succ, i64_w, i32_w]
    rfl
  refine take_ (i := 4) (N := some 8) (v := ?_) (a' := ?_) #[true, true, true, true, true, false, true, false, false, false, false, false, false] rfl rfl (by kernel_rfl) (fun _ _ _ h => h) (Or.inl ⟨by rfl, ?_⟩) hHeld ?_ ?_
  rotate_left
  · rintro w' s0
    go_simp
    with_reducible rfl
  rotate_left
  · simp only [Act.put, List.setIfInBounds_toArray, List.set_cons_zero, List.set_cons_succ, i64_w, i32_w]
    rfl
  refine one_ (i := 5) (N := some 9) #[true, true, true, true, true, true, true, false, false, false, false, false, false] rfl rfl (by kernel_rfl) (by decide) (fun K hK => ?_)
  refine value_ (w1 := ?_) (v := ?_) (by rfl) rfl ?_ ?_
  rotate_left 2
  · go_simp
    constructor
    · rfl
    · rfl
  have al := below_alloc (Below.refl wd.heap.size wd) (.cells #[] 34)
  have M5 := Aside0.mk (M4.out.below al)
  have B5 := Aside0.mk al
  have O5 := Aside0.mk (own_emptyL wd)
  have Z5 := Aside0.mk (show wd.heap.size < (wd.alloc (.cells #[] 34)).heap.size by simp)
  have A5 := Aside0.mk (HA.out.below (below_step B4.out al))
  refine hK.out _ _ (al.cell (World.block_lt_of_cell? _ _ hHeld) |>.trans hHeld) (fun hHeld => ?_)
  clear hK K al
  generalize wd.alloc (.cells #[] 34) = w5 at hHeld M5 B5 O5 Z5 A5 ⊢
  refine norm_ (a' := ?_) ?_ ?_
  rotate_left
  · show Act.put _ (some 9) _ = _
    simp only [Act.put, List.setIfInBounds_toArray, List.set_cons_zero, List.set_cons_succ, i64_w, i32_w]
    rfl
  refine one_ (i := 7) (N := some 11) #[true, true, true, true, true, true, true, true, false, false, false, false, false] rfl rfl (by kernel_rfl) (by decide) (fun K hK => ?_)
  obtain ⟨ad, rfl, -⟩ := A5.out.lt (by rw [HLN.out]; omega)
  obtain ⟨v7, w7, hr, hown7, hgrow7, -, hloc7⟩ := run_append_own_at (P := Try.prog) (w := w5) wd.heap.size 22 22 34 i0 (.agg #[.int .i64 0, .int .i64 0, .int .i64 0]) 3 24 Try.underlying22 HI0.out.1 HI0.out.2.1 HI0.out.2.2.1 HI0.out.2.2.2 rfl (by decide) (.slice (some ⟨wd.heap.size, 0, none⟩) 0 0) 0 [] O5.out ad ln' cap (lns l) (by rw [lns_len, HLN.out]) (Lr.lcells A5.out) (lns_one l) (by unfold maxLen; omega) (by omega) (by have := Z5.out; omega)
  rw [Nat.zero_add, List.nil_append] at hown7
  obtain ⟨A7, c7, e7, q1, q2⟩ := own_lb (l := l) (by rw [HLN.out]; exact hown7)
  rw [HLN.out] at e7 q1
  subst e7
  obtain ⟨a0, rfl⟩ : ∃ a0, A7 = some a0 := by
    cases A7 with
    | none => exact absurd (q2 rfl) (fun q => by have := HLN.out; rw [q] at this; simp at this; omega)
    | some a0 => exact ⟨a0, rfl⟩
  obtain ⟨gc, rfl, hgc, hbc, hcc⟩ := q1 a0 rfl
  have GC := Aside0.mk hgc
  have L7 := Aside0.mk hbc
  have B7 := Aside0.mk (B5.out.grown hgrow7 (by have := Z5.out; omega) (fun k hk => by cases hk; exact Nat.le_refl _))
  have M7 := Aside0.mk (M4.out.below B7.out)
  clear hown7 hgrow7 hloc7 q1 q2 hgc hbc hcc
  refine append_value (by rfl) rfl rfl rfl rfl hr ?_
  clear hr
  refine hK.out _ _ (HN.out ▸ M7.out.cells.1) (fun hHeld => ?_)
  clear hK K
  refine norm_ (a' := ?_) ?_ ?_
  rotate_left
  · show Act.put _ (some 11) _ = _
    simp only [Act.put, List.setIfInBounds_toArray, List.set_cons_zero, List.set_cons_succ, i64_w, i32_w]
    rfl
  refine one_ (i := 8) (N := some 12) #[true, true, true, true, true, true, true, true, true, false, false, false, false] rfl rfl (by kernel_rfl) (by decide) (fun K hK => ?_)
  refine value_ (w1 := ?_) (v := ?_) (by rfl) rfl ?_ ?_
  rotate_left 2
  · go_simp
    constructor
    · rfl
    · rfl
  refine hK.out _ _ (((below_alloc (Below.refl w7.heap.size w7) (.cells #[.slice (some ⟨gc, 0, none⟩) ln' c7] 22)).cell (World.block_lt_of_cell? _ _ hHeld)).trans hHeld) (fun hHeld => ?_)
  clear hK K
  refine norm_ (a' := ?_) ?_ ?_
  rotate_left
  · show Act.put _ (some 12) _ = _
    simp only [Act.put, List.setIfInBounds_toArray, List.set_cons_zero, List.set_cons_succ, i64_w, i32_w]
    rfl
  refine one_ (i := 9) (N := some 13) #[true, true, true, true, true, true, true, true, true, true, false, false, false] rfl rfl (by kernel_rfl) (by decide) (fun K hK => ?_)
  obtain ⟨v9, w9, hr, hown9, hgrow9, -, hloc9⟩ := run_append_own_at (P := Try.prog) (w := w7.alloc (.cells #[.slice (some ⟨gc, 0, none⟩) ln' c7] 22)) B 52 52 22 i1 (.slice none 0 0) 1 24 Try.underlying52 HI1.out.1 HI1.out.2.1 HI1.out.2.2.1 HI1.out.2.2.2 rfl (by decide) (.slice LA N LC) N (mrow M) ((HN.out ▸ M7.out.row).alloc _) ⟨w7.heap.size, 0, none⟩ 1 1 [.slice (some ⟨gc, 0, none⟩) ln' c7] rfl (bo_one _ _ _) (by simp [Value.oneCell']) (by unfold maxLen; omega) (by omega) (by have := Z4.out; have := B7.out.size; simp; omega)
  obtain ⟨A9, c9, rfl⟩ := own_sl hown9
  have ONE := mg_one (cc := c7) (ob := .cells #[.slice (some ⟨gc, 0, none⟩) ln' c7] 22) (v9 := .slice A9 (N + 1) c9) M4.out Z4.out B7.out L7.out GC.out HW.out (by rw [HLN.out]; exact h1) (by rw [HLN.out]; exact h32) (HN.out.symm ▸ hgrow9) (by rw [HLN.out, HN.out]; exact hown9) (HN.out.symm ▸ hloc9)
  have ONE := Aside0.mk ONE
  have K9 := Aside0.mk ((jn_tn hgrow9).blk M7.out.book (fun q => by
    obtain ⟨cs, e⟩ := own_typed M7.out.row (HN.out.symm ▸ q)
    exact ty_ne e M7.out.book (by decide)))
  clear hown9 hgrow9 hloc9
  refine append_value (by rfl) rfl rfl rfl rfl hr ?_
  clear hr
  refine hK.out _ _ ((blk_cell K9.out 0).trans (by rw [HN.out]; rfl)) (fun hHeld => ?_)
  clear hK K
  refine norm_ (a' := ?_) ?_ ?_
  rotate_left
  · show Act.put _ (some 13) _ = _
    simp only [Act.put, List.setIfInBounds_toArray, List.set_cons_zero, List.set_cons_succ, i64_w, i32_w]
    rfl
  refine pure_ (i := 10) (N := some 14) (v := ?_) (a' := ?_) #[true, true, true, true, true, true, true, true, true, true, true, false, false] rfl rfl (by kernel_rfl) (fun _ _ _ h => h) (Or.inl ⟨by rfl, ?_⟩) ?_ ?_
  rotate_left
  · intro w'
    go_simp
    with_reducible rfl
  rotate_left
  · simp only [Act.put, List.setIfInBounds_toArray, List.set_cons_zero, List.set_cons_succ, i64_w, i32_w]
    rfl
  refine pure_ (i := 11) (N := some 15) (v := ?_) (a' := ?_) #[true, true, true, true, true, true, true, true, true, true, true, true, false] rfl rfl (by kernel_rfl) (fun _ _ _ h => h) (Or.inl ⟨by rfl, ?_⟩) ?_ ?_
  rotate_left
  · intro w'
    go_simp
    with_reducible rfl
  rotate_left
  · simp only [Act.put, List.setIfInBounds_toArray, List.set_cons_zero, List.set_cons_succ, i64_w, i32_w]
    rfl
  refine last_ (i := 12) (N := none) #[true, true, true, true, true, true, true, true, true, true, true, true, true] rfl rfl (by kernel_rfl) (by decide) (fun K hK => ?_)
  have kc0 := (blk_cell K9.out 0).trans rfl
  have kf0 := blk_frozen K9.out 0
  go_simp
  refine hK.out _ _ ?_
  clear hK K
  refine done_ (by kernel_rfl) ?_
  clear hHeld kc0 kf0
  obtain ⟨W, hW⟩ : ∃ W, w9.setCell ⟨mb, 0, none⟩ (.slice A9 (N + 1) c9) = W := ⟨_, rfl⟩
  rw [hW] at ONE ⊢
  obtain ⟨DA, DC, hdv⟩ := own_sl ONE.out.1.don
  rw [HN.out] at hdv
  subst hdv
  have e1 := (blk_cell ONE.out.1.book 1).trans rfl
  clear hW
  have T2 := Aside0.mk (ONE.out.2.1)
  go_wp2_with (at_builtin; refine wpList_append_own_at _ rfl _ _ 53 rfl B 4 i2 (.bool false) 1 1 Try.underlying53 HI2.out.1 HI2.out.2.1 HI2.out.2.2.1 HI2.out.2.2.2 rfl (by decide) (.slice DA N DC) N (mdon M) rfl ((HN.out ▸ ONE.out.1.don).alloc _) ⟨W.heap.size, 0, none⟩ 1 1 [.bool false] rfl rfl (bo_one _ _ _) (by simp [Value.oneCell']) (by unfold maxLen; omega) (by omega) (by have := T2.out.size; have := Z4.out; simp; omega) ?_; intro v11 w11 hown11 hgrow11 hnil11 hloc11; obtain ⟨A11, c11, rfl⟩ := own_sl hown11; have K11 := Aside0.mk ((jn_tn hgrow11).blk ONE.out.1.book (fun q => (by obtain ⟨cs, e⟩ := own_typed ONE.out.1.don q; exact ty_ne e ONE.out.1.book (by decide)))); have kc1 := (blk_cell K11.out 1).trans rfl; have kf1 := blk_frozen K11.out 1; clear e1; have O11 := Aside0.mk (And.intro hown11 (And.intro hgrow11 hloc11)); clear hown11 hgrow11 hnil11 hloc11)
  have TWO := mg_two (x := ⟨gc, c7, l, false⟩) (v11 := .slice A11 (N + 1) c11) ONE.out.1 rfl rfl (by rw [HN.out]; exact hf) O11.out.2.1 (by rw [HN.out]; exact O11.out.1) O11.out.2.2
  refine bodyPost_end (v := .tuple #[]) (by simp [results, Try.results43, go_sem]) rfl ?_
  have hNN := HN.out
  subst hNN
  refine ⟨rfl, _, _, gc, c7, TWO.1, ?_, ?_⟩
  · have ta : Tn (mown mb (.slice LA M.length LC) (.slice DA M.length DC)) w wd := Tn.of_below B4.out
    have tb := ONE.out.2.1.mono (S' := mown mb (.slice LA M.length LC) (.slice DA M.length DC)) (fun k _ q => q.elim Or.inl (fun q => Or.inr (Or.inl q)))
    have tc := TWO.2.1.mono (S' := mown mb (.slice LA M.length LC) (.slice DA M.length DC)) (fun k _ q => q.elim Or.inl (fun q => Or.inr (Or.inr q)))
    exact (ta.trans tb).trans tc
  · intro k hk
    have s1 := B4.out.size
    have s2 := T2.out.size
    rcases hk with q | q | q
    · exact Or.inl (Or.inl q)
    · rcases ONE.out.2.2 k q with q | q
      · exact Or.inl (Or.inr (Or.inl q))
      · exact Or.inr (by omega)
    · rcases TWO.2.2 k q with q | q
      · exact Or.inl (Or.inr (Or.inr q))
      · exact Or.inr (by omega)

open Go.Proofs.Ytcdhnglefldalaa.PBookPlays (S32 S34 S40 k32 k34 k40 z32 z34 z40 rd_T34 at_T34 rd_T40 at_T40 errEqI errEqL errEqR errNeI errNeL errNeR)
open Go.Maps
attribute [local go_sem high] errEqI errNeI errEqL errNeL errEqR errNeR
def MRev (M : List En) (n c : Int) (M' : List En) : Prop := ((n < 0 ∨ (M.length : Int) ≤ n) ∧ c = 4 ∧ M' = M) ∨ (∃ (k : Nat) (x : En), n = ↑k ∧ M[k]? = some x ∧ x.d = true ∧ c = 5 ∧ M' = M) ∨ (∃ (k : Nat) (x : En), n = ↑k ∧ M[k]? = some x ∧ x.d = false ∧ ((c = 0 ∧ pgood M.length (tot M) (ngs x.l) ∧ ∃ g c', M' = M.set k ⟨x.g, x.c, x.l, true⟩ ++ [⟨g, c', ngs x.l, true⟩]) ∨ (pbad M.length (tot M) (ngs x.l) c ∧ M' = M)))
theorem pbad_ne {n : Nat} {f : S32 → Int} {l : List S34} {c : Int} (h : pbad n f l c) : c ≠ 0 := by
  rcases h with ⟨-, h⟩ | ⟨-, -, h⟩ | ⟨-, -, -, h⟩ | ⟨-, -, -, -, h⟩ <;> omega
theorem don_set {w : World} {B g c : Nat} {M : List En} (h : w.ownsRow B 4 1 (.slice (some ⟨g, 0, none⟩) M.length c) M.length (mdon M)) {j : Nat} {x : En} (hx : M[j]? = some x) :
    (w.setCell ⟨g, j, none⟩ (.bool true)).ownsRow B 4 1 (.slice (some ⟨g, 0, none⟩) M.length c) M.length (mdon (M.set j ⟨x.g, x.c, x.l, true⟩)) := by
  have hj : j < M.length := (List.getElem?_eq_some_iff.1 hx).1
  obtain ⟨hl, ⟨e, -⟩ | ⟨g', cap, cur, e, hg, hb, hc, hcm, hsz, ht⟩⟩ := h
  · cases e
  · cases e
    refine ⟨by simp [mdon], Or.inr ⟨g, c, cur.setIfInBounds j (.bool true), rfl, hg, blk_put hb _ _ rfl, hc, hcm, by simpa using hsz, ?_⟩⟩
    have e2 : (cur.setIfInBounds j (.bool true)).toList = cur.toList.set j (.bool true) := by simp
    have e3 : mdon (M.set j ⟨x.g, x.c, x.l, true⟩) = (mdon M).set j (.bool true) := by simp [mdon, List.map_set]
    rw [e2, e3, ← ht, List.take_set]
theorem Mb.setd {w : World} {B mb g c n : Nat} {lv : Value} {M : List En} (h : Mb w B mb lv (.slice (some ⟨g, 0, none⟩) n c) M) (hn : n = M.length) {j : Nat} {x : En} (hx : M[j]? = some x) : Mb (w.setCell ⟨g, j, none⟩ (.bool true)) B mb lv (.slice (some ⟨g, 0, none⟩) n c) (M.set j ⟨x.g, x.c, x.l, true⟩) := by
  subst hn
  have t := tn_set w g j (.bool true)
  obtain ⟨cs, hcs⟩ := own_typed h.don (k := g) rfl
  have hS : ∀ k c, k = g → w.heap[k]? ≠ some (.cells c 34 (0, 0)) := fun k c q e => by
    rw [q] at e
    exact ty_ne hcs e (by decide)
  refine ⟨h.hb, t.blk h.book (fun q => ?_), ?_, by rw [List.length_set]; exact don_set h.don hx, fun y hy => ?_, fun y hy => ?_, by rw [List.length_set]; exact h.few⟩
  · have hb := h.book
    rw [q] at hb
    exact ty_ne hcs hb (by decide)
  · have hr := own_turn h.row t (fun k hk q => by
      obtain ⟨c1, e1⟩ := own_typed h.row hk
      rw [q] at e1
      exact ty_ne hcs e1 (by decide))
    have e : mrow (M.set j ⟨x.g, x.c, x.l, true⟩) = mrow M := by
      have h1 := mrow_at hx
      have hj : j < (mrow M).length := (List.getElem?_eq_some_iff.1 h1).1
      have h2 : (mrow M)[j] = .slice (some ⟨x.g, 0, none⟩) x.l.length x.c := (List.getElem?_eq_some_iff.1 h1).2
      show (M.set j _).map _ = _
      rw [List.map_set]
      show (mrow M).set j (.slice (some ⟨x.g, 0, none⟩) x.l.length x.c) = mrow M
      rw [← h2, List.set_getElem_self]
    rw [List.length_set, e]
    exact hr
  · rcases List.mem_or_eq_of_mem_set hy with hy | hy
    · exact (h.ent y hy).turn t hS
    · subst hy
      exact Eg.turn (x := ⟨x.g, x.c, x.l, true⟩) (h.ent x (List.mem_of_getElem? hx)) t hS
  · rcases List.mem_or_eq_of_mem_set hy with hy | hy
    · exact h.good y hy
    · subst hy
      exact h.good x (List.mem_of_getElem? hx)
theorem Mb.atdg {w : World} {B mb n DC g : Nat} {lv : Value} {M : List En} (h : Mb w B mb lv (.slice (some ⟨g, 0, none⟩) n DC) M) {i : Nat} {x : En} (hx : M[i]? = some x) : w.cell? ⟨g, i, none⟩ = some (.bool x.d) ∧ w.frozen? ⟨g, i, none⟩ = false := by
  obtain ⟨g', c, e, a, b, -⟩ := h.atd hx
  injection e with e
  injection e with e
  injection e with e
  rw [e]
  exact ⟨a, b⟩
set_option maxRecDepth 100000 in
set_option maxHeartbeats 4000000 in
theorem mr_rev {w : World} {B mb : Nat} {lv dv : Value} {M : List En} (h : Mb w B mb lv dv M) (hB : B ≤ w.heap.size) (hm : ∀ x ∈ M, ∀ y ∈ x.l, y.f1 ≠ -9223372036854775808) (n : Int) : Calls Try.prog 40 #[.pointer (some ⟨mb, 0, none⟩), .int .i64 n] w fun e w' => ∃ (c : Int), e = .returned (.int .i64 c) ∧ ∃ (lv' dv' : Value) (M' : List En), MRev M n c M' ∧ Mb w' B mb lv' dv' M' ∧ Tn (mown mb lv dv) w w' ∧ (∀ k, mown mb lv' dv' k → mown mb lv dv k ∨ w.heap.size ≤ k) := by
  have HM := Aside0.mk h
  have HMN := Aside0.mk hm
  obtain ⟨c0, c1, -, -⟩ := h.cells
  obtain ⟨LA, LC, rfl⟩ := own_sl h.row
  obtain ⟨DA, DC, rfl⟩ := own_sl h.don
  have HEND := Aside0.mk (fun (c : Int) (w' : World) (hb : Below w.heap.size w w') (hr : MRev M n c M) => show ∃ (c' : Int) (lv' dv' : Value) (M' : List En), Ending.returned (.int .i64 c) = .returned (.int .i64 c') ∧ MRev M n c' M' ∧ Mb w' B mb lv' dv' M' ∧ Tn (mown mb (.slice LA M.length LC) (.slice DA M.length DC)) w w' ∧ (∀ k, mown mb lv' dv' k → mown mb (.slice LA M.length LC) (.slice DA M.length DC) k ∨ w.heap.size ≤ k) from ⟨c, _, _, M, rfl, hr, h.below hb, Tn.of_below hb, fun k q => Or.inl q⟩)
  clear hm
  have hfew := h.few
  by_cases p : n < 0
  · clear h
    go_enter Try.func40, Try.ntmps40
    go_wp2_with fail
    go_ret
    obtain ⟨c', lv', dv', M', e, r⟩ := HEND.out 4 w (Below.refl _ _) (Or.inl ⟨Or.inl p, rfl, rfl⟩); cases e; exact ⟨_, rfl, lv', dv', M', r⟩
  by_cases q : (M.length : Int) ≤ n
  · have q2 : n ≥ (M.length : Int) := q
    clear h
    go_enter Try.func40, Try.ntmps40
    go_wp2_with fail
    go_ret
    obtain ⟨c', lv', dv', M', e, r⟩ := HEND.out 4 w (Below.refl _ _) (Or.inl ⟨Or.inr q, rfl, rfl⟩); cases e; exact ⟨_, rfl, lv', dv', M', r⟩
  obtain ⟨k, rfl⟩ : ∃ k : Nat, n = ↑k := ⟨n.toNat, by omega⟩
  obtain ⟨x, hx⟩ : ∃ x, M[k]? = some x := ⟨M[k]'(by omega), List.getElem?_eq_getElem _⟩
  have HX := Aside0.mk hx
  have hk1 : (↑k : Int) < ↑M.length := by omega
  have hk2 : ¬ (↑k : Int) ≥ ↑M.length := by omega
  have hk0 : (0 : Int) ≤ ↑k := by omega
  have hkn : k < M.length := by omega
  obtain ⟨dg, rfl, d0⟩ : ∃ g, DA = some ⟨g, 0, none⟩ ∧ w.cell? ⟨g, k, none⟩ = some (.bool x.d) := by
    obtain ⟨g, c, e, a, -⟩ := h.atd hx
    injection e with e1
    exact ⟨g, e1, a⟩
  obtain ⟨lg, rfl, r0⟩ := h.at2 hx
  have HXE := Aside0.mk (h.ent x (List.mem_of_getElem? hx))
  have HXW := Aside0.mk (h.good x (List.mem_of_getElem? hx))
  clear h hx p q
  cases hd : x.d with
  | true =>
    rw [hd] at d0
    have HD := Aside0.mk hd
    clear hd
    go_enter Try.func40, Try.ntmps40
    go_wp2_with fail
    go_ret
    obtain ⟨c', lv', dv', M', e, r⟩ := HEND.out 5 w (Below.refl _ _) (Or.inr (Or.inl ⟨k, x, rfl, HX.out, HD.out, rfl, rfl⟩)); cases e; exact ⟨_, rfl, lv', dv', M', r⟩
  | false =>
    rw [hd] at d0
    have HD := Aside0.mk hd
    obtain ⟨xl, hxl⟩ : ∃ n, x.l.length = n := ⟨_, rfl⟩
    have HXL := Aside0.mk hxl
    have TU := mt_turn (w := w) (some ⟨x.g, 0, none⟩) x.c x.l HXE.out.2.1.lr (by have := HXE.out.2.2.2; omega) HXW.out (HMN.out x (List.mem_of_getElem? HX.out))
    rw [hxl] at r0 TU
    have TU := Aside0.mk TU
    have hxs : 1 ≤ xl ∧ xl ≤ 32 := by rw [← hxl]; exact HXE.out.2.2
    clear hd hxl
    go_enter Try.func40, Try.ntmps40
    go_wp2_with fail
    refine TU.out.mono ?_
    rintro e w1 ⟨A1, c1', rfl, hl1, hc1, hb1⟩
    have B1 := Aside0.mk hb1
    have L1 := Aside0.mk hl1
    have M1 := Aside0.mk (HM.out.below hb1)
    have hnl := (ngs_len x.l).trans HXL.out
    have WN := Aside0.mk (wls_ngs HXW.out (HMN.out x (List.mem_of_getElem? HX.out)))
    have MA := me_may M1.out A1 c1' (ngs x.l) hl1 (by rw [hnl]; omega) (by rw [hnl]; exact hc1) WN.out
    rw [hnl] at MA
    have MA := Aside0.mk MA
    have HNL := Aside0.mk hnl
    clear hb1 hl1 hc1 hnl c0 c1 d0 r0
    go_wp2_with fail
    refine MA.out.mono ?_
    rintro e w2 ⟨c, rfl, hmc, hb2⟩
    have B2 := Aside0.mk (below_step B1.out hb2)
    have M2 := Aside0.mk (M1.out.below hb2)
    have L2 := Aside0.mk (L1.out.below hb2)
    have HMC := Aside0.mk hmc
    clear hb2 hmc
    by_cases pc : c = 0
    rotate_left
    · have PC := Aside0.mk pc
      have pcb : (c == 0) = false := beq_eq_false_iff_ne.2 pc
      clear pc
      go_wp2_with fail
      go_ret
      obtain ⟨c', lv', dv', M', e, r⟩ := HEND.out c w2 B2.out (Or.inr (Or.inr ⟨k, x, rfl, HX.out, HD.out, Or.inr ⟨HMC.out.elim (fun q => absurd q.1 PC.out) id, rfl⟩⟩)); cases e; exact ⟨_, rfl, lv', dv', M', r⟩
    · subst pc
      have hgood : pgood M.length (tot M) (ngs x.l) := HMC.out.elim (fun q => q.2) (fun q => absurd rfl (pbad_ne q))
      have HGD := Aside0.mk hgood
      have PO := mg_post M2.out (Nat.le_trans hB B2.out.size) A1 c1' (ngs x.l) L2.out (by rw [HNL.out]; omega) (by rw [HNL.out]; omega) WN.out hgood.1
      rw [HNL.out] at PO
      have PO := Aside0.mk PO
      clear hgood
      go_wp2_with fail
      refine PO.out.mono ?_
      rintro e w3 ⟨rfl, lv3, dv3, gn, cn, hm3, ht3, hown3⟩
      have M3 := Aside0.mk hm3
      have T3 := Aside0.mk ht3
      have O3 := Aside0.mk hown3
      clear hm3 ht3 hown3
      have hx2 : (M ++ [(⟨gn, cn, ngs x.l, false⟩ : En)])[k]? = some x := by rw [List.getElem?_append_left hkn]; exact HX.out
      have hx3 : (M ++ [(⟨gn, cn, ngs x.l, false⟩ : En)])[M.length]? = some ⟨gn, cn, ngs x.l, false⟩ := by rw [List.getElem?_append_right (Nat.le_refl _), Nat.sub_self]; rfl
      have hRL : (M ++ [(⟨gn, cn, ngs x.l, false⟩ : En)]).length = M.length + 1 := by simp
      obtain ⟨dg3, dc3, e3, d3, f3, hd3⟩ := M3.out.atd hx2
      rw [hRL] at e3
      subst e3
      obtain ⟨LA3, LC3, e4⟩ := own_sl M3.out.row
      rw [hRL] at e4
      subst e4
      obtain ⟨c0, c1, -, -⟩ := M3.out.cells
      have HX2 := Aside0.mk hx2
      have HX3 := Aside0.mk hx3
      have HRL := Aside0.mk hRL
      have DG3 := Aside0.mk hd3
      have hk3 : (↑k : Int) < ↑M.length + 1 := by omega
      clear hx2 hx3 hRL hd3
      go_wp2_with fail
      have HX4 := Aside0.mk (show ((M ++ [(⟨gn, cn, ngs x.l, false⟩ : En)]).set k ⟨x.g, x.c, x.l, true⟩)[M.length]? = some ⟨gn, cn, ngs x.l, false⟩ by rw [List.getElem?_set_ne (by omega)]; exact HX3.out)
      have M4 := Aside0.mk (M3.out.setd HRL.out.symm HX2.out)
      have T4 := Aside0.mk (tn_set w3 dg3 k (.bool true))
      obtain ⟨W, hW⟩ : ∃ W, w3.setCell ⟨dg3, k, none⟩ (.bool true) = W := ⟨_, rfl⟩
      rw [hW] at M4 T4 ⊢
      clear hW c0 c1 d3 f3
      obtain ⟨c0, c1, -, -⟩ := M4.out.cells
      refine start_ (n := 12) (S := fun w' => w'.cell? ⟨mb, 0, none⟩ = some (.slice LA3 (M.length + 1) LC3) ∧ w'.cell? ⟨mb, 1, none⟩ = some (.slice (some ⟨dg3, 0, none⟩) (M.length + 1) dc3)) (ds := [11]) #[false, false, false, false, false, false, false, false, false, false, false, false] (by kernel_rfl) rfl rfl ⟨c0, c1⟩ (fun hHeld => ?_)
      have B4 := Aside0.mk (below_drew1 (Below.refl W.heap.size W))
      have M5 := Aside0.mk (M4.out.below B4.out)
      clear c0 c1
      generalize W.drew = wd at hHeld B4 M5 ⊢
      have hm1 : (↑M.length : Int) < ↑M.length + 1 := by omega
      have hm0 : (0 : Int) ≤ ↑M.length := by omega
      have hm3 : wrap64 (↑M.length) = ↑M.length := by unfold wrap64; omega
      refine pure_ (i := 0) (N := some 47) (v := ?_) (a' := ?_) #[true, false, false, false, false, false, false, false, false, false, false, false] rfl rfl (by kernel_rfl) (fun _ _ _ h => h) (Or.inl ⟨by rfl, ?_⟩) ?_ ?_
      rotate_left
      · intro w'
        go_simp
        with_reducible rfl
      rotate_left
      · simp only [Act.put, List.setIfInBounds_toArray, List.set_cons_zero, List.set_cons_succ, i64_w, i32_w]
        rfl
      refine pure_ (i := 1) (N := some 48) (v := ?_) (a' := ?_) #[true, true, false, false, false, false, false, false, false, false, false, false] rfl rfl (by kernel_rfl) (fun _ _ _ h => h) (Or.inl ⟨by rfl, ?_⟩) ?_ ?_
      rotate_left
      · intro w'
        go_simp
        with_reducible rfl
      rotate_left
      · simp only [Act.put, List.setIfInBounds_toArray, List.set_cons_zero, List.set_cons_succ, i64_w, i32_w]
        rfl
      refine pure_ (i := 2) (N := some 49) (v := ?_) (a' := ?_) #[true, true, true, false, false, false, false, false, false, false, false, false] rfl rfl (by kernel_rfl) (fun _ _ _ h => h) (Or.inl ⟨by rfl, ?_⟩) ?_ ?_
      rotate_left
      · intro w'
        go_simp
        with_reducible rfl
      rotate_left
      · simp only [Act.put, List.setIfInBounds_toArray, List.set_cons_zero, List.set_cons_succ, i64_w, i32_w]
        rfl
      refine pure_ (i := 4) (N := some 51) (v := ?_) (a' := ?_) #[true, true, true, false, true, false, false, false, false, false, false, false] rfl rfl (by kernel_rfl) (fun _ _ _ h => h) (Or.inl ⟨by rfl, ?_⟩) ?_ ?_
      rotate_left
      · intro w'
        go_simp
        with_reducible rfl
      rotate_left
      · simp only [Act.put, List.setIfInBounds_toArray, List.set_cons_zero, List.set_cons_succ, i64_w, i32_w]
        rfl
      refine pure_ (i := 5) (N := some 52) (v := ?_) (a' := ?_) #[true, true, true, false, true, true, false, false, false, false, false, false] rfl rfl (by kernel_rfl) (fun _ _ _ h => h) (Or.inl ⟨by rfl, ?_⟩) ?_ ?_
      rotate_left
      · intro w'
        go_simp
        with_reducible rfl
      rotate_left
      · simp only [Act.put, List.setIfInBounds_toArray, List.set_cons_zero, List.set_cons_succ, i64_w, i32_w]
        rfl
      refine pure_ (i := 6) (N := some 53) (v := ?_) (a' := ?_) #[true, true, true, false, true, true, true, false, false, false, false, false] rfl rfl (by kernel_rfl) (fun _ _ _ h => h) (Or.inl ⟨by rfl, ?_⟩) ?_ ?_
      rotate_left
      · intro w'
        go_simp
        with_reducible rfl
      rotate_left
      · simp only [Act.put, List.setIfInBounds_toArray, List.set_cons_zero, List.set_cons_succ, i64_w, i32_w]
        rfl
      refine take_ (i := 3) (N := some 50) (v := ?_) (a' := ?_) #[true, true, true, true, true, true, true, false, false, false, false, false] rfl rfl (by kernel_rfl) (fun _ _ _ h => h) (Or.inl ⟨by rfl, ?_⟩) hHeld ?_ ?_
      rotate_left
      · rintro w' ⟨s0, s1⟩
        go_simp
        with_reducible rfl
      rotate_left
      · simp only [Act.put, List.setIfInBounds_toArray, List.set_cons_zero, List.set_cons_succ, i64_w, i32_w]
        rfl
      refine take_ (i := 7) (N := some 54) (v := ?_) (a' := ?_) #[true, true, true, true, true, true, true, true, false, false, false, false] rfl rfl (by kernel_rfl) (fun _ _ _ h => h) (Or.inl ⟨by rfl, ?_⟩) hHeld ?_ ?_
      rotate_left
      · rintro w' ⟨s0, s1⟩
        go_simp
        with_reducible rfl
      rotate_left
      · simp only [Act.put, List.setIfInBounds_toArray, List.set_cons_zero, List.set_cons_succ, i64_w, i32_w]
        rfl
      refine pure_ (i := 8) (N := some 55) (v := ?_) (a' := ?_) #[true, true, true, true, true, true, true, true, true, false, false, false] rfl rfl (by kernel_rfl) (fun _ _ _ h => h) (Or.inl ⟨by rfl, ?_⟩) ?_ ?_
      rotate_left
      · intro w'
        go_simp
        with_reducible rfl
      rotate_left
      · simp only [Act.put, List.setIfInBounds_toArray, List.set_cons_zero, List.set_cons_succ, i64_w, i32_w]
        rfl
      refine pure_ (i := 9) (N := some 56) (v := ?_) (a' := ?_) #[true, true, true, true, true, true, true, true, true, true, false, false] rfl rfl (by kernel_rfl) (fun _ _ _ h => h) (Or.inl ⟨by rfl, ?_⟩) ?_ ?_
      rotate_left
      · intro w'
        go_simp
        with_reducible rfl
      rotate_left
      · simp only [Act.put, List.setIfInBounds_toArray, List.set_cons_zero, List.set_cons_succ, i64_w, i32_w]
        rfl
      refine pure_ (i := 10) (N := some 57) (v := ?_) (a' := ?_) #[true, true, true, true, true, true, true, true, true, true, true, false] rfl rfl (by kernel_rfl) (fun _ _ _ h => h) (Or.inl ⟨by rfl, ?_⟩) ?_ ?_
      rotate_left
      · intro w'
        go_simp
        with_reducible rfl
      rotate_left
      · simp only [Act.put, List.setIfInBounds_toArray, List.set_cons_zero, List.set_cons_succ, i64_w, i32_w]
        rfl
      refine last_ (i := 11) (N := none) #[true, true, true, true, true, true, true, true, true, true, true, true] rfl rfl (by kernel_rfl) (by decide) (fun K hK => ?_)
      have fz := (M5.out.atdg HX4.out).2
      have cd := (M5.out.atdg HX4.out).1
      go_simp
      refine hK.out _ _ ?_
      clear hK K
      refine done_ (by kernel_rfl) ?_
      clear hHeld
      go_wp2_with fail
      go_ret
      have M6 := M5.out.setd (by rw [List.length_set]; exact HRL.out.symm) HX4.out
      have hset : ((M ++ [(⟨gn, cn, ngs x.l, false⟩ : En)]).set k ⟨x.g, x.c, x.l, true⟩).set M.length ⟨gn, cn, ngs x.l, true⟩ = M.set k ⟨x.g, x.c, x.l, true⟩ ++ [⟨gn, cn, ngs x.l, true⟩] := rev_end hkn
      rw [hset] at M6
      have s1 := B2.out.size
      have T0 : Tn (fun i => mown mb (.slice (some ⟨lg, 0, none⟩) M.length LC) (.slice (some ⟨dg, 0, none⟩) M.length DC) i ∨ w.heap.size ≤ i) w w3 := (Tn.of_below B2.out).trans (T3.out.mono (fun i _ q => Or.inl q))
      have hdg : mown mb (.slice (some ⟨lg, 0, none⟩) M.length LC) (.slice (some ⟨dg, 0, none⟩) M.length DC) dg3 ∨ w.heap.size ≤ dg3 := by
        rcases O3.out dg3 (Or.inr (Or.inr rfl)) with q | q
        · exact Or.inl q
        · exact Or.inr (by omega)
      have T1 := T0.trans (T4.out.mono (fun i _ q => by rw [q]; exact hdg))
      have T2 := (T1.trans (Tn.of_below B4.out)).trans ((tn_set wd dg3 M.length (.bool true)).mono (fun i _ q => by rw [q]; exact hdg))
      refine ⟨_, rfl, _, _, _, Or.inr (Or.inr ⟨k, x, rfl, HX.out, HD.out, Or.inl ⟨rfl, HGD.out, gn, cn, rfl⟩⟩), M6, T2.mono (fun i hi q => q.elim id (fun q => by omega)), fun i q => ?_⟩
      rcases O3.out i q with q | q
      · exact Or.inl q
      · exact Or.inr (by omega)

open Go.Proofs.Ytcdhnglefldalaa.PBookPlays (S32 S34 S40 k32 k34 k40 z32 z34 z40 rd_T34 at_T34 rd_T40 at_T40 errEqI errEqL errEqR errNeI errNeL errNeR trivetlaw10_pick.f trivetlaw10_pick.calls)
open Go.Maps
attribute [local go_sem high] errEqI errNeI errEqL errNeL errEqR errNeR
set_option maxRecDepth 100000 in
theorem mo_code0 (w : World) : Calls Try.prog 41 #[.nilIface] w fun e w' => e = .returned (.int .i64 0) ∧ Below w.heap.size w w' := by
  go_enter Try.func41, Try.ntmps41
  go_wp2_with fail
  go_ret
  exact ⟨rfl, Below.refl _ _⟩
set_option maxRecDepth 100000 in
theorem mo_code (c : Int) (h1 : 1 ≤ c) (h8 : c ≤ 8) (w : World) : Calls Try.prog 41 #[.iface 42 (.int .i64 c)] w fun e w' => e = .returned (.int .i64 c) ∧ Below w.heap.size w w' := by
  go_enter Try.func41, Try.ntmps41
  go_wp2_with fail
  go_loopw [3] (fun v3 wr => ∃ d : Int, v3 = .int .i64 d ∧ 1 ≤ d ∧ d ≤ c ∧ wr = w) (fun v3 _ => (9 - intOf v3).toNat)
  case atStart => exact ⟨1, rfl, by omega, h1, rfl⟩
  case round =>
    obtain ⟨d, rfl, hd1, hdc, rfl⟩ := hrel
    have hd8 : d ≤ 8 := by omega
    by_cases p : d = c
    · subst p
      go_wp2_with fail
      go_ret
      exact ⟨rfl, Below.refl _ _⟩
    · have p1 : (c == d) = false := beq_eq_false_iff_ne.2 (fun q => p q.symm)
      have gw : wrap64 (d + 1) = d + 1 := by unfold wrap64; omega
      go_wp2_with fail
      exact ⟨⟨_, rfl, by omega, by omega, trivial⟩, by simp [intOf]; omega⟩

open Go.Proofs.Ytcdhnglefldalaa.PBookPlays (S32 S34 S40 k32 k34 k40 z32 z34 z40 rd_T34 at_T34 rd_T40 at_T40 errEqI errEqL errEqR errNeI errNeL errNeR trivetlaw10_pick.f trivetlaw10_pick.calls)
open Go.Maps
attribute [local go_sem high] errEqI errNeI errEqL errNeL errEqR errNeR
def ldl (R : List En) : List (List S34 × Bool) := R.map (fun x => (x.l, x.d))
/-- A book and the model's one hold the same. -/
def SameB (R M : List En) : Prop := ldl R = ldl M
theorem SameB.len {R M : List En} (h : SameB R M) : R.length = M.length := by
  have := congrArg List.length h
  simpa [ldl] using this
theorem tot_ldl (R : List En) (a : S32) : tot R a = ((ldl R).map (fun p => adds p.1 a)).sum := by
  unfold tot ldl
  rw [List.map_map]
  rfl
theorem SameB.tot {R M : List En} (h : SameB R M) : tot R = tot M := by
  funext a
  rw [tot_ldl, tot_ldl, h]
theorem SameB.at {R M : List En} (h : SameB R M) {j : Nat} {x : En} (hx : R[j]? = some x) : ∃ y, M[j]? = some y ∧ y.l = x.l ∧ y.d = x.d := by
  have e : (ldl M)[j]? = some (x.l, x.d) := by rw [← h]; unfold ldl; rw [List.getElem?_map, hx]; rfl
  unfold ldl at e
  rw [List.getElem?_map] at e
  cases q : M[j]? with
  | none => rw [q] at e; cases e
  | some y =>
    rw [q] at e
    injection e with e
    injection e with e1 e2
    exact ⟨y, rfl, e1, e2⟩
theorem SameB.symm {R M : List En} (h : SameB R M) : SameB M R := Eq.symm h
theorem SameB.mem {R M : List En} (h : SameB R M) {y : En} (hy : y ∈ M) : ∃ x ∈ R, x.l = y.l ∧ x.d = y.d := by
  obtain ⟨j, hj⟩ := List.mem_iff_getElem?.1 hy
  obtain ⟨x, a, b⟩ := h.symm.at hj
  exact ⟨x, List.mem_of_getElem? a, b⟩
theorem SameB.snoc {R M : List En} (h : SameB R M) (g c g' c' : Nat) (l : List S34) (d : Bool) : SameB (R ++ [⟨g, c, l, d⟩]) (M ++ [⟨g', c', l, d⟩]) := by
  unfold SameB ldl at h ⊢
  rw [List.map_append, List.map_append, h]
  rfl
theorem SameB.set {R M : List En} (h : SameB R M) (j g c g' c' : Nat) (l : List S34) (d : Bool) : SameB (R.set j ⟨g, c, l, d⟩) (M.set j ⟨g', c', l, d⟩) := by
  unfold SameB ldl at h ⊢
  rw [List.map_set, List.map_set, h]
theorem pbad_uniq {n : Nat} {f : S32 → Int} {l : List S34} {c c' : Int} (h : pbad n f l c) (k : pbad n f l c') : c = c' := by
  rcases h with ⟨h1, h⟩ | ⟨h1, h2, h⟩ | ⟨h1, h2, h3, h⟩ | ⟨h1, h2, h3, h4, h⟩ <;> rcases k with ⟨k1, k⟩ | ⟨k1, k2, k⟩ | ⟨k1, k2, k3, k⟩ | ⟨k1, k2, k3, k4, k⟩
  all_goals first
    | (rw [h, k]; done)
    | (exfalso; omega)
    | (exfalso; rw [h2] at k2; cases k2)
    | (exfalso; exact h3 k3)
    | (exfalso; exact k3 h3)
theorem pbad_18 {n : Nat} {f : S32 → Int} {l : List S34} {c : Int} (h : pbad n f l c) : 1 ≤ c ∧ c ≤ 8 := by
  rcases h with ⟨-, h⟩ | ⟨-, -, h⟩ | ⟨-, -, -, h⟩ | ⟨-, -, -, -, h⟩ <;> omega
theorem post_match {R M R' : List En} {l : List S34} {n c : Int} {er : Value} (h : Posted R l n er R') (k : Mc M.length (tot M) l c) (s : SameB R M) : (c = 0 ∧ er = .nilIface ∧ n = ↑M.length ∧ pgood M.length (tot M) l ∧ ∃ g c', R' = R ++ [⟨g, c', l, false⟩]) ∨ (1 ≤ c ∧ c ≤ 8 ∧ er = .iface 42 (.int .i64 c) ∧ n = 0 ∧ R' = R) := by
  unfold Posted at h
  rw [s.len, s.tot] at h
  rcases h with ⟨h1, h2, h3, h4⟩ | ⟨d, h1, h2, h3, h4⟩
  · rcases k with ⟨k1, k2⟩ | k
    · exact Or.inl ⟨k1, h1, h2, k2, h4⟩
    · exact (p_not h3 k).elim
  · rcases k with ⟨k1, k2⟩ | k
    · exact (p_not k2 h3).elim
    · obtain rfl := pbad_uniq h3 k
      exact Or.inr ⟨(pbad_18 k).1, (pbad_18 k).2, h1, h2, h4⟩
theorem rev_match {R M R' M' : List En} {n m c : Int} {er : Value} (h : RevS R n m er R') (k : MRev M n c M') (s : SameB R M) : SameB R' M' ∧ ((c = 0 ∧ er = .nilIface ∧ m = ↑M'.length - 1 ∧ 1 ≤ M'.length) ∨ (1 ≤ c ∧ c ≤ 8 ∧ er = .iface 42 (.int .i64 c) ∧ m = 0)) := by
  have hl := s.len
  have hr : ∀ {j : Nat} {x : En}, R[j]? = some x → j < R.length := fun hx => (List.getElem?_eq_some_iff.1 hx).1
  have hm : ∀ {j : Nat} {x : En}, M[j]? = some x → j < M.length := fun hx => (List.getElem?_eq_some_iff.1 hx).1
  rcases h with ⟨h1, h2, h3, h4⟩ | ⟨j, x, h1, h2, h3, h4, h5, h6⟩ | ⟨j, x, h1, h2, h3, h4⟩
  · rcases k with ⟨k1, k2, k3⟩ | ⟨i, y, k1, k2, k3⟩ | ⟨i, y, k1, k2, k3⟩
    · subst h4; subst k3; subst k2
      exact ⟨s, Or.inr ⟨by omega, by omega, h3, h2⟩⟩
    · have := hm k2; omega
    · have := hm k2; omega
  · rcases k with ⟨k1, k2, k3⟩ | ⟨i, y, k1, k2, k3, k4, k5⟩ | ⟨i, y, k1, k2, k3, k4⟩
    · have := hr h2; omega
    · subst h6; subst k5; subst k4
      exact ⟨s, Or.inr ⟨by omega, by omega, h5, h4⟩⟩
    · obtain rfl : i = j := by omega
      obtain ⟨z, e1, e2, e3⟩ := s.at h2
      rw [k2] at e1; cases e1
      rw [k3, h3] at e3; cases e3
  · rcases k with ⟨k1, k2, k3⟩ | ⟨i, y, k1, k2, k3, k4, k5⟩ | ⟨i, y, k1, k2, k3, k4⟩
    · have := hr h2; omega
    · obtain rfl : i = j := by omega
      obtain ⟨z, e1, e2, e3⟩ := s.at h2
      rw [k2] at e1; cases e1
      rw [k3, h3] at e3; cases e3
    · obtain rfl : i = j := by omega
      obtain ⟨z, e1, e2, e3⟩ := s.at h2
      rw [k2] at e1; cases e1
      unfold Revd at h4
      rw [s.len, s.tot, ← e2] at h4
      rcases h4 with ⟨a1, a2, a3, g, c1, a4⟩ | ⟨d, a1, a2, a3, a4⟩
      · rcases k4 with ⟨b1, b2, g', c2, b3⟩ | ⟨b1, b2⟩
        · subst a4; subst b3
          exact ⟨(s.set i _ _ _ _ _ _).snoc _ _ _ _ _ _, Or.inl ⟨b1, a1, by rw [a2]; simp, by simp⟩⟩
        · exact (p_not a3 b1).elim
      · rcases k4 with ⟨b1, b2, g', c2, b3⟩ | ⟨b1, b2⟩
        · exact (p_not b2 a3).elim
        · subst a4; subst b2
          obtain rfl := pbad_uniq a3 b1
          exact ⟨s, Or.inr ⟨(pbad_18 b1).1, (pbad_18 b1).2, a1, a2⟩⟩
theorem SameB.nomin {w : World} {B bb bm : Nat} {ev : Value} {R M : List En} (h : SameB R M) (k : Bk w B bb bm ev R) : ∀ x ∈ M, ∀ y ∈ x.l, y.f1 ≠ -9223372036854775808 := fun x hx y hy => by
  obtain ⟨z, hz, e, -⟩ := h.mem hx
  exact (k.good z hz).2.2.2 y (by rw [e]; exact hy)

open Go.Proofs.Ytcdhnglefldalaa.PBookPlays (S32 S34 S40 k32 k34 k40 z32 z34 z40 rd_T34 at_T34 rd_T40 at_T40 errEqI errEqL errEqR errNeI errNeL errNeR trivetlaw10_pick.f trivetlaw10_pick.calls)
open Go.Maps
attribute [local go_sem high] errEqI errNeI errEqL errNeL errEqR errNeR
theorem pq3 (c : Int) : ∃ r, trivetlaw10_pick.f c 3 = some r := by
  unfold trivetlaw10_pick.f
  split
  · exact ⟨_, rfl⟩
  · exact ⟨_, rfl⟩
set_option maxRecDepth 100000 in
set_option maxHeartbeats 8000000 in
theorem mq_one {w : World} {B bb bm mb : Nat} {ev lv dv : Value} {R M : List En} (hk : Bk w B bb bm ev R) (hm : Mb w B mb lv dv M) (hs : SameB R M) (hB : B ≤ w.heap.size) (x : S40) (A2 : Option Addr) (c2 : Nat) (hx : ∀ W, Tn (fun k => B ≤ k) w W → Lr W A2 x.f2) (hl : x.f2.length ≤ 100) (hc : x.f2.length ≤ c2) (hw : WLs x.f2) : Calls Try.prog 22 #[.pointer (some ⟨bb, 0, none⟩), .pointer (some ⟨mb, 0, none⟩), .agg #[.int .i64 x.f0, .int .i64 x.f1, .slice A2 x.f2.length c2]] w fun e w' => e = .returned (.bool true) ∧ ∃ ev' R' lv' dv' M', Bk w' B bb bm ev' R' ∧ Mb w' B mb lv' dv' M' ∧ SameB R' M' ∧ Tn (fun k => B ≤ k) w w' := by
  have KO := Aside0.mk (fun k q => And.intro (hk.own_lt k q) (hk.own_ge k q))
  have MO := Aside0.mk (fun k q => And.intro (hm.own_lt k q) (hm.own_ge k q))
  have HS := Aside0.mk hs
  have HW := Aside0.mk hw
  have HMN := Aside0.mk (hs.nomin hk)
  obtain ⟨nl, hnl⟩ : ∃ nl, x.f2.length = nl := ⟨_, rfl⟩
  have HNL := Aside0.mk hnl
  obtain ⟨r, hr⟩ := pq3 x.f0
  have PK := Aside0.mk (fun W => trivetlaw10_pick.calls x.f0 3 r W hr)
  have HK := Aside0.mk hk
  have HM := Aside0.mk hm
  have HX := Aside0.mk hx
  rw [hnl] at hl hc ⊢
  clear hs hw hk hm hx hnl hr
  go_enter Try.func22, Try.ntmps22
  go_wp2_with fail
  have al := below_alloc (Below.refl w.heap.size w) (.cells #[.int .i64 x.f0, .int .i64 x.f1, .slice A2 nl c2] 40)
  refine (PK.out _).mono ?_
  rintro e w1 ⟨rfl, hd⟩
  have B1 := Aside0.mk (below_step al hd.below)
  have X1 := Aside0.mk ((hd.below.block _ (by simp)).trans (blk_new w (.cells #[.int .i64 x.f0, .int .i64 x.f1, .slice A2 nl c2] 40)))
  have K1 := Aside0.mk (HK.out.below B1.out)
  have M1 := Aside0.mk (HM.out.below B1.out)
  have Z1 := Aside0.mk (Nat.le_trans hB B1.out.size)
  have d1 := (blk_cell X1.out 1).trans rfl
  have d2 := (blk_cell X1.out 2).trans rfl
  clear al hd PK
  by_cases pr : r = 2
  · go_wp2_with fail
    refine (rev_all K1.out Z1.out x.f1).mono ?_
    rintro e w2 ⟨m2, er, ev2, R2, rfl, hrs, hk2, -, ht2⟩
    have K2 := Aside0.mk hk2
    have T2 := Aside0.mk ht2
    have RS := Aside0.mk hrs
    have M2 := Aside0.mk (M1.out.apart K1.out ht2)
    have X2 := Aside0.mk (ht2.blk X1.out (fun q => by have := (KO.out _ q).1; omega))
    have Z2 := Aside0.mk (Nat.le_trans Z1.out ht2.size)
    clear hk2 ht2 hrs d1 d2
    have d1 := (blk_cell X2.out 1).trans rfl
    go_wp2_with fail
    refine (mr_rev M2.out Z2.out HMN.out x.f1).mono ?_
    rintro e w3 ⟨c, rfl, lv3, dv3, M3, hmr, hm3, ht3, -⟩
    have K3 := Aside0.mk (K2.out.apartM M2.out ht3)
    have M3' := Aside0.mk hm3
    have T3 := Aside0.mk ht3
    obtain ⟨hs3, hcase⟩ := rev_match RS.out hmr HS.out
    have S3 := Aside0.mk hs3
    have TT := Aside0.mk (show Tn (fun k => B ≤ k) w w3 from ((Tn.of_below (S := fun k => B ≤ k) B1.out).trans (T2.out.mono (fun k _ q => (KO.out k q).2))).trans (T3.out.mono (fun k _ q => (MO.out k q).2)))
    clear hmr hm3 ht3 hs3 d1
    rcases hcase with ⟨rfl, rfl, rfl, h1⟩ | ⟨hc1, hc8, rfl, rfl⟩
    · obtain ⟨LA, LC, rfl⟩ := own_sl M3'.out.row
      obtain ⟨N, hN⟩ : ∃ N, M3.length = N := ⟨_, rfl⟩
      have HF := M3'.out.few
      have M4 := M3'.out
      rw [hN] at M4 HF ⊢
      have M4 := Aside0.mk M4
      clear hN h1
      go_wp2_with fail
      refine (mo_code0 w3).mono ?_
      rintro e w5 ⟨rfl, hb5⟩
      have M5 := Aside0.mk (M4.out.below hb5)
      have K5 := Aside0.mk (K3.out.below hb5)
      have TT5 := Aside0.mk (TT.out.trans (Tn.of_below hb5))
      obtain ⟨c0, -⟩ := M5.out.cells
      have gw : wrap64 (↑N - 1) = ↑N - 1 := by unfold wrap64; omega
      clear hb5
      go_wp2_with fail
      go_ret
      exact ⟨rfl, _, _, _, _, _, K5.out, M5.out, S3.out, TT5.out⟩
    · have e0 : (c == 0) = false := beq_eq_false_iff_ne.2 (by omega)
      have e1 : (c != 0) = true := by rw [bne, e0]; rfl
      go_wp2_with fail
      refine (mo_code c hc1 hc8 w3).mono ?_
      rintro e w5 ⟨rfl, hb5⟩
      have M5 := Aside0.mk (M3'.out.below hb5)
      have K5 := Aside0.mk (K3.out.below hb5)
      have TT5 := Aside0.mk (TT.out.trans (Tn.of_below hb5))
      clear hb5
      go_wp2_with fail
      go_ret
      exact ⟨rfl, _, _, _, _, _, K5.out, M5.out, S3.out, TT5.out⟩
  · go_wp2_with fail
    have P1 := post_any K1.out Z1.out A2 c2 x.f2 (HX.out _ (Tn.of_below B1.out)) (by rw [HNL.out]; omega) HW.out
    rw [HNL.out] at P1
    refine P1.mono ?_
    rintro e w2 ⟨n2, er, ev2, R2, rfl, hrs, hk2, -, ht2⟩
    have K2 := Aside0.mk hk2
    have T2 := Aside0.mk ht2
    have RS := Aside0.mk hrs
    have M2 := Aside0.mk (M1.out.apart K1.out ht2)
    have X2 := Aside0.mk (ht2.blk X1.out (fun q => by have := (KO.out _ q).1; omega))
    have Z2 := Aside0.mk (Nat.le_trans Z1.out ht2.size)
    have L2 := Aside0.mk (HX.out w2 ((Tn.of_below (S := fun k => B ≤ k) B1.out).trans (T2.out.mono (fun k _ q => (KO.out k q).2))))
    clear hk2 ht2 hrs d1 d2 P1
    have d2 := (blk_cell X2.out 2).trans rfl
    go_wp2_with fail
    have Y1 := me_may M2.out A2 c2 x.f2 L2.out (by rw [HNL.out]; omega) (by rw [HNL.out]; exact hc) HW.out
    rw [HNL.out] at Y1
    refine Y1.mono ?_
    rintro e w3 ⟨c, rfl, hmc, hb3⟩
    have K3 := Aside0.mk (K2.out.below hb3)
    have M3 := Aside0.mk (M2.out.below hb3)
    have X3 := Aside0.mk ((hb3.block _ (blk_lt X2.out)).trans X2.out)
    have L3 := Aside0.mk (L2.out.below hb3)
    have Z3 := Aside0.mk (Nat.le_trans Z2.out hb3.size)
    have B3 := Aside0.mk hb3
    have hcase := post_match RS.out hmc HS.out
    have T3 := Aside0.mk (show Tn (fun k => B ≤ k) w w3 from ((Tn.of_below (S := fun k => B ≤ k) B1.out).trans (T2.out.mono (fun k _ q => (KO.out k q).2))).trans (Tn.of_below hb3))
    clear hmc hb3 d2 Y1
    rcases hcase with ⟨rfl, rfl, rfl, hg, gr, cr, hR⟩ | ⟨hc1, hc8, rfl, rfl, hR⟩
    · subst hR
      have d2 := (blk_cell X3.out 2).trans rfl
      have hln := shaped_len hg.2.1
      have HG := Aside0.mk hg
      have PO := mg_post M3.out Z3.out A2 c2 x.f2 L3.out hln.1 hln.2 HW.out hg.1
      rw [HNL.out] at PO
      have PO := Aside0.mk PO
      clear hg hln
      go_wp2_with fail
      refine PO.out.mono ?_
      rintro e w4 ⟨rfl, lv4, dv4, gn, cn, hm4, ht4, -⟩
      have K4 := Aside0.mk (K3.out.apartM M3.out ht4)
      have M4 := Aside0.mk hm4
      have T4 := Aside0.mk ht4
      have hML : (M ++ [(⟨gn, cn, x.f2, false⟩ : En)]).length = M.length + 1 := by simp
      obtain ⟨LA, LC, hlv⟩ := own_sl hm4.row
      rw [hML] at hlv
      subst hlv
      obtain ⟨N, hN⟩ : ∃ N, M.length = N := ⟨_, rfl⟩
      have hN4 : N < 4096 := by rw [← hN]; exact HG.out.1
      have HN := Aside0.mk hN
      rw [hN]
      have TT := Aside0.mk (show Tn (fun k => B ≤ k) w w4 from T3.out.trans (T4.out.mono (fun k _ q => (MO.out k q).2)))
      rw [hN] at M4
      clear hm4 ht4 d2 hML hN
      go_wp2_with fail
      refine (mo_code0 w4).mono ?_
      rintro e w5 ⟨rfl, hb5⟩
      have M5 := Aside0.mk (M4.out.below hb5)
      have K5 := Aside0.mk (K4.out.below hb5)
      have TT5 := Aside0.mk (TT.out.trans (Tn.of_below hb5))
      obtain ⟨c0, -⟩ := M5.out.cells
      have gw : wrap64 (↑N + 1 - 1) = ↑N := by unfold wrap64; omega
      have gw2 : wrap64 (↑N) = ↑N := by unfold wrap64; omega
      clear hb5
      go_wp2_with fail
      go_ret
      exact ⟨rfl, _, _, _, _, _, K5.out, M5.out, HS.out.snoc _ _ _ _ _ _, TT5.out⟩
    · subst hR
      have e0 : (c == 0) = false := beq_eq_false_iff_ne.2 (by omega)
      have e1 : (c != 0) = true := by rw [bne, e0]; rfl
      go_wp2_with fail
      refine (mo_code c hc1 hc8 w3).mono ?_
      rintro e w5 ⟨rfl, hb5⟩
      have M5 := Aside0.mk (M3.out.below hb5)
      have K5 := Aside0.mk (K3.out.below hb5)
      have TT5 := Aside0.mk (T3.out.trans (Tn.of_below hb5))
      clear hb5
      go_wp2_with fail
      go_ret
      exact ⟨rfl, _, _, _, _, _, K5.out, M5.out, HS.out, TT5.out⟩

open Go.Proofs.Ytcdhnglefldalaa.PBookPlays (S32 S34 S40 k32 k34 k40 z32 z34 z40 rd_T34 at_T34 rd_T40 at_T40 errEqI errEqL errEqR errNeI errNeL errNeR)
open Go.Maps
attribute [local go_sem high] errEqI errNeI errEqL errNeL errEqR errNeR
/-- The numbers of lines' accounts of a kind. -/
def ofl (l : List S34) (K : Int) : List Int := (l.filter (fun y => y.f0.f0 == K)).map (fun y => y.f0.f1)
def ofm (M : List En) (K : Int) : List Int := M.flatMap (fun x => ofl x.l K)
theorem ofl_take {l : List S34} {k : Nat} {y : S34} (hy : l[k]? = some y) (K : Int) : ofl (l.take (k + 1)) K = ofl (l.take k) K ++ (if y.f0.f0 = K then [y.f0.f1] else []) := by
  rw [List.take_add_one, hy]
  unfold ofl
  rw [Option.toList_some, List.filter_append, List.map_append]
  congr 1
  by_cases h : y.f0.f0 = K
  · rw [if_pos h, List.filter_cons, if_pos (by simpa using h)]
    rfl
  · rw [if_neg h, List.filter_cons, if_neg (by simpa using h)]
    rfl
theorem ofm_take {M : List En} {i : Nat} {x : En} (hx : M[i]? = some x) (K : Int) : ofm (M.take (i + 1)) K = ofm (M.take i) K ++ ofl x.l K := by
  rw [List.take_add_one, hx]
  unfold ofm
  simp
theorem ofl_len (l : List S34) (K : Int) : (ofl l K).length ≤ l.length := by
  unfold ofl
  rw [List.length_map]
  exact List.length_filter_le _ _
theorem ofm_len {M : List En} (h : ∀ x ∈ M, x.l.length ≤ 32) (K : Int) : (ofm M K).length ≤ 32 * M.length := by
  induction M with
  | nil => simp [ofm]
  | cons x t ih =>
    have e := ih (fun y hy => h y (by simp [hy]))
    have e2 := ofl_len x.l K
    have e3 := h x (by simp)
    unfold ofm at e ⊢
    rw [List.flatMap_cons, List.length_append, List.length_cons]
    omega
theorem mem_ofm {M : List En} {K o : Int} (h : o ∈ ofm M K) : ∃ x ∈ M, ∃ y ∈ x.l, y.f0.f0 = K ∧ y.f0.f1 = o := by
  unfold ofm at h
  obtain ⟨x, hx, h⟩ := List.mem_flatMap.1 h
  unfold ofl at h
  obtain ⟨y, hy, rfl⟩ := List.mem_map.1 h
  obtain ⟨h1, h2⟩ := List.mem_filter.1 hy
  exact ⟨x, hx, y, h1, by simpa using h2, rfl⟩
theorem adds_mem {l : List S34} {a : S32} (h : adds l a ≠ 0) : a.f1 ∈ ofl l a.f0 := by
  induction l with
  | nil => exact absurd rfl h
  | cons x t ih =>
    have e : adds (x :: t) a = (if x.f0 = a then x.f1 else 0) + adds t a := rfl
    unfold ofl
    rw [List.filter_cons]
    by_cases q : x.f0 = a
    · rw [if_pos (by rw [q]; simp)]
      rw [List.map_cons, q]
      exact List.mem_cons_self
    · rw [if_neg q] at e
      have e2 : adds t a ≠ 0 := by rw [e] at h; omega
      have e3 := ih e2
      unfold ofl at e3
      split
      · rw [List.map_cons]
        exact List.mem_cons_of_mem _ e3
      · exact e3
theorem tot_mem {M : List En} {a : S32} (h : tot M a ≠ 0) : a.f1 ∈ ofm M a.f0 := by
  induction M with
  | nil => exact absurd rfl h
  | cons x t ih =>
    have e : tot (x :: t) a = adds x.l a + tot t a := rfl
    unfold ofm
    rw [List.flatMap_cons, List.mem_append]
    by_cases q : adds x.l a = 0
    · exact Or.inr (ih (by rw [e, q] at h; omega))
    · exact Or.inl (adds_mem q)
/-- The least number above one, so far. -/
def Nxt (L : List Int) (last next : Int) : Prop := (next = -1 ∧ ∀ o ∈ L, o ≤ last) ∨ (next ∈ L ∧ last < next ∧ ∀ o ∈ L, last < o → next ≤ o)
theorem Nxt.skip {L : List Int} {last next o : Int} (h : Nxt L last next) (ho : ¬ (last < o ∧ (next < 0 ∨ o < next))) (hl : -1 ≤ last) : Nxt (L ++ [o]) last next := by
  rcases h with ⟨h1, h2⟩ | ⟨h1, h2, h3⟩
  · refine Or.inl ⟨h1, fun p hp => ?_⟩
    rcases List.mem_append.1 hp with hp | hp
    · exact h2 p hp
    · rw [List.mem_singleton] at hp
      omega
  · refine Or.inr ⟨List.mem_append_left _ h1, h2, fun p hp hq => ?_⟩
    rcases List.mem_append.1 hp with hp | hp
    · exact h3 p hp hq
    · rw [List.mem_singleton] at hp
      omega
theorem Nxt.hit {L : List Int} {last next o : Int} (h : Nxt L last next) (ho : last < o ∧ (next < 0 ∨ o < next)) (hl : -1 ≤ last) : Nxt (L ++ [o]) last o := by
  refine Or.inr ⟨List.mem_append_right _ (List.mem_singleton.2 rfl), ho.1, fun p hp hq => ?_⟩
  rcases List.mem_append.1 hp with hp | hp
  · rcases h with ⟨h1, h2⟩ | ⟨h1, h2, h3⟩
    · have := h2 p hp; omega
    · have := h3 p hp hq; omega
  · rw [List.mem_singleton] at hp
    omega
theorem nodup_le {α : Type} [DecidableEq α] : ∀ (F L : List α), F.Nodup → (∀ o ∈ F, o ∈ L) → F.length ≤ L.length := by
  intro F
  induction F with
  | nil => intro L _ _; exact Nat.zero_le _
  | cons a F ih =>
    intro L hn h
    obtain ⟨h1, h2⟩ := List.nodup_cons.1 hn
    have ha := h a (by simp)
    have e := ih (L.erase a) h2 (fun o ho => by
      have : o ≠ a := fun q => h1 (q ▸ ho)
      exact (List.mem_erase_of_ne this).2 (h o (by simp [ho])))
    rw [List.length_erase_of_mem ha] at e
    have := List.length_pos_of_mem ha
    simp only [List.length_cons]
    omega
/-- What has been told so far. -/
def Tt (M : List En) (K last : Int) (t : List S34) : Prop := t.Pairwise (fun x y => lt3 x y = true) ∧ ∀ x, x ∈ t ↔ WA x.f0 ∧ x.f1 = tot M x.f0 ∧ x.f1 ≠ 0 ∧ (x.f0.f0 < K ∨ (x.f0.f0 = K ∧ x.f0.f1 ≤ last))
/-- Which numbers have been met. -/
def Fd (M : List En) (K last : Int) (n : Nat) : Prop := ∃ F : List Int, F.Nodup ∧ F.length = n ∧ ∀ o ∈ F, o ≤ last ∧ o ∈ ofm M K
theorem Fd.zero (M : List En) (K last : Int) : Fd M K last 0 := ⟨[], List.nodup_nil, rfl, fun o h => by cases h⟩
theorem Fd.next {M : List En} {K last next : Int} {n : Nat} (h : Fd M K last n) (hn : next ∈ ofm M K) (hl : last < next) : Fd M K next (n + 1) := by
  obtain ⟨F, h1, h2, h3⟩ := h
  refine ⟨next :: F, List.nodup_cons.2 ⟨fun q => ?_, h1⟩, by simp [h2], fun o ho => ?_⟩
  · have := (h3 _ q).1; omega
  · rcases List.mem_cons.1 ho with ho | ho
    · subst ho
      exact ⟨Int.le_refl _, hn⟩
    · have := h3 o ho
      exact ⟨by omega, this.2⟩
theorem Fd.le {M : List En} {K last : Int} {n : Nat} (h : Fd M K last n) (hl : ∀ x ∈ M, x.l.length ≤ 32) : n ≤ 32 * M.length := by
  obtain ⟨F, h1, h2, h3⟩ := h
  have e := nodup_le F (ofm M K) h1 (fun o ho => (h3 o ho).2)
  have := ofm_len hl K
  omega
def Lm (M : List En) : Prop := ∀ x ∈ M, ∀ y ∈ x.l, lmay y = true
theorem lmay_b {y : S34} (h : lmay y = true) : 1 ≤ y.f0.f0 ∧ y.f0.f0 ≤ 12 ∧ 0 ≤ y.f0.f1 := by
  unfold lmay cn_may at h
  simp at h
  obtain ⟨⟨h1, h2⟩, h3⟩ := h
  split at h3 <;> omega
theorem Lm.b {M : List En} (h : Lm M) {K o : Int} (ho : o ∈ ofm M K) : 1 ≤ K ∧ K ≤ 12 ∧ 0 ≤ o := by
  obtain ⟨x, hx, y, hy, rfl, rfl⟩ := mem_ofm ho
  exact lmay_b (h x hx y hy)
theorem Tt.start {M : List En} (h : Lm M) : Tt M 1 (-1) [] := by
  refine ⟨List.Pairwise.nil, fun x => ⟨fun q => (by cases q), fun ⟨h1, h2, h3, h4⟩ => ?_⟩⟩
  have := h.b (tot_mem (by rw [← h2]; exact h3))
  omega
theorem Tt.done {M : List En} {K last : Int} {t : List S34} (h : Tt M K last t) (hn : ∀ o ∈ ofm M K, o ≤ last) (hm : Lm M) : Tt M (K + 1) (-1) t := by
  refine ⟨h.1, fun x => ?_⟩
  rw [h.2 x]
  constructor
  · rintro ⟨a, b, c, d⟩
    exact ⟨a, b, c, by omega⟩
  · rintro ⟨a, b, c, d⟩
    refine ⟨a, b, c, ?_⟩
    have e := tot_mem (M := M) (a := x.f0) (by rw [← b]; exact c)
    have e2 := hm.b e
    rcases Int.lt_or_le x.f0.f0 K with q | q
    · exact Or.inl q
    · have q2 : x.f0.f0 = K := by omega
      rw [q2] at e
      exact Or.inr ⟨q2, hn _ e⟩
theorem Tt.end {M : List En} {t : List S34} (h : Tt M 13 (-1) t) (hm : Lm M) : Tl (tot M) t := by
  refine ⟨h.1, fun x => ?_⟩
  rw [h.2 x]
  constructor
  · rintro ⟨a, b, c, d⟩
    exact ⟨a, b, c⟩
  · rintro ⟨a, b, c⟩
    have e2 := hm.b (tot_mem (M := M) (a := x.f0) (by rw [← b]; exact c))
    exact ⟨a, b, c, Or.inl (by omega)⟩
theorem Tt.zero {M : List En} {K last next : Int} {t : List S34} (h : Tt M K last t) (hx : Nxt (ofm M K) last next) (hl : last < next) (hz : tot M ⟨K, next⟩ = 0) : Tt M K next t := by
  refine ⟨h.1, fun x => ?_⟩
  rw [h.2 x]
  constructor
  · rintro ⟨a, b, c, d⟩
    exact ⟨a, b, c, by omega⟩
  · rintro ⟨a, b, c, d⟩
    refine ⟨a, b, c, ?_⟩
    rcases d with d | ⟨d, e⟩
    · exact Or.inl d
    · have e3 := tot_mem (M := M) (a := x.f0) (by rw [← b]; exact c)
      rw [d] at e3
      rcases hx with ⟨h1, h2⟩ | ⟨h1, h2, h3⟩
      · exact Or.inr ⟨d, h2 _ e3⟩
      · rcases Int.lt_or_le last x.f0.f1 with q | q
        · have := h3 _ e3 q
          exfalso
          apply c
          rw [b]
          have e4 : x.f0 = ⟨K, next⟩ := by
            obtain ⟨⟨p0, p1⟩, p2⟩ := x
            simp only at d e this
            rw [d, show p1 = next by omega]
          rw [e4, hz]
        · exact Or.inr ⟨d, q⟩
theorem Tt.more {M : List En} {K last next : Int} {t : List S34} (h : Tt M K last t) (hx : Nxt (ofm M K) last next) (hl : last < next) (hw : WA ⟨K, next⟩) (hz : tot M ⟨K, next⟩ ≠ 0) : Tt M K next (t ++ [⟨⟨K, next⟩, tot M ⟨K, next⟩⟩]) := by
  refine ⟨?_, fun x => ?_⟩
  · rw [List.pairwise_append]
    refine ⟨h.1, List.pairwise_singleton _ _, fun x hx y hy => ?_⟩
    rw [List.mem_singleton] at hy
    subst hy
    have := ((h.2 x).1 hx).2.2.2
    rw [lt3_iff]
    show x.f0.f0 < K ∨ (x.f0.f0 = K ∧ x.f0.f1 < next)
    omega
  · rw [List.mem_append, List.mem_singleton, h.2 x]
    constructor
    · rintro (⟨a, b, c, d⟩ | rfl)
      · exact ⟨a, b, c, by omega⟩
      · exact ⟨hw, rfl, hz, Or.inr ⟨rfl, Int.le_refl _⟩⟩
    · rintro ⟨a, b, c, d⟩
      rcases d with d | ⟨d, e⟩
      · exact Or.inl ⟨a, b, c, Or.inl d⟩
      · have e3 := tot_mem (M := M) (a := x.f0) (by rw [← b]; exact c)
        rw [d] at e3
        rcases hx with ⟨h1, h2⟩ | ⟨h1, h2, h3⟩
        · exact Or.inl ⟨a, b, c, Or.inr ⟨d, h2 _ e3⟩⟩
        · rcases Int.lt_or_le last x.f0.f1 with q | q
          · have := h3 _ e3 q
            refine Or.inr ?_
            obtain ⟨⟨p0, p1⟩, p2⟩ := x
            simp only at d e this b
            obtain rfl : p1 = next := by omega
            subst d
            rw [b]
          · exact Or.inl ⟨a, b, c, Or.inr ⟨d, q⟩⟩
theorem tt_len {M : List En} {K last : Int} {t : List S34} (h : Tt M K last t) (hl : ∀ x ∈ M, x.l.length ≤ 32) : t.length ≤ 32 * M.length := by
  have hn : (t.map (·.f0)).Nodup := by
    rw [List.nodup_iff_pairwise_ne, List.pairwise_map]
    refine h.1.imp (fun {x y} q e => ?_)
    rw [lt3_iff] at q
    rw [e] at q
    omega
  have e := nodup_le (t.map (·.f0)) (M.flatMap (fun x => x.l.map (·.f0))) hn (fun a ha => by
    obtain ⟨x, hx, rfl⟩ := List.mem_map.1 ha
    obtain ⟨h1, h2, h3, -⟩ := (h.2 x).1 hx
    obtain ⟨z, hz, y, hy, e1, e2⟩ := mem_ofm (tot_mem (M := M) (a := x.f0) (by rw [← h2]; exact h3))
    refine List.mem_flatMap.2 ⟨z, hz, List.mem_map.2 ⟨y, hy, ?_⟩⟩
    obtain ⟨⟨p0, p1⟩, p2⟩ := x
    obtain ⟨⟨q0, q1⟩, q2⟩ := y
    simp only at e1 e2 ⊢
    rw [e1, e2])
  rw [List.length_map] at e
  refine Nat.le_trans e ?_
  clear e hn h
  induction M with
  | nil => simp
  | cons x s ih =>
    have e := ih (fun y hy => hl y (by simp [hy]))
    have e3 := hl x (by simp)
    rw [List.flatMap_cons, List.length_append, List.length_map, List.length_cons]
    omega

open Go.Proofs.Ytcdhnglefldalaa.PBookPlays (S32 S34 S40 k32 k34 k40 z32 z34 z40 rd_T34 at_T34 rd_T40 at_T40 errEqI errEqL errEqR errNeI errNeL errNeR)
open Go.Maps
attribute [local go_sem high] errEqI errNeI errEqL errNeL errEqR errNeR
theorem lns_app (t : List S34) (x : S34) : lns (t ++ [x]) = lns t ++ [.int .i64 x.f0.f0, .int .i64 x.f0.f1, .int .i64 x.f1] := by simp [lns, ln]
set_option maxRecDepth 100000 in
set_option maxHeartbeats 16000000 in
theorem mt_trial {w : World} {B mb : Nat} {lv dv : Value} {M : List En} (h : Mb w B mb lv dv M) (hlm : Lm M) (hwf : ∀ a, WA a → W64 (tot M a)) : Calls Try.prog 25 #[.pointer (some ⟨mb, 0, none⟩)] w fun e w' => ∃ A c t, e = .returned (.slice A t.length c) ∧ Tl (tot M) t ∧ t.length ≤ 131072 ∧ Lr w' A t ∧ Below w.heap.size w w' := by
  have HLM := Aside0.mk hlm
  have HWF := Aside0.mk hwf
  have H32 := Aside0.mk (fun x (hx : x ∈ M) => (h.ent x hx).2.2.2)
  have HGW := Aside0.mk h.good
  have hfew := h.few
  obtain ⟨N, hN⟩ : ∃ N, M.length = N := ⟨_, rfl⟩
  have HN := Aside0.mk hN
  obtain ⟨LA, LC, rfl⟩ := own_sl h.row
  have HM := Aside0.mk (show Mb w B mb (.slice LA N LC) dv M from hN ▸ h)
  obtain ⟨i0, hi, hz0, hz1, hz2⟩ := info_parts b_info34
  have HI0 := Aside0.mk (And.intro hi (And.intro hz0 (And.intro hz1 hz2)))
  rw [hN] at hfew
  have gw32 : wrap64 (32 * ↑N) = 32 * ↑N := by unfold wrap64; omega
  clear h hlm hwf hN hi hz0 hz1 hz2
  go_enter Try.func25, Try.ntmps25
  go_wp2_with fail
  go_loopw [3, 4] (fun v3 v4 wr => ∃ (K : Int) (tn c : Nat) (A' : Option Addr) (t : List S34), v4 = .int .i64 K ∧ v3 = .slice A' tn c ∧ Aside0 (1 ≤ K ∧ K ≤ 13 ∧ t.length = tn ∧ Tt M K (-1) t ∧ wr.ownsRow w.heap.size 34 3 (.slice A' tn c) tn (lns t) ∧ Below w.heap.size w wr)) (fun _ v4 _ => (13 - intOf v4).toNat)
  case atStart => exact ⟨1, 0, 0, none, [], rfl, rfl, ⟨by omega, by omega, rfl, Tt.start HLM.out, own_nilL _ _, Below.refl _ _⟩⟩
  case round =>
    obtain ⟨K, tn, c, A', t, rfl, rfl, HI⟩ := hrel
    have hK1 := HI.out.1
    by_cases pK : K ≤ 12
    rotate_left
    · have hK : K = 13 := by have := HI.out.2.1; omega
      subst hK
      go_wp2_with fail
      go_ret
      have e := HI.out.2.2.1
      have ho := HI.out.2.2.2.2.1
      rw [← e] at ho
      obtain ⟨A2, c2, e2, q1, q2⟩ := own_lb ho
      injection e2 with e3 e4 e5
      subst e3
      subst e5
      refine ⟨A', c, t, by rw [e]; rfl, HI.out.2.2.2.1.end HLM.out, by have := tt_len HI.out.2.2.2.1 H32.out; rw [HN.out] at this; omega, ?_, HI.out.2.2.2.2.2⟩
      cases A' with
      | none => rw [q2 rfl]; exact Lr.nil _
      | some a0 =>
        obtain ⟨g, rfl, hg, hb, hcap⟩ := q1 a0 rfl
        exact hb.lr
    have gK : wrap64 (K + 1) = K + 1 := by unfold wrap64; omega
    go_wp2_with fail
    go_loopw [3, 5, 6] (fun v3 v5 v6 wr => ∃ (n tn c : Nat) (last : Int) (A' : Option Addr) (t : List S34), v6 = .int .i64 ↑n ∧ v5 = .int .i64 last ∧ v3 = .slice A' tn c ∧ Aside0 (-1 ≤ last ∧ n ≤ 32 * N ∧ Fd M K last n ∧ t.length = tn ∧ Tt M K last t ∧ wr.ownsRow w.heap.size 34 3 (.slice A' tn c) tn (lns t) ∧ Below w.heap.size w wr)) (fun _ _ v6 _ => (32 * N + 1 - intOf v6).toNat)
    case atStart => exact ⟨0, tn, c, -1, A', t, rfl, rfl, rfl, ⟨by omega, Nat.zero_le _, Fd.zero _ _ _, HI.out.2.2.1, HI.out.2.2.2.1, HI.out.2.2.2.2.1, HI.out.2.2.2.2.2⟩⟩
    case round =>
      clear HI
      obtain ⟨n, tn, c, last, A', t, rfl, rfl, rfl, HI⟩ := hrel
      obtain ⟨w2, hw2⟩ : ∃ w2, w2 = wr := ⟨_, rfl⟩
      subst hw2
      have hln := HI.out.2.1
      have hl1 := HI.out.1
      have hn2 : (↑n : Int) ≤ 32 * ↑N := by omega
      have gn : wrap64 (↑n + 1) = ↑n + 1 := by unfold wrap64; omega
      obtain ⟨c0, -⟩ := (HM.out.below HI.out.2.2.2.2.2.2).cells
      go_wp2_with fail
      clear c0
      go_loopw [7, 8] (fun v7 v8 wr => ∃ (i : Nat) (next : Int), v8 = .int .i64 ↑i ∧ v7 = .int .i64 next ∧ Aside0 (i ≤ N ∧ Nxt (ofm (M.take i) K) last next ∧ Below w2.heap.size w2 wr)) (fun _ v8 _ => (N - intOf v8).toNat)
      case atStart => exact ⟨0, -1, rfl, rfl, ⟨Nat.zero_le _, Or.inl ⟨rfl, fun o ho => (by cases ho)⟩, Below.refl _ _⟩⟩
      case round =>
        obtain ⟨i, next, rfl, rfl, HJ⟩ := hrel
        have HJB := Aside0.mk (below_then HI.out.2.2.2.2.2.2 HI.out.2.2.2.2.2.2.size HJ.out.2.2)
        obtain ⟨c0, -⟩ := (HM.out.below HJB.out).cells
        by_cases ci : i < N
        · have ci2 : (↑i : Int) < ↑N := by omega
          have i00 : (0 : Int) ≤ ↑i := by omega
          obtain ⟨x, hx⟩ : ∃ x, M[i]? = some x := ⟨M[i]'(by rw [HN.out]; exact ci), List.getElem?_eq_getElem _⟩
          have HX := Aside0.mk hx
          have hxl : x.l.length ≤ 32 := H32.out x (List.mem_of_getElem? hx)
          obtain ⟨xl, hxe⟩ : ∃ xl, x.l.length = xl := ⟨_, rfl⟩
          have HXL := Aside0.mk hxe
          rw [hxe] at hxl
          obtain ⟨lg, rfl, r0⟩ := (HM.out.below HJB.out).at2 hx
          rw [hxe] at r0
          clear hx hxe
          go_wp2_with fail
          clear c0 r0
          go_loopw [7, 9] (fun v7 v9 wr => ∃ (k : Nat) (next : Int), v9 = .int .i64 ↑k ∧ v7 = .int .i64 next ∧ Aside0 (k ≤ xl ∧ Nxt (ofm (M.take i) K ++ ofl (x.l.take k) K) last next ∧ Below w2.heap.size w2 wr)) (fun _ v9 _ => (xl - intOf v9).toNat)
          case atStart => exact ⟨0, next, rfl, rfl, ⟨Nat.zero_le _, (by rw [show ofl (x.l.take 0) K = [] from rfl, List.append_nil]; exact HJ.out.2.1), HJ.out.2.2⟩⟩
          case round =>
            clear HJB HJ
            obtain ⟨k, next, rfl, rfl, HJ⟩ := hrel
            have HJB := Aside0.mk (below_then HI.out.2.2.2.2.2.2 HI.out.2.2.2.2.2.2.size HJ.out.2.2)
            have HMJ := Aside0.mk (HM.out.below HJB.out)
            obtain ⟨c0, -⟩ := HMJ.out.cells
            have r0 := HMJ.out.atg HX.out
            rw [HXL.out] at r0
            by_cases ck : k < xl
            · have ck2 : (↑k : Int) < ↑xl := by omega
              have k00 : (0 : Int) ≤ ↑k := by omega
              obtain ⟨y, hy⟩ : ∃ y, x.l[k]? = some y := ⟨x.l[k]'(by rw [HXL.out]; exact ck), List.getElem?_eq_getElem _⟩
              obtain ⟨k0, k1, k2⟩ := (HMJ.out.ent x (List.mem_of_getElem? HX.out)).2.1.cells hy
              have HST := Aside0.mk (ofl_take hy K)
              have B5 := Aside0.mk (below_then HJ.out.2.2 HJ.out.2.2.size (below_alloc (Below.refl _ _) (.cells #[.int .i64 y.f0.f0, .int .i64 y.f0.f1] 32)))
              obtain ⟨yf0, h0⟩ : ∃ v, y.f0.f0 = v := ⟨_, rfl⟩
              obtain ⟨yf1, h1⟩ : ∃ v, y.f0.f1 = v := ⟨_, rfl⟩
              rw [h0] at k0 B5 HST
              rw [h1] at k1 B5 HST
              clear hy k2 h0 h1
              by_cases q0 : yf0 = K
              · have b0 : (yf0 == K) = true := by rw [q0]; exact beq_self_eq_true _
                have Q0 := Aside0.mk q0
                clear q0
                by_cases q1 : yf1 > last
                · by_cases q2 : next < 0
                  · go_wp2_with fail
                    refine ⟨⟨k + 1, yf1, rfl, rfl, ⟨by omega, ?_, B5.out⟩⟩, by simp [intOf]; omega⟩
                    rw [HST.out, if_pos Q0.out, ← List.append_assoc]
                    exact HJ.out.2.1.hit ⟨q1, Or.inl q2⟩ hl1
                  · by_cases q3 : yf1 < next
                    · go_wp2_with fail
                      refine ⟨⟨k + 1, yf1, rfl, rfl, ⟨by omega, ?_, B5.out⟩⟩, by simp [intOf]; omega⟩
                      rw [HST.out, if_pos Q0.out, ← List.append_assoc]
                      exact HJ.out.2.1.hit ⟨q1, Or.inr q3⟩ hl1
                    · go_wp2_with fail
                      refine ⟨⟨k + 1, next, rfl, rfl, ⟨by omega, ?_, B5.out⟩⟩, by simp [intOf]; omega⟩
                      rw [HST.out, if_pos Q0.out, ← List.append_assoc]
                      exact HJ.out.2.1.skip (by omega) hl1
                · go_wp2_with fail
                  refine ⟨⟨k + 1, next, rfl, rfl, ⟨by omega, ?_, B5.out⟩⟩, by simp [intOf]; omega⟩
                  rw [HST.out, if_pos Q0.out, ← List.append_assoc]
                  exact HJ.out.2.1.skip (by omega) hl1
              · have b0 : (yf0 == K) = false := beq_eq_false_iff_ne.2 q0
                have Q0 := Aside0.mk q0
                clear q0
                go_wp2_with fail
                refine ⟨⟨k + 1, next, rfl, rfl, ⟨by omega, ?_, B5.out⟩⟩, by simp [intOf]; omega⟩
                rw [HST.out, if_neg Q0.out, List.append_nil]
                exact HJ.out.2.1
            · have ck2 : ¬ (↑k : Int) < ↑xl := by omega
              have hk : k = xl := by have := HJ.out.1; omega
              go_wp2_with fail
              refine ⟨⟨i + 1, next, rfl, rfl, ⟨by omega, ?_, HJ.out.2.2⟩⟩, by simp [intOf]; omega⟩
              rw [ofm_take HX.out]
              have := HJ.out.2.1
              rw [hk, ← HXL.out, List.take_length] at this
              exact this
        · have ci2 : ¬ (↑i : Int) < ↑N := by omega
          have hi : M.take i = M := List.take_of_length_le (by rw [HN.out]; omega)
          have hnx := HJ.out.2.1
          rw [hi] at hnx
          have NX := Aside0.mk hnx
          have O5 := Aside0.mk (own_turn (S := fun _ => False) HI.out.2.2.2.2.2.1 (Tn.of_below HJ.out.2.2) (fun _ _ => id))
          clear hi
          by_cases pn : next < 0
          · have hall : ∀ o ∈ ofm M K, o ≤ last := by
              rcases hnx with ⟨-, q⟩ | ⟨q1, q2, -⟩
              · exact q
              · omega
            have HALL := Aside0.mk hall
            clear hnx hall
            go_wp2_with fail
            exact ⟨⟨K + 1, tn, c, A', t, rfl, rfl, ⟨by omega, by omega, HI.out.2.2.2.1, HI.out.2.2.2.2.1.done HALL.out HLM.out, O5.out, HJB.out⟩⟩, by simp [intOf]; omega⟩
          · have hnm : next ∈ ofm M K ∧ last < next := by
              rcases hnx with ⟨q, -⟩ | ⟨q1, q2, -⟩
              · omega
              · exact ⟨q1, q2⟩
            have HNM := Aside0.mk hnm
            have hwa : WA ⟨K, next⟩ := by
              obtain ⟨z, hz, y, hy, e1, e2⟩ := mem_ofm hnm.1
              have := (HGW.out z hz y hy).1
              obtain ⟨⟨p0, p1⟩, p2⟩ := y
              simp only at e1 e2
              rw [← e1, ← e2]
              exact this
            have HWA := Aside0.mk hwa
            have HFD := Aside0.mk (HI.out.2.2.1.next hnm.1 hnm.2)
            have hn32 : n + 1 ≤ 32 * N := by rw [← HN.out]; exact HFD.out.le H32.out
            have al := below_alloc (Below.refl wr.heap.size wr) (.cells #[.int .i64 K, .int .i64 next] 32)
            have BAL := Aside0.mk (mf_bal ((HM.out.below HJB.out).below al) ⟨K, next⟩)
            have B6 := Aside0.mk (below_then HJB.out HJB.out.size al)
            have O6 := Aside0.mk (own_turn (S := fun _ => False) O5.out (Tn.of_below al) (fun _ _ => id))
            have X6 := Aside0.mk (blk_new wr (.cells #[.int .i64 K, .int .i64 next] 32))
            clear hnx hnm hwa al
            go_wp2_with fail
            refine BAL.out.mono ?_
            rintro e w7 ⟨v, rfl, hv, hb7⟩
            have hv2 := hv (HWF.out _ HWA.out)
            have HV := Aside0.mk hv2
            have B7 := Aside0.mk (below_then B6.out B6.out.size hb7)
            have O7 := Aside0.mk (own_turn (S := fun _ => False) O6.out (Tn.of_below hb7) (fun _ _ => id))
            have X7 := (hb7.block _ (blk_lt X6.out)).trans X6.out
            have x0 := (blk_cell X7 0).trans rfl
            have x1 := (blk_cell X7 1).trans rfl
            have htl := tt_len HI.out.2.2.2.2.1 H32.out
            rw [HI.out.2.2.2.1, HN.out] at htl
            clear hv hv2 hb7 X7
            by_cases pv : v = 0
            · have b0 : (v != 0) = false := by rw [pv]; rfl
              have PV := Aside0.mk pv
              clear pv
              go_wp2_with fail
              exact ⟨⟨n + 1, tn, c, next, A', t, rfl, rfl, rfl, ⟨by omega, hn32, HFD.out, HI.out.2.2.2.1, HI.out.2.2.2.2.1.zero NX.out HNM.out.2 (by rw [← HV.out, PV.out]), O7.out, B7.out⟩⟩, by simp [intOf]; omega⟩
            · have b0 : (v != 0) = true := by rw [bne, beq_eq_false_iff_ne.2 pv]; rfl
              have PV := Aside0.mk pv
              have Z7 := Aside0.mk B7.out.size
              clear pv
              go_wp2_with (at_builtin; refine wpList_append_own_at _ rfl _ _ 22 rfl w.heap.size 34 i0 (.agg #[.int .i64 0, .int .i64 0, .int .i64 0]) 3 24 Try.underlying22 HI0.out.1 HI0.out.2.1 HI0.out.2.2.1 HI0.out.2.2.2 rfl (by decide) (.slice A' tn c) tn (lns t) rfl (O7.out.alloc _) ⟨w7.heap.size, 0, none⟩ 1 1 [.int .i64 K, .int .i64 next, .int .i64 v] rfl rfl (mt_three _ _ _ _ _) (by simp [Value.oneCell']) (by unfold maxLen; omega) (by omega) (by have := Z7.out; simp; omega) ?_; intro v8 w8 hown8 hgrow8 hnil8 hloc8; obtain ⟨A8, c8, rfl⟩ := own_sl hown8; have O8 := Aside0.mk (And.intro hown8 hgrow8); clear hown8 hgrow8 hnil8 hloc8)
              have B8 := (below_alloc B7.out _).grown O8.out.2 (by have := Z7.out; simp; omega) (fun k hk => own_base O7.out hk)
              refine ⟨⟨n + 1, tn + 1, c8, next, A8, t ++ [⟨⟨K, next⟩, tot M ⟨K, next⟩⟩], rfl, rfl, rfl, ⟨by omega, hn32, HFD.out, by simp; exact HI.out.2.2.2.1, HI.out.2.2.2.2.1.more NX.out HNM.out.2 HWA.out (by rw [← HV.out]; exact PV.out), ?_, B8⟩⟩, by simp [intOf]; omega⟩
              rw [lns_app]
              show w8.ownsRow _ _ 3 _ _ (lns t ++ [.int .i64 K, .int .i64 next, .int .i64 (tot M ⟨K, next⟩)])
              rw [← HV.out]
              exact O8.out.1


end Go.Proofs.Ytcdhnglefldalaa.PBook
