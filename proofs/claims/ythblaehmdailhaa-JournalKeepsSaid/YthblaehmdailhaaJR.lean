import Derived.Test.YthblaehmdailhaaJE
namespace Go.Proofs.Ythblaehmdailhaa.PJournalStays
open Go.RowKit Go.Proofs.YthblaehmdailhaaW.PrintWords Go.Proofs.YthblaehmdailhaaW.PrintLast Go.Proofs.YthblaehmdailhaaW.PrintMore
set_option linter.unusedVariables false
set_option linter.unusedSimpArgs false
attribute [local go_sem high] slEq slNe
structure GWrld (w : World) where
  w' : World
  b : Below w.heap.size w w'
instance (w : World) : Inhabited (GWrld w) := ⟨⟨w, Below.refl _ _⟩⟩
theorem gb_region {P : Program} {id : Nat} {Q : Exit → Act → World → Prop} {a : Act} {w : World} {l : List Oper} (hm : P.follows .mixedOrders = true) (hB : Region.lexB .any l.toArray = true)
    (h : wpQuiet P l.toArray (fun w' => ∃ p : GWrld w, w' = p.w') (fun a' => ∀ w', (∃ p : GWrld w, w' = p.w') → Q .normal a' w') l a) : (Code.region id l.toArray true).wp P Q a w :=
  wp_region_quiet (C := fun w' => ∃ p : GWrld w, w' = p.w') hm hB ⟨⟨{ w with drawn := w.drawn + 1 }, ⟨rfl, rfl, rfl, Nat.le_refl _, fun _ _ => rfl⟩⟩, rfl⟩ (by simpa using h)
theorem gb_cell {w : World} {b o : Nat} {v : Value} (hb : b < w.heap.size) (h : w.cell? ⟨b, o, none⟩ = some v) (p : GWrld w) : p.w'.cell? ⟨b, o, none⟩ = some v := (p.b.cell (p := ⟨b, o, none⟩) hb).trans h
theorem gb_calls {P : Program} {f : FuncId} {args : Array Value} {w : World} {p : GWrld w} {v : Value}
    (h : Calls P f args p.w' fun e w' => e = .returned v ∧ Below p.w'.heap.size p.w' w') : Calls P f args p.w' fun e w'' => e = .returned v ∧ ∃ q : GWrld w, w'' = q.w' :=
  h.mono fun _ w'' ⟨he, hb⟩ => ⟨he, ⟨w'', below_step p.b hb⟩, rfl⟩
def isRec (l : List Int) (n : Int) : Prop := 1 ≤ n ∧ n ≤ 1024 ∧ n + 8 ≤ l.length ∧ l.take 8 = hdl n
set_option maxRecDepth 100000 in
theorem jr_short (ad : Addr) (cap : Nat) (l : List Int) (w : World) (hl : l.length < 8) : Calls Try.prog 36 #[.slice (some ad) l.length cap] w fun e w' => e = .returned (.slice none 0 0) ∧ Below w.heap.size w w' := by
  have z : (↑l.length : Int) < 8 := by omega
  go_enter Try.func36, Try.ntmps36
  go_wp2
  go_ret
  exact ⟨rfl, Below.refl _ _⟩
theorem jr_take {l : List Int} {k j : Nat} {x : Int} (h : (l.take k)[j]? = some x) : l[j]? = some x := by
  rw [List.getElem?_take] at h
  split at h
  · exact h
  · cases h
set_option maxHeartbeats 1000000 in
set_option maxRecDepth 100000 in
theorem jr_rec (g off cap : Nat) (l : List Int) (w : World) (hs : Src w ⟨g, off, none⟩ l) (hl : 8 ≤ l.length) (hb : ∀ x ∈ l, 0 ≤ x ∧ x ≤ 255) (hc : l.length ≤ cap) (hc2 : cap ≤ maxLen) : Calls Try.prog 36 #[.slice (some ⟨g, off, none⟩) l.length cap] w fun e w' => ((∃ n, isRec l n ∧ e = .returned (.slice (some ⟨g, off + 8, none⟩) n.toNat (cap - 8))) ∨ ((∀ n, ¬ isRec l n) ∧ e = .returned (.slice none 0 0))) ∧ Below w.heap.size w w' := by
  have hcm : cap ≤ 9223372036854775807 := by unfold maxLen at hc2; omega
  obtain ⟨x0, h0⟩ : ∃ x, l[0]? = some x := ⟨l[0], List.getElem?_eq_getElem _⟩
  obtain ⟨x1, h1⟩ : ∃ x, l[1]? = some x := ⟨l[1], List.getElem?_eq_getElem _⟩
  obtain ⟨x2, h2⟩ : ∃ x, l[2]? = some x := ⟨l[2], List.getElem?_eq_getElem _⟩
  obtain ⟨x3, h3⟩ : ∃ x, l[3]? = some x := ⟨l[3], List.getElem?_eq_getElem _⟩
  have c0 := hs 0 x0 h0
  have c1 := hs 1 x1 h1
  have c2 := hs 2 x2 h2
  have c3 := hs 3 x3 h3
  rw [ad_add] at c0 c1 c2 c3
  rw [Nat.add_zero] at c0
  have b0 := hb x0 (List.mem_of_getElem? h0)
  have b1 := hb x1 (List.mem_of_getElem? h1)
  have b2 := hb x2 (List.mem_of_getElem? h2)
  have b3 := hb x3 (List.mem_of_getElem? h3)
  have HS := Aside0.mk hs
  have HX := Aside0.mk (And.intro h0 (And.intro h1 (And.intro h2 h3)))
  have HB := Aside0.mk hb
  have hg : g < w.heap.size := World.block_lt_of_cell? w ⟨g, off, none⟩ c0
  have d0 := gb_cell hg c0
  have d1 := gb_cell hg c1
  have d2 := gb_cell hg c2
  have d3 := gb_cell hg c3
  clear hs h0 h1 h2 h3 hb c0 c1 c2 c3
  go_enter Try.func36, Try.ntmps36
  go_wp2_with fail
  refine gb_region (by kernel_rfl) (by kernel_rfl) ?_
  repeat (go_big_quiet_step (fail))
  refine wpQuiet_nil ?_
  intro _ hw'
  obtain ⟨gq, hw''⟩ := hw'
  subst hw''
  generalize hv : (bits .or .i64 (bits .or .i64 (bits .or .i64 x0 (x1 * 256)) (x2 * 65536)) (x3 * 16777216)) = v
  have HV : Aside0 (rnum x0 x1 x2 x3 = v) := ⟨hv⟩
  have NO : Aside0 (∀ n, isRec l n → n = v ∧ 1 ≤ v ∧ v ≤ 1024 ∧ v + 8 ≤ l.length ∧ l.take 8 = hdl v) := ⟨fun n hn => by
    obtain ⟨q0, q1, q2, q3⟩ := HX.out
    obtain ⟨r1, r2, r3, r4⟩ := hn
    have e : ∀ j, j < 8 → l[j]? = (hdl n)[j]? := fun j hj => by rw [← r4, List.getElem?_take, if_pos hj]
    have e0 := (e 0 (by omega)).symm.trans q0
    have e1 := (e 1 (by omega)).symm.trans q1
    have e2 := (e 2 (by omega)).symm.trans q2
    have e3 := (e 3 (by omega)).symm.trans q3
    simp [hdl, hd4] at e0 e1 e2 e3
    have := rnum_hd (n := n) (by omega) r2
    rw [e0, e1, e2, e3, HV.out] at this
    subst this
    exact ⟨rfl, r1, r2, r3, r4⟩⟩
  clear hv
  go_wp2_with fail
  -- REGION 4
  by_cases e1 : v < 1
  · have NN : Aside0 (∀ n, ¬ isRec l n) := ⟨fun n hn => by have := NO.out n hn; omega⟩
    have e1b : decide (v < 1) = true := decide_eq_true e1
    refine gb_region (by kernel_rfl) (by kernel_rfl) ?_
    repeat (go_big_quiet_step (fail))
    refine wpQuiet_nil ?_
    intro _ hw'
    obtain ⟨gr, hw''⟩ := hw'
    subst hw''
    go_wp2
    go_ret
    exact ⟨Or.inr ⟨NN.out, rfl⟩, below_step gq.b gr.b⟩
  have e1b : decide (v < 1) = false := decide_eq_false e1
  by_cases e2 : 1024 < v
  · have NN : Aside0 (∀ n, ¬ isRec l n) := ⟨fun n hn => by have := NO.out n hn; omega⟩
    have e2b : decide (1024 < v) = true := decide_eq_true e2
    refine gb_region (by kernel_rfl) (by kernel_rfl) ?_
    repeat (go_big_quiet_step (fail))
    refine wpQuiet_nil ?_
    intro _ hw'
    obtain ⟨gr, hw''⟩ := hw'
    subst hw''
    go_wp2
    go_ret
    exact ⟨Or.inr ⟨NN.out, rfl⟩, below_step gq.b gr.b⟩
  have e2b : decide (1024 < v) = false := decide_eq_false e2
  by_cases e3 : ↑l.length - 8 < v
  · have NN : Aside0 (∀ n, ¬ isRec l n) := ⟨fun n hn => by have := NO.out n hn; omega⟩
    have e3b : decide (↑l.length - 8 < v) = true := decide_eq_true e3
    refine gb_region (by kernel_rfl) (by kernel_rfl) ?_
    repeat (go_big_quiet_step (fail))
    refine wpQuiet_nil ?_
    intro _ hw'
    obtain ⟨gr, hw''⟩ := hw'
    subst hw''
    go_wp2
    go_ret
    exact ⟨Or.inr ⟨NN.out, rfl⟩, below_step gq.b gr.b⟩
  have e3b : decide (↑l.length - 8 < v) = false := decide_eq_false e3
  have e3w : wrap64 (↑l.length - 8) = ↑l.length - 8 := by unfold wrap64; omega
  have c8 : (8 : Int) ≤ ↑cap := by omega
  have S0 := Aside0.mk (HS.out.below gq.b)
  have B0 := Aside0.mk gq.b
  generalize gq.w' = wq at S0 B0 ⊢
  refine start_ (n := 21) (S := fun _ => True) (ds := []) #[false, false, false, false, false, false, false, false, false, false, false, false, false, false, false, false, false, false, false, false, false] (by kernel_rfl) rfl rfl trivial (fun _ => ?_)
  have S1 := Aside0.mk (S0.out.below (below_drew1 (Below.refl wq.heap.size wq)))
  have B1 := Aside0.mk (below_drew1 B0.out)
  generalize wq.drew = wd at S1 B1 ⊢
  clear S0 B0
  refine pure_ (i := 0) (N := some 29) (v := ?_) (a' := ?_) #[true, false, false, false, false, false, false, false, false, false, false, false, false, false, false, false, false, false, false, false, false] rfl rfl (by kernel_rfl) (fun _ _ _ h => h) (Or.inl ⟨by rfl, ?_⟩) ?_ ?_
  rotate_left
  · intro w'
    go_simp
    with_reducible rfl
  rotate_left
  · simp only [Act.put, List.setIfInBounds_toArray, List.set_cons_zero, List.set_cons_succ, i64_w, i32_w]
    rfl
  refine pure_ (i := 1) (N := some 30) (v := ?_) (a' := ?_) #[true, true, false, false, false, false, false, false, false, false, false, false, false, false, false, false, false, false, false, false, false] rfl rfl (by kernel_rfl) (fun _ _ _ h => h) (Or.inl ⟨by rfl, ?_⟩) ?_ ?_
  rotate_left
  · intro w'
    go_simp
    with_reducible rfl
  rotate_left
  · simp only [Act.put, List.setIfInBounds_toArray, List.set_cons_zero, List.set_cons_succ, i64_w, i32_w]
    rfl
  refine pure_ (i := 2) (N := some 31) (v := ?_) (a' := ?_) #[true, true, true, false, false, false, false, false, false, false, false, false, false, false, false, false, false, false, false, false, false] rfl rfl (by kernel_rfl) (fun _ _ _ h => h) (Or.inl ⟨by rfl, ?_⟩) ?_ ?_
  rotate_left
  · intro w'
    go_simp
    with_reducible rfl
  rotate_left
  · simp only [Act.put, List.setIfInBounds_toArray, List.set_cons_zero, List.set_cons_succ, i64_w, i32_w]
    rfl
  refine pure_ (i := 3) (N := some 32) (v := ?_) (a' := ?_) #[true, true, true, true, false, false, false, false, false, false, false, false, false, false, false, false, false, false, false, false, false] rfl rfl (by kernel_rfl) (fun _ _ _ h => h) (Or.inl ⟨by rfl, ?_⟩) ?_ ?_
  rotate_left
  · intro w'
    go_simp
    with_reducible rfl
  rotate_left
  · simp only [Act.put, List.setIfInBounds_toArray, List.set_cons_zero, List.set_cons_succ, i64_w, i32_w]
    rfl
  refine pure_ (i := 4) (N := some 33) (v := ?_) (a' := ?_) #[true, true, true, true, true, false, false, false, false, false, false, false, false, false, false, false, false, false, false, false, false] rfl rfl (by kernel_rfl) (fun _ _ _ h => h) (Or.inl ⟨by rfl, ?_⟩) ?_ ?_
  rotate_left
  · intro w'
    go_simp
    with_reducible rfl
  rotate_left
  · simp only [Act.put, List.setIfInBounds_toArray, List.set_cons_zero, List.set_cons_succ, i64_w, i32_w]
    rfl
  refine pure_ (i := 5) (N := some 34) (v := ?_) (a' := ?_) #[true, true, true, true, true, true, false, false, false, false, false, false, false, false, false, false, false, false, false, false, false] rfl rfl (by kernel_rfl) (fun _ _ _ h => h) (Or.inl ⟨by rfl, ?_⟩) ?_ ?_
  rotate_left
  · intro w'
    go_simp
    with_reducible rfl
  rotate_left
  · simp only [Act.put, List.setIfInBounds_toArray, List.set_cons_zero, List.set_cons_succ, i64_w, i32_w]
    rfl
  refine pure_ (i := 6) (N := some 35) (v := ?_) (a' := ?_) #[true, true, true, true, true, true, true, false, false, false, false, false, false, false, false, false, false, false, false, false, false] rfl rfl (by kernel_rfl) (fun _ _ _ h => h) (Or.inl ⟨by rfl, ?_⟩) ?_ ?_
  rotate_left
  · intro w'
    go_simp
    with_reducible rfl
  rotate_left
  · simp only [Act.put, List.setIfInBounds_toArray, List.set_cons_zero, List.set_cons_succ, i64_w, i32_w]
    rfl
  refine pure_ (i := 7) (N := some 36) (v := ?_) (a' := ?_) #[true, true, true, true, true, true, true, true, false, false, false, false, false, false, false, false, false, false, false, false, false] rfl rfl (by kernel_rfl) (fun _ _ _ h => h) (Or.inl ⟨by rfl, ?_⟩) ?_ ?_
  rotate_left
  · intro w'
    go_simp
    with_reducible rfl
  rotate_left
  · simp only [Act.put, List.setIfInBounds_toArray, List.set_cons_zero, List.set_cons_succ, i64_w, i32_w]
    rfl
  refine pure_ (i := 8) (N := some 37) (v := ?_) (a' := ?_) #[true, true, true, true, true, true, true, true, true, false, false, false, false, false, false, false, false, false, false, false, false] rfl rfl (by kernel_rfl) (fun _ _ _ h => h) (Or.inl ⟨by rfl, ?_⟩) ?_ ?_
  rotate_left
  · intro w'
    go_simp
    with_reducible rfl
  rotate_left
  · simp only [Act.put, List.setIfInBounds_toArray, List.set_cons_zero, List.set_cons_succ, i64_w, i32_w]
    rfl
  refine pure_ (i := 9) (N := some 38) (v := ?_) (a' := ?_) #[true, true, true, true, true, true, true, true, true, true, false, false, false, false, false, false, false, false, false, false, false] rfl rfl (by kernel_rfl) (fun _ _ _ h => h) (Or.inl ⟨by rfl, ?_⟩) ?_ ?_
  rotate_left
  · intro w'
    go_simp
    with_reducible rfl
  rotate_left
  · simp only [Act.put, List.setIfInBounds_toArray, List.set_cons_zero, List.set_cons_succ, i64_w, i32_w]
    rfl
  refine pure_ (i := 10) (N := some 39) (v := ?_) (a' := ?_) #[true, true, true, true, true, true, true, true, true, true, true, false, false, false, false, false, false, false, false, false, false] rfl rfl (by kernel_rfl) (fun _ _ _ h => h) (Or.inl ⟨by rfl, ?_⟩) ?_ ?_
  rotate_left
  · intro w'
    go_simp
    with_reducible rfl
  rotate_left
  · simp only [Act.put, List.setIfInBounds_toArray, List.set_cons_zero, List.set_cons_succ, i64_w, i32_w]
    rfl
  refine pure_ (i := 11) (N := some 40) (v := ?_) (a' := ?_) #[true, true, true, true, true, true, true, true, true, true, true, true, false, false, false, false, false, false, false, false, false] rfl rfl (by kernel_rfl) (fun _ _ _ h => h) (Or.inl ⟨by rfl, ?_⟩) ?_ ?_
  rotate_left
  · intro w'
    go_simp
    with_reducible rfl
  rotate_left
  · simp only [Act.put, List.setIfInBounds_toArray, List.set_cons_zero, List.set_cons_succ, i64_w, i32_w]
    rfl
  refine pure_ (i := 12) (N := some 41) (v := ?_) (a' := ?_) #[true, true, true, true, true, true, true, true, true, true, true, true, true, false, false, false, false, false, false, false, false] rfl rfl (by kernel_rfl) (fun _ _ _ h => h) (Or.inl ⟨by rfl, ?_⟩) ?_ ?_
  rotate_left
  · intro w'
    go_simp
    with_reducible rfl
  rotate_left
  · simp only [Act.put, List.setIfInBounds_toArray, List.set_cons_zero, List.set_cons_succ, i64_w, i32_w]
    rfl
  refine pure_ (i := 13) (N := some 42) (v := ?_) (a' := ?_) #[true, true, true, true, true, true, true, true, true, true, true, true, true, true, false, false, false, false, false, false, false] rfl rfl (by kernel_rfl) (fun _ _ _ h => h) (Or.inl ⟨by rfl, ?_⟩) ?_ ?_
  rotate_left
  · intro w'
    go_simp
    with_reducible rfl
  rotate_left
  · simp only [Act.put, List.setIfInBounds_toArray, List.set_cons_zero, List.set_cons_succ, i64_w, i32_w]
    rfl
  refine pure_ (i := 14) (N := some 43) (v := ?_) (a' := ?_) #[true, true, true, true, true, true, true, true, true, true, true, true, true, true, true, false, false, false, false, false, false] rfl rfl (by kernel_rfl) (fun _ _ _ h => h) (Or.inl ⟨by rfl, ?_⟩) ?_ ?_
  rotate_left
  · intro w'
    go_simp
    with_reducible rfl
  rotate_left
  · simp only [Act.put, List.setIfInBounds_toArray, List.set_cons_zero, List.set_cons_succ, i64_w, i32_w]
    rfl
  refine pure_ (i := 15) (N := some 44) (v := ?_) (a' := ?_) #[true, true, true, true, true, true, true, true, true, true, true, true, true, true, true, true, false, false, false, false, false] rfl rfl (by kernel_rfl) (fun _ _ _ h => h) (Or.inl ⟨by rfl, ?_⟩) ?_ ?_
  rotate_left
  · intro w'
    go_simp
    with_reducible rfl
  rotate_left
  · simp only [Act.put, List.setIfInBounds_toArray, List.set_cons_zero, List.set_cons_succ, i64_w, i32_w]
    rfl
  refine pure_ (i := 16) (N := some 45) (v := ?_) (a' := ?_) #[true, true, true, true, true, true, true, true, true, true, true, true, true, true, true, true, true, false, false, false, false] rfl rfl (by kernel_rfl) (fun _ _ _ h => h) (Or.inl ⟨by rfl, ?_⟩) ?_ ?_
  rotate_left
  · intro w'
    go_simp
    with_reducible rfl
  rotate_left
  · simp only [Act.put, List.setIfInBounds_toArray, List.set_cons_zero, List.set_cons_succ, i64_w, i32_w]
    rfl
  refine one_ (i := 17) (N := some 46) #[true, true, true, true, true, true, true, true, true, true, true, true, true, true, true, true, true, true, false, false, false] rfl rfl (by kernel_rfl) (by decide) (fun K hK => ?_)
  refine goes_ Try.func49 (by kernel_rfl) rfl #[.int .i64 v] (by rfl) rfl rfl (by simp only [List.map_toArray, List.map_cons, List.map_nil]; first | done | rfl) ?_
  refine (jh_head v _ (by omega) (by omega)).mono ?_
  rintro e w2 ⟨gh, gc, rfl, hgh, hbh, hgc, hb2⟩
  refine ⟨_, rfl, ?_⟩
  have BH := Aside0.mk hbh
  have B2 := Aside0.mk (below_step B1.out hb2)
  have S2 := Aside0.mk (S1.out.below hb2)
  refine hK.out _ _ trivial (fun _ => ?_)
  clear hK K hbh hb2 hgh
  refine norm_ (a' := ?_) ?_ ?_
  rotate_left
  · show Act.put _ (some 46) _ = _
    simp only [Act.put, List.setIfInBounds_toArray, List.set_cons_zero, List.set_cons_succ, i64_w, i32_w]
    rfl
  refine one_ (i := 18) (N := some 47) #[true, true, true, true, true, true, true, true, true, true, true, true, true, true, true, true, true, true, true, false, false] rfl rfl (by kernel_rfl) (by decide) (fun K hK => ?_)
  refine goes_ Try.func48 (by kernel_rfl) rfl #[.slice (some ⟨g, off, none⟩) 8 cap, .slice (some ⟨gh, 0, none⟩) 8 gc] (by rfl) rfl rfl (by simp only [List.map_toArray, List.map_cons, List.map_nil]; first | done | rfl) ?_
  have EQ := je_equal (w := w2) (a0 := ⟨g, off, none⟩) (a1 := ⟨gh, 0, none⟩) (l0 := l.take 8) (l1 := hdl v) cap gc (fun j x hx => S2.out j x (jr_take hx)) BH.out.src0 (by rw [List.length_take]; omega) hgc (by rw [List.length_take]; omega) (by show 8 ≤ 65536; decide)
  rw [show (l.take 8).length = 8 by rw [List.length_take]; omega, show (hdl v).length = 8 from rfl] at EQ
  refine EQ.mono ?_
  rintro e w3 ⟨rfl, hb3⟩
  generalize hq : decide (l.take 8 = hdl v) = z
  have HQ := Aside0.mk hq
  clear hq
  refine ⟨_, rfl, ?_⟩
  have B3 := Aside0.mk (below_step B2.out hb3)
  refine hK.out _ _ trivial (fun _ => ?_)
  clear hK K hb3 EQ
  refine norm_ (a' := ?_) ?_ ?_
  rotate_left
  · show Act.put _ (some 47) _ = _
    simp only [Act.put, List.setIfInBounds_toArray, List.set_cons_zero, List.set_cons_succ, i64_w, i32_w]
    rfl
  refine pure_ (i := 19) (N := some 48) (v := ?_) (a' := ?_) #[true, true, true, true, true, true, true, true, true, true, true, true, true, true, true, true, true, true, true, true, false] rfl rfl (by kernel_rfl) (fun _ _ _ h => h) (Or.inl ⟨by rfl, ?_⟩) ?_ ?_
  rotate_left
  · intro w'
    go_simp
    with_reducible rfl
  rotate_left
  · simp only [Act.put, List.setIfInBounds_toArray, List.set_cons_zero, List.set_cons_succ, i64_w, i32_w]
    rfl
  refine pure_ (i := 20) (N := some 49) (v := ?_) (a' := ?_) #[true, true, true, true, true, true, true, true, true, true, true, true, true, true, true, true, true, true, true, true, true] rfl rfl (by kernel_rfl) (fun _ _ _ h => h) (Or.inl ⟨by rfl, ?_⟩) ?_ ?_
  rotate_left
  · intro w'
    go_simp
    with_reducible rfl
  rotate_left
  · simp only [Act.put, List.setIfInBounds_toArray, List.set_cons_zero, List.set_cons_succ, i64_w, i32_w]
    rfl
  refine done_ (by kernel_rfl) ?_
  cases z
  · have NN : Aside0 (∀ n, ¬ isRec l n) := ⟨fun n hn => of_decide_eq_false HQ.out (NO.out n hn).2.2.2.2⟩
    go_wp2
    go_ret
    exact ⟨Or.inr ⟨NN.out, rfl⟩, B3.out⟩
  · have IR : Aside0 (isRec l v) := ⟨⟨by omega, by omega, by omega, of_decide_eq_true HQ.out⟩⟩
    have k1 : (8 + v : Int) ≤ ↑cap := by omega
    have k2 : (8 : Int) ≤ 8 + v := by omega
    have k3 : (8 + v).toNat - 8 = v.toNat := by omega
    go_wp2
    go_ret
    exact ⟨Or.inl ⟨v, IR.out, rfl⟩, B3.out⟩

end Go.Proofs.Ythblaehmdailhaa.PJournalStays
