import Derived.Test.YthblaehmdailhaaJO
namespace Go.Proofs.Ythblaehmdailhaa.PJournalStays
open Go.RowKit Go.Proofs.YthblaehmdailhaaW.PrintWords Go.Proofs.YthblaehmdailhaaW.PrintLast Go.Proofs.YthblaehmdailhaaW.PrintMore
set_option linter.unusedVariables false
set_option linter.unusedSimpArgs false
attribute [local go_sem high] slEq slNe slEq0 slNe0
attribute [local go_sem] max2_int min2_int max_two min_two
/-- The journal's own block. -/
def Jb (w : World) (bj bd : Nat) (v : Value) (en : Nat) (sp : Bool) : Prop := w.heap[bj]? = some (.cells #[.pointer (some ⟨bd, 0, none⟩), v, .int .i64 ↑en, .bool sp] 72 (0, 0))
theorem Jb.disk {w W : World} {bj bd bd' en bs bn bm n : Nat} {v : Value} {sp : Bool} {st nw : List Int} {N : Nat} {D : DataW Unit} (hj : Jb w bj bd' v en sp) (hD : Dk w bd bs bn bm n st nw N D) (t : Tn (fun k => k = bs ∨ k = bn ∨ k = bm) w W) : Jb W bj bd' v en sp := by
  obtain ⟨r1, h1⟩ := hD.hs
  obtain ⟨r2, h2⟩ := hD.hn
  obtain ⟨es, cl, h3⟩ := hD.map
  refine t.blk hj (fun q => ?_)
  unfold Jb at hj
  rcases q with q | q | q
  · rw [q] at hj; exact ty_ne h1 hj (by decide)
  · rw [q] at hj; exact ty_ne h2 hj (by decide)
  · rw [q, h3] at hj; cases hj
theorem rs_disk {w W : World} {B bd bs bn bm n : Nat} {bad : Nat → Prop} {v : Value} {rs : List (List Int)} {st nw : List Int} {N : Nat} {D : DataW Unit} (h : Rs w B bad v rs) (b1 : bad bs) (b2 : bad bn) (hD : Dk w bd bs bn bm n st nw N D) (t : Tn (fun k => k = bs ∨ k = bn ∨ k = bm) w W) : Rs W B bad v rs := by
  obtain ⟨r1, h1⟩ := hD.hs
  obtain ⟨r2, h2⟩ := hD.hn
  obtain ⟨es, cl, h3⟩ := hD.map
  refine h.turn t (fun k c q hk => ?_) (fun k c q hk => ?_)
  · rcases q with rfl | rfl | rfl
    · exact ty_ne h1 hk (by decide)
    · exact ty_ne h2 hk (by decide)
    · rw [h3] at hk; cases hk
  · rcases q with q | q | q
    · exact q ▸ b1
    · exact q ▸ b2
    · rw [q, h3] at hk; cases hk
theorem Jb.below {w W : World} {bj bd en : Nat} {v : Value} {sp : Bool} (hj : Jb w bj bd v en sp) (t : Below w.heap.size w W) : Jb W bj bd v en sp := (t.block bj (blk_lt hj)).trans hj
theorem Jb.cs {w : World} {bj bd en : Nat} {v : Value} {sp : Bool} (hj : Jb w bj bd v en sp) : w.cell? ⟨bj, 0, none⟩ = some (.pointer (some ⟨bd, 0, none⟩)) ∧ w.cell? ⟨bj, 2, none⟩ = some (.int .i64 ↑en) := ⟨(jn_cells hj).1, (jn_cells hj).2.2.1⟩
theorem Dk.nes {w : World} {bd bs bn bm n : Nat} {st nw : List Int} {N : Nat} {D : DataW Unit} (h : Dk w bd bs bn bm n st nw N D) : bd ≠ bs ∧ bd ≠ bn :=
  ⟨fun q => by obtain ⟨r, hr⟩ := h.hs; exact ty_ne (q ▸ h.hd) hr (by decide), fun q => by obtain ⟨r, hr⟩ := h.hn; exact ty_ne (q ▸ h.hd) hr (by decide)⟩
def jfree (n en : Nat) : Int := max 0 (min 1024 (↑n - ↑en - 8))
set_option maxRecDepth 100000 in
theorem jp_free {w : World} {bj bd bs bn bm n en : Nat} {v : Value} {st nw : List Int} {N : Nat} {D : DataW Unit} (hJ : Jb w bj bd v en false) (h : Dk w bd bs bn bm n st nw N D) (hn : n ≤ 65536) (he : en ≤ n) : Calls Try.prog 25 #[.pointer (some ⟨bj, 0, none⟩)] w fun e w' => e = .returned (.int .i64 (jfree n en)) ∧ Below w.heap.size w w' := by
  have HD := Aside0.mk h
  have HJ := Aside0.mk hJ
  obtain ⟨q0, q1, q2, q3, f1, f2, f3⟩ := jn_cells hJ
  clear h hJ
  go_enter Try.func25, Try.ntmps25
  go_wp2_with fail
  have hjb := blk_lt HJ.out
  have d0 := gb_cell hjb q0
  have d2 := gb_cell hjb q2
  have SZ := Aside0.mk (fun p : GWrld w => jd_size (HD.out.below p.b))
  have z1 : wrap64 (↑n - ↑en) = ↑n - ↑en := by unfold wrap64; omega
  have z2 : wrap64 (↑n - ↑en - 8) = ↑n - ↑en - 8 := by unfold wrap64; omega
  refine gb_region (by kernel_rfl) (by kernel_rfl) ?_
  repeat (go_big_quiet_step (with_reducible exact gb_calls (SZ.out _)))
  refine wpQuiet_nil ?_
  intro _ hw'
  obtain ⟨gq, hw''⟩ := hw'
  subst hw''
  go_wp2_with fail
  all_goals
    go_ret
    refine ⟨congrArg (fun z => Ending.returned (Value.int .i64 z)) ?_, gq.b⟩
    unfold jfree
    first
      | omega
      | (rename_i hh; split at hh <;> omega)
      | (rename_i hh _; split at hh <;> omega)
      | (rename_i hh _ _; split at hh <;> omega)
set_option maxRecDepth 100000 in
theorem jp_freesp {w : World} {bj bd en : Nat} {v : Value} (hJ : Jb w bj bd v en true) : Calls Try.prog 25 #[.pointer (some ⟨bj, 0, none⟩)] w fun e w' => e = .returned (.int .i64 0) ∧ Below w.heap.size w w' := by
  obtain ⟨q0, q1, q2, q3, f1, f2, f3⟩ := jn_cells hJ
  go_enter Try.func25, Try.ntmps25
  go_wp2
  go_ret
  exact ⟨rfl, Below.refl _ _⟩
/-- What may tells. -/
def jmay (n en len : Nat) : Option Int := if len < 1 ∨ 1024 < len then some 1 else if jfree n en < len then some 8 else none
def cer : Option Int → Value
  | none => .nilIface
  | some c => .iface 55 (.int .i64 c)
set_option maxRecDepth 100000 in
theorem jp_may {w : World} {bj bd bs bn bm n en : Nat} {v : Value} {st nw : List Int} {N : Nat} {D : DataW Unit} (hJ : Jb w bj bd v en false) (h : Dk w bd bs bn bm n st nw N D) (hn : n ≤ 65536) (he : en ≤ n) (A : Option Addr) (len cap : Nat) (hl : len ≤ 65536) : Calls Try.prog 42 #[.pointer (some ⟨bj, 0, none⟩), .slice A len cap] w fun e w' => e = .returned (cer (jmay n en len)) ∧ Below w.heap.size w w' := by
  have FR := Aside0.mk (jp_free hJ h hn he)
  obtain ⟨q0, q1, q2, q3, f1, f2, f3⟩ := jn_cells hJ
  unfold jmay
  by_cases c1 : len < 1
  · have c1b : decide ((↑len : Int) < 1) = true := decide_eq_true (by omega)
    rw [if_pos (Or.inl c1)]
    go_enter Try.func42, Try.ntmps42
    go_wp2_with fail
    go_ret
    exact ⟨rfl, Below.refl _ _⟩
  have c1b : decide ((↑len : Int) < 1) = false := decide_eq_false (by omega)
  by_cases c2 : 1024 < len
  · have c2b : decide ((1024 : Int) < ↑len) = true := decide_eq_true (by omega)
    rw [if_pos (Or.inr c2)]
    go_enter Try.func42, Try.ntmps42
    go_wp2_with fail
    go_ret
    exact ⟨rfl, Below.refl _ _⟩
  have c2b : decide ((1024 : Int) < ↑len) = false := decide_eq_false (by omega)
  rw [if_neg (by omega)]
  generalize jfree n en = f at FR ⊢
  obtain ⟨r, hr⟩ : ∃ r, cer (if f < ↑len then some 8 else none) = r := ⟨_, rfl⟩
  rw [hr]
  have HR := Aside0.mk hr
  clear hr
  go_enter Try.func42, Try.ntmps42
  go_wp2_with fail
  refine FR.out.mono ?_
  rintro e w2 ⟨rfl, hb⟩
  have HB := Aside0.mk hb
  clear hb
  by_cases c3 : f < ↑len
  · have C3 := Aside0.mk c3
    go_wp2_with fail
    go_ret
    exact ⟨congrArg Ending.returned (by rw [← HR.out, if_pos C3.out]; rfl), HB.out⟩
  · have C3 := Aside0.mk c3
    go_wp2_with fail
    go_ret
    exact ⟨congrArg Ending.returned (by rw [← HR.out, if_neg (by have := C3.out; omega)]; rfl), HB.out⟩
set_option maxHeartbeats 1000000 in
set_option maxRecDepth 100000 in
theorem jp_stages {w : World} {bj bd bs bn bm n en : Nat} {v : Value} {st nw : List Int} {N : Nat} {D : DataW Unit} (hJ : Jb w bj bd v en false) (h : Dk w bd bs bn bm n st nw N D) (hn : n ≤ 65536) (ad : Addr) (l : List Int) (cap : Nat) (hs : Src w ad l) (hb : ad.block ≠ bs ∧ ad.block ≠ bn ∧ ad.block ≠ bm) (h1 : 1 ≤ l.length) (h2 : l.length ≤ 1024) (h3 : en + 8 + l.length ≤ n) (hN : N + l.length + 8 < 4294967296) :
    Calls Try.prog 43 #[.pointer (some ⟨bj, 0, none⟩), .slice (some ad) l.length cap, .int .i64 4] w fun e w' => e = .returned .nilIface ∧ (∃ D', Dk w' bd bs bn bm n (splice (splice nw (en + 8) l) en (hdl ↑l.length)) (splice (splice nw (en + 8) l) en (hdl ↑l.length)) (N + l.length + 8) D') ∧ Tn (fun k => k = bs ∨ k = bn ∨ k = bm) w w' := by
  have HD := Aside0.mk h
  have HJ := Aside0.mk hJ
  have HS := Aside0.mk hs
  have HB := Aside0.mk hb
  obtain ⟨q0, q1, q2, q3, f1, f2, f3⟩ := jn_cells hJ
  clear h hJ hs hb
  go_enter Try.func43, Try.ntmps43
  go_wp2_with fail
  refine start_ (n := 12) (S := (fun w' => w'.cell? ⟨bj, 0, none⟩ = some (.pointer (some ⟨bd, 0, none⟩)) ∧ w'.cell? ⟨bj, 2, none⟩ = some (.int .i64 ↑en))) (ds := []) #[false, false, false, false, false, false, false, false, false, false, false, false] (by kernel_rfl) rfl rfl ⟨q0, q2⟩ (fun hHeld => ?_)
  have HD1 := Aside0.mk (HD.out.below (below_drew1 (Below.refl _ _)))
  have HJ1 := Aside0.mk (HJ.out.below (below_drew1 (Below.refl w.heap.size w)))
  have HS1 := Aside0.mk (HS.out.below (below_drew1 (Below.refl w.heap.size w)))
  have B1 := Aside0.mk (below_drew1 (Below.refl w.heap.size w))
  generalize w.drew = w1 at hHeld HD1 HJ1 HS1 B1 ⊢
  clear q0 q1 q2 q3 f1 f2 f3
  refine pure_ (i := 0) (N := some 9) (v := ?_) (a' := ?_) #[true, false, false, false, false, false, false, false, false, false, false, false] rfl rfl (by kernel_rfl) (fun _ _ _ h => h) (Or.inl ⟨by rfl, ?_⟩) ?_ ?_
  rotate_left
  · intro w'
    go_simp
    with_reducible rfl
  rotate_left
  · simp only [Act.put, List.setIfInBounds_toArray, List.set_cons_zero, List.set_cons_succ, i64_w, i32_w]
    rfl
  refine pure_ (i := 1) (N := some 10) (v := ?_) (a' := ?_) #[true, true, false, false, false, false, false, false, false, false, false, false] rfl rfl (by kernel_rfl) (fun _ _ _ h => h) (Or.inl ⟨by rfl, ?_⟩) ?_ ?_
  rotate_left
  · intro w'
    go_simp
    with_reducible rfl
  rotate_left
  · simp only [Act.put, List.setIfInBounds_toArray, List.set_cons_zero, List.set_cons_succ, i64_w, i32_w]
    rfl
  refine pure_ (i := 2) (N := some 11) (v := ?_) (a' := ?_) #[true, true, true, false, false, false, false, false, false, false, false, false] rfl rfl (by kernel_rfl) (fun _ _ _ h => h) (Or.inl ⟨by rfl, ?_⟩) ?_ ?_
  rotate_left
  · intro w'
    go_simp
    with_reducible rfl
  rotate_left
  · simp only [Act.put, List.setIfInBounds_toArray, List.set_cons_zero, List.set_cons_succ, i64_w, i32_w]
    rfl
  refine take_ (i := 3) (N := some 12) (v := ?_) (a' := ?_) #[true, true, true, true, false, false, false, false, false, false, false, false] rfl rfl (by kernel_rfl) (fun _ _ _ h => h) (Or.inl ⟨by rfl, ?_⟩) hHeld ?_ ?_
  rotate_left
  · rintro w' ⟨s0, s1⟩
    go_simp
    with_reducible rfl
  rotate_left
  · simp only [Act.put, List.setIfInBounds_toArray, List.set_cons_zero, List.set_cons_succ, i64_w, i32_w]
    rfl
  refine pure_ (i := 4) (N := some 13) (v := ?_) (a' := ?_) #[true, true, true, true, true, false, false, false, false, false, false, false] rfl rfl (by kernel_rfl) (fun _ _ _ h => h) (Or.inl ⟨by rfl, ?_⟩) ?_ ?_
  rotate_left
  · intro w'
    go_simp
    with_reducible rfl
  rotate_left
  · simp only [Act.put, List.setIfInBounds_toArray, List.set_cons_zero, List.set_cons_succ, i64_w, i32_w]
    rfl
  refine pure_ (i := 5) (N := some 14) (v := ?_) (a' := ?_) #[true, true, true, true, true, true, false, false, false, false, false, false] rfl rfl (by kernel_rfl) (fun _ _ _ h => h) (Or.inl ⟨by rfl, ?_⟩) ?_ ?_
  rotate_left
  · intro w'
    go_simp
    with_reducible rfl
  rotate_left
  · simp only [Act.put, List.setIfInBounds_toArray, List.set_cons_zero, List.set_cons_succ, i64_w, i32_w]
    rfl
  refine pure_ (i := 6) (N := some 15) (v := ?_) (a' := ?_) #[true, true, true, true, true, true, true, false, false, false, false, false] rfl rfl (by kernel_rfl) (fun _ _ _ h => h) (Or.inl ⟨by rfl, ?_⟩) ?_ ?_
  rotate_left
  · intro w'
    go_simp
    with_reducible rfl
  rotate_left
  · simp only [Act.put, List.setIfInBounds_toArray, List.set_cons_zero, List.set_cons_succ, i64_w, i32_w]
    rfl
  refine take_ (i := 7) (N := some 16) (v := ?_) (a' := ?_) #[true, true, true, true, true, true, true, true, false, false, false, false] rfl rfl (by kernel_rfl) (fun _ _ _ h => h) (Or.inl ⟨by rfl, ?_⟩) hHeld ?_ ?_
  rotate_left
  · rintro w' ⟨s0, s1⟩
    go_simp
    with_reducible rfl
  rotate_left
  · simp only [Act.put, List.setIfInBounds_toArray, List.set_cons_zero, List.set_cons_succ, i64_w, i32_w]
    rfl
  refine pure_ (i := 8) (N := some 17) (v := ?_) (a' := ?_) #[true, true, true, true, true, true, true, true, true, false, false, false] rfl rfl (by kernel_rfl) (fun _ _ _ h => h) (Or.inl ⟨by rfl, ?_⟩) ?_ ?_
  rotate_left
  · intro w'
    go_simp
    with_reducible rfl
  rotate_left
  · simp only [Act.put, List.setIfInBounds_toArray, List.set_cons_zero, List.set_cons_succ, i64_w, i32_w]
    rfl
  rw [show wrap64 (↑en + 8) = ↑en + 8 by unfold wrap64; omega]
  refine pure_ (i := 9) (N := some 18) (v := ?_) (a' := ?_) #[true, true, true, true, true, true, true, true, true, true, false, false] rfl rfl (by kernel_rfl) (fun _ _ _ h => h) (Or.inl ⟨by rfl, ?_⟩) ?_ ?_
  rotate_left
  · intro w'
    go_simp
    with_reducible rfl
  rotate_left
  · simp only [Act.put, List.setIfInBounds_toArray, List.set_cons_zero, List.set_cons_succ, i64_w, i32_w]
    rfl
  refine one_ (i := 10) (N := some 19) #[true, true, true, true, true, true, true, true, true, true, true, false] rfl rfl (by kernel_rfl) (by decide) (fun K hK => ?_)
  refine goes_ Try.func14 (by kernel_rfl) rfl #[.pointer (some ⟨bd, 0, none⟩), .int .i64 (↑en + 8), .slice (some ad) l.length cap] (by rfl) rfl rfl (by simp only [List.map_toArray, List.map_cons, List.map_nil]; first | done | rfl) ?_
  have e8 : ((en + 8 : Nat) : Int) = ↑en + 8 := by omega
  have W := jd_write HD1.out hn HD1.out.nes.2 (en + 8) ad l cap h1 HS1.out (by omega) (by omega)
  rw [e8] at W
  refine W.mono ?_
  rintro e w2 ⟨rfl, hD2, t2⟩
  refine ⟨_, rfl, ?_⟩
  have HD2 := Aside0.mk hD2
  have T2' := t2.mono (S' := fun k => k = bs ∨ k = bn ∨ k = bm) (fun k _ q => Or.inr q)
  have HJ2 := Aside0.mk (HJ1.out.disk HD1.out T2')
  have T2 : Aside0 (Tn (fun k => k = bs ∨ k = bn ∨ k = bm) w w2) := ⟨(Tn.of_below B1.out).trans T2'⟩
  refine hK.out _ _ HJ2.out.cs (fun hHeld => ?_)
  clear hK K W hD2 t2 T2' e8
  refine norm_ (a' := ?_) ?_ ?_
  rotate_left
  · show Act.put _ (some 19) _ = _
    simp only [Act.put, List.setIfInBounds_toArray, List.set_cons_zero, List.set_cons_succ, i64_w, i32_w]
    rfl
  refine pure_ (i := 11) (N := some 7) (v := ?_) (a' := ?_) #[true, true, true, true, true, true, true, true, true, true, true, true] rfl rfl (by kernel_rfl) (fun _ _ _ h => h) (Or.inl ⟨by rfl, ?_⟩) ?_ ?_
  rotate_left
  · intro w'
    go_simp
    with_reducible rfl
  rotate_left
  · simp only [Act.put, List.setIfInBounds_toArray, List.set_cons_zero, List.set_cons_succ, i64_w, i32_w]
    rfl
  refine done_ (by kernel_rfl) ?_
  clear hHeld
  obtain ⟨q0, q2⟩ := HJ2.out.cs
  go_wp2_with fail
  refine (jd_sync HD2.out hn (by omega) HD2.out.nes.1).mono ?_
  rintro e w3 ⟨rfl, hD3, t3⟩
  have HD3 := Aside0.mk hD3
  have T3' := t3.mono (S' := fun k => k = bs ∨ k = bn ∨ k = bm) (fun k _ q => by rcases q with q | q; exact Or.inl q; exact Or.inr (Or.inr q))
  have HJ3 := Aside0.mk (HJ2.out.disk HD2.out T3')
  have T3 := Aside0.mk (T2.out.trans T3')
  clear hD3 t3 T3' q0 q2
  obtain ⟨q0, q2⟩ := HJ3.out.cs
  go_wp2_with fail
  refine start_ (n := 13) (S := (fun w' => w'.cell? ⟨bj, 0, none⟩ = some (.pointer (some ⟨bd, 0, none⟩)) ∧ w'.cell? ⟨bj, 2, none⟩ = some (.int .i64 ↑en))) (ds := []) #[false, false, false, false, false, false, false, false, false, false, false, false, false] (by kernel_rfl) rfl rfl ⟨q0, q2⟩ (fun hHeld => ?_)
  have HD4 := Aside0.mk (HD3.out.below (below_drew1 (Below.refl _ _)))
  have HJ4 := Aside0.mk (HJ3.out.below (below_drew1 (Below.refl w3.heap.size w3)))
  have B4 := Aside0.mk (below_drew1 (Below.refl w3.heap.size w3))
  generalize w3.drew = w4 at hHeld HD4 HJ4 B4 ⊢
  clear q0 q2
  refine pure_ (i := 0) (N := some 32) (v := ?_) (a' := ?_) #[true, false, false, false, false, false, false, false, false, false, false, false, false] rfl rfl (by kernel_rfl) (fun _ _ _ h => h) (Or.inl ⟨by rfl, ?_⟩) ?_ ?_
  rotate_left
  · intro w'
    go_simp
    with_reducible rfl
  rotate_left
  · simp only [Act.put, List.setIfInBounds_toArray, List.set_cons_zero, List.set_cons_succ, i64_w, i32_w]
    rfl
  refine pure_ (i := 1) (N := some 33) (v := ?_) (a' := ?_) #[true, true, false, false, false, false, false, false, false, false, false, false, false] rfl rfl (by kernel_rfl) (fun _ _ _ h => h) (Or.inl ⟨by rfl, ?_⟩) ?_ ?_
  rotate_left
  · intro w'
    go_simp
    with_reducible rfl
  rotate_left
  · simp only [Act.put, List.setIfInBounds_toArray, List.set_cons_zero, List.set_cons_succ, i64_w, i32_w]
    rfl
  refine pure_ (i := 2) (N := some 34) (v := ?_) (a' := ?_) #[true, true, true, false, false, false, false, false, false, false, false, false, false] rfl rfl (by kernel_rfl) (fun _ _ _ h => h) (Or.inl ⟨by rfl, ?_⟩) ?_ ?_
  rotate_left
  · intro w'
    go_simp
    with_reducible rfl
  rotate_left
  · simp only [Act.put, List.setIfInBounds_toArray, List.set_cons_zero, List.set_cons_succ, i64_w, i32_w]
    rfl
  refine take_ (i := 3) (N := some 35) (v := ?_) (a' := ?_) #[true, true, true, true, false, false, false, false, false, false, false, false, false] rfl rfl (by kernel_rfl) (fun _ _ _ h => h) (Or.inl ⟨by rfl, ?_⟩) hHeld ?_ ?_
  rotate_left
  · rintro w' ⟨s0, s1⟩
    go_simp
    with_reducible rfl
  rotate_left
  · simp only [Act.put, List.setIfInBounds_toArray, List.set_cons_zero, List.set_cons_succ, i64_w, i32_w]
    rfl
  refine pure_ (i := 4) (N := some 36) (v := ?_) (a' := ?_) #[true, true, true, true, true, false, false, false, false, false, false, false, false] rfl rfl (by kernel_rfl) (fun _ _ _ h => h) (Or.inl ⟨by rfl, ?_⟩) ?_ ?_
  rotate_left
  · intro w'
    go_simp
    with_reducible rfl
  rotate_left
  · simp only [Act.put, List.setIfInBounds_toArray, List.set_cons_zero, List.set_cons_succ, i64_w, i32_w]
    rfl
  refine pure_ (i := 5) (N := some 37) (v := ?_) (a' := ?_) #[true, true, true, true, true, true, false, false, false, false, false, false, false] rfl rfl (by kernel_rfl) (fun _ _ _ h => h) (Or.inl ⟨by rfl, ?_⟩) ?_ ?_
  rotate_left
  · intro w'
    go_simp
    with_reducible rfl
  rotate_left
  · simp only [Act.put, List.setIfInBounds_toArray, List.set_cons_zero, List.set_cons_succ, i64_w, i32_w]
    rfl
  refine pure_ (i := 6) (N := some 38) (v := ?_) (a' := ?_) #[true, true, true, true, true, true, true, false, false, false, false, false, false] rfl rfl (by kernel_rfl) (fun _ _ _ h => h) (Or.inl ⟨by rfl, ?_⟩) ?_ ?_
  rotate_left
  · intro w'
    go_simp
    with_reducible rfl
  rotate_left
  · simp only [Act.put, List.setIfInBounds_toArray, List.set_cons_zero, List.set_cons_succ, i64_w, i32_w]
    rfl
  refine take_ (i := 7) (N := some 39) (v := ?_) (a' := ?_) #[true, true, true, true, true, true, true, true, false, false, false, false, false] rfl rfl (by kernel_rfl) (fun _ _ _ h => h) (Or.inl ⟨by rfl, ?_⟩) hHeld ?_ ?_
  rotate_left
  · rintro w' ⟨s0, s1⟩
    go_simp
    with_reducible rfl
  rotate_left
  · simp only [Act.put, List.setIfInBounds_toArray, List.set_cons_zero, List.set_cons_succ, i64_w, i32_w]
    rfl
  refine pure_ (i := 8) (N := some 40) (v := ?_) (a' := ?_) #[true, true, true, true, true, true, true, true, true, false, false, false, false] rfl rfl (by kernel_rfl) (fun _ _ _ h => h) (Or.inl ⟨by rfl, ?_⟩) ?_ ?_
  rotate_left
  · intro w'
    go_simp
    with_reducible rfl
  rotate_left
  · simp only [Act.put, List.setIfInBounds_toArray, List.set_cons_zero, List.set_cons_succ, i64_w, i32_w]
    rfl
  refine pure_ (i := 9) (N := some 41) (v := ?_) (a' := ?_) #[true, true, true, true, true, true, true, true, true, true, false, false, false] rfl rfl (by kernel_rfl) (fun _ _ _ h => h) (Or.inl ⟨by rfl, ?_⟩) ?_ ?_
  rotate_left
  · intro w'
    go_simp
    with_reducible rfl
  rotate_left
  · simp only [Act.put, List.setIfInBounds_toArray, List.set_cons_zero, List.set_cons_succ, i64_w, i32_w]
    rfl
  refine one_ (i := 10) (N := some 42) #[true, true, true, true, true, true, true, true, true, true, true, false, false] rfl rfl (by kernel_rfl) (by decide) (fun K hK => ?_)
  refine goes_ Try.func49 (by kernel_rfl) rfl #[.int .i64 ↑l.length] (by rfl) rfl rfl (by simp only [List.map_toArray, List.map_cons, List.map_nil]; first | done | rfl) ?_
  refine (jh_head ↑l.length _ (by omega) (by omega)).mono ?_
  rintro e w5 ⟨gh, gc, rfl, hgh, hbh, hgc, hb5⟩
  refine ⟨_, rfl, ?_⟩
  have BH := Aside0.mk hbh
  have HD5 := Aside0.mk (HD4.out.below hb5)
  have HJ5 := Aside0.mk (HJ4.out.below hb5)
  have B5 := Aside0.mk (below_step B4.out hb5)
  refine hK.out _ _ HJ5.out.cs (fun hHeld => ?_)
  clear hK K hbh hb5 hgh
  refine norm_ (a' := ?_) ?_ ?_
  rotate_left
  · show Act.put _ (some 42) _ = _
    simp only [Act.put, List.setIfInBounds_toArray, List.set_cons_zero, List.set_cons_succ, i64_w, i32_w]
    rfl
  refine one_ (i := 11) (N := some 43) #[true, true, true, true, true, true, true, true, true, true, true, true, false] rfl rfl (by kernel_rfl) (by decide) (fun K hK => ?_)
  refine goes_ Try.func14 (by kernel_rfl) rfl #[.pointer (some ⟨bd, 0, none⟩), .int .i64 ↑en, .slice (some ⟨gh, 0, none⟩) 8 gc] (by rfl) rfl rfl (by simp only [List.map_toArray, List.map_cons, List.map_nil]; first | done | rfl) ?_
  have W := jd_write HD5.out hn HD5.out.nes.2 en ⟨gh, 0, none⟩ (hdl ↑l.length) gc (by show 0 < 8; decide) BH.out.src0 (by show en + 8 ≤ n; omega) (by show N + l.length + 8 < 4294967296; omega)
  rw [show (hdl ↑l.length).length = 8 from rfl] at W
  refine W.mono ?_
  rintro e w6 ⟨rfl, hD6, t6⟩
  refine ⟨_, rfl, ?_⟩
  have HD6 := Aside0.mk hD6
  have T6' := t6.mono (S' := fun k => k = bs ∨ k = bn ∨ k = bm) (fun k _ q => Or.inr q)
  have HJ6 := Aside0.mk (HJ5.out.disk HD5.out T6')
  have T6 : Aside0 (Tn (fun k => k = bs ∨ k = bn ∨ k = bm) w w6) := ⟨T3.out.trans ((Tn.of_below B5.out).trans T6')⟩
  refine hK.out _ _ HJ6.out.cs (fun hHeld => ?_)
  clear hK K W hD6 t6 T6'
  refine norm_ (a' := ?_) ?_ ?_
  rotate_left
  · show Act.put _ (some 43) _ = _
    simp only [Act.put, List.setIfInBounds_toArray, List.set_cons_zero, List.set_cons_succ, i64_w, i32_w]
    rfl
  refine pure_ (i := 12) (N := some 8) (v := ?_) (a' := ?_) #[true, true, true, true, true, true, true, true, true, true, true, true, true] rfl rfl (by kernel_rfl) (fun _ _ _ h => h) (Or.inl ⟨by rfl, ?_⟩) ?_ ?_
  rotate_left
  · intro w'
    go_simp
    with_reducible rfl
  rotate_left
  · simp only [Act.put, List.setIfInBounds_toArray, List.set_cons_zero, List.set_cons_succ, i64_w, i32_w]
    rfl
  refine done_ (by kernel_rfl) ?_
  clear hHeld
  obtain ⟨q0, q2⟩ := HJ6.out.cs
  go_wp2_with fail
  refine (jd_sync HD6.out hn (by omega) HD6.out.nes.1).mono ?_
  rintro e w7 ⟨rfl, hD7, t7⟩
  have HF := Aside0.mk (And.intro hD7 (T6.out.trans (t7.mono (S' := fun k => k = bs ∨ k = bn ∨ k = bm) (fun k _ q => by rcases q with q | q; exact Or.inl q; exact Or.inr (Or.inr q)))))
  clear hD7 t7 q0 q2
  go_wp2_with fail
  go_ret
  exact ⟨rfl, ⟨_, HF.out.1⟩, HF.out.2⟩


end Go.Proofs.Ythblaehmdailhaa.PJournalStays
