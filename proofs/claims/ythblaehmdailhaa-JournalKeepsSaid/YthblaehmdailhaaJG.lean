import Derived.Test.YthblaehmdailhaaJP
namespace Go.Proofs.Ythblaehmdailhaa.PJournalStays
open Go.RowKit Go.Proofs.YthblaehmdailhaaW.PrintWords Go.Proofs.YthblaehmdailhaaW.PrintLast Go.Proofs.YthblaehmdailhaaW.PrintMore
set_option linter.unusedVariables false
set_option linter.unusedSimpArgs false
attribute [local go_sem high] slEq slNe slEq0 slNe0
set_option maxRecDepth 100000 in
theorem ja_fail {w : World} {bj bd bs bn bm n en : Nat} {v : Value} {st nw : List Int} {N : Nat} {D : DataW Unit} (hJ : Jb w bj bd v en false) (h : Dk w bd bs bn bm n st nw N D) (hn : n ≤ 65536) (he : en ≤ n) (A : Option Addr) (len cap : Nat) (hl : len ≤ 65536) (c : Int) (hc : jmay n en len = some c) : Calls Try.prog 24 #[.pointer (some ⟨bj, 0, none⟩), .slice A len cap] w fun e w' => e = .returned (.iface 55 (.int .i64 c)) ∧ Below w.heap.size w w' := by
  have MY := Aside0.mk (jp_may hJ h hn he A len cap hl)
  rw [hc] at MY
  go_enter Try.func24, Try.ntmps24
  go_wp2_with fail
  refine MY.out.mono ?_
  rintro e w2 ⟨rfl, hb⟩
  have HB := Aside0.mk hb
  clear hb
  unfold cer
  go_wp2_with fail
  go_ret
  exact ⟨rfl, HB.out⟩
theorem append_value {ops : Array Oper} {Q : Exit → Act → World → Prop} {oi : Oper} {N : Option Tmp} {a : Act} {w w' : World} {s x : Operand} {t : TypeId} {v xs v' : Value} {K : Act → World → Prop} (hw : Region.wanted oi (yielded ops a.tmps) = true) (hN : oi.dst = N)
    (ho : oi.op = .call { callee := .builtin .append, args := #[s, x], argTypes := #[t, t] }) (hs : a.eval s = v) (hx : a.eval x = xs) (hr : (Builtin.append_ #[t, t] oi.type #[v, xs]).run Try.prog w = .ok v' w')
    (h : K (a.put N v') w') : if Region.wanted oi (yielded ops a.tmps) = true then Oper.wp Try.prog oi a w K Q else K (a.put N undef) w := by
  refine value_ hw hN ?_ h
  unfold execOp
  simp only [ho, resolve, invoke, builtin, Sem.run_bind, Sem.run_pure, Result.andThen_ok, List.map_toArray, List.map_cons, List.map_nil, hs, hx, hr]
/-- The end of an append: all that has turned. -/
theorem ja_end {bad : Nat → Prop} {w w3 w5 w7 W6 : World} {B bj bd bs bn bm n N' en gc cc : Nat} {v v7 : Value} {rs : List (List Int)} {vs : List Value} {l st' nw' : List Int} {ob : Obj}
    (hJ5 : Jb w5 bj bd v en false) (ho5 : w5.ownsRow B 22 1 v rs.length vs)
    (hvs : ∀ (i : Nat) (r : List Int), rs[i]? = some r → ∃ g o c, vs[i]? = some (.slice (some ⟨g, o, none⟩) r.length c) ∧ Src w5 ⟨g, o, none⟩ r ∧ B ≤ g ∧ ¬ bad g ∧ 1 ≤ r.length ∧ r.length ≤ 1024 ∧ r.length ≤ c ∧ ∃ cs, w5.heap[g]? = some (.cells cs 5 (0, 0)))
    (hg : (w5.alloc ob).grownBy w7 v.ownBlock) (ho7 : w7.ownsRow B 22 1 v7 (rs.length + 1) (vs ++ [.slice (some ⟨gc, 0, none⟩) l.length cc])) (hloc : v7.ownBlock = v.ownBlock ∨ v7.ownBlock = some (w5.alloc ob).heap.size)
    (t6 : Tn (fun k => k = bj) w7 W6) (hj6 : W6.heap[bj]? = some (.cells #[.pointer (some ⟨bd, 0, none⟩), v7, .int .i64 (↑en + (8 + ↑l.length)), .bool false] 72 (0, 0)))
    (hD3 : ∃ D', Dk w3 bd bs bn bm n st' nw' N' D') (T3 : Tn (fun k => k = bs ∨ k = bn ∨ k = bm) w w3) (B5 : Below w3.heap.size w3 w5) (BC : Blk w5 gc l) (hgc : w3.heap.size ≤ gc) (hgb : ¬ bad gc ∧ B ≤ gc) (hcc : l.length ≤ cc) (h1 : 1 ≤ l.length) (h2 : l.length ≤ 1024) :
    ∃ v', Jb W6 bj bd v' (en + (8 + l.length)) false ∧ Rs W6 B bad v' (rs ++ [l]) ∧ (∃ D', Dk W6 bd bs bn bm n st' nw' N' D') ∧ Tn (fun k => k = bs ∨ k = bn ∨ k = bm ∨ k = bj ∨ v.ownBlock = some k) w W6 ∧ (v'.ownBlock = v.ownBlock ∨ ∃ k, v'.ownBlock = some k ∧ w.heap.size ≤ k) := by
  have t : Tn (fun k => v.ownBlock = some k ∨ k = bj) w5 W6 := ((jn_tn hg).mono (fun k _ q => Or.inl q)).trans (t6.mono (fun k _ q => Or.inr q))
  have hSt : ∀ k, (v.ownBlock = some k ∨ k = bj) → (∃ c, w5.heap[k]? = some (.cells c 22 (0, 0))) ∨ (∃ c, w5.heap[k]? = some (.cells c 72 (0, 0))) := fun k q => by
    rcases q with q | rfl
    · exact Or.inl (own_typed ho5 q)
    · exact Or.inr ⟨_, hJ5⟩
  have hS5 : ∀ k c, (v.ownBlock = some k ∨ k = bj) → w5.heap[k]? ≠ some (.cells c 5 (0, 0)) := fun k c q h => by
    rcases hSt k q with ⟨c', h'⟩ | ⟨c', h'⟩
    · exact ty_ne h h' (by decide)
    · exact ty_ne h h' (by decide)
  obtain ⟨D', hD⟩ := hD3
  have hD5 := hD.below B5
  have hD6 : Dk W6 bd bs bn bm n st' nw' N' D' := by
    refine hD5.turn t (fun q => ?_) (fun q => ?_) (fun q => ?_) (fun q => ?_)
    · rcases hSt bd q with ⟨c', h'⟩ | ⟨c', h'⟩
      · exact ty_ne hD5.hd h' (by decide)
      · exact ty_ne hD5.hd h' (by decide)
    · obtain ⟨r, hr⟩ := hD5.hs; exact hS5 bs _ q hr
    · obtain ⟨r, hr⟩ := hD5.hn; exact hS5 bn _ q hr
    · obtain ⟨es, cl, hm⟩ := hD5.map
      rcases hSt bm q with ⟨c', h'⟩ | ⟨c', h'⟩ <;> (rw [hm] at h'; cases h')
  have hs5 : w.heap.size ≤ w5.heap.size := Nat.le_trans T3.size B5.size
  refine ⟨v7, ?_, ?_, ⟨D', hD6⟩, ?_, ?_⟩
  · unfold Jb
    rw [hj6]
    simp
  · refine Rs.snoc hvs t (fun k c q h => hS5 k c q h) ?_ ?_ BC.src0 hgb.2 hgb.1 h1 h2 hcc (by obtain ⟨r, hr⟩ := BC; exact ⟨_, hr⟩)
    · have := ho5.1; omega
    · exact own_turn ho7 t6 (fun k hk q => by
        obtain ⟨c1, e1⟩ := own_typed ho7 hk
        have e2 := jn_keep hJ5 ho5 hg
        rw [q] at e1
        exact ty_ne e1 e2 (by decide))
  · exact ((T3.mono (fun k _ q => by rcases q with q | q | q; exact Or.inl q; exact Or.inr (Or.inl q); exact Or.inr (Or.inr (Or.inl q)))).trans (Tn.of_below B5)).trans (t.mono (fun k _ q => by rcases q with q | q; exact Or.inr (Or.inr (Or.inr (Or.inr q))); exact Or.inr (Or.inr (Or.inr (Or.inl q)))))
  · rcases hloc with q | q
    · exact Or.inl q
    · exact Or.inr ⟨_, q, Nat.le_trans hs5 (by simp)⟩
set_option maxHeartbeats 1000000 in
set_option maxRecDepth 100000 in
theorem ja_ok {bad : Nat → Prop} {w : World} {B bj bd bs bn bm n en : Nat} {v : Value} {rs : List (List Int)} {st nw : List Int} {N : Nat} {D : DataW Unit} (hJ : Jb w bj bd v en false) (hR : Rs w B bad v rs) (b1 : bad bs) (b2 : bad bn) (bf : ∀ k, bad k → k < w.heap.size) (hB : B ≤ w.heap.size) (h : Dk w bd bs bn bm n st nw N D) (hn : n ≤ 65536) (ad : Addr) (l : List Int) (cap : Nat) (hs : Src w ad l) (hb : ad.block ≠ bs ∧ ad.block ≠ bn ∧ ad.block ≠ bm) (h1 : 1 ≤ l.length) (h2 : l.length ≤ 1024) (h3 : en + 8 + l.length ≤ n) (hN : N + l.length + 8 < 4294967296) (hrl : rs.length ≤ 65536) :
    Calls Try.prog 24 #[.pointer (some ⟨bj, 0, none⟩), .slice (some ad) l.length cap] w fun e w' => e = .returned .nilIface ∧ ∃ v', Jb w' bj bd v' (en + (8 + l.length)) false ∧ Rs w' B bad v' (rs ++ [l]) ∧ (∃ D', Dk w' bd bs bn bm n (splice (splice nw (en + 8) l) en (hdl ↑l.length)) (splice (splice nw (en + 8) l) en (hdl ↑l.length)) (N + l.length + 8) D') ∧ Tn (fun k => k = bs ∨ k = bn ∨ k = bm ∨ k = bj ∨ v.ownBlock = some k) w w' ∧ (v'.ownBlock = v.ownBlock ∨ ∃ k, v'.ownBlock = some k ∧ w.heap.size ≤ k) := by
  have hm0 : jmay n en l.length = none := by unfold jmay jfree; rw [if_neg (by omega), if_neg (by omega)]
  have MY := Aside0.mk (jp_may hJ h hn (by omega) (some ad) l.length cap (by omega))
  rw [hm0] at MY
  have HJ := Aside0.mk hJ
  have HR := Aside0.mk hR
  have HD := Aside0.mk h
  have HS := Aside0.mk hs
  have HAD := Aside0.mk hb
  have BF := Aside0.mk bf
  clear hJ hR h hs hb hm0 bf
  go_enter Try.func24, Try.ntmps24
  go_wp2_with fail
  refine MY.out.mono ?_
  rintro e w2 ⟨rfl, hb⟩
  have HJ2 := Aside0.mk (HJ.out.below hb)
  have HR2 := Aside0.mk (HR.out.below hb)
  have HD2 := Aside0.mk (HD.out.below hb)
  have HS2 := Aside0.mk (HS.out.below hb)
  have B2 := Aside0.mk hb
  clear hb
  unfold cer
  go_wp2_with fail
  refine (jp_stages HJ2.out HD2.out hn ad l cap HS2.out HAD.out h1 h2 h3 hN).mono ?_
  rintro e w3 ⟨rfl, hD3, t3⟩
  have HD3 := Aside0.mk hD3
  have HJ3 := Aside0.mk (HJ2.out.disk HD2.out t3)
  have HR3 : Aside0 (Rs w3 B bad v rs) := ⟨rs_disk HR2.out b1 b2 HD2.out t3⟩
  have HS3 := Aside0.mk (HS2.out.turn t3 (fun q => by have := HAD.out; rcases q with q | q | q; exact this.1 q; exact this.2.1 q; exact this.2.2 q))
  have T3 := Aside0.mk ((Tn.of_below B2.out).trans t3)
  clear hD3 t3
  obtain ⟨q0, q1, q2, q3, f1, f2, f3⟩ := jn_cells HJ3.out
  go_wp2_with fail
  refine start_ (n := 12) (S := fun w' => w'.cell? ⟨bj, 1, none⟩ = some v) (ds := [11]) #[false, false, false, false, false, false, false, false, false, false, false, false] (by kernel_rfl) rfl rfl q1 (fun hHeld => ?_)
  have B4 := Aside0.mk (below_drew1 (Below.refl w3.heap.size w3))
  have HJ4 := Aside0.mk (HJ3.out.below B4.out)
  have HS4 := Aside0.mk (HS3.out.below B4.out)
  have HL := Aside0.mk (show w.heap.size ≤ w3.drew.heap.size ∧ B ≤ w3.drew.heap.size from ⟨T3.out.size, Nat.le_trans hB T3.out.size⟩)
  generalize w3.drew = wd at hHeld B4 HJ4 HS4 HL ⊢
  clear q0 q1 q2 q3 f1 f2 f3
  refine pure_ (i := 0) (N := some 19) (v := ?_) (a' := ?_) #[true, false, false, false, false, false, false, false, false, false, false, false] rfl rfl (by kernel_rfl) (fun _ _ _ h => h) (Or.inl ⟨by rfl, ?_⟩) ?_ ?_
  rotate_left
  · intro w'
    go_simp
    with_reducible rfl
  rotate_left
  · simp only [Act.put, List.setIfInBounds_toArray, List.set_cons_zero, List.set_cons_succ, i64_w, i32_w]
    rfl
  refine pure_ (i := 1) (N := some 20) (v := ?_) (a' := ?_) #[true, true, false, false, false, false, false, false, false, false, false, false] rfl rfl (by kernel_rfl) (fun _ _ _ h => h) (Or.inl ⟨by rfl, ?_⟩) ?_ ?_
  rotate_left
  · intro w'
    go_simp
    with_reducible rfl
  rotate_left
  · simp only [Act.put, List.setIfInBounds_toArray, List.set_cons_zero, List.set_cons_succ, i64_w, i32_w]
    rfl
  refine pure_ (i := 2) (N := some 21) (v := ?_) (a' := ?_) #[true, true, true, false, false, false, false, false, false, false, false, false] rfl rfl (by kernel_rfl) (fun _ _ _ h => h) (Or.inl ⟨by rfl, ?_⟩) ?_ ?_
  rotate_left
  · intro w'
    go_simp
    with_reducible rfl
  rotate_left
  · simp only [Act.put, List.setIfInBounds_toArray, List.set_cons_zero, List.set_cons_succ, i64_w, i32_w]
    rfl
  refine pure_ (i := 3) (N := some 22) (v := ?_) (a' := ?_) #[true, true, true, true, false, false, false, false, false, false, false, false] rfl rfl (by kernel_rfl) (fun _ _ _ h => h) (Or.inl ⟨by rfl, ?_⟩) ?_ ?_
  rotate_left
  · intro w'
    go_simp
    with_reducible rfl
  rotate_left
  · simp only [Act.put, List.setIfInBounds_toArray, List.set_cons_zero, List.set_cons_succ, i64_w, i32_w]
    rfl
  refine take_ (i := 4) (N := some 23) (v := ?_) (a' := ?_) #[true, true, true, true, true, false, false, false, false, false, false, false] rfl rfl (by kernel_rfl) (fun _ _ _ h => h) (Or.inl ⟨by rfl, ?_⟩) hHeld ?_ ?_
  rotate_left
  · rintro w' s0
    go_simp
    with_reducible rfl
  rotate_left
  · simp only [Act.put, List.setIfInBounds_toArray, List.set_cons_zero, List.set_cons_succ, i64_w, i32_w]
    rfl
  refine pure_ (i := 5) (N := some 24) (v := ?_) (a' := ?_) #[true, true, true, true, true, true, false, false, false, false, false, false] rfl rfl (by kernel_rfl) (fun _ _ _ h => h) (Or.inl ⟨by rfl, ?_⟩) ?_ ?_
  rotate_left
  · intro w'
    go_simp
    with_reducible rfl
  rotate_left
  · simp only [Act.put, List.setIfInBounds_toArray, List.set_cons_zero, List.set_cons_succ, i64_w, i32_w]
    rfl
  refine one_ (i := 6) (N := some 25) #[true, true, true, true, true, true, true, false, false, false, false, false] rfl rfl (by kernel_rfl) (by decide) (fun K hK => ?_)
  refine goes_ Try.func41 (by kernel_rfl) rfl #[.slice (some ad) l.length cap] (by rfl) rfl rfl (by simp only [List.map_toArray, List.map_cons, List.map_nil]; first | done | rfl) ?_
  refine (jd_clone ad cap l (by omega) (by omega) HS4.out).mono ?_
  rintro e w5 ⟨gc, cc, rfl, hgc, hbc, hcc, hb5⟩
  refine ⟨_, rfl, ?_⟩
  have BC := Aside0.mk hbc
  have GC := Aside0.mk (And.intro hgc hcc)
  have HJ5 := Aside0.mk (HJ4.out.below hb5)
  have B5 := Aside0.mk (below_step B4.out hb5)
  have HR5 := (HR3.out.below B5.out)
  obtain ⟨vs, ho5, hvs5⟩ := HR5
  have HO5 := Aside0.mk ho5
  have HVS5 := Aside0.mk hvs5
  have HZ5 := Aside0.mk hb5.size
  refine hK.out _ _ (jn_cells HJ5.out).2.1 (fun hHeld => ?_)
  clear hK K hbc hb5 hgc hcc ho5 hvs5
  refine norm_ (a' := ?_) ?_ ?_
  rotate_left
  · show Act.put _ (some 25) _ = _
    simp only [Act.put, List.setIfInBounds_toArray, List.set_cons_zero, List.set_cons_succ, i64_w, i32_w]
    rfl
  refine one_ (i := 7) (N := some 26) #[true, true, true, true, true, true, true, true, false, false, false, false] rfl rfl (by kernel_rfl) (by decide) (fun K hK => ?_)
  refine value_ (w1 := ?_) (v := ?_) (by rfl) rfl ?_ ?_
  rotate_left 2
  · go_simp
    constructor
    · rfl
    · rfl
  refine hK.out _ _ (jn_cells (HJ5.out.below (below_alloc (Below.refl _ _) _))).2.1 (fun hHeld => ?_)
  clear hK K
  refine norm_ (a' := ?_) ?_ ?_
  rotate_left
  · show Act.put _ (some 26) _ = _
    simp only [Act.put, List.setIfInBounds_toArray, List.set_cons_zero, List.set_cons_succ, i64_w, i32_w]
    rfl
  refine one_ (i := 8) (N := some 27) #[true, true, true, true, true, true, true, true, true, false, false, false] rfl rfl (by kernel_rfl) (by decide) (fun K hK => ?_)
  obtain ⟨i0, hi, hz0, hz1, hz2⟩ := info_parts jo_info
  obtain ⟨v7, w7, hr, hown7, hgrow7, -, hloc7⟩ := run_append_own_at (P := Try.prog) (w5.alloc (.cells #[.slice (some ⟨gc, 0, none⟩) l.length cc] 22)) B 44 44 22 i0 (.slice none 0 0) 1 24 Try.underlying44 hi hz0 hz1 hz2 rfl (by decide) v rs.length vs (HO5.out.alloc _) ⟨w5.heap.size, 0, none⟩ 1 1 [.slice (some ⟨gc, 0, none⟩) l.length cc] rfl (jo_one _ _) (by simp [Value.oneCell']) (by unfold maxLen; omega) (by omega) (by have h1 := HL.out.2; have h2 := HZ5.out; simp; omega)
  obtain ⟨A7, c7, rfl⟩ := own_slice hown7
  have OO := Aside0.mk hown7
  have GG := Aside0.mk hgrow7
  have LL := Aside0.mk hloc7
  clear hown7 hgrow7 hloc7 hi hz0 hz1 hz2
  refine append_value (by rfl) rfl rfl rfl rfl hr ?_
  clear hr
  have HJ7 : Aside0 (Jb w7 bj bd v en false) := ⟨jn_keep HJ5.out HO5.out GG.out⟩
  refine hK.out _ _ (jn_cells HJ7.out).2.1 (fun hHeld => ?_)
  clear hK K
  refine norm_ (a' := ?_) ?_ ?_
  rotate_left
  · show Act.put _ (some 27) _ = _
    simp only [Act.put, List.setIfInBounds_toArray, List.set_cons_zero, List.set_cons_succ, i64_w, i32_w]
    rfl
  refine pure_ (i := 9) (N := some 28) (v := ?_) (a' := ?_) #[true, true, true, true, true, true, true, true, true, true, false, false] rfl rfl (by kernel_rfl) (fun _ _ _ h => h) (Or.inl ⟨by rfl, ?_⟩) ?_ ?_
  rotate_left
  · intro w'
    go_simp
    with_reducible rfl
  rotate_left
  · simp only [Act.put, List.setIfInBounds_toArray, List.set_cons_zero, List.set_cons_succ, i64_w, i32_w]
    rfl
  refine pure_ (i := 10) (N := some 29) (v := ?_) (a' := ?_) #[true, true, true, true, true, true, true, true, true, true, true, false] rfl rfl (by kernel_rfl) (fun _ _ _ h => h) (Or.inl ⟨by rfl, ?_⟩) ?_ ?_
  rotate_left
  · intro w'
    go_simp
    with_reducible rfl
  rotate_left
  · simp only [Act.put, List.setIfInBounds_toArray, List.set_cons_zero, List.set_cons_succ, i64_w, i32_w]
    rfl
  obtain ⟨q0, q1, q2, q3, f1, f2, f3⟩ := jn_cells HJ7.out
  refine last_ (i := 11) (N := none) #[true, true, true, true, true, true, true, true, true, true, true, true] rfl rfl (by kernel_rfl) (by decide) (fun K hK => ?_)
  go_simp
  refine hK.out _ _ ?_
  clear hK K
  refine done_ (by kernel_rfl) ?_
  clear hHeld
  go_wp2_with fail
  go_ret
  generalize hW6 : ((w7.setCell ⟨bj, 1, none⟩ _).setCell ⟨bj, 2, none⟩ _) = W6
  obtain ⟨hj6, t6⟩ := jn_set HJ7.out _ _ W6 hW6.symm
  exact ⟨rfl, ja_end HJ5.out HO5.out HVS5.out GG.out OO.out LL.out t6 hj6 HD3.out T3.out B5.out BC.out (by have h1 := GC.out.1; have h2 := B4.out.size; omega) ⟨fun q => by have h1 := HL.out; have h2 := GC.out.1; have h3 := BF.out _ q; omega, by have h1 := HL.out; have h2 := GC.out.1; omega⟩ GC.out.2.1 h1 h2⟩


end Go.Proofs.Ythblaehmdailhaa.PJournalStays
