import Derived.Test.YtcdhnglefldalaaBK
namespace Go.Proofs.Ytcdhnglefldalaa.PBook
open Go.RowKit Go.Proofs.YtcdhnglefldalaaW.PrintWords Go.Proofs.YtcdhnglefldalaaW.PrintLast Go.Proofs.YtcdhnglefldalaaW.PrintMore
set_option linter.unusedVariables false
set_option linter.unusedSimpArgs false
open Go.Proofs.Ytcdhnglefldalaa.PBookPlays (S32 S34 S40 k32 k34 k40 z32 z34 z40 rd_T34 at_T34 rd_T40 at_T40 errEqI errEqL errEqR errNeI errNeL errNeR cents_Add.f cents_Add.calls errW errW_none errW_some)
open Go.Maps
attribute [local go_sem high] errEqI errNeI errEqL errNeL errEqR errNeR bk_eqs
theorem adds_append (a b : List S34) (k : S32) : adds (a ++ b) k = adds a k + adds b k := by
  induction a with
  | nil => simp [adds]
  | cons x t ih => show _ + adds (t ++ b) k = _ + adds t k + adds b k; rw [ih]; omega
theorem adds_take {l : List S34} {i : Nat} {x : S34} (hx : l[i]? = some x) (k : S32) : adds (l.take (i + 1)) k = adds (l.take i) k + (if x.f0 = k then x.f1 else 0) := by
  rw [List.take_add_one, hx, Option.toList_some, adds_append]
  simp [adds]
theorem adds_none {l : List S34} {k : S32} (h : ¬ ∃ x ∈ l, x.f0 = k) : adds l k = 0 := by
  induction l with
  | nil => rfl
  | cons x t ih =>
    show (if x.f0 = k then x.f1 else 0) + adds t k = 0
    rw [if_neg (fun e => h ⟨x, List.mem_cons_self, e⟩), ih (fun ⟨y, hy, e⟩ => h ⟨y, List.mem_cons_of_mem _ hy, e⟩)]
    rfl
/-- What may come to the accounts of lines, one behind the other. -/
def okP (f : S32 → Int) (l : List S34) (n : Nat) : Prop := ∀ (j : Nat) (x : S34), j < n → l[j]? = some x → W64 (f x.f0 + adds (l.take (j + 1)) x.f0) ∧ x.f1 ≠ -9223372036854775808
/-- Why an entry isn't posted. -/
def pbad (n : Nat) (f : S32 → Int) (l : List S34) (c : Int) : Prop := (4096 ≤ n ∧ c = 8) ∨ (n < 4096 ∧ shapedB l = false ∧ c = 1) ∨ (n < 4096 ∧ shapedB l = true ∧ (amts l).sum ≠ 0 ∧ c = 2) ∨ (n < 4096 ∧ shapedB l = true ∧ (amts l).sum = 0 ∧ ¬ okP f l l.length ∧ c = 3)
def pgood (n : Nat) (f : S32 → Int) (l : List S34) : Prop := n < 4096 ∧ shapedB l = true ∧ (amts l).sum = 0 ∧ okP f l l.length
theorem p_cases (n : Nat) (f : S32 → Int) (l : List S34) : pgood n f l ∨ ∃ c, pbad n f l c := by
  by_cases a : 4096 ≤ n
  · exact Or.inr ⟨8, Or.inl ⟨a, rfl⟩⟩
  · cases b : shapedB l with
    | false => exact Or.inr ⟨1, Or.inr (Or.inl ⟨by omega, b, rfl⟩)⟩
    | true =>
      by_cases c : (amts l).sum = 0
      · by_cases d : okP f l l.length
        · exact Or.inl ⟨by omega, b, c, d⟩
        · exact Or.inr ⟨3, Or.inr (Or.inr (Or.inr ⟨by omega, b, c, d, rfl⟩))⟩
      · exact Or.inr ⟨2, Or.inr (Or.inr (Or.inl ⟨by omega, b, c, rfl⟩))⟩
theorem p_not {n : Nat} {f : S32 → Int} {l : List S34} {c : Int} (h : pgood n f l) (k : pbad n f l c) : False := by
  obtain ⟨a, b, d, e⟩ := h
  rcases k with ⟨q, -⟩ | ⟨-, q, -⟩ | ⟨-, -, q, -⟩ | ⟨-, -, -, q, -⟩
  · omega
  · rw [b] at q; cases q
  · exact q d
  · exact q e
theorem shaped_len {l : List S34} (h : shapedB l = true) : 1 ≤ l.length ∧ l.length ≤ 32 := by
  unfold shapedB at h
  simp only [Bool.and_eq_true, decide_eq_true_eq] at h
  exact h.1
theorem bp_add (a b : Int) (ha : W64 a) (hb : W64 b) (w : World) : Calls Try.prog 28 #[.int .i64 a, .int .i64 b] w fun e w' => (W64 (a + b) ∧ e = .returned (.tuple #[.int .i64 (a + b), .nilIface]) ∨ ¬ W64 (a + b) ∧ e = .returned (.tuple #[.int .i64 0, .iface 42 (.int .i64 3)])) ∧ Below w.heap.size w w' := by
  have h := addf a b ha hb
  by_cases c : -9223372036854775808 ≤ a + b ∧ a + b ≤ 9223372036854775807
  · rw [if_pos c] at h
    exact (cents_Add.calls a b _ _ w h).mono fun e w' ⟨h1, h2⟩ => ⟨Or.inl ⟨c, h1⟩, h2.below⟩
  · rw [if_neg c] at h
    exact (cents_Add.calls a b _ _ w h).mono fun e w' ⟨h1, h2⟩ => ⟨Or.inr ⟨c, h1⟩, h2.below⟩
/-- The map that comes next, after some lines. -/
def Nx (w : World) (bn i : Nat) (f : S32 → Int) (l : List S34) : Prop := ∃ D, OM w bn i D ∧ ∀ a, WA a → Go.Maps.has D (ak a) = decide (∃ x ∈ l.take i, x.f0 = a) ∧ (Go.Maps.has D (ak a) = true → gI D (ak a) = f a + adds (l.take i) a)
theorem Nx.below {w W : World} {bn i : Nat} {f : S32 → Int} {l : List S34} (h : Nx w bn i f l) (t : Below w.heap.size w W) : Nx W bn i f l := by
  obtain ⟨D, h1, h2⟩ := h
  exact ⟨D, om_turn (S := fun _ => False) h1 (Tn.of_below t) id, h2⟩
theorem Nx.step {w w' : World} {bn i : Nat} {f : S32 → Int} {l : List S34} {x : S34} {D : DataW Unit} (hD : OM w bn i D) (h : ∀ a, WA a → Go.Maps.has D (ak a) = decide (∃ x ∈ l.take i, x.f0 = a) ∧ (Go.Maps.has D (ak a) = true → gI D (ak a) = f a + adds (l.take i) a)) (hx : l[i]? = some x) (hw : WA x.f0) (s : Int) (hs : s = f x.f0 + adds (l.take (i + 1)) x.f0) (h' : OM w' bn (i + 1) (D.put (ak x.f0) (.lit (.int .i64 s)))) : Nx w' bn (i + 1) f l := by
  refine ⟨_, h', fun a ha => ?_⟩
  have hI := hD.isMap
  have e1 : l.take (i + 1) = l.take i ++ [x] := by rw [List.take_add_one, hx]; rfl
  by_cases q : x.f0 = a
  · subst q
    have g1 := has_same hI x.f0 s
    have g2 := gI_same hI x.f0 s
    unfold li at g1 g2
    refine ⟨?_, fun _ => ?_⟩
    · rw [g1, e1]
      exact (decide_eq_true ⟨x, by simp, rfl⟩).symm
    · rw [g2, hs]
  · have g1 := has_other (D := D) hw ha q s
    have g2 := gI_other (D := D) hw ha q s
    unfold li at g1 g2
    obtain ⟨h1, h2⟩ := h a ha
    refine ⟨?_, fun p => ?_⟩
    · rw [g1, h1, e1]
      refine decide_eq_decide.2 ⟨fun ⟨y, hy, e⟩ => ⟨y, List.mem_append_left _ hy, e⟩, fun ⟨y, hy, e⟩ => ?_⟩
      rcases List.mem_append.1 hy with hy | hy
      · exact ⟨y, hy, e⟩
      · rw [List.mem_singleton] at hy
        exact absurd (hy ▸ e) q
    · rw [g1] at p
      rw [g2, h2 p, adds_take hx, if_neg q]
      omega
theorem bl_cell {w W : World} {b o : Nat} {v : Value} (h : w.cell? ⟨b, o, none⟩ = some v) (t : Below w.heap.size w W) : W.cell? ⟨b, o, none⟩ = some v := (t.cell (p := ⟨b, o, none⟩) (World.block_lt_of_cell? w _ h)).trans h
theorem gI_copy {D' Dd Ds : DataW Unit} {f : S32 → Int} {l : List S34} (hC : Cp D' Dd Ds) (hd : ∀ a, WA a → gI Dd (ak a) = f a) (h : ∀ a, WA a → Go.Maps.has Ds (ak a) = decide (∃ x ∈ l.take l.length, x.f0 = a) ∧ (Go.Maps.has Ds (ak a) = true → gI Ds (ak a) = f a + adds (l.take l.length) a)) (a : S32) (ha : WA a) : gI D' (ak a) = f a + adds l a := by
  obtain ⟨h1, h2⟩ := h a ha
  rw [List.take_length] at h1 h2
  have e := hC.2 (ak a) (.lit (.int .i64 0))
  cases q : Go.Maps.has Ds (ak a) with
  | true =>
    rw [q, if_pos rfl] at e
    rw [← h2 q]
    unfold gI
    rw [e]
  | false =>
    rw [q, if_neg (by decide)] at e
    rw [q] at h1
    rw [adds_none (of_decide_eq_false h1.symm), ← hd a ha]
    unfold gI
    rw [e]
    simp
/-- Books of which the map has turned. -/
structure Bj (w : World) (B bb bm : Nat) (ev : Value) (R : List En) : Prop where
  book : w.heap[bb]? = some (.cells #[ev, .map (some bm)] 63 (0, 0))
  row : w.ownsRow B 71 2 ev R.length (ecs R)
  ent : ∀ x ∈ R, Eg w B x
theorem Bj.turn {S : Nat → Prop} {w W : World} {B bb bm : Nat} {ev : Value} {R : List En} (h : Bj w B bb bm ev R) (t : Tn S w W) (hn : ∀ k, S k → ∃ es cl, w.heap[k]? = some (.map es cl)) : Bj W B bb bm ev R := by
  refine ⟨t.blk h.book (fun q => ?_), own_turn h.row t (fun k hk q => ?_), fun x hx => (h.ent x hx).turn t (fun k cs q e => ?_)⟩
  · obtain ⟨es, cl, e⟩ := hn _ q
    have := h.book
    rw [e] at this; cases this
  · obtain ⟨es, cl, e⟩ := hn _ q
    obtain ⟨cs, h4⟩ := own_typed h.row hk
    rw [e] at h4; cases h4
  · obtain ⟨es, cl, e'⟩ := hn _ q
    rw [e'] at e; cases e
theorem Bj.below {w W : World} {B bb bm : Nat} {ev : Value} {R : List En} (h : Bj w B bb bm ev R) (t : Below w.heap.size w W) : Bj W B bb bm ev R := h.turn (S := fun _ => False) (Tn.of_below t) (fun _ q => q.elim)
theorem Bj.cells {w : World} {B bb bm : Nat} {ev : Value} {R : List En} (h : Bj w B bb bm ev R) : w.cell? ⟨bb, 0, none⟩ = some ev ∧ w.cell? ⟨bb, 1, none⟩ = some (.map (some bm)) ∧ w.frozen? ⟨bb, 0, none⟩ = false :=
  ⟨(blk_cell h.book 0).trans rfl, (blk_cell h.book 1).trans rfl, blk_frozen h.book 0⟩
theorem Lr.map {w W : World} {A : Option Addr} {l : List S34} {bm : Nat} (h : Lr w A l) (t : Tn (fun k => k = bm) w W) (hn : ∃ es cl, w.heap[bm]? = some (.map es cl)) : Lr W A l := by
  obtain ⟨es, cl, e⟩ := hn
  intro j x hx
  obtain ⟨ad, e1, a, b, c⟩ := h j x hx
  have k : ¬ ad.block = bm := fun q => by
    have hb : (ad.add (j * 3)).block = bm := by rw [ad_block]; exact q
    unfold World.cell? at a
    rw [hb, e] at a
    cases a
  exact ⟨ad, e1, t.cell a (by rw [ad_block]; exact k), t.cell b (by show ¬ (ad.add (j * 3)).block = bm; rw [ad_block]; exact k), t.cell c (by show ¬ (ad.add (j * 3)).block = bm; rw [ad_block]; exact k)⟩
theorem b_info71 : (Try.prog.info? 71).map (fun i => (i.zero, i.size, i.bytes)) = some (some (.agg #[.slice none 0 0, .bool false]), 2, 32) := by kernel_rfl
theorem bp_two (w : World) (a b : Value) : ∀ j u, [a, b][j]? = some u → (w.alloc (.cells #[a, b] 71)).cell? ((⟨w.heap.size, 0, none⟩ : Addr).add j) = some u := by
  intro j u hu
  match j, hu with
  | 0, hu =>
    rw [ad_add]
    exact ((blk_cell (blk_new w (.cells #[a, b] 71)) 0).trans rfl).trans hu
  | 1, hu =>
    rw [ad_add]
    exact ((blk_cell (blk_new w (.cells #[a, b] 71)) 1).trans rfl).trans hu
  | k + 2, hu => cases hu
theorem tot_snoc (R : List En) (x : En) (a : S32) : tot (R ++ [x]) a = tot R a + adds x.l a := by simp [tot]
theorem bp_keep {w w5 : World} {B bb bm : Nat} {v : Value} {R : List En} {ob : Obj} (hJ : Bj w B bb bm v R) (h : (w.alloc ob).grownBy w5 v.ownBlock) : w5.heap[bb]? = some (.cells #[v, .map (some bm)] 63 (0, 0)) :=
  (jn_tn h).blk hJ.book (fun q => by
    obtain ⟨c, hc⟩ := own_typed hJ.row q
    exact ty_ne hJ.book hc (by decide))
theorem bk_cells {w : World} {bb bm : Nat} {v : Value} (h : w.heap[bb]? = some (.cells #[v, .map (some bm)] 63 (0, 0))) : w.cell? ⟨bb, 0, none⟩ = some v ∧ w.cell? ⟨bb, 1, none⟩ = some (.map (some bm)) ∧ w.frozen? ⟨bb, 0, none⟩ = false :=
  ⟨(blk_cell h 0).trans rfl, (blk_cell h 1).trans rfl, blk_frozen h 0⟩
theorem pe_end {w5 w7 : World} {B bb bm gc cc : Nat} {v v7 : Value} {R : List En} {l : List S34} {ob : Obj}
    (hJ : Bj w5 B bb bm v R) (h1 : B ≤ bb) (h2 : B ≤ bm) (hgood : ∀ x ∈ R, WLs x.l ∧ shapedB x.l = true ∧ (amts x.l).sum = 0 ∧ ∀ y ∈ x.l, y.f1 ≠ -9223372036854775808) (hl : WLs l ∧ shapedB l = true ∧ (amts l).sum = 0 ∧ ∀ y ∈ l, y.f1 ≠ -9223372036854775808) (hfew : R.length < 4096)
    (hm : ∃ N D, OM w5 bm N D ∧ N ≤ 32 * (R.length + 1) ∧ ∀ a, WA a → gI D (ak a) = tot R a + adds l a) (hLB : LB w5 gc l) (hgB : B ≤ gc)
    (hg : (w5.alloc ob).grownBy w7 v.ownBlock) (ho7 : w7.ownsRow B 71 2 v7 (R.length + 1) (ecs R ++ [.slice (some ⟨gc, 0, none⟩) l.length cc, .bool false])) (hloc : v7.ownBlock = v.ownBlock ∨ v7.ownBlock = some (w5.alloc ob).heap.size) :
    Bk (w7.setCell ⟨bb, 0, none⟩ v7) B bb bm v7 (R ++ [⟨gc, cc, l, false⟩]) ∧ (∀ k, v7.ownBlock = some k → v.ownBlock = some k ∨ w5.heap.size ≤ k) ∧ Tn (own bb bm v) w5 (w7.setCell ⟨bb, 0, none⟩ v7) := by
  have t6 := tn_set w7 bb 0 v7
  have t : Tn (fun k => v.ownBlock = some k ∨ k = bb) w5 (w7.setCell ⟨bb, 0, none⟩ v7) := ((jn_tn hg).mono (fun k _ q => Or.inl q)).trans (t6.mono (fun k _ q => Or.inr q))
  have hSt : ∀ k, (v.ownBlock = some k ∨ k = bb) → (∃ c, w5.heap[k]? = some (.cells c 71 (0, 0))) ∨ (∃ c, w5.heap[k]? = some (.cells c 63 (0, 0))) := fun k q => by
    rcases q with q | rfl
    · exact Or.inl (own_typed hJ.row q)
    · exact Or.inr ⟨_, hJ.book⟩
  have hS5 : ∀ k c, (v.ownBlock = some k ∨ k = bb) → w5.heap[k]? ≠ some (.cells c 34 (0, 0)) := fun k c q h => by
    rcases hSt k q with ⟨c', h'⟩ | ⟨c', h'⟩
    · exact ty_ne h h' (by decide)
    · exact ty_ne h h' (by decide)
  have hk := bp_keep hJ hg
  have sl := shaped_len hl.2.1
  refine ⟨⟨h1, h2, blk_put hk 0 v7 rfl, ?_, fun x hx => ?_, fun x hx => ?_, by simp; omega, ?_⟩, fun k hk => ?_, t.mono (fun k _ q => q.elim (fun q => Or.inr (Or.inr q)) (fun q => Or.inl q))⟩
  · rw [List.length_append, ecs_append]
    refine own_turn ho7 t6 (fun k hk' q => ?_)
    obtain ⟨c1, e1⟩ := own_typed ho7 hk'
    rw [q] at e1
    exact ty_ne e1 hk (by decide)
  · rcases List.mem_append.1 hx with hx | hx
    · exact (hJ.ent x hx).turn t hS5
    · rw [List.mem_singleton] at hx
      subst hx
      exact Eg.turn (x := ⟨gc, cc, l, false⟩) ⟨hgB, hLB, sl.1, sl.2⟩ t hS5
  · rcases List.mem_append.1 hx with hx | hx
    · exact hgood x hx
    · rw [List.mem_singleton] at hx
      subst hx
      exact hl
  · obtain ⟨N, D, m1, m2, m3⟩ := hm
    refine ⟨N, D, om_turn m1 t (fun q => ?_), by simp; omega, fun a ha => by rw [m3 a ha, tot_snoc]⟩
    obtain ⟨es, cl, e⟩ := om_blk m1
    rcases hSt bm q with ⟨c', h'⟩ | ⟨c', h'⟩ <;> (rw [e] at h'; cases h')
  · rcases hloc with q | q
    · exact Or.inl (q ▸ hk)
    · rw [q] at hk
      cases hk
      exact Or.inr (by simp)
theorem append_value {ops : Array Oper} {Q : Exit → Act → World → Prop} {oi : Oper} {N : Option Tmp} {a : Act} {w w' : World} {s x : Operand} {t : TypeId} {v xs v' : Value} {K : Act → World → Prop} (hw : Region.wanted oi (yielded ops a.tmps) = true) (hN : oi.dst = N)
    (ho : oi.op = .call { callee := .builtin .append, args := #[s, x], argTypes := #[t, t] }) (hs : a.eval s = v) (hx : a.eval x = xs) (hr : (Builtin.append_ #[t, t] oi.type #[v, xs]).run Try.prog w = .ok v' w')
    (h : K (a.put N v') w') : if Region.wanted oi (yielded ops a.tmps) = true then Oper.wp Try.prog oi a w K Q else K (a.put N undef) w := by
  refine value_ hw hN ?_ h
  unfold execOp
  simp only [ho, resolve, invoke, builtin, Sem.run_bind, Sem.run_pure, Result.andThen_ok, List.map_toArray, List.map_cons, List.map_nil, hs, hx, hr]
set_option maxRecDepth 100000 in
set_option maxHeartbeats 4000000 in
theorem bp_post {w : World} {B bb bm : Nat} {ev : Value} {R : List En} (h : Bk w B bb bm ev R) (hB : B ≤ w.heap.size) (A : Option Addr) (cap : Nat) (l : List S34) (hs : Lr w A l) (hl : l.length ≤ 65536) (hw : WLs l) : Calls Try.prog 11 #[.pointer (some ⟨bb, 0, none⟩), .slice A l.length cap] w fun e w' => (∃ c, pbad R.length (tot R) l c ∧ e = .returned (.tuple #[.int .i64 0, .iface 42 (.int .i64 c)]) ∧ Below w.heap.size w w') ∨ (pgood R.length (tot R) l ∧ e = .returned (.tuple #[.int .i64 ↑R.length, .nilIface]) ∧ ∃ ev' g c, Bk w' B bb bm ev' (R ++ [⟨g, c, l, false⟩]) ∧ (∀ k, ev'.ownBlock = some k → ev.ownBlock = some k ∨ w.heap.size ≤ k) ∧ w.heap.size ≤ g ∧ Tn (own bb bm ev) w w') := by
  have HB := Aside0.mk h
  have HS := Aside0.mk hs
  have HW := Aside0.mk hw
  obtain ⟨c0, c1, c2⟩ := h.cells
  obtain ⟨A0, cc, rfl⟩ := own_sl h.row
  have SH := fun W (t : Below w.heap.size w W) => bb_shaped A cap l W (hs.below t) (by omega)
  have ZR := Aside0.mk (fun W (t : Below w.heap.size w W) => bz_zero A cap l W (hs.below t) hl (fun x hx => (hw x hx).2))
  have SH := Aside0.mk SH
  have hmm := @run_makeMap Try.prog
  clear h hs hw
  by_cases p : 4096 ≤ R.length
  · have p1 : (↑R.length : Int) ≥ 4096 := by omega
    go_enter Try.func11, Try.ntmps11
    go_wp2_with fail
    go_ret2
    exact Or.inl ⟨8, Or.inl ⟨p, rfl⟩, rfl, Below.refl _ _⟩
  have p1 : ¬ (↑R.length : Int) ≥ 4096 := by omega
  go_enter Try.func11, Try.ntmps11
  go_wp2_with fail
  refine (SH.out w (Below.refl _ _)).mono ?_
  rintro e w1 ⟨rfl, hb1⟩
  have HB1 := Aside0.mk hb1
  have HK1 := Aside0.mk (HB.out.below hb1)
  clear c0 c1 c2 hb1
  obtain ⟨c0, c1, c2⟩ := HK1.out.cells
  cases qs : shapedB l with
  | false =>
    have QS := Aside0.mk qs
    clear qs
    go_wp2_with fail
    go_ret2
    exact Or.inl ⟨1, Or.inr (Or.inl ⟨by omega, QS.out, rfl⟩), rfl, HB1.out⟩
  | true =>
  have QS := Aside0.mk qs
  clear qs
  have QL := shaped_len QS.out
  go_wp2_with fail
  refine (ZR.out w1 HB1.out).mono ?_
  rintro e w2 ⟨rfl, hb2⟩
  have HB2 := Aside0.mk (below_step HB1.out hb2)
  clear c0 c1 c2 hb2
  have HK2 := Aside0.mk (HB.out.below HB2.out)
  obtain ⟨c0, c1, c2⟩ := HK2.out.cells
  by_cases qz : (amts l).sum = 0
  rotate_left
  · rw [decide_eq_false qz]
    have QZ := Aside0.mk qz
    clear qz
    go_wp2_with fail
    go_ret2
    exact Or.inl ⟨2, Or.inr (Or.inr (Or.inl ⟨by omega, QS.out, QZ.out, rfl⟩)), rfl, HB2.out⟩
  rw [decide_eq_true qz]
  have QZ := Aside0.mk qz
  clear qz
  go_wp2_with fail
  have hn0 := w2.heap.size
  clear c0 c1 c2
  go_loopw [34] (fun v34 wr => ∃ i : Nat, v34 = .int .i64 ↑i ∧ Aside0 (i ≤ l.length ∧ Nx wr w2.heap.size i (tot R) l ∧ okP (tot R) l i ∧ Below w.heap.size w wr)) (fun v34 _ => (l.length - intOf v34).toNat)
  case atStart =>
    refine ⟨0, rfl, ⟨Nat.zero_le _, ⟨_, World.ownsMap_made w2 Try.prog 32 (plainElem Try.prog 2), fun a ha => ⟨by simp; rfl, fun q => by cases q⟩⟩, fun j x hj => by omega, below_alloc HB2.out _⟩⟩
  case round =>
    obtain ⟨i, rfl, HI⟩ := hrel
    by_cases ci : i < l.length
    · have ci2 : (↑i : Int) < ↑l.length := by omega
      have i0 : (0 : Int) ≤ ↑i := by omega
      obtain ⟨x, hx⟩ : ∃ x, l[i]? = some x := ⟨l[i], List.getElem?_eq_getElem ci⟩
      obtain ⟨ad, rfl, c0, c1, c2⟩ := (HS.out.below HI.out.2.2.2) i x hx
      have HX := Aside0.mk hx
      have hwx := HW.out x (List.mem_of_getElem? hx)
      obtain ⟨D, hD, hN⟩ := HI.out.2.1
      have HD := Aside0.mk hD
      have HN := Aside0.mk hN
      have HWX := Aside0.mk hwx
      obtain ⟨W1, hW1⟩ : ∃ W1, wr.alloc (Obj.cells #[.int .i64 x.f0.f0, .int .i64 x.f0.f1, .int .i64 x.f1] 34) = W1 := ⟨_, rfl⟩
      have hBW : Below wr.heap.size wr W1 := by rw [← hW1]; exact below_alloc (Below.refl _ _) _
      have HD1 := Aside0.mk (om_turn (S := fun _ => False) hD (Tn.of_below hBW) id)
      have LK := lk_ok HD1.out x.f0 hwx.1
      have hWs : W1.heap.size = wr.heap.size + 1 := by rw [← hW1]; exact Array.size_push _
      have k0 : W1.cell? ⟨wr.heap.size, 0, none⟩ = some (.int .i64 x.f0.f0) := by rw [← hW1]; exact (blk_cell (blk_new wr _) 0).trans rfl
      have k1 : W1.cell? ⟨wr.heap.size, 1, none⟩ = some (.int .i64 x.f0.f1) := by rw [← hW1]; exact (blk_cell (blk_new wr _) 1).trans rfl
      have k2 : W1.cell? ⟨wr.heap.size, 2, none⟩ = some (.int .i64 x.f1) := by rw [← hW1]; exact (blk_cell (blk_new wr _) 2).trans rfl
      have HBW := Aside0.mk (below_step HI.out.2.2.2 hBW)
      have HBWW := Aside0.mk hBW
      obtain ⟨hn1, hn2⟩ := hN x.f0 hwx.1
      have HN2 := Aside0.mk hn2
      have HWs := Aside0.mk hWs
      obtain ⟨gv, hgv⟩ : ∃ gv, gI D (ak x.f0) = gv := ⟨_, rfl⟩
      have HGV := Aside0.mk hgv
      rw [hgv] at LK
      have HH := Aside0.mk hn1
      clear hn2 hn1 hx hwx hD hN hBW hWs hgv
      cases hq : Go.Maps.has D (ak x.f0) with
      | true =>
        rw [hq] at LK
        have HQ := Aside0.mk hq
        clear hq
        have HVAL : Aside0 (gv = tot R x.f0 + adds (l.take i) x.f0) := ⟨by rw [← HGV.out]; exact HN2.out HQ.out⟩
        go_wp2_with fail
        refine (bp_add _ x.f1 (HGV.out ▸ gI_wf HD1.out x.f0 HWX.out.1) HWX.out.2 W1).mono ?_
        rintro e w4 ⟨hv, hb4⟩
        have k0 := bl_cell k0 hb4
        have k1 := bl_cell k1 hb4
        have k2 := bl_cell k2 hb4
        have HB4 := Aside0.mk (below_step HBW.out hb4)
        have HD4 := Aside0.mk (om_turn (S := fun _ => False) HD1.out (Tn.of_below hb4) id)
        have E1 := adds_take HX.out x.f0
        rw [if_pos rfl] at E1
        have E2 : gv + x.f1 = tot R x.f0 + adds (l.take (i + 1)) x.f0 := by rw [E1]; have := HVAL.out; omega
        have HE2 := Aside0.mk E2
        clear E1 E2 hb4
        rcases hv with ⟨hv, rfl⟩ | ⟨hv, rfl⟩
        · have HV := Aside0.mk hv
          clear hv
          by_cases hm : x.f1 = -9223372036854775808
          · go_wp2_with fail
            go_ret2
            refine Or.inl ⟨3, Or.inr (Or.inr (Or.inr ⟨by omega, QS.out, QZ.out, fun q => ?_, rfl⟩)), rfl, HB4.out⟩
            exact (q i x ci HX.out).2 hm
          · obtain ⟨sv, hsv⟩ : ∃ sv, gv + x.f1 = sv := ⟨_, rfl⟩
            have HSV := Aside0.mk hsv
            rw [hsv]
            clear hsv
            have hwsv : W64 sv := HSV.out ▸ HV.out
            have HWSV := Aside0.mk hwsv
            clear hwsv
            have QL2 := QL
            go_wp2_with (at_mapUpdate; refine wpList_mapUpdate_own _ rfl _ _ _ 60 rfl 32 2 by_law Try.underlying60 (plainElem Try.prog 2) w2.heap.size i _ rfl HD4.out (by unfold maxLen; omega) _ _ _ rfl rfl (ak_key x.f0 HWX.out.1) _ _ (plainElem_int Try.underlying2 (wf64 HWSV.out)) ?_; intro w5 hD5 hg5)
            refine ⟨⟨i + 1, rfl, ⟨by omega, Nx.step HD4.out HN.out HX.out HWX.out.1 sv (by rw [← HSV.out]; exact HE2.out) hD5, fun j y hj hy => ?_, HB4.out.grown hg5 HB4.out.size (fun k hk => by cases hk; exact HB2.out.size)⟩⟩, by simp [intOf]; omega⟩
            rcases Nat.lt_or_ge j i with q | q
            · exact HI.out.2.2.1 j y q hy
            · obtain rfl : j = i := by omega
              rw [HX.out] at hy
              cases hy
              exact ⟨by rw [← HE2.out]; exact HV.out, hm⟩
        · have HV := Aside0.mk hv
          clear hv
          go_wp2_with fail
          go_ret2
          refine Or.inl ⟨3, Or.inr (Or.inr (Or.inr ⟨by omega, QS.out, QZ.out, fun q => ?_, rfl⟩)), rfl, HB4.out⟩
          exact HV.out (by rw [HE2.out]; exact (q i x ci HX.out).1)
      | false =>
        rw [hq] at LK
        have HQ := Aside0.mk hq
        clear hq
        have HVAL : Aside0 (tot R x.f0 = tot R x.f0 + adds (l.take i) x.f0) := ⟨by
          have e := HH.out
          rw [HQ.out] at e
          rw [adds_none (of_decide_eq_false e.symm)]
          omega⟩
        go_wp2_with fail
        have HKW := Aside0.mk (HB.out.below HBW.out)
        obtain ⟨b0, b1, b2⟩ := HKW.out.cells
        obtain ⟨N0, D0, m1, m2, m3⟩ := HKW.out.map
        have HM0 := Aside0.mk (m3 x.f0 HWX.out.1)
        have HTW : Aside0 (W64 (tot R x.f0)) := ⟨HM0.out ▸ gI_wf m1 x.f0 HWX.out.1⟩
        have hL : ∀ p : GWrld W1, (Instr.lookup 60 (.map (some bm)) (.agg #[.int .i64 x.f0.f0, .int .i64 x.f0.f1]) false).run Try.prog p.w' = .ok (.int .i64 (tot R x.f0)) p.w' := fun p => HM0.out ▸ lk_int (om_turn (S := fun _ => False) m1 (Tn.of_below p.b) id) x.f0 HWX.out.1
        have d1 := fun p : GWrld W1 => bb_cell b1 p
        have d2 := fun p : GWrld W1 => bb_cell k0 p
        have d3 := fun p : GWrld W1 => bb_cell k1 p
        clear b0 b1 b2 m1 m2 m3
        refine gb_region (by kernel_rfl) (by kernel_rfl) ?_
        repeat (go_big_quiet_step (fail))
        refine wpQuiet_nil ?_
        intro _ hw'
        obtain ⟨gq, hw''⟩ := hw'
        subst hw''
        have k0 := bl_cell k0 gq.b
        have k1 := bl_cell k1 gq.b
        have k2 := bl_cell k2 gq.b
        have HDQ := Aside0.mk (om_turn (S := fun _ => False) HD1.out (Tn.of_below gq.b) id)
        clear hL d1 d2 d3 LK
        go_wp2_with fail
        refine (bp_add _ x.f1 HTW.out HWX.out.2 gq.w').mono ?_
        rintro e w4 ⟨hv, hb4⟩
        have k0 := bl_cell k0 hb4
        have k1 := bl_cell k1 hb4
        have k2 := bl_cell k2 hb4
        have HB4 := Aside0.mk (below_step (below_step HBW.out gq.b) hb4)
        have HD4 := Aside0.mk (om_turn (S := fun _ => False) HDQ.out (Tn.of_below hb4) id)
        have E1 := adds_take HX.out x.f0
        rw [if_pos rfl] at E1
        have E2 : tot R x.f0 + x.f1 = tot R x.f0 + adds (l.take (i + 1)) x.f0 := by rw [E1]; have := HVAL.out; omega
        have HE2 := Aside0.mk E2
        clear E1 E2 hb4
        rcases hv with ⟨hv, rfl⟩ | ⟨hv, rfl⟩
        · have HV := Aside0.mk hv
          clear hv
          by_cases hm : x.f1 = -9223372036854775808
          · go_wp2_with fail
            go_ret2
            refine Or.inl ⟨3, Or.inr (Or.inr (Or.inr ⟨by omega, QS.out, QZ.out, fun q => ?_, rfl⟩)), rfl, HB4.out⟩
            exact (q i x ci HX.out).2 hm
          · obtain ⟨sv, hsv⟩ : ∃ sv, tot R x.f0 + x.f1 = sv := ⟨_, rfl⟩
            have HSV := Aside0.mk hsv
            rw [hsv]
            clear hsv
            have hwsv : W64 sv := HSV.out ▸ HV.out
            have HWSV := Aside0.mk hwsv
            clear hwsv
            have QL2 := QL
            go_wp2_with (at_mapUpdate; refine wpList_mapUpdate_own _ rfl _ _ _ 60 rfl 32 2 by_law Try.underlying60 (plainElem Try.prog 2) w2.heap.size i _ rfl HD4.out (by unfold maxLen; omega) _ _ _ rfl rfl (ak_key x.f0 HWX.out.1) _ _ (plainElem_int Try.underlying2 (wf64 HWSV.out)) ?_; intro w5 hD5 hg5)
            refine ⟨⟨i + 1, rfl, ⟨by omega, Nx.step HD4.out HN.out HX.out HWX.out.1 sv (by rw [← HSV.out]; exact HE2.out) hD5, fun j y hj hy => ?_, HB4.out.grown hg5 HB4.out.size (fun k hk => by cases hk; exact HB2.out.size)⟩⟩, by simp [intOf]; omega⟩
            rcases Nat.lt_or_ge j i with q | q
            · exact HI.out.2.2.1 j y q hy
            · obtain rfl : j = i := by omega
              rw [HX.out] at hy
              cases hy
              exact ⟨by rw [← HE2.out]; exact HV.out, hm⟩
        · have HV := Aside0.mk hv
          clear hv
          go_wp2_with fail
          go_ret2
          refine Or.inl ⟨3, Or.inr (Or.inr (Or.inr ⟨by omega, QS.out, QZ.out, fun q => ?_, rfl⟩)), rfl, HB4.out⟩
          exact HV.out (by rw [HE2.out]; exact (q i x ci HX.out).1)
    · have ci2 : ¬ (↑i : Int) < ↑l.length := by omega
      have HKR := Aside0.mk (HB.out.below HI.out.2.2.2)
      obtain ⟨c0, c1, c2⟩ := HKR.out.cells
      go_wp2_with fail
      have HIo := HI.out
      obtain rfl : i = l.length := by omega
      obtain ⟨D2, hD2, hN2⟩ := HIo.2.1
      obtain ⟨N1, D1, m1, m2, m3⟩ := HKR.out.map
      have hsz := hD2.size_le
      have hfew := HKR.out.few
      have hbl := HK2.out.own_lt bm (Or.inr (Or.inl rfl))
      have CP := Aside0.mk (bm_copy bm w2.heap.size N1 l.length D1 D2 wr m1 hD2 (by omega) (by unfold maxLen; omega))
      have HM := Aside0.mk (And.intro (om_blk m1) (And.intro (show N1 + Go.Maps.size D2 ≤ 32 * (R.length + 1) by omega) (fun D' hC => gI_copy (D' := D') hC m3 hN2)))
      clear m1 m2 m3 hD2 hN2 hsz hfew hbl HIo
      refine CP.out.mono ?_
      rintro e w5 ⟨rfl, ⟨D', hD', hC⟩, hg⟩
      have HT5 := Aside0.mk ((Tn.of_grown hg).mono (S' := fun k => k = bm) (fun k _ hk => (Option.some.inj hk).symm))
      have HD5 := Aside0.mk hD'
      have HG5 := Aside0.mk (HM.out.2.2 D' hC)
      have HJ5 := Aside0.mk (Bj.turn (S := fun k => k = bm) ⟨HKR.out.book, HKR.out.row, HKR.out.ent⟩ HT5.out (fun k hk => hk ▸ HM.out.1))
      have HBS := Aside0.mk (Nat.le_trans hB (Nat.le_trans HI.out.2.2.2.size HT5.out.size))
      have HS5 := Aside0.mk ((HS.out.below HI.out.2.2.2).map HT5.out HM.out.1)
      clear c0 c1 c2 hg hD' hC CP
      obtain ⟨c0, c1, c2⟩ := HJ5.out.cells
      go_wp2_with fail
      refine start_ (n := 13) (S := fun w' => w'.cell? ⟨bb, 0, none⟩ = some (.slice A0 R.length cc)) (ds := [12]) #[false, false, false, false, false, false, false, false, false, false, false, false, false] (by kernel_rfl) rfl rfl c0 (fun hHeld => ?_)
      have B4 := Aside0.mk (below_drew1 (Below.refl w5.heap.size w5))
      have HJ4 := Aside0.mk (HJ5.out.below B4.out)
      have HS4 := Aside0.mk (HS5.out.below B4.out)
      generalize w5.drew = wd at hHeld B4 HJ4 HS4 ⊢
      clear c0 c1 c2
      refine pure_ (i := 0) (N := some 80) (v := ?_) (a' := ?_) #[true, false, false, false, false, false, false, false, false, false, false, false, false] rfl rfl (by kernel_rfl) (fun _ _ _ h => h) (Or.inl ⟨by rfl, ?_⟩) ?_ ?_
      rotate_left
      · intro w'
        go_simp
        with_reducible rfl
      rotate_left
      · simp only [Act.put, List.setIfInBounds_toArray, List.set_cons_zero, List.set_cons_succ, i64_w, i32_w]
        rfl
      refine pure_ (i := 1) (N := some 81) (v := ?_) (a' := ?_) #[true, true, false, false, false, false, false, false, false, false, false, false, false] rfl rfl (by kernel_rfl) (fun _ _ _ h => h) (Or.inl ⟨by rfl, ?_⟩) ?_ ?_
      rotate_left
      · intro w'
        go_simp
        with_reducible rfl
      rotate_left
      · simp only [Act.put, List.setIfInBounds_toArray, List.set_cons_zero, List.set_cons_succ, i64_w, i32_w]
        rfl
      refine pure_ (i := 2) (N := some 82) (v := ?_) (a' := ?_) #[true, true, true, false, false, false, false, false, false, false, false, false, false] rfl rfl (by kernel_rfl) (fun _ _ _ h => h) (Or.inl ⟨by rfl, ?_⟩) ?_ ?_
      rotate_left
      · intro w'
        go_simp
        with_reducible rfl
      rotate_left
      · simp only [Act.put, List.setIfInBounds_toArray, List.set_cons_zero, List.set_cons_succ, i64_w, i32_w]
        rfl
      refine pure_ (i := 3) (N := some 83) (v := ?_) (a' := ?_) #[true, true, true, true, false, false, false, false, false, false, false, false, false] rfl rfl (by kernel_rfl) (fun _ _ _ h => h) (Or.inl ⟨by rfl, ?_⟩) ?_ ?_
      rotate_left
      · intro w'
        go_simp
        with_reducible rfl
      rotate_left
      · simp only [Act.put, List.setIfInBounds_toArray, List.set_cons_zero, List.set_cons_succ, i64_w, i32_w]
        rfl
      refine pure_ (i := 5) (N := some 85) (v := ?_) (a' := ?_) #[true, true, true, true, false, true, false, false, false, false, false, false, false] rfl rfl (by kernel_rfl) (fun _ _ _ h => h) (Or.inl ⟨by rfl, ?_⟩) ?_ ?_
      rotate_left
      · intro w'
        go_simp
        with_reducible rfl
      rotate_left
      · simp only [Act.put, List.setIfInBounds_toArray, List.set_cons_zero, List.set_cons_succ, i64_w, i32_w]
        rfl
      refine take_ (i := 4) (N := some 84) (v := ?_) (a' := ?_) #[true, true, true, true, true, true, false, false, false, false, false, false, false] rfl rfl (by kernel_rfl) (fun _ _ _ h => h) (Or.inl ⟨by rfl, ?_⟩) hHeld ?_ ?_
      rotate_left
      · rintro w' s0
        go_simp
        with_reducible rfl
      rotate_left
      · simp only [Act.put, List.setIfInBounds_toArray, List.set_cons_zero, List.set_cons_succ, i64_w, i32_w]
        rfl
      refine one_ (i := 6) (N := some 86) #[true, true, true, true, true, true, true, false, false, false, false, false, false] rfl rfl (by kernel_rfl) (by decide) (fun K hK => ?_)
      refine goes_ Try.func30 (by kernel_rfl) rfl #[.slice A l.length cap] (by rfl) rfl rfl (by simp only [List.map_toArray, List.map_cons, List.map_nil]; first | done | rfl) ?_
      obtain ⟨ad, rfl, -⟩ := HS4.out.lt (by omega)
      refine (bk_clone ad cap l (by omega) (by omega) HS4.out).mono ?_
      rintro e w6 ⟨gc, cl, rfl, hgc, hbc, hcc, -, hb5⟩
      refine ⟨_, rfl, ?_⟩
      have BC := Aside0.mk hbc
      have GC := Aside0.mk hgc
      have HJ6 := Aside0.mk (HJ4.out.below hb5)
      have B6 := Aside0.mk (below_step B4.out hb5)
      have HZ6 := Aside0.mk hb5.size
      refine hK.out _ _ HJ6.out.cells.1 (fun hHeld => ?_)
      clear hK K hbc hb5 hgc hcc
      refine norm_ (a' := ?_) ?_ ?_
      rotate_left
      · show Act.put _ (some 86) _ = _
        simp only [Act.put, List.setIfInBounds_toArray, List.set_cons_zero, List.set_cons_succ, i64_w, i32_w]
        rfl
      refine pure_ (i := 7) (N := some 87) (v := ?_) (a' := ?_) #[true, true, true, true, true, true, true, true, false, false, false, false, false] rfl rfl (by kernel_rfl) (fun _ _ _ h => h) (Or.inl ⟨by rfl, ?_⟩) ?_ ?_
      rotate_left
      · intro w'
        go_simp
        with_reducible rfl
      rotate_left
      · simp only [Act.put, List.setIfInBounds_toArray, List.set_cons_zero, List.set_cons_succ, i64_w, i32_w]
        rfl
      refine one_ (i := 8) (N := some 88) #[true, true, true, true, true, true, true, true, true, false, false, false, false] rfl rfl (by kernel_rfl) (by decide) (fun K hK => ?_)
      refine value_ (w1 := ?_) (v := ?_) (by rfl) rfl ?_ ?_
      rotate_left 2
      · go_simp
        constructor
        · rfl
        · rfl
      refine hK.out _ _ (HJ6.out.below (below_alloc (Below.refl _ _) _)).cells.1 (fun hHeld => ?_)
      clear hK K
      refine norm_ (a' := ?_) ?_ ?_
      rotate_left
      · show Act.put _ (some 88) _ = _
        simp only [Act.put, List.setIfInBounds_toArray, List.set_cons_zero, List.set_cons_succ, i64_w, i32_w]
        rfl
      refine one_ (i := 9) (N := some 89) #[true, true, true, true, true, true, true, true, true, true, false, false, false] rfl rfl (by kernel_rfl) (by decide) (fun K hK => ?_)
      obtain ⟨i0, hi, hz0, hz1, hz2⟩ := info_parts b_info71
      obtain ⟨v7, w7, hr, hown7, hgrow7, -, hloc7⟩ := run_append_own_at (P := Try.prog) (w6.alloc (.cells #[.slice (some ⟨gc, 0, none⟩) l.length cl, .bool false] 71)) B 61 61 71 i0 (.agg #[.slice none 0 0, .bool false]) 2 32 Try.underlying61 hi hz0 hz1 hz2 rfl (by decide) (.slice A0 R.length cc) R.length (ecs R) (HJ6.out.row.alloc _) ⟨w6.heap.size, 0, none⟩ 1 1 [.slice (some ⟨gc, 0, none⟩) l.length cl, .bool false] rfl (bp_two _ _ _) (by simp [Value.oneCell']) (by unfold maxLen; omega) (by omega) (by have h1 := HBS.out; have h2 := B6.out.size; simp; omega)
      obtain ⟨A7, c7, rfl⟩ := own_sl hown7
      have OO := Aside0.mk hown7
      have GG := Aside0.mk hgrow7
      have LL := Aside0.mk hloc7
      clear hown7 hgrow7 hloc7 hi hz0 hz1 hz2
      refine append_value (by rfl) rfl rfl rfl rfl hr ?_
      clear hr
      have HJ7 := Aside0.mk (bp_keep HJ6.out GG.out)
      refine hK.out _ _ (bk_cells HJ7.out).1 (fun hHeld => ?_)
      clear hK K
      refine norm_ (a' := ?_) ?_ ?_
      rotate_left
      · show Act.put _ (some 89) _ = _
        simp only [Act.put, List.setIfInBounds_toArray, List.set_cons_zero, List.set_cons_succ, i64_w, i32_w]
        rfl
      refine pure_ (i := 10) (N := some 90) (v := ?_) (a' := ?_) #[true, true, true, true, true, true, true, true, true, true, true, false, false] rfl rfl (by kernel_rfl) (fun _ _ _ h => h) (Or.inl ⟨by rfl, ?_⟩) ?_ ?_
      rotate_left
      · intro w'
        go_simp
        with_reducible rfl
      rotate_left
      · simp only [Act.put, List.setIfInBounds_toArray, List.set_cons_zero, List.set_cons_succ, i64_w, i32_w]
        rfl
      refine pure_ (i := 11) (N := some 91) (v := ?_) (a' := ?_) #[true, true, true, true, true, true, true, true, true, true, true, true, false] rfl rfl (by kernel_rfl) (fun _ _ _ h => h) (Or.inl ⟨by rfl, ?_⟩) ?_ ?_
      rotate_left
      · intro w'
        go_simp
        with_reducible rfl
      rotate_left
      · simp only [Act.put, List.setIfInBounds_toArray, List.set_cons_zero, List.set_cons_succ, i64_w, i32_w]
        rfl
      obtain ⟨c0, c1, c2⟩ := bk_cells HJ7.out
      refine last_ (i := 12) (N := none) #[true, true, true, true, true, true, true, true, true, true, true, true, true] rfl rfl (by kernel_rfl) (by decide) (fun K hK => ?_)
      go_simp
      refine hK.out _ _ ?_
      clear hK K
      refine done_ (by kernel_rfl) ?_
      clear hHeld
      have hbk := HB2.out.size
      have END := pe_end (bb := bb) (bm := bm) (gc := gc) (cc := cl) (l := l) HJ6.out HB.out.hb HB.out.hm HB.out.good ⟨HW.out, QS.out, QZ.out, fun y hy => by
        obtain ⟨j, hj⟩ := List.mem_iff_getElem?.1 hy
        exact (HI.out.2.2.1 j y (by have := (List.getElem?_eq_some_iff.1 hj).1; omega) hj).2⟩ (by omega) ⟨_, D', om_turn (S := fun _ => False) (HD5.out.mono HM.out.2.1) (Tn.of_below B6.out) id, Nat.le_refl _, HG5.out⟩ BC.out (by have h1 := GC.out; have h2 := B4.out.size; have h3 := HBS.out; omega) GG.out OO.out LL.out
      have HEND := Aside0.mk END
      clear END
      obtain ⟨W7, hW7⟩ : ∃ W7, w7.setCell ⟨bb, 0, none⟩ (.slice A7 (R.length + 1) c7) = W7 := ⟨_, rfl⟩
      rw [hW7] at HEND
      have hcs := HEND.out.1.cells
      obtain ⟨c0, c1, c2⟩ := hcs
      go_wp2_with fail
      go_ret2
      refine Or.inr ⟨⟨by omega, QS.out, QZ.out, HI.out.2.2.1⟩, ?_, _, gc, cl, HEND.out.1, ?_, ?_, ?_⟩
      · rfl
      · intro k hk
        rcases HEND.out.2.1 k hk with q | q
        · exact Or.inl q
        · exact Or.inr (by have h1 := B6.out.size; have h2 := HT5.out.size; have h3 := HI.out.2.2.2.size; omega)
      · have h1 := GC.out; have h2 := B4.out.size; have h3 := HI.out.2.2.2.size; have h4 := HT5.out.size; omega
      · exact (((Tn.of_below HI.out.2.2.2).trans (HT5.out.mono (S' := own bb bm (.slice A0 R.length cc)) (fun k _ q => Or.inr (Or.inl q)))).trans (Tn.of_below B6.out)).trans HEND.out.2.2


end Go.Proofs.Ytcdhnglefldalaa.PBook
