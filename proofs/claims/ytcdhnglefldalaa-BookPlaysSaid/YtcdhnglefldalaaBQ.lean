import Derived.Test.YtcdhnglefldalaaBP
namespace Go.Proofs.Ytcdhnglefldalaa.PBook
open Go.RowKit Go.Proofs.YtcdhnglefldalaaW.PrintWords Go.Proofs.YtcdhnglefldalaaW.PrintLast Go.Proofs.YtcdhnglefldalaaW.PrintMore
set_option linter.unusedVariables false
set_option linter.unusedSimpArgs false
open Go.Proofs.Ytcdhnglefldalaa.PBookPlays (S32 S34 S40 k32 k34 k40 z32 z34 z40 rd_T34 at_T34 rd_T40 at_T40 errEqI errEqL errEqR errNeI errNeL errNeR cents_Add.f cents_Add.calls errW errW_none errW_some)
open Go.Maps
attribute [local go_sem high] errEqI errNeI errEqL errNeL errEqR errNeR bk_eqs
def ng (x : S34) : S34 := ⟨x.f0, -x.f1⟩
def ngs (l : List S34) : List S34 := l.map ng
theorem ngs_len (l : List S34) : (ngs l).length = l.length := List.length_map ..
theorem adds_ngs (l : List S34) (a : S32) : adds (ngs l) a = -adds l a := by
  induction l with
  | nil => rfl
  | cons x t ih =>
    show (if (ng x).f0 = a then (ng x).f1 else 0) + adds (ngs t) a = -((if x.f0 = a then x.f1 else 0) + adds t a)
    rw [ih]
    show (if x.f0 = a then -x.f1 else 0) + _ = _
    split <;> omega
theorem amts_ngs (l : List S34) : (amts (ngs l)).sum = -(amts l).sum := by
  induction l with
  | nil => rfl
  | cons x t ih =>
    show -x.f1 + (amts (ngs t)).sum = -(x.f1 + (amts t).sum)
    rw [ih]
    omega
theorem shaped_ngs (l : List S34) : shapedB (ngs l) = shapedB l := by
  unfold shapedB
  rw [ngs_len]
  congr 2
  induction l with
  | nil => rfl
  | cons x t ih =>
    show (odd1 (ng x) || (ngs t).any odd1) = (odd1 x || t.any odd1)
    rw [ih]
    congr 1
    unfold odd1 lmay ng
    congr 1
    by_cases h : x.f1 = 0
    · rw [h]; rfl
    · rw [beq_eq_false_iff_ne.2 h, beq_eq_false_iff_ne.2 (show ¬ -x.f1 = 0 by omega)]
theorem wls_ngs {l : List S34} (h : WLs l) (hm : ∀ y ∈ l, y.f1 ≠ -9223372036854775808) : WLs (ngs l) := by
  intro y hy
  obtain ⟨x, hx, rfl⟩ := List.mem_map.1 hy
  obtain ⟨a, b⟩ := h x hx
  have := hm x hx
  refine ⟨a, ?_⟩
  unfold W64 at b ⊢
  show _ ≤ -x.f1 ∧ -x.f1 ≤ _
  omega
/-- Of the first lines the signs are turned. -/
def mix (i : Nat) (l : List S34) : List S34 := ngs (l.take i) ++ l.drop i
theorem mix_len (i : Nat) (l : List S34) : (mix i l).length = l.length := by
  unfold mix
  rw [List.length_append, ngs_len, List.length_take, List.length_drop]
  omega
theorem mix_zero (l : List S34) : mix 0 l = l := rfl
theorem mix_all (l : List S34) : mix l.length l = ngs l := by unfold mix; simp
theorem mix_at {i : Nat} {l : List S34} {x : S34} (hx : l[i]? = some x) : (mix i l)[i]? = some x := by
  have hi : i < l.length := (List.getElem?_eq_some_iff.1 hx).1
  have hl : (ngs (l.take i)).length = i := by rw [ngs_len, List.length_take]; omega
  unfold mix
  rw [List.getElem?_append_right (by omega), hl, Nat.sub_self, List.getElem?_drop, Nat.add_zero, hx]
theorem mix_step {i : Nat} {l : List S34} {x : S34} (hx : l[i]? = some x) : mix (i + 1) l = (mix i l).set i (ng x) := by
  have hi : i < l.length := (List.getElem?_eq_some_iff.1 hx).1
  have hl : (ngs (l.take i)).length = i := by rw [ngs_len, List.length_take]; omega
  unfold mix
  rw [List.set_append_right _ _ (by omega), hl, Nat.sub_self, List.take_add_one, hx]
  have hd : l.drop i = x :: l.drop (i + 1) := by
    rw [List.drop_eq_getElem_cons hi]
    congr 1
    have := List.getElem?_eq_getElem hi
    rw [hx] at this
    exact (Option.some.inj this).symm
  rw [hd]
  simp [ngs]
theorem lns_set : ∀ (l : List S34) (j : Nat) (x : S34) (v : Int), l[j]? = some x → (lns l).set (j * 3 + 2) (.int .i64 v) = lns (l.set j ⟨x.f0, v⟩) := by
  intro l
  induction l with
  | nil => intro j x v h; cases h
  | cons a t ih =>
    intro j x v h
    have e : lns (a :: t) = ln a ++ lns t := rfl
    rw [e]
    rcases j with _ | j
    · obtain rfl := Option.some.inj h
      rfl
    · have hl : (ln a).length = 3 := rfl
      rw [List.set_append_right _ _ (by omega), hl, show (j + 1) * 3 + 2 - 3 = j * 3 + 2 by omega, ih j x v (by simpa using h)]
      rfl
theorem LB.set {w : World} {g : Nat} {l : List S34} (h : LB w g l) {j : Nat} {x : S34} (hx : l[j]? = some x) (v : Int) : LB (w.setCell ⟨g, j * 3 + 2, none⟩ (.int .i64 v)) g (l.set j ⟨x.f0, v⟩) := by
  obtain ⟨r, hr⟩ := h
  have hj : j < l.length := (List.getElem?_eq_some_iff.1 hx).1
  have hl := lns_len l
  refine ⟨r, blk_put hr _ _ ?_⟩
  rw [List.setIfInBounds_toArray, List.set_append_left _ _ (by omega), lns_set l j x v hx]
theorem LB.fz {w : World} {g : Nat} {l : List S34} (h : LB w g l) (i : Nat) : w.frozen? ⟨g, i, none⟩ = false := by
  obtain ⟨r, hr⟩ := h
  exact blk_frozen hr i
theorem below_set {n : Nat} {w0 w : World} (h : Below n w0 w) {g i : Nat} (hg : n ≤ g) (v : Value) : Below n w0 (w.setCell ⟨g, i, none⟩ v) :=
  ⟨h.os, h.tape, h.output, by simpa [World.setCell] using h.size, fun k hk => (Below.heap_setCell _ ⟨g, i, none⟩ _ k (by show k ≠ g; omega)).trans (h.block k hk)⟩
theorem negw {x : Int} (h : W64 x) (hm : x ≠ -9223372036854775808) : wrap64 (-x) = -x := by
  unfold W64 at h
  unfold wrap64
  omega
theorem ecs_set : ∀ (R : List En) (j : Nat) (x : En), R[j]? = some x → (ecs R).set (j * 2 + 1) (.bool true) = ecs (R.set j ⟨x.g, x.c, x.l, true⟩) := by
  intro R
  induction R with
  | nil => intro j x h; cases h
  | cons a t ih =>
    intro j x h
    have e : ecs (a :: t) = ec a ++ ecs t := rfl
    rw [e]
    rcases j with _ | j
    · obtain rfl := Option.some.inj h
      rfl
    · have hl : (ec a).length = 2 := rfl
      rw [List.set_append_right _ _ (by omega), hl, show (j + 1) * 2 + 1 - 2 = j * 2 + 1 by omega, ih j x (by simpa using h)]
      rfl
theorem tot_set : ∀ (R : List En) (j : Nat) (x : En) (a : S32), R[j]? = some x → tot (R.set j ⟨x.g, x.c, x.l, true⟩) a = tot R a := by
  intro R
  induction R with
  | nil => intro j x a h; cases h
  | cons y t ih =>
    intro j x a h
    rcases j with _ | j
    · obtain rfl := Option.some.inj h
      rfl
    · have := ih j x a (by simpa using h)
      unfold tot at this ⊢
      simp only [List.set_cons_succ, List.map_cons, List.sum_cons]
      rw [this]
theorem own_row_set {w : World} {B g c : Nat} {R : List En} (h : w.ownsRow B 71 2 (.slice (some ⟨g, 0, none⟩) R.length c) R.length (ecs R)) {j : Nat} {x : En} (hx : R[j]? = some x) :
    (w.setCell ⟨g, j * 2 + 1, none⟩ (.bool true)).ownsRow B 71 2 (.slice (some ⟨g, 0, none⟩) R.length c) R.length (ecs (R.set j ⟨x.g, x.c, x.l, true⟩)) := by
  have hj : j < R.length := (List.getElem?_eq_some_iff.1 hx).1
  obtain ⟨hl, ⟨e, -⟩ | ⟨g', cap, cur, e, hg, hb, hc, hcm, hsz, ht⟩⟩ := h
  · cases e
  · cases e
    refine ⟨by rw [ecs_len, List.length_set], Or.inr ⟨g, c, cur.setIfInBounds (j * 2 + 1) (.bool true), rfl, hg, blk_put hb _ _ rfl, hc, hcm, by simpa using hsz, ?_⟩⟩
    have e2 : (cur.setIfInBounds (j * 2 + 1) (.bool true)).toList = cur.toList.set (j * 2 + 1) (.bool true) := by simp
    rw [e2, ← ecs_set R j x hx, ← ht, List.take_set]
/-- An entry is done from now on. -/
theorem Bk.set {w : World} {B bb bm g c n : Nat} {R : List En} (h : Bk w B bb bm (.slice (some ⟨g, 0, none⟩) n c) R) (hn : n = R.length) {j : Nat} {x : En} (hx : R[j]? = some x) : Bk (w.setCell ⟨g, j * 2 + 1, none⟩ (.bool true)) B bb bm (.slice (some ⟨g, 0, none⟩) n c) (R.set j ⟨x.g, x.c, x.l, true⟩) := by
  subst hn
  have t := tn_set w g (j * 2 + 1) (.bool true)
  obtain ⟨cs, hcs⟩ := own_typed h.row (k := g) rfl
  have hr := own_row_set h.row hx
  have hS : ∀ k c, k = g → w.heap[k]? ≠ some (.cells c 34 (0, 0)) := fun k c q e => by
    rw [q] at e
    exact ty_ne hcs e (by decide)
  obtain ⟨N, D, m1, m2, m3⟩ := h.map
  refine ⟨h.hb, h.hm, t.blk h.book (fun q => ?_), by rw [List.length_set]; exact hr, fun y hy => ?_, fun y hy => ?_, by rw [List.length_set]; exact h.few, N, D, om_turn m1 t (fun q => ?_), by rw [List.length_set]; exact m2, fun a ha => by rw [tot_set R j x a hx]; exact m3 a ha⟩
  · have hb := h.book
    rw [q] at hb
    exact ty_ne hcs hb (by decide)
  · rcases List.mem_or_eq_of_mem_set hy with hy | hy
    · exact (h.ent y hy).turn t hS
    · subst hy
      exact Eg.turn (x := ⟨x.g, x.c, x.l, true⟩) (h.ent x (List.mem_of_getElem? hx)) t hS
  · rcases List.mem_or_eq_of_mem_set hy with hy | hy
    · exact h.good y hy
    · subst hy
      exact h.good x (List.mem_of_getElem? hx)
  · obtain ⟨es, cl, e⟩ := om_blk m1
    rw [q, hcs] at e
    cases e
/-- What Reverse turns last: two entries of a row that is one longer. -/
structure Bs (w : World) (g : Nat) : Prop where
  row : ∃ cs, w.heap[g]? = some (.cells cs 71 (0, 0))
theorem Bs.fz {w : World} {g : Nat} (h : Bs w g) (i : Nat) : w.frozen? ⟨g, i, none⟩ = false := by
  obtain ⟨cs, hr⟩ := h.row
  exact blk_frozen hr i
theorem Bs.set {w : World} {g : Nat} (h : Bs w g) (i : Nat) (v : Value) : Bs (w.setCell ⟨g, i, none⟩ v) g := by
  obtain ⟨cs, hr⟩ := h.row
  exact ⟨_, blk_put hr i v rfl⟩
theorem Bk.bs {w : World} {B bb bm g n c : Nat} {R : List En} (h : Bk w B bb bm (.slice (some ⟨g, 0, none⟩) n c) R) : Bs w g := ⟨own_typed h.row rfl⟩
theorem Bk.cellD {w : World} {B bb bm g n c : Nat} {R : List En} (h : Bk w B bb bm (.slice (some ⟨g, 0, none⟩) n c) R) {j : Nat} {x : En} (hx : R[j]? = some x) : w.cell? ⟨g, j * 2 + 1, none⟩ = some (.bool x.d) := by
  obtain ⟨g', c', e, h0, h1, -⟩ := h.at hx
  cases e
  exact h1
theorem rev_end {R : List En} {n : Nat} {x y y' : En} (hn : n < R.length) : ((R ++ [y]).set n x).set R.length y' = R.set n x ++ [y'] := by
  rw [List.set_append_left _ _ hn, List.set_append_right _ _ (by rw [List.length_set]; exact Nat.le_refl _), List.length_set, Nat.sub_self]
  rfl
set_option maxRecDepth 100000 in
theorem bq_none {w : World} {B bb bm : Nat} {ev : Value} {R : List En} (h : Bk w B bb bm ev R) (n : Int) (hn : n < 0 ∨ (R.length : Int) ≤ n) : Calls Try.prog 17 #[.pointer (some ⟨bb, 0, none⟩), .int .i64 n] w fun e w' => e = .returned (.tuple #[.int .i64 0, .iface 42 (.int .i64 4)]) ∧ Below w.heap.size w w' := by
  obtain ⟨c0, c1, c2⟩ := h.cells
  obtain ⟨A, c, rfl⟩ := own_sl h.row
  clear h
  by_cases p : n < 0
  · go_enter Try.func17, Try.ntmps17
    go_wp2_with fail
    go_ret2
    exact ⟨rfl, Below.refl _ _⟩
  · have q : (R.length : Int) ≤ n := by omega
    have q2 : n ≥ (R.length : Int) := q
    go_enter Try.func17, Try.ntmps17
    go_wp2_with fail
    go_ret2
    exact ⟨rfl, Below.refl _ _⟩
set_option maxRecDepth 100000 in
theorem bq_twice {w : World} {B bb bm : Nat} {ev : Value} {R : List En} (h : Bk w B bb bm ev R) (n : Nat) (x : En) (hx : R[n]? = some x) (hd : x.d = true) : Calls Try.prog 17 #[.pointer (some ⟨bb, 0, none⟩), .int .i64 ↑n] w fun e w' => e = .returned (.tuple #[.int .i64 0, .iface 42 (.int .i64 5)]) ∧ Below w.heap.size w w' := by
  obtain ⟨c0, c1, c2⟩ := h.cells
  obtain ⟨g, c, rfl, d0, d1, -⟩ := h.at hx
  rw [hd] at d1
  have hn : n < R.length := (List.getElem?_eq_some_iff.1 hx).1
  have hn1 : (↑n : Int) < ↑R.length := by omega
  have hn2 : ¬ (↑n : Int) < 0 := by omega
  have hn0 : (0 : Int) ≤ ↑n := by omega
  have hn3 : ¬ (↑n : Int) ≥ ↑R.length := by omega
  clear h d0 hx hd
  go_enter Try.func17, Try.ntmps17
  go_wp2_with fail
  go_ret2
  exact ⟨rfl, Below.refl _ _⟩
set_option maxRecDepth 100000 in
set_option maxHeartbeats 4000000 in
theorem bq_rev {w : World} {B bb bm : Nat} {ev : Value} {R : List En} (h : Bk w B bb bm ev R) (hB : B ≤ w.heap.size) (n : Nat) (x : En) (hx : R[n]? = some x) (hd : x.d = false) : Calls Try.prog 17 #[.pointer (some ⟨bb, 0, none⟩), .int .i64 ↑n] w fun e w' => (∃ c, pbad R.length (tot R) (ngs x.l) c ∧ e = .returned (.tuple #[.int .i64 0, .iface 42 (.int .i64 c)]) ∧ Below w.heap.size w w') ∨ (pgood R.length (tot R) (ngs x.l) ∧ e = .returned (.tuple #[.int .i64 ↑R.length, .nilIface]) ∧ ∃ ev' g c, Bk w' B bb bm ev' (R.set n ⟨x.g, x.c, x.l, true⟩ ++ [⟨g, c, ngs x.l, true⟩]) ∧ (∀ k, ev'.ownBlock = some k → ev.ownBlock = some k ∨ w.heap.size ≤ k) ∧ w.heap.size ≤ g ∧ Tn (own bb bm ev) w w') := by
  have HB := Aside0.mk h
  obtain ⟨c0, c1, c2⟩ := h.cells
  obtain ⟨g, c, rfl, d0, d1, -⟩ := h.at hx
  rw [hd] at d1
  have hn : n < R.length := (List.getElem?_eq_some_iff.1 hx).1
  have hn1 : (↑n : Int) < ↑R.length := by omega
  have hn2 : ¬ (↑n : Int) < 0 := by omega
  have hn0 : (0 : Int) ≤ ↑n := by omega
  have hn3 : ¬ (↑n : Int) ≥ ↑R.length := by omega
  obtain ⟨e1, e2, e3, e4⟩ := h.ent x (List.mem_of_getElem? hx)
  have HG := Aside0.mk (h.good x (List.mem_of_getElem? hx))
  have CL := Aside0.mk (bk_clone ⟨x.g, 0, none⟩ x.c x.l (by omega) (by omega) e2.lr)
  have HX := Aside0.mk hx
  have HXD := Aside0.mk hd
  clear h e2 hx hd
  go_enter Try.func17, Try.ntmps17
  go_wp2_with fail
  refine CL.out.mono ?_
  rintro e w1 ⟨gl, cl, rfl, hgl, hlb, hcl, -, hb1⟩
  have HB1 := Aside0.mk hb1
  have HL1 := Aside0.mk hlb
  have HGL := Aside0.mk (And.intro hgl hcl)
  clear c0 c1 c2 d0 d1 hb1 hlb hgl hcl
  obtain ⟨ll, hll⟩ : ∃ ll, x.l.length = ll := ⟨_, rfl⟩
  have HLL := Aside0.mk hll
  rw [hll] at e3 e4 ⊢
  clear hll
  go_wp2_with fail
  go_loopw [42] (fun v42 wr => ∃ i : Nat, v42 = .int .i64 ↑i ∧ Aside0 (i ≤ ll ∧ LB wr gl (mix i x.l) ∧ Below w.heap.size w wr)) (fun v42 _ => (ll - intOf v42).toNat)
  case atStart => exact ⟨0, rfl, ⟨Nat.zero_le _, by rw [mix_zero]; exact HL1.out, HB1.out⟩⟩
  case round =>
    obtain ⟨i, rfl, HI⟩ := hrel
    by_cases ci : i < ll
    · have ci2 : (↑i : Int) < ↑ll := by omega
      have i0 : (0 : Int) ≤ ↑i := by omega
      obtain ⟨y, hy⟩ : ∃ y, x.l[i]? = some y := ⟨x.l[i]'(by rw [HLL.out]; exact ci), List.getElem?_eq_getElem _⟩
      have HY := Aside0.mk hy
      obtain ⟨-, -, k2⟩ := HI.out.2.1.cells (mix_at hy)
      have fz := HI.out.2.1.fz (i * 3 + 2)
      have nw := negw (HG.out.1 y (List.mem_of_getElem? hy)).2 (HG.out.2.2.2 y (List.mem_of_getElem? hy))
      obtain ⟨ny, hny⟩ : ∃ ny, -y.f1 = ny := ⟨_, rfl⟩
      have HNY := Aside0.mk hny
      rw [hny] at nw
      clear hy
      go_wp2_with fail
      refine ⟨⟨i + 1, rfl, ⟨by omega, ?_, below_set HI.out.2.2 HGL.out.1 _⟩⟩, by simp [intOf]; omega⟩
      rw [mix_step HY.out]
      have := HI.out.2.1.set (mix_at HY.out) ny
      have e : ng y = ⟨y.f0, ny⟩ := by unfold ng; rw [HNY.out]
      rw [e]
      exact this
    · have ci2 : ¬ (↑i : Int) < ↑ll := by omega
      have HIo := HI.out
      obtain rfl : i = ll := by omega
      have hmx := HIo.2.1
      rw [← HLL.out, mix_all] at hmx
      have HMX := Aside0.mk hmx
      have hnl := (ngs_len x.l).trans HLL.out
      have PO := bp_post (HB.out.below HI.out.2.2) (Nat.le_trans hB HI.out.2.2.size) (some ⟨gl, 0, none⟩) cl (ngs x.l) hmx.lr (by rw [hnl]; omega) (wls_ngs HG.out.1 HG.out.2.2.2)
      rw [hnl] at PO
      have PO := Aside0.mk PO
      clear hmx HIo hnl
      go_wp2_with fail
      refine PO.out.mono ?_
      rintro e w2 (⟨cb, hcb, rfl, hb2⟩ | ⟨hgd, rfl, ev', gn, cn, hbk, hev, hgn, ht⟩)
      · have HB2 := Aside0.mk (below_step HI.out.2.2 hb2)
        have HCB := Aside0.mk hcb
        clear hb2 hcb
        go_wp2_with fail
        go_ret2
        exact Or.inl ⟨cb, HCB.out, rfl, HB2.out⟩
      · have HBK := Aside0.mk hbk
        have HGD := Aside0.mk hgd
        have HEV := Aside0.mk hev
        have HGN := Aside0.mk hgn
        have HT := Aside0.mk ht
        obtain ⟨c0, c1, c2⟩ := hbk.cells
        clear hbk hgd hev hgn ht
        obtain ⟨A3, c3, e3v⟩ := own_sl HBK.out.row
        rw [List.length_append, List.length_singleton] at e3v
        subst e3v
        have hx2 : (R ++ [(⟨gn, cn, ngs x.l, false⟩ : En)])[n]? = some x := by rw [List.getElem?_append_left (by omega)]; exact HX.out
        have hx3 : (R ++ [(⟨gn, cn, ngs x.l, false⟩ : En)])[R.length]? = some ⟨gn, cn, ngs x.l, false⟩ := by rw [List.getElem?_append_right (Nat.le_refl _), Nat.sub_self]; rfl
        obtain ⟨g3, c4, e4, d0, d1, cs3, d2, d3⟩ := HBK.out.at hx2
        obtain ⟨g3', c4', e4', b0, b1, -⟩ := HBK.out.at hx3
        have hRL : (R ++ [(⟨gn, cn, ngs x.l, false⟩ : En)]).length = R.length + 1 := by simp
        rw [hRL] at e4 e4'
        cases e4
        cases e4'
        have HRL := Aside0.mk hRL
        clear hRL
        have HX2 := Aside0.mk hx2
        have HX3 := Aside0.mk hx3
        clear d0 d1 b0 b1 d2 d3 hx2 hx3
        go_wp2_with fail
        refine start_ (n := 16) (S := fun w' => w'.cell? ⟨bb, 0, none⟩ = some (.slice (some ⟨g3, 0, none⟩) (R.length + 1) c3)) (ds := [12, 15]) #[false, false, false, false, false, false, false, false, false, false, false, false, false, false, false, false] (by kernel_rfl) rfl rfl c0 (fun hHeld => ?_)
        have B4 := Aside0.mk (below_drew1 (Below.refl w2.heap.size w2))
        have HBK4 := Aside0.mk (HBK.out.below B4.out)
        generalize w2.drew = wd at hHeld B4 HBK4 ⊢
        clear c0 c1 c2
        have hm1 : (↑n : Int) < ↑R.length + 1 := by omega
        have hm2 : (↑R.length : Int) < ↑R.length + 1 := by omega
        have hm3 : (0 : Int) ≤ ↑R.length := by omega
        refine pure_ (i := 0) (N := some 65) (v := ?_) (a' := ?_) #[true, false, false, false, false, false, false, false, false, false, false, false, false, false, false, false] rfl rfl (by kernel_rfl) (fun _ _ _ h => h) (Or.inl ⟨by rfl, ?_⟩) ?_ ?_
        rotate_left
        · intro w'
          go_simp
          with_reducible rfl
        rotate_left
        · simp only [Act.put, List.setIfInBounds_toArray, List.set_cons_zero, List.set_cons_succ, i64_w, i32_w]
          rfl
        refine pure_ (i := 1) (N := some 66) (v := ?_) (a' := ?_) #[true, true, false, false, false, false, false, false, false, false, false, false, false, false, false, false] rfl rfl (by kernel_rfl) (fun _ _ _ h => h) (Or.inl ⟨by rfl, ?_⟩) ?_ ?_
        rotate_left
        · intro w'
          go_simp
          with_reducible rfl
        rotate_left
        · simp only [Act.put, List.setIfInBounds_toArray, List.set_cons_zero, List.set_cons_succ, i64_w, i32_w]
          rfl
        refine pure_ (i := 2) (N := some 67) (v := ?_) (a' := ?_) #[true, true, true, false, false, false, false, false, false, false, false, false, false, false, false, false] rfl rfl (by kernel_rfl) (fun _ _ _ h => h) (Or.inl ⟨by rfl, ?_⟩) ?_ ?_
        rotate_left
        · intro w'
          go_simp
          with_reducible rfl
        rotate_left
        · simp only [Act.put, List.setIfInBounds_toArray, List.set_cons_zero, List.set_cons_succ, i64_w, i32_w]
          rfl
        refine pure_ (i := 4) (N := some 69) (v := ?_) (a' := ?_) #[true, true, true, false, true, false, false, false, false, false, false, false, false, false, false, false] rfl rfl (by kernel_rfl) (fun _ _ _ h => h) (Or.inl ⟨by rfl, ?_⟩) ?_ ?_
        rotate_left
        · intro w'
          go_simp
          with_reducible rfl
        rotate_left
        · simp only [Act.put, List.setIfInBounds_toArray, List.set_cons_zero, List.set_cons_succ, i64_w, i32_w]
          rfl
        refine pure_ (i := 5) (N := some 70) (v := ?_) (a' := ?_) #[true, true, true, false, true, true, false, false, false, false, false, false, false, false, false, false] rfl rfl (by kernel_rfl) (fun _ _ _ h => h) (Or.inl ⟨by rfl, ?_⟩) ?_ ?_
        rotate_left
        · intro w'
          go_simp
          with_reducible rfl
        rotate_left
        · simp only [Act.put, List.setIfInBounds_toArray, List.set_cons_zero, List.set_cons_succ, i64_w, i32_w]
          rfl
        refine pure_ (i := 6) (N := some 71) (v := ?_) (a' := ?_) #[true, true, true, false, true, true, true, false, false, false, false, false, false, false, false, false] rfl rfl (by kernel_rfl) (fun _ _ _ h => h) (Or.inl ⟨by rfl, ?_⟩) ?_ ?_
        rotate_left
        · intro w'
          go_simp
          with_reducible rfl
        rotate_left
        · simp only [Act.put, List.setIfInBounds_toArray, List.set_cons_zero, List.set_cons_succ, i64_w, i32_w]
          rfl
        refine pure_ (i := 7) (N := some 72) (v := ?_) (a' := ?_) #[true, true, true, false, true, true, true, true, false, false, false, false, false, false, false, false] rfl rfl (by kernel_rfl) (fun _ _ _ h => h) (Or.inl ⟨by rfl, ?_⟩) ?_ ?_
        rotate_left
        · intro w'
          go_simp
          with_reducible rfl
        rotate_left
        · simp only [Act.put, List.setIfInBounds_toArray, List.set_cons_zero, List.set_cons_succ, i64_w, i32_w]
          rfl
        refine pure_ (i := 9) (N := some 74) (v := ?_) (a' := ?_) #[true, true, true, false, true, true, true, true, false, true, false, false, false, false, false, false] rfl rfl (by kernel_rfl) (fun _ _ _ h => h) (Or.inl ⟨by rfl, ?_⟩) ?_ ?_
        rotate_left
        · intro w'
          go_simp
          with_reducible rfl
        rotate_left
        · simp only [Act.put, List.setIfInBounds_toArray, List.set_cons_zero, List.set_cons_succ, i64_w, i32_w]
          rfl
        refine take_ (i := 3) (N := some 68) (v := ?_) (a' := ?_) #[true, true, true, true, true, true, true, true, false, true, false, false, false, false, false, false] rfl rfl (by kernel_rfl) (fun _ _ _ h => h) (Or.inl ⟨by rfl, ?_⟩) hHeld ?_ ?_
        rotate_left
        · rintro w' s0
          go_simp
          with_reducible rfl
        rotate_left
        · simp only [Act.put, List.setIfInBounds_toArray, List.set_cons_zero, List.set_cons_succ, i64_w, i32_w]
          rfl
        refine take_ (i := 8) (N := some 73) (v := ?_) (a' := ?_) #[true, true, true, true, true, true, true, true, true, true, false, false, false, false, false, false] rfl rfl (by kernel_rfl) (fun _ _ _ h => h) (Or.inl ⟨by rfl, ?_⟩) hHeld ?_ ?_
        rotate_left
        · rintro w' s0
          go_simp
          with_reducible rfl
        rotate_left
        · simp only [Act.put, List.setIfInBounds_toArray, List.set_cons_zero, List.set_cons_succ, i64_w, i32_w]
          rfl
        refine pure_ (i := 10) (N := some 75) (v := ?_) (a' := ?_) #[true, true, true, true, true, true, true, true, true, true, true, false, false, false, false, false] rfl rfl (by kernel_rfl) (fun _ _ _ h => h) (Or.inl ⟨by rfl, ?_⟩) ?_ ?_
        rotate_left
        · intro w'
          go_simp
          with_reducible rfl
        rotate_left
        · simp only [Act.put, List.setIfInBounds_toArray, List.set_cons_zero, List.set_cons_succ, i64_w, i32_w]
          rfl
        refine pure_ (i := 11) (N := some 76) (v := ?_) (a' := ?_) #[true, true, true, true, true, true, true, true, true, true, true, true, false, false, false, false] rfl rfl (by kernel_rfl) (fun _ _ _ h => h) (Or.inl ⟨by rfl, ?_⟩) ?_ ?_
        rotate_left
        · intro w'
          go_simp
          with_reducible rfl
        rotate_left
        · simp only [Act.put, List.setIfInBounds_toArray, List.set_cons_zero, List.set_cons_succ, i64_w, i32_w]
          rfl
        refine last_ (i := 12) (N := none) #[true, true, true, true, true, true, true, true, true, true, true, true, true, false, false, false] rfl rfl (by kernel_rfl) (by decide) (fun K hK => ?_)
        have cd := HBK4.out.cellD HX2.out
        have fz := HBK4.out.bs.fz (n * 2 + 1)
        go_simp
        refine hK.out _ _ ?_
        clear hK K
        refine pure_ (i := 13) (N := some 77) (v := ?_) (a' := ?_) #[true, true, true, true, true, true, true, true, true, true, true, true, true, true, false, false] rfl rfl (by kernel_rfl) (fun _ _ _ h => h) (Or.inl ⟨by rfl, ?_⟩) ?_ ?_
        rotate_left
        · intro w'
          go_simp
          with_reducible rfl
        rotate_left
        · simp only [Act.put, List.setIfInBounds_toArray, List.set_cons_zero, List.set_cons_succ, i64_w, i32_w]
          rfl
        refine pure_ (i := 14) (N := some 78) (v := ?_) (a' := ?_) #[true, true, true, true, true, true, true, true, true, true, true, true, true, true, true, false] rfl rfl (by kernel_rfl) (fun _ _ _ h => h) (Or.inl ⟨by rfl, ?_⟩) ?_ ?_
        rotate_left
        · intro w'
          go_simp
          with_reducible rfl
        rotate_left
        · simp only [Act.put, List.setIfInBounds_toArray, List.set_cons_zero, List.set_cons_succ, i64_w, i32_w]
          rfl
        refine last_ (i := 15) (N := none) #[true, true, true, true, true, true, true, true, true, true, true, true, true, true, true, true] rfl rfl (by kernel_rfl) (by decide) (fun K hK => ?_)
        have HBK5 := Aside0.mk (HBK4.out.set HRL.out.symm HX2.out)
        have hx5 : ((R ++ [(⟨gn, cn, ngs x.l, false⟩ : En)]).set n ⟨x.g, x.c, x.l, true⟩)[R.length]? = some ⟨gn, cn, ngs x.l, false⟩ := by rw [List.getElem?_set_ne (by omega)]; exact HX3.out
        have HX5 := Aside0.mk hx5
        have cd2 := HBK5.out.cellD hx5
        clear hx5
        have fz2 := (HBK4.out.bs.set (n * 2 + 1) (.bool true)).fz (R.length * 2 + 1)
        go_simp
        refine hK.out _ _ ?_
        clear hK K
        refine done_ (by kernel_rfl) ?_
        clear hHeld
        go_wp2_with fail
        go_ret2
        have END := HBK5.out.set (by rw [List.length_set]; exact HRL.out.symm) HX5.out
        rw [rev_end hn] at END
        have hs1 := HI.out.2.2.size
        refine Or.inr ⟨HGD.out, rfl, _, gn, ⟨cn, END⟩, ?_, by have := HGN.out; omega, ?_⟩
        · intro k hk
          rcases HEV.out k hk with q | q
          · exact Or.inl q
          · exact Or.inr (by omega)
        · have T1 : Tn (fun k => own bb bm (.slice (some ⟨g, 0, none⟩) R.length c) k ∨ w.heap.size ≤ k) w w2 := (Tn.of_below HI.out.2.2).trans (HT.out.mono (fun k _ q => Or.inl q))
          have hg3 : own bb bm (.slice (some ⟨g, 0, none⟩) R.length c) g3 ∨ w.heap.size ≤ g3 := by
            rcases HEV.out g3 rfl with q | q
            · exact Or.inl (Or.inr (Or.inr q))
            · exact Or.inr (by omega)
          have T2 := (T1.trans (Tn.of_below B4.out)).trans ((tn_set wd g3 (n * 2 + 1) (.bool true)).mono (fun k _ q => by rw [q]; exact hg3))
          have T3 := T2.trans ((tn_set _ g3 (R.length * 2 + 1) (.bool true)).mono (fun k _ q => by rw [q]; exact hg3))
          exact T3.mono (fun k hk q => q.elim id (fun q => by omega))


end Go.Proofs.Ytcdhnglefldalaa.PBook
