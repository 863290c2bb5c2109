import Derived.Test.YtcdhnglefldalaaBM
namespace Go.Proofs.Ytcdhnglefldalaa.PBook
open Go.RowKit Go.Proofs.YtcdhnglefldalaaW.PrintWords Go.Proofs.YtcdhnglefldalaaW.PrintLast Go.Proofs.YtcdhnglefldalaaW.PrintMore
set_option linter.unusedVariables false
set_option linter.unusedSimpArgs false
open Go.Proofs.Ytcdhnglefldalaa.PBookPlays (S32 S34 S40 k32 k34 k40 z32 z34 z40 rd_T34 at_T34 rd_T40 at_T40 errEqI errEqL errEqR errNeI errNeL errNeR cents_Add.f cents_Add.calls)
open Go.Maps
attribute [local go_sem high] errEqI errNeI errEqL errNeL errEqR errNeR
theorem bk_eqs (a : Addr) (n c : Nat) (w : World) : (binOp .eql 22 (.slice (some a) n c) (.slice none 0 0)).run Try.prog w = .ok (.bool false) w :=
  Lib.run_eql_slice_nil w _ _ _ _ _ _ _ Try.underlying22
attribute [local go_sem high] bk_eqs
theorem own_emptyL (w : World) : (w.alloc (.cells #[] 34)).ownsRow w.heap.size 34 3 (.slice (some ⟨w.heap.size, 0, none⟩) 0 0) 0 [] := ⟨rfl, Or.inr ⟨w.heap.size, 0, #[], rfl, Nat.le_refl _, blk_new w _, Nat.le_refl _, by unfold maxLen; omega, rfl, rfl⟩⟩
theorem Lr.alloc {w : World} {A : Option Addr} {l : List S34} (h : Lr w A l) (o : Obj) : Lr (w.alloc o) A l := h.below (below_alloc (Below.refl _ _) _)
theorem Lr.lcells {w : World} {ad : Addr} {l : List S34} (h : Lr w (some ad) l) : ∀ j u, (lns l)[j]? = some u → w.cell? (ad.add j) = some u := by
  intro j u hu
  have hj : j < (lns l).length := (List.getElem?_eq_some_iff.1 hu).1
  rw [lns_len] at hj
  have hi : j / 3 < l.length := by omega
  obtain ⟨x, hx⟩ : ∃ x, l[j / 3]? = some x := ⟨l[j / 3], List.getElem?_eq_getElem hi⟩
  obtain ⟨a, b, c⟩ := lns_at l _ x hx
  obtain ⟨ad', e, k0, k1, k2⟩ := h _ x hx
  cases e
  have hr : j % 3 = 0 ∨ j % 3 = 1 ∨ j % 3 = 2 := by omega
  have hd : j = j / 3 * 3 + j % 3 := by omega
  rcases hr with q | q | q <;> rw [q] at hd
  · rw [hd] at hu ⊢
    simp only [Nat.add_zero] at hu ⊢
    rw [a] at hu
    cases hu
    exact k0
  · rw [hd] at hu ⊢
    rw [b] at hu
    cases hu
    rw [add_field _ _ 1 (by omega)]
    exact k1
  · rw [hd] at hu ⊢
    rw [c] at hu
    cases hu
    rw [add_field _ _ 2 (by omega)]
    exact k2
set_option maxRecDepth 100000 in
theorem bk_clone {w : World} (ad : Addr) (cap : Nat) (l : List S34) (hl : 0 < l.length) (hl2 : l.length ≤ 65536) (hc : Lr w (some ad) l) : Calls Try.prog 30 #[.slice (some ad) l.length cap] w fun e w' => ∃ g c, e = .returned (.slice (some ⟨g, 0, none⟩) l.length c) ∧ w.heap.size ≤ g ∧ LB w' g l ∧ l.length ≤ c ∧ w'.ownsRow w.heap.size 34 3 (.slice (some ⟨g, 0, none⟩) l.length c) l.length (lns l) ∧ Below w.heap.size w w' := by
  obtain ⟨i0, hi, hz0, hz1, hz2⟩ := info_parts b_info34
  have HI := Aside0.mk hi
  have HC := Aside0.mk hc
  have hln := lns_len l
  clear hi hc
  go_enter Try.func30, Try.ntmps30
  go_wp2_with (at_builtin; refine wpList_append_own_at _ rfl _ _ 22 rfl w.heap.size 34 i0 (.agg #[.int .i64 0, .int .i64 0, .int .i64 0]) 3 24 Try.underlying22 HI.out hz0 hz1 hz2 rfl (by decide) (.slice (some ⟨w.heap.size, 0, none⟩) 0 0) 0 [] rfl (own_emptyL w) ad l.length cap (lns l) rfl (by omega) (Lr.lcells (HC.out.alloc _)) (lns_one l) (by unfold maxLen; omega) (by omega) (by simp) ?_; intro v' w1 hown' hgrow hnil hloc)
  go_ret
  rw [Nat.zero_add, List.nil_append] at hown'
  obtain ⟨A, c, e, h1, h2⟩ := own_lb hown'
  subst e
  cases A with
  | none => have := h2 rfl; subst this; cases hl
  | some a =>
    obtain ⟨g, rfl, hg, hb, hcap⟩ := h1 a rfl
    exact ⟨g, c, rfl, hg, hb, hcap, hown', (below_alloc (Below.refl w.heap.size w) _).grown hgrow (by simp) (fun k hk => by cases hk; exact Nat.le_refl _)⟩
/-- An entry: where its lines lie, how many have room there, the lines, whether it is done. -/
structure En where
  g : Nat
  c : Nat
  l : List S34
  d : Bool
def ec (x : En) : List Value := [.slice (some ⟨x.g, 0, none⟩) x.l.length x.c, .bool x.d]
def ecs (R : List En) : List Value := R.flatMap ec
theorem ecs_len (R : List En) : (ecs R).length = R.length * 2 := by
  induction R with
  | nil => rfl
  | cons a t ih => show (ec a ++ ecs t).length = _; rw [List.length_append, ih]; simp [ec]; omega
theorem ecs_append (a b : List En) : ecs (a ++ b) = ecs a ++ ecs b := by simp [ecs]
theorem ecs_at : ∀ (R : List En) (j : Nat) (x : En), R[j]? = some x → (ecs R)[j * 2]? = some (.slice (some ⟨x.g, 0, none⟩) x.l.length x.c) ∧ (ecs R)[j * 2 + 1]? = some (.bool x.d) := by
  intro R
  induction R with
  | nil => intro j x h; cases h
  | cons a t ih =>
    intro j x h
    have e : ecs (a :: t) = ec a ++ ecs t := rfl
    rw [e]
    rcases j with _ | j
    · obtain rfl := Option.some.inj h
      exact ⟨rfl, rfl⟩
    · obtain ⟨h1, h2⟩ := ih j x (by simpa using h)
      have hl : (ec a).length = 2 := rfl
      refine ⟨?_, ?_⟩
      · rw [List.getElem?_append_right (by omega), hl, show (j + 1) * 2 - 2 = j * 2 by omega]; exact h1
      · rw [List.getElem?_append_right (by omega), hl, show (j + 1) * 2 + 1 - 2 = j * 2 + 1 by omega]; exact h2
def Eg (w : World) (B : Nat) (x : En) : Prop := B ≤ x.g ∧ LB w x.g x.l ∧ 1 ≤ x.l.length ∧ x.l.length ≤ 32
/-- What an account comes to by entries. -/
def tot (R : List En) (a : S32) : Int := (R.map (fun x => adds x.l a)).sum
def own (bb bm : Nat) (ev : Value) (k : Nat) : Prop := k = bb ∨ k = bm ∨ ev.ownBlock = some k
/-- Books. -/
structure Bk (w : World) (B bb bm : Nat) (ev : Value) (R : List En) : Prop where
  hb : B ≤ bb
  hm : B ≤ bm
  book : w.heap[bb]? = some (.cells #[ev, .map (some bm)] 63 (0, 0))
  row : w.ownsRow B 71 2 ev R.length (ecs R)
  ent : ∀ x ∈ R, Eg w B x
  good : ∀ x ∈ R, WLs x.l ∧ shapedB x.l = true ∧ (amts x.l).sum = 0 ∧ ∀ y ∈ x.l, y.f1 ≠ -9223372036854775808
  few : R.length ≤ 4096
  map : ∃ N D, OM w bm N D ∧ N ≤ 32 * R.length ∧ ∀ a, WA a → gI D (ak a) = tot R a
theorem om_blk {w : World} {b n : Nat} {D : DataW Unit} (h : OM w b n D) : ∃ es cl, w.heap[b]? = some (.map es cl) := by
  obtain ⟨es, cl, h1, h2⟩ := h
  exact ⟨es, cl, h1⟩
theorem om_turn {S : Nat → Prop} {w W : World} {b n : Nat} {D : DataW Unit} (h : OM w b n D) (t : Tn S w W) (hn : ¬ S b) : OM W b n D := by
  obtain ⟨es, cl, h1, h2⟩ := h
  exact ⟨es, cl, t.blk h1 hn, h2⟩
theorem om_lower {w : World} {b n : Nat} {D : DataW Unit} (h : OM w b n D) : b < w.heap.size := h.lt
theorem Eg.turn {S : Nat → Prop} {w W : World} {B : Nat} {x : En} (h : Eg w B x) (t : Tn S w W) (hn : ∀ k cs, S k → w.heap[k]? ≠ some (.cells cs 34 (0, 0))) : Eg W B x := by
  obtain ⟨a, b, c⟩ := h
  refine ⟨a, b.turn t (fun q => ?_), c⟩
  obtain ⟨r, hr⟩ := b
  exact hn _ _ q hr
theorem Bk.turn {S : Nat → Prop} {w W : World} {B bb bm : Nat} {ev : Value} {R : List En} (h : Bk w B bb bm ev R) (t : Tn S w W) (hn : ∀ k cs, S k → w.heap[k]? ≠ some (.cells cs 34 (0, 0))) (ho : ∀ k, S k → ¬ own bb bm ev k) : Bk W B bb bm ev R := by
  obtain ⟨N, D, h1, h2⟩ := h.map
  exact ⟨h.hb, h.hm, t.blk h.book (fun q => ho _ q (Or.inl rfl)), own_turn h.row t (fun k hk q => ho _ q (Or.inr (Or.inr hk))), fun x hx => (h.ent x hx).turn t hn, h.good, h.few, N, D, om_turn h1 t (fun q => ho _ q (Or.inr (Or.inl rfl))), h2⟩
theorem Bk.below {w W : World} {B bb bm : Nat} {ev : Value} {R : List En} (h : Bk w B bb bm ev R) (t : Below w.heap.size w W) : Bk W B bb bm ev R :=
  h.turn (S := fun _ => False) (Tn.of_below t) (fun _ _ q => q.elim) (fun _ q => q.elim)
theorem Bk.own_line {w : World} {B bb bm : Nat} {ev : Value} {R : List En} (h : Bk w B bb bm ev R) : ∀ k cs, own bb bm ev k → w.heap[k]? ≠ some (.cells cs 34 (0, 0)) := by
  intro k cs q e
  obtain ⟨N, D, h1, h2⟩ := h.map
  obtain ⟨es, cl, h3⟩ := om_blk h1
  rcases q with rfl | rfl | q
  · exact ty_ne h.book e (by decide)
  · rw [h3] at e; cases e
  · obtain ⟨cs', h4⟩ := own_typed h.row q
    exact ty_ne h4 e (by decide)
theorem Bk.own_lt {w : World} {B bb bm : Nat} {ev : Value} {R : List En} (h : Bk w B bb bm ev R) : ∀ k, own bb bm ev k → k < w.heap.size := by
  intro k q
  obtain ⟨N, D, h1, h2⟩ := h.map
  rcases q with rfl | rfl | q
  · exact blk_lt h.book
  · exact h1.lt
  · obtain ⟨cs', h4⟩ := own_typed h.row q
    exact blk_lt h4
theorem Bk.own_ge {w : World} {B bb bm : Nat} {ev : Value} {R : List En} (h : Bk w B bb bm ev R) : ∀ k, own bb bm ev k → B ≤ k := by
  intro k q
  rcases q with rfl | rfl | q
  · exact h.hb
  · exact h.hm
  · exact own_base h.row q
theorem Bk.lower {w : World} {B B' bb bm : Nat} {ev : Value} {R : List En} (h : Bk w B bb bm ev R) (hb : B' ≤ B) : Bk w B' bb bm ev R :=
  ⟨Nat.le_trans hb h.hb, Nat.le_trans hb h.hm, h.book, own_lower h.row hb, fun x hx => ⟨Nat.le_trans hb (h.ent x hx).1, (h.ent x hx).2⟩, h.good, h.few, h.map⟩
theorem own_sl {w : World} {base e sz n : Nat} {v : Value} {xs : List Value} (h : w.ownsRow base e sz v n xs) : ∃ A c, v = .slice A n c := by
  obtain ⟨h1, ⟨rfl, rfl⟩ | ⟨g, cap, cur, rfl, h4⟩⟩ := h
  · exact ⟨_, _, rfl⟩
  · exact ⟨_, _, rfl⟩
theorem Bk.cells {w : World} {B bb bm : Nat} {ev : Value} {R : List En} (h : Bk w B bb bm ev R) : w.cell? ⟨bb, 0, none⟩ = some ev ∧ w.cell? ⟨bb, 1, none⟩ = some (.map (some bm)) ∧ w.frozen? ⟨bb, 0, none⟩ = false :=
  ⟨(blk_cell h.book 0).trans rfl, (blk_cell h.book 1).trans rfl, blk_frozen h.book 0⟩
set_option maxRecDepth 100000 in
theorem bk_new (w : World) : Calls Try.prog 10 #[] w fun e w' => ∃ bb bm, e = .returned (.pointer (some ⟨bb, 0, none⟩)) ∧ Bk w' w.heap.size bb bm (.slice none 0 0) [] ∧ Below w.heap.size w w' := by
  have hmm := @run_makeMap Try.prog
  go_enter Try.func10, Try.ntmps10
  go_wp2_with fail
  go_ret
  have hb : Below w.heap.size w ((w.alloc (Obj.map #[] 0)).alloc (Obj.cells #[Value.slice none 0 0, Value.map (some w.heap.size)] 63)) := below_alloc (below_alloc (Below.refl w.heap.size w) _) _
  have hs : (w.alloc (Obj.map #[] 0)).heap.size = w.heap.size + 1 := Array.size_push _
  refine ⟨w.heap.size + 1, w.heap.size, rfl, ⟨by omega, Nat.le_refl _, ?_, World.ownsRow_nil _ _ _ 2, (fun x hx => by cases hx), (fun x hx => by cases hx), by simp, 0, .map [], ?_, by simp, fun a _ => rfl⟩, hb⟩
  · rw [← hs]
    exact blk_new _ _
  · exact (World.ownsMap_made w Try.prog 32 (plainElem Try.prog 2)).alloc _
set_option maxRecDepth 100000 in
theorem bk_len {w : World} {B bb bm : Nat} {ev : Value} {R : List En} (h : Bk w B bb bm ev R) : Calls Try.prog 14 #[.pointer (some ⟨bb, 0, none⟩)] w fun e w' => e = .returned (.int .i64 ↑R.length) ∧ Below w.heap.size w w' := by
  obtain ⟨c0, c1, c2⟩ := h.cells
  obtain ⟨A, c, rfl⟩ := own_sl h.row
  clear h
  go_enter Try.func14, Try.ntmps14
  go_wp2_with fail
  go_ret
  exact ⟨rfl, Below.refl _ _⟩
theorem bb_cell {w : World} {g i : Nat} {v : Value} (h : w.cell? ⟨g, i, none⟩ = some v) (p : GWrld w) : p.w'.cell? ⟨g, i, none⟩ = some v := gb_cell (World.block_lt_of_cell? w _ h) h p
set_option maxRecDepth 100000 in
set_option maxHeartbeats 1000000 in
theorem bk_balance {w : World} {B bb bm : Nat} {ev : Value} {R : List En} (h : Bk w B bb bm ev R) (a : S32) (ha : WA a) : Calls Try.prog 19 #[.pointer (some ⟨bb, 0, none⟩), .agg #[.int .i64 a.f0, .int .i64 a.f1]] w fun e w' => e = .returned (.int .i64 (tot R a)) ∧ Below w.heap.size w w' := by
  obtain ⟨N, D, h1, h2, h3⟩ := h.map
  have hr := Aside0.mk (h3 a ha)
  obtain ⟨W1, hW1⟩ : ∃ W1, w.alloc (Obj.cells #[.int .i64 a.f0, .int .i64 a.f1] 32) = W1 := ⟨_, rfl⟩
  have hB : Below w.heap.size w W1 := by rw [← hW1]; exact below_alloc (Below.refl _ _) _
  obtain ⟨c0, c1, c2⟩ := (h.below hB).cells
  have k0 : W1.cell? ⟨w.heap.size, 0, none⟩ = some (.int .i64 a.f0) := by rw [← hW1]; exact (blk_cell (blk_new w _) 0).trans rfl
  have k1 : W1.cell? ⟨w.heap.size, 1, none⟩ = some (.int .i64 a.f1) := by rw [← hW1]; exact (blk_cell (blk_new w _) 1).trans rfl
  have hL : ∀ p : GWrld W1, (Instr.lookup 60 (.map (some bm)) (.agg #[.int .i64 a.f0, .int .i64 a.f1]) false).run Try.prog p.w' = .ok (.int .i64 (tot R a)) p.w' := fun p => hr.out ▸ lk_int (om_turn (S := fun _ => False) (om_turn (S := fun _ => False) h1 (Tn.of_below hB) id) (Tn.of_below p.b) id) a ha
  have d1 := fun p : GWrld W1 => bb_cell c1 p
  have d2 := fun p : GWrld W1 => bb_cell k0 p
  have d3 := fun p : GWrld W1 => bb_cell k1 p
  have HB := Aside0.mk hB
  clear h h1 h2 h3 c0 c1 c2 hB k0 k1
  go_enter Try.func19, Try.ntmps19
  go_wp2_with fail
  refine gb_region (by kernel_rfl) (by kernel_rfl) ?_
  repeat (go_big_quiet_step (fail))
  refine wpQuiet_nil ?_
  intro _ hw'
  obtain ⟨gq, hw''⟩ := hw'
  subst hw''
  go_wp2
  go_ret
  exact ⟨rfl, below_step HB.out gq.b⟩
set_option maxRecDepth 100000 in
theorem bk_entry_no {w : World} {B bb bm : Nat} {ev : Value} {R : List En} (h : Bk w B bb bm ev R) (n : Int) (hn : n < 0 ∨ (R.length : Int) ≤ n) : Calls Try.prog 23 #[.pointer (some ⟨bb, 0, none⟩), .int .i64 n] w fun e w' => e = .returned (.tuple #[.slice none 0 0, .iface 42 (.int .i64 4)]) ∧ Below w.heap.size w w' := by
  obtain ⟨c0, c1, c2⟩ := h.cells
  obtain ⟨A, c, rfl⟩ := own_sl h.row
  clear h
  by_cases p : n < 0
  · go_enter Try.func23, Try.ntmps23
    go_wp2_with fail
    go_ret2
    exact ⟨rfl, Below.refl _ _⟩
  · have q : (R.length : Int) ≤ n := by omega
    have q2 : n ≥ (R.length : Int) := q
    go_enter Try.func23, Try.ntmps23
    go_wp2_with fail
    go_ret2
    exact ⟨rfl, Below.refl _ _⟩
theorem Bk.at {w : World} {B bb bm : Nat} {ev : Value} {R : List En} (h : Bk w B bb bm ev R) {n : Nat} {x : En} (hx : R[n]? = some x) : ∃ g c, ev = .slice (some ⟨g, 0, none⟩) R.length c ∧ w.cell? ⟨g, n * 2, none⟩ = some (.slice (some ⟨x.g, 0, none⟩) x.l.length x.c) ∧ w.cell? ⟨g, n * 2 + 1, none⟩ = some (.bool x.d) ∧ (∃ cs, w.heap[g]? = some (.cells cs 71 (0, 0)) ∧ (cs.toList.take (R.length * 2)) = ecs R) := by
  have hn : n < R.length := (List.getElem?_eq_some_iff.1 hx).1
  obtain ⟨hl, ⟨-, h0⟩ | ⟨g, cap, cur, e, hg, hb, hc, hcm, -, ht⟩⟩ := h.row
  · omega
  · obtain ⟨a, b⟩ := ecs_at R n x hx
    refine ⟨g, cap, e, ?_, ?_, cur, hb, ht⟩
    · rw [← ht, List.getElem?_take, if_pos (by omega)] at a
      exact (blk_cell hb _).trans (by rw [← Array.getElem?_toList]; exact a)
    · rw [← ht, List.getElem?_take, if_pos (by omega)] at b
      exact (blk_cell hb _).trans (by rw [← Array.getElem?_toList]; exact b)
set_option maxRecDepth 100000 in
theorem bk_entry {w : World} {B bb bm : Nat} {ev : Value} {R : List En} (h : Bk w B bb bm ev R) (n : Nat) (x : En) (hx : R[n]? = some x) : Calls Try.prog 23 #[.pointer (some ⟨bb, 0, none⟩), .int .i64 ↑n] w fun e w' => ∃ g c, e = .returned (.tuple #[.slice (some ⟨g, 0, none⟩) x.l.length c, .nilIface]) ∧ w.heap.size ≤ g ∧ LB w' g x.l ∧ Below w.heap.size w w' := by
  obtain ⟨c0, c1, c2⟩ := h.cells
  obtain ⟨g, c, rfl, d0, d1, -⟩ := h.at hx
  have hn : n < R.length := (List.getElem?_eq_some_iff.1 hx).1
  have hn1 : (↑n : Int) < ↑R.length := by omega
  have hn2 : ¬ (↑n : Int) < 0 := by omega
  have hn0 : (0 : Int) ≤ ↑n := by omega
  have hn3 : ¬ (↑n : Int) ≥ ↑R.length := by omega
  obtain ⟨e1, e2, e3, e4⟩ := h.ent x (List.mem_of_getElem? hx)
  have CL := Aside0.mk (bk_clone ⟨x.g, 0, none⟩ x.c x.l (by omega) (by omega) e2.lr)
  have d0' : w.cell? ((⟨g, 0, none⟩ : Addr).add (n * 2)) = some (.slice (some ⟨x.g, 0, none⟩) x.l.length x.c) := by rw [ad_add, Nat.zero_add]; exact d0
  clear h e2 hx
  go_enter Try.func23, Try.ntmps23
  go_wp2_with fail
  refine CL.out.mono ?_
  rintro e w1 ⟨g', c', rfl, h1, h2, -, -, h5⟩
  go_wp2
  go_ret2
  exact ⟨g', c', rfl, h1, h2, h5⟩

end Go.Proofs.Ytcdhnglefldalaa.PBook
