import Derived.Test.YthblaehmdailhaaJF
namespace Go.Proofs.Ythblaehmdailhaa.PJournalStays
open Go.RowKit Go.Proofs.YthblaehmdailhaaW.PrintWords Go.Proofs.YthblaehmdailhaaW.PrintLast Go.Proofs.YthblaehmdailhaaW.PrintMore
set_option linter.unusedVariables false
set_option linter.unusedSimpArgs false
theorem slEq0 (w : World) : (binOp .eql 22 (.slice none 0 0) (.slice none 0 0)).run Try.prog w = .ok (.bool true) w :=
  Lib.run_eql_slice_nil w _ _ _ _ _ _ _ Try.underlying22
theorem slNe0 (w : World) : (binOp .neq 22 (.slice none 0 0) (.slice none 0 0)).run Try.prog w = .ok (.bool false) w :=
  run_neq_slice_nil_any w _ _ _ _ _ _ _ Try.underlying22
attribute [local go_sem high] slEq slNe slEq0 slNe0
theorem jo_info : (Try.prog.info? 22).map (fun i => (i.zero, i.size, i.bytes)) = some (some (Value.slice none 0 0), 1, 24) := by kernel_rfl
/-- Records in memory. -/
def Rs (w : World) (base : Nat) (bad : Nat → Prop) (v : Value) (rs : List (List Int)) : Prop :=
  ∃ vs : List Value, w.ownsRow base 22 1 v rs.length vs ∧ ∀ (i : Nat) (r : List Int), rs[i]? = some r → ∃ g o c, vs[i]? = some (.slice (some ⟨g, o, none⟩) r.length c) ∧ Src w ⟨g, o, none⟩ r ∧ base ≤ g ∧ ¬ bad g ∧ 1 ≤ r.length ∧ r.length ≤ 1024 ∧ r.length ≤ c ∧ ∃ cs, w.heap[g]? = some (.cells cs 5 (0, 0))
theorem Rs.nil (w : World) (base : Nat) (bad : Nat → Prop) : Rs w base bad (.slice none 0 0) [] := ⟨[], World.ownsRow_nil w base _ 1, fun i r h => by cases h⟩
theorem own_turn {S : Nat → Prop} {w W : World} {base e sz n : Nat} {v : Value} {xs : List Value} (h : w.ownsRow base e sz v n xs) (t : Tn S w W) (hv : ∀ k, v.ownBlock = some k → ¬ S k) : W.ownsRow base e sz v n xs := by
  obtain ⟨h1, h2 | ⟨g, cap, cur, rfl, h4, h5, h6⟩⟩ := h
  · exact ⟨h1, Or.inl h2⟩
  · exact ⟨h1, Or.inr ⟨g, cap, cur, rfl, h4, t.blk h5 (hv g rfl), h6⟩⟩
theorem own_typed {w : World} {base e sz n : Nat} {v : Value} {xs : List Value} (h : w.ownsRow base e sz v n xs) {k : Nat} (hk : v.ownBlock = some k) : ∃ cs, w.heap[k]? = some (.cells cs e (0, 0)) := by
  obtain ⟨h1, ⟨rfl, -⟩ | ⟨g, cap, cur, rfl, h4, h5, h6⟩⟩ := h
  · cases hk
  · cases hk
    exact ⟨cur, h5⟩
theorem Rs.turn {S : Nat → Prop} {w W : World} {base : Nat} {bad : Nat → Prop} {v : Value} {rs : List (List Int)} (h : Rs w base bad v rs) (t : Tn S w W) (h1 : ∀ k c, S k → w.heap[k]? ≠ some (.cells c 22 (0, 0))) (h2 : ∀ k c, S k → w.heap[k]? = some (.cells c 5 (0, 0)) → bad k) : Rs W base bad v rs := by
  obtain ⟨vs, ho, hr⟩ := h
  refine ⟨vs, own_turn ho t (fun k hk hS => ?_), fun i r hi => ?_⟩
  · obtain ⟨cs, hcs⟩ := own_typed ho hk
    exact h1 k cs hS hcs
  · obtain ⟨g, o, c, a1, a2, a3, a4, a5, a6, a7, cs, a8⟩ := hr i r hi
    have hn : ¬ S g := fun q => a4 (h2 g cs q a8)
    exact ⟨g, o, c, a1, a2.turn t hn, a3, a4, a5, a6, a7, cs, t.blk a8 hn⟩
theorem Rs.below {w W : World} {base : Nat} {bad : Nat → Prop} {v : Value} {rs : List (List Int)} (h : Rs w base bad v rs) (t : Below w.heap.size w W) : Rs W base bad v rs :=
  h.turn (S := fun _ => False) (Tn.of_below t) (fun k c q => q.elim) (fun k c q => q.elim)
/-- A journal. -/
structure Jn (w : World) (B bj bd : Nat) (bad : Nat → Prop) (rs : List (List Int)) (en : Nat) (sp : Bool) : Prop where
  hB : B ≤ bj
  hj : ∃ v, w.heap[bj]? = some (.cells #[.pointer (some ⟨bd, 0, none⟩), v, .int .i64 ↑en, .bool sp] 72 (0, 0)) ∧ Rs w B bad v rs
theorem Jn.turn {S : Nat → Prop} {w W : World} {B bj bd en : Nat} {bad : Nat → Prop} {rs : List (List Int)} {sp : Bool} (h : Jn w B bj bd bad rs en sp) (t : Tn S w W) (h1 : ∀ k c, S k → w.heap[k]? ≠ some (.cells c 22 (0, 0))) (h2 : ∀ k c, S k → w.heap[k]? = some (.cells c 5 (0, 0)) → bad k) (h3 : ¬ S bj) : Jn W B bj bd bad rs en sp := by
  obtain ⟨v, a, b⟩ := h.hj
  exact ⟨h.hB, v, t.blk a h3, b.turn t h1 h2⟩
theorem Jn.below {w W : World} {B bj bd en : Nat} {bad : Nat → Prop} {rs : List (List Int)} {sp : Bool} (h : Jn w B bj bd bad rs en sp) (t : Below w.heap.size w W) : Jn W B bj bd bad rs en sp :=
  h.turn (S := fun _ => False) (Tn.of_below t) (fun k c q => q.elim) (fun k c q => q.elim) id
theorem Jn.lower {w : World} {B B' bj bd en : Nat} {bad : Nat → Prop} {rs : List (List Int)} {sp : Bool} (h : Jn w B bj bd bad rs en sp) (hb : B' ≤ B) : Jn w B' bj bd bad rs en sp := by
  obtain ⟨v, a, vs, ho, hv⟩ := h.hj
  refine ⟨Nat.le_trans hb h.hB, v, a, vs, own_lower ho hb, fun i r hi => ?_⟩
  obtain ⟨g, o, c, a1, a2, a3, a4⟩ := hv i r hi
  exact ⟨g, o, c, a1, a2, Nat.le_trans hb a3, a4⟩
/-- The bytes of records. -/
def enc : List (List Int) → List Int
  | [] => []
  | r :: rs => hdl ↑r.length ++ r ++ enc rs
theorem jo_one (w : World) (v : Value) : ∀ j u, [v][j]? = some u → (w.alloc (.cells #[v] 22)).cell? ((⟨w.heap.size, 0, none⟩ : Addr).add j) = some u := by
  intro j u hu
  match j, hu with
  | 0, hu =>
    rw [ad_add]
    exact ((blk_cell (blk_new w (.cells #[v] 22)) 0).trans rfl).trans hu
  | k + 1, hu => cases hu
theorem ty_ne {w : World} {g : Nat} {c c' : Array Value} {T T' : TypeId} (h : w.heap[g]? = some (.cells c T (0, 0))) (h' : w.heap[g]? = some (.cells c' T' (0, 0))) (hne : T ≠ T') : False := by
  rw [h] at h'
  injection h' with h'
  injection h' with _ h2 _
  exact hne h2
theorem Dk.grow {w : World} {bd bs bn bm n : Nat} {st nw : List Int} {N N' : Nat} {D : DataW Unit} (h : Dk w bd bs bn bm n st nw N D) (hN : N ≤ N') : Dk w bd bs bn bm n st nw N' D := by
  obtain ⟨m, h1, h2⟩ := h.hm
  exact ⟨h.hd, h.hs, h.hn, h.ls, h.ln, h.ne, m, Nat.le_trans h1 hN, h2⟩
theorem jn_disk {w W : World} {B bj bd bd' en bs bn bm n : Nat} {rs : List (List Int)} {sp : Bool} {st nw : List Int} {N : Nat} {D : DataW Unit} (h : Jn w B bj bd' (fun k => k = bs ∨ k = bn) rs en sp) (hD : Dk w bd bs bn bm n st nw N D) (t : Tn (fun k => k = bs ∨ k = bn ∨ k = bm) w W) : Jn W B bj bd' (fun k => k = bs ∨ k = bn) rs en sp := by
  obtain ⟨r1, h1⟩ := hD.hs
  obtain ⟨r2, h2⟩ := hD.hn
  obtain ⟨es, cl, h3⟩ := hD.map
  obtain ⟨v, hj, -⟩ := h.hj
  refine h.turn t (fun k c q hk => ?_) (fun k c q hk => ?_) (fun q => ?_)
  · rcases q with rfl | rfl | rfl
    · exact ty_ne h1 hk (by decide)
    · exact ty_ne h2 hk (by decide)
    · rw [h3] at hk; cases hk
  · rcases q with q | q | q
    · exact Or.inl q
    · exact Or.inr q
    · rw [q, h3] at hk; cases hk
  · rcases q with q | q | q
    · rw [q] at hj; exact ty_ne h1 hj (by decide)
    · rw [q] at hj; exact ty_ne h2 hj (by decide)
    · rw [q, h3] at hj; cases hj
theorem any_zero {l : List Int} (h : l.any (· != 0) = false) : l = List.replicate l.length 0 := by
  refine List.eq_replicate_iff.2 ⟨rfl, fun x hx => ?_⟩
  have := List.any_eq_false.1 h x hx
  simpa using this
theorem splice_end (a b c : List Int) (h : c.length = b.length) : splice (a ++ b) a.length c = a ++ c := by
  unfold splice
  rw [List.take_left', List.drop_eq_nil_of_le (by rw [List.length_append]; omega), List.append_nil]
  rfl
theorem jn_cells {w : World} {bj : Nat} {a b c d : Value} (h : w.heap[bj]? = some (.cells #[a, b, c, d] 72 (0, 0))) : w.cell? ⟨bj, 0, none⟩ = some a ∧ w.cell? ⟨bj, 1, none⟩ = some b ∧ w.cell? ⟨bj, 2, none⟩ = some c ∧ w.cell? ⟨bj, 3, none⟩ = some d ∧ w.frozen? ⟨bj, 1, none⟩ = false ∧ w.frozen? ⟨bj, 2, none⟩ = false ∧ w.frozen? ⟨bj, 3, none⟩ = false :=
  ⟨(blk_cell h 0).trans rfl, (blk_cell h 1).trans rfl, (blk_cell h 2).trans rfl, (blk_cell h 3).trans rfl, blk_frozen h 1, blk_frozen h 2, blk_frozen h 3⟩
theorem own_slice {w : World} {base e sz n : Nat} {v : Value} {xs : List Value} (h : w.ownsRow base e sz v n xs) : ∃ A c, v = .slice A n c := by
  obtain ⟨h1, ⟨rfl, rfl⟩ | ⟨g, cap, cur, rfl, h4⟩⟩ := h
  · exact ⟨_, _, rfl⟩
  · exact ⟨_, _, rfl⟩
theorem jn_tn {w w5 : World} {v : Value} {ob : Obj} (h : (w.alloc ob).grownBy w5 v.ownBlock) : Tn (fun k => v.ownBlock = some k) w w5 := (Tn.of_below (below_alloc (Below.refl _ _) _)).trans (Tn.of_grown h)
theorem jn_keep {w w5 : World} {bj base n : Nat} {cs : Array Value} {v : Value} {xs : List Value} {ob : Obj} (hj : w.heap[bj]? = some (.cells cs 72 (0, 0))) (ho : w.ownsRow base 22 1 v n xs) (h : (w.alloc ob).grownBy w5 v.ownBlock) : w5.heap[bj]? = some (.cells cs 72 (0, 0)) :=
  (jn_tn h).blk hj (fun q => by
    obtain ⟨c, hc⟩ := own_typed ho q
    rw [hj] at hc
    cases hc)
theorem jn_set {W : World} {bj : Nat} {a b c d : Value} (h : W.heap[bj]? = some (.cells #[a, b, c, d] 72 (0, 0))) (b' c' : Value) (W6 : World) (e : W6 = (W.setCell ⟨bj, 1, none⟩ b').setCell ⟨bj, 2, none⟩ c') :
    W6.heap[bj]? = some (.cells #[a, b', c', d] 72 (0, 0)) ∧ Tn (fun k => k = bj) W W6 := by
  subst e
  exact ⟨blk_put (blk_put h 1 b' rfl) 2 c' rfl, ⟨rfl, rfl, rfl, by simp [World.setCell], fun k hk hne => (Below.heap_setCell _ ⟨bj, 2, none⟩ _ k hne).trans (Below.heap_setCell _ ⟨bj, 1, none⟩ _ k hne)⟩⟩
theorem enc_len (rs : List (List Int)) : rs.length ≤ (enc rs).length := by
  induction rs with
  | nil => exact Nat.le_refl _
  | cons r rs ih =>
    have h8 : (hdl ↑r.length).length = 8 := rfl
    show rs.length + 1 ≤ (hdl ↑r.length ++ r ++ enc rs).length
    rw [List.length_append, List.length_append, h8]
    omega
theorem enc_snoc (rs : List (List Int)) (r : List Int) : enc (rs ++ [r]) = enc rs ++ (hdl ↑r.length ++ r) := by
  induction rs with
  | nil => simp [enc]
  | cons q rs ih => simp [enc, ih]
/-- One record more. -/
theorem Rs.snoc {w W : World} {base : Nat} {bad : Nat → Prop} {v' : Value} {rs : List (List Int)} {vs : List Value} {r : List Int} {g o c : Nat} {S : Nat → Prop} (h : ∀ (i : Nat) (r : List Int), rs[i]? = some r → ∃ g o c, vs[i]? = some (.slice (some ⟨g, o, none⟩) r.length c) ∧ Src w ⟨g, o, none⟩ r ∧ base ≤ g ∧ ¬ bad g ∧ 1 ≤ r.length ∧ r.length ≤ 1024 ∧ r.length ≤ c ∧ ∃ cs, w.heap[g]? = some (.cells cs 5 (0, 0)))
    (t : Tn S w W) (hS : ∀ k c, S k → w.heap[k]? ≠ some (.cells c 5 (0, 0))) (hvl : vs.length = rs.length) (ho : W.ownsRow base 22 1 v' (rs.length + 1) (vs ++ [.slice (some ⟨g, o, none⟩) r.length c]))
    (hr : Src w ⟨g, o, none⟩ r) (hg : base ≤ g) (hb : ¬ bad g) (h1 : 1 ≤ r.length) (h2 : r.length ≤ 1024) (h3 : r.length ≤ c) (ht : ∃ cs, w.heap[g]? = some (.cells cs 5 (0, 0))) : Rs W base bad v' (rs ++ [r]) := by
  refine ⟨vs ++ [.slice (some ⟨g, o, none⟩) r.length c], by rw [List.length_append]; exact ho, fun i q hi => ?_⟩
  by_cases hl : i < rs.length
  · rw [List.getElem?_append_left hl] at hi
    obtain ⟨g', o', c', a1, a2, a3, a4, a5, a6, a7, cs, a8⟩ := h i q hi
    have hn : ¬ S g' := fun z => hS g' cs z a8
    exact ⟨g', o', c', by rw [List.getElem?_append_left (by omega)]; exact a1, a2.turn t hn, a3, a4, a5, a6, a7, cs, t.blk a8 hn⟩
  · rw [List.getElem?_append_right (by omega)] at hi
    obtain ⟨e, rfl⟩ : i - rs.length = 0 ∧ r = q := by
      rcases hz : i - rs.length with _ | z
      · rw [hz] at hi; exact ⟨rfl, Option.some.inj hi⟩
      · rw [hz] at hi; cases hi
    obtain ⟨cs, hcs⟩ := ht
    have hn : ¬ S g := fun z => hS g cs z hcs
    exact ⟨g, o, c, by rw [List.getElem?_append_right (by omega), hvl, e]; rfl, hr.turn t hn, hg, hb, h1, h2, h3, cs, t.blk hcs hn⟩
/-- What record tells. -/
def RV (g off cap : Nat) (l : List Int) (u : Value) : Prop := (∃ m : Nat, isRec l m ∧ u = .slice (some ⟨g, off + 8, none⟩) m (cap - off - 8)) ∨ ((∀ m, ¬ isRec l m) ∧ u = .slice none 0 0)
theorem jr_at (g off cap capa : Nat) (ad : Addr) (l : List Int) (w : World) (hs : Src w ad l) (had : 8 ≤ l.length → ad = ⟨g, off, none⟩) (hb : ∀ x ∈ l, 0 ≤ x ∧ x ≤ 255) (hcc : capa = cap - off) (hc : l.length ≤ capa) (hc2 : capa ≤ maxLen) : Calls Try.prog 36 #[.slice (some ad) l.length capa] w fun e w' => ∃ u, e = .returned u ∧ RV g off cap l u ∧ Below w.heap.size w w' := by
  subst hcc
  by_cases h : 8 ≤ l.length
  · obtain rfl := had h
    refine (jr_rec g off (cap - off) l w hs h hb hc hc2).mono ?_
    rintro e w' ⟨⟨n, hn, rfl⟩ | ⟨hn, rfl⟩, hb⟩
    · have e : ((n.toNat : Nat) : Int) = n := by have := hn.1; omega
      exact ⟨_, rfl, Or.inl ⟨n.toNat, by rw [e]; exact hn, rfl⟩, hb⟩
    · exact ⟨_, rfl, Or.inr ⟨hn, rfl⟩, hb⟩
  · exact (jr_short ad (cap - off) l w (by omega)).mono (by
      rintro e w' ⟨rfl, hb⟩
      exact ⟨_, rfl, Or.inr ⟨fun n hn => by obtain ⟨a, b, c, d⟩ := hn; omega, rfl⟩, hb⟩)
theorem jo_split {rest : List Int} {m : Nat} (h : m + 8 ≤ rest.length) (h8 : rest.take 8 = hdl ↑m) : ((rest.drop 8).take m).length = m ∧ rest = (hdl ↑((rest.drop 8).take m).length ++ (rest.drop 8).take m) ++ rest.drop (8 + m) := by
  have e : ((rest.drop 8).take m).length = m := by rw [List.length_take, List.length_drop]; omega
  refine ⟨e, ?_⟩
  rw [e, ← h8, List.append_assoc, ← List.drop_drop, List.take_append_drop, List.take_append_drop]
/-- A record more was read: the round's end. -/
theorem jo_step {wr w5 W6 W7 : World} {B bj bd bs bn bm n N ga capa m : Nat} {w : World} {D : DataW Unit} {st nw rest : List Int} {rs : List (List Int)} {v v' u : Value} {vs : List Value} {ob : Obj}
    (hm : isRec rest ↑m) (hnw : nw = enc rs ++ rest) (hBj : B ≤ bj) (hBg : B ≤ ga) (hgb : ¬ (ga = bs ∨ ga = bn)) (hcap : n ≤ capa)
    (hj : wr.heap[bj]? = some (.cells #[.pointer (some ⟨bd, 0, none⟩), v, .int .i64 ↑(enc rs).length, .bool false] 72 (0, 0)))
    (ho : wr.ownsRow B 22 1 v rs.length vs) (hvs : ∀ (i : Nat) (r : List Int), rs[i]? = some r → ∃ g o c, vs[i]? = some (.slice (some ⟨g, o, none⟩) r.length c) ∧ Src wr ⟨g, o, none⟩ r ∧ B ≤ g ∧ ¬ (g = bs ∨ g = bn) ∧ 1 ≤ r.length ∧ r.length ≤ 1024 ∧ r.length ≤ c ∧ ∃ cs, wr.heap[g]? = some (.cells cs 5 (0, 0)))
    (hD : Dk wr bd bs bn bm n st nw N D) (hA : Blk wr ga nw) (hBl : Below w.heap.size w wr) (hwb : w.heap.size ≤ bj)
    (ho5 : w5.ownsRow B 22 1 v' (rs.length + 1) (vs ++ [.slice (some ⟨ga, (enc rs).length + 8, none⟩) m (capa - (enc rs).length - 8)])) (hg5 : (wr.alloc ob).grownBy w5 v.ownBlock) (hwB : w.heap.size ≤ B)
    (hj6 : W6.heap[bj]? = some (.cells #[.pointer (some ⟨bd, 0, none⟩), v', .int .i64 (↑(enc rs).length + (8 + ↑m)), .bool false] 72 (0, 0))) (t6 : Tn (fun k => k = bj) w5 W6)
    (hu : RV ga ((enc rs).length + (8 + m)) capa (rest.drop (8 + m)) u) (h7 : Below W6.heap.size W6 W7) :
    ∃ rs' rest', nw = enc rs' ++ rest' ∧ Jn W7 B bj bd (fun k => k = bs ∨ k = bn) rs' (enc rs').length false ∧ RV ga (enc rs').length capa rest' u ∧ Dk W7 bd bs bn bm n st nw N D ∧ Blk W7 ga nw ∧ Below w.heap.size w W7 := by
  obtain ⟨e1, e2⟩ := jo_split (by have := hm.2.2.1; omega) hm.2.2.2
  have hln := hD.ln
  have el : (enc (rs ++ [(rest.drop 8).take m])).length = (enc rs).length + (8 + m) := by
    rw [enc_snoc, List.length_append, List.length_append, e1]
    rfl
  have hrl : (enc rs).length + rest.length = n := by rw [hnw, List.length_append] at hln; exact hln
  have hmr := hm.2.2.1
  have t : Tn (fun k => v.ownBlock = some k ∨ k = bj) wr W6 := ((jn_tn hg5).mono (fun k _ q => Or.inl q)).trans (t6.mono (fun k _ q => Or.inr q))
  have hSt : ∀ k, (v.ownBlock = some k ∨ k = bj) → (∃ c, wr.heap[k]? = some (.cells c 22 (0, 0))) ∨ (∃ c, wr.heap[k]? = some (.cells c 72 (0, 0))) := fun k q => by
    rcases q with q | rfl
    · exact Or.inl (own_typed ho q)
    · exact Or.inr ⟨_, hj⟩
  have hS5 : ∀ k c, (v.ownBlock = some k ∨ k = bj) → wr.heap[k]? ≠ some (.cells c 5 (0, 0)) := fun k c q h => by
    rcases hSt k q with ⟨c', h'⟩ | ⟨c', h'⟩ <;> (rw [h] at h'; cases h')
  have hAt : ∃ cs, wr.heap[ga]? = some (.cells cs 5 (0, 0)) := by obtain ⟨r, hr⟩ := hA; exact ⟨_, hr⟩
  have hA6 : Blk W6 ga nw := hA.turn t (fun q => by obtain ⟨cs, hcs⟩ := hAt; exact hS5 ga cs q hcs)
  have hD6 : Dk W6 bd bs bn bm n st nw N D := by
    refine hD.turn t (fun q => ?_) (fun q => ?_) (fun q => ?_) (fun q => ?_)
    · rcases hSt bd q with ⟨c', h'⟩ | ⟨c', h'⟩ <;> (rw [hD.hd] at h'; cases h')
    · obtain ⟨r, hr⟩ := hD.hs; exact hS5 bs _ q hr
    · obtain ⟨r, hr⟩ := hD.hn; exact hS5 bn _ q hr
    · obtain ⟨es, cl, hm⟩ := hD.map
      rcases hSt bm q with ⟨c', h'⟩ | ⟨c', h'⟩ <;> (rw [hm] at h'; cases h')
  refine ⟨rs ++ [(rest.drop 8).take m], rest.drop (8 + m), ?_, ?_, by rw [el]; exact hu, hD6.below h7, hA6.turn (S := fun _ => False) (Tn.of_below h7) id, ?_⟩
  · rw [enc_snoc, hnw, List.append_assoc, ← e2]
  · rw [el]
    refine Jn.below ⟨hBj, v', by rw [hj6]; simp, ?_⟩ h7
    refine Rs.snoc (r := (rest.drop 8).take m) (g := ga) (o := (enc rs).length + 8) (c := capa - (enc rs).length - 8) hvs t (fun k c q h => hS5 k c q h) ?_ ?_ ?_ hBg hgb (by have := hm.1; omega) (by have := hm.2.1; omega) (by omega) hAt
    · have := ho.1; omega
    · rw [e1]
      exact own_turn ho5 t6 (fun k hk q => by
        obtain ⟨c1, h1⟩ := own_typed ho5 hk
        have h2 := jn_keep hj ho hg5
        rw [q, h2] at h1
        cases h1)
    · exact hA.src _ (fun j x hx => by
        rw [hnw, Nat.add_assoc, List.getElem?_append_right (by omega), show (enc rs).length + (8 + j) - (enc rs).length = 8 + j by omega]
        exact jd_sub hx)
  · refine below_step (Tn.below hBl t hBl.size (fun k q => ?_)) h7
    rcases q with q | rfl
    · exact Nat.le_trans hwB (own_base ho q)
    · exact hwb
set_option maxHeartbeats 1000000 in
set_option maxRecDepth 100000 in
theorem jo_open {w : World} {bd bs bn bm n : Nat} {st nw : List Int} {N : Nat} {D : DataW Unit} (B : Nat) (hB : B ≤ w.heap.size) (h : Dk w bd bs bn bm n st nw N D) (hn : n ≤ 65536) (n0 : 8 < n) (hby : ∀ x ∈ nw, 0 ≤ x ∧ x ≤ 255) (hN : N + n < 4294967296) :
    Calls Try.prog 16 #[.pointer (some ⟨bd, 0, none⟩)] w fun e w' => ∃ rs rest bj st' D', e = .returned (.tuple #[.pointer (some ⟨bj, 0, none⟩), .nilIface]) ∧ w.heap.size ≤ bj ∧ nw = enc rs ++ rest ∧ (∀ m, ¬ isRec rest m) ∧ Jn w' B bj bd (fun k => k = bs ∨ k = bn) rs (enc rs).length false ∧ Dk w' bd bs bn bm n st' (enc rs ++ List.replicate rest.length 0) (N + n) D' ∧ Tn (fun k => k = bs ∨ k = bn ∨ k = bm) w w' := by
  have HD := Aside0.mk h
  have HBY := Aside0.mk hby
  clear h hby
  go_enter Try.func16, Try.ntmps16
  go_wp2_with fail
  refine (jd_size HD.out).mono ?_
  rintro e w1 ⟨rfl, hb⟩
  have HD1 := Aside0.mk (HD.out.below hb)
  have B1 := Aside0.mk hb
  clear hb
  go_wp2_with fail
  refine (jd_read HD1.out 0 n hn (by omega) (by omega)).mono ?_
  rintro e w2 ⟨ga, capa, rfl, hga, hba, hca, hb⟩
  rw [List.drop_zero, List.take_of_length_le (Nat.le_of_eq HD1.out.ln)] at hba
  have HD2 := Aside0.mk (HD1.out.below hb)
  have B2 := Aside0.mk (below_step B1.out hb)
  have BA := Aside0.mk hba
  have HG := Aside0.mk (And.intro hga B1.out.size)
  clear hb hba hga B1 HD1
  go_wp2_with fail
  have BA3 := Aside0.mk (BA.out.turn (S := fun _ => False) (Tn.of_below (below_alloc (Below.refl _ _) (.cells #[.pointer (some ⟨bd, 0, none⟩), .slice none 0 0, .int .i64 0, .bool false] 72))) id)
  have HD3 := Aside0.mk (HD2.out.below (below_alloc (Below.refl _ _) (.cells #[.pointer (some ⟨bd, 0, none⟩), .slice none 0 0, .int .i64 0, .bool false] 72)))
  have B3 := Aside0.mk (below_alloc B2.out (.cells #[.pointer (some ⟨bd, 0, none⟩), .slice none 0 0, .int .i64 0, .bool false] 72))
  have J3 : Aside0 (Jn (w2.alloc (.cells #[.pointer (some ⟨bd, 0, none⟩), .slice none 0 0, .int .i64 0, .bool false] 72)) w.heap.size w2.heap.size bd (fun k => k = bs ∨ k = bn) [] (enc []).length false) := ⟨⟨B2.out.size, _, blk_new w2 _, Rs.nil _ _ _⟩⟩
  have HJ := Aside0.mk B2.out.size
  generalize w2.alloc (.cells #[.pointer (some ⟨bd, 0, none⟩), .slice none 0 0, .int .i64 0, .bool false] 72) = w3 at BA3 HD3 B3 J3 ⊢
  generalize w2.heap.size = bj at J3 HJ ⊢
  clear BA HD2 B2
  have R3 := jr_at ga 0 capa capa ⟨ga, 0, none⟩ nw w3 BA3.out.src0 (fun _ => rfl) HBY.out rfl (by rw [HD3.out.ln]; exact hca.1) hca.2
  rw [HD3.out.ln] at R3
  refine R3.mono ?_
  rintro e w4 ⟨u, rfl, hu, hb⟩
  have HL : Aside0 (∃ rs rest, nw = enc rs ++ rest ∧ Jn w4 w.heap.size bj bd (fun k => k = bs ∨ k = bn) rs (enc rs).length false ∧ RV ga (enc rs).length capa rest u ∧ Dk w4 bd bs bn bm n st nw N D ∧ Blk w4 ga nw ∧ Below w.heap.size w w4) :=
    ⟨⟨[], nw, rfl, J3.out.below hb, hu, HD3.out.below hb, BA3.out.turn (S := fun _ => False) (Tn.of_below hb) id, below_step B3.out hb⟩⟩
  clear hb hu R3 BA3 HD3 B3 J3
  go_wp2_with fail
  skip
  go_loopw [7] (fun v7 wr => Aside0 (∃ rs rest, nw = enc rs ++ rest ∧ Jn wr w.heap.size bj bd (fun k => k = bs ∨ k = bn) rs (enc rs).length false ∧ RV ga (enc rs).length capa rest v7 ∧ Dk wr bd bs bn bm n st nw N D ∧ Blk wr ga nw ∧ Below w.heap.size w wr)) (fun _ wr => n - (intOf ((wr.cell? ⟨bj, 2, none⟩).getD undef)).toNat)
  case atStart => exact HL
  case round =>
    obtain ⟨rs, rest, hnw, hJ, hR, hD, hA, hBl⟩ := hrel.out
    have hln := hD.ln
    rw [hnw, List.length_append] at hln
    have hel := enc_len rs
    rcases hR with ⟨m, hm, rfl⟩ | ⟨hno, rfl⟩
    · obtain ⟨m1, m2, m3, m4⟩ := hm
      obtain ⟨v, hj, vs, ho, hvs⟩ := hJ.hj
      obtain ⟨i0, hi, hz0, hz1, hz2⟩ := info_parts jo_info
      have HI := Aside0.mk hi
      have HVS := Aside0.mk hvs
      have HJJ := Aside0.mk hj
      have HO := Aside0.mk ho
      have HX := Aside0.mk (And.intro hD (And.intro hA (And.intro hBl m4)))
      have HNW := Aside0.mk hnw
      clear hi hvs hJ hD hA hBl hrel hnw m4 ho
      obtain ⟨q0, q1, q2, q3, f1, f2, f3⟩ := jn_cells hj
      have hjb := blk_lt hj
      have BL := Aside0.mk HX.out.2.2.1.size
      clear hj
      by_cases hx0 : capa = (enc rs).length + (8 + m)
      · have hxx : (capa = (enc rs).length + (8 + m)) = True := eq_true hx0
        have HX0 := Aside0.mk hx0
        clear hx0
        go_wp2_with (at_builtin; refine wpList_append_own_at _ rfl _ _ 44 rfl w.heap.size 22 i0 (.slice none 0 0) 1 24 Try.underlying44 HI.out hz0 hz1 hz2 rfl (by decide) v rs.length vs rfl (HO.out.alloc _) ⟨wr.heap.size, 0, none⟩ 1 1 [.slice (some ⟨ga, (enc rs).length + 8, none⟩) m (capa - (enc rs).length - 8)] rfl rfl (jo_one _ _) (by simp [Value.oneCell']) (by unfold maxLen; omega) (by omega) (by have := BL.out; simp; omega) ?_; intro v' w5 hown5 hgrow5 hnil5 hloc5; obtain ⟨A5, c5, rfl⟩ := own_slice hown5; obtain ⟨p0, p1, p2, p3, e1, e2, e3⟩ := jn_cells (jn_keep HJJ.out HO.out hgrow5); have OO := Aside0.mk hown5; have GG := Aside0.mk hgrow5; clear hown5 hgrow5 hnil5 hloc5)
        generalize hW6 : ((w5.setCell ⟨bj, 1, none⟩ _).setCell ⟨bj, 2, none⟩ _) = W6
        obtain ⟨hj6, t6⟩ := jn_set (jn_keep HJJ.out HO.out GG.out) _ _ W6 hW6.symm
        have hgab : ¬ (ga = bs ∨ ga = bn) := by
          have k1 := HD.out.hs.lt
          have k2 := HD.out.hn.lt
          have k3 := HG.out
          omega
        have hA6 : Blk W6 ga nw := HX.out.2.1.turn (((jn_tn GG.out).mono (fun k _ q => Or.inl q)).trans (t6.mono (S' := fun k => v.ownBlock = some k ∨ k = bj) (fun k _ q => Or.inr q))) (fun q => by
          obtain ⟨r, hr⟩ := HX.out.2.1
          rcases q with q | q
          · obtain ⟨c, hc⟩ := own_typed HO.out q
            rw [hr] at hc
            cases hc
          · have hc := HJJ.out
            rw [← q] at hc
            exact ty_ne hr hc (by decide))
        have hl' : (rest.drop (8 + m)).length = n - ((enc rs).length + (8 + m)) := by rw [List.length_drop]; omega
        have R := jr_at ga ((enc rs).length + (8 + m)) capa (capa - ((enc rs).length + (8 + m))) ⟨ga, 0, none⟩ (rest.drop (8 + m)) W6 (fun j x hx => by rw [List.getElem?_eq_none (by have := HX0.out; omega)] at hx; cases hx) (fun h => by have := HX0.out; omega) (fun x hx => HBY.out x (by rw [HNW.out]; exact List.mem_append_right _ (List.mem_of_mem_drop hx))) rfl (by omega) (by have := hca.2; omega)
        rw [hl'] at R
        refine R.mono ?_
        rintro e w7 ⟨u2, rfl, hu2, hb7⟩
        have ST := jo_step (u := u2) ⟨m1, m2, m3, HX.out.2.2.2⟩ HNW.out HJ.out (by have := HG.out; omega) hgab hca.1 HJJ.out HO.out HVS.out HX.out.1 HX.out.2.1 HX.out.2.2.1 HJ.out OO.out GG.out (Nat.le_refl _) hj6 t6 hu2 hb7
        have c7 : w7.cell? ⟨bj, 2, none⟩ = some (.int .i64 (↑(enc rs).length + (8 + ↑m))) := (blk_cell (hb7.block bj (blk_lt hj6) |>.trans hj6) 2).trans rfl
        clear hW6 hj6 t6 hA6 R hu2 hb7
        go_wp2_with fail
        refine ⟨⟨ST⟩, ?_⟩
        rw [c7, q2]
        simp [intOf]
        omega
      · have hxx : (capa = (enc rs).length + (8 + m)) = False := eq_false hx0
        clear hx0
        go_wp2_with (at_builtin; refine wpList_append_own_at _ rfl _ _ 44 rfl w.heap.size 22 i0 (.slice none 0 0) 1 24 Try.underlying44 HI.out hz0 hz1 hz2 rfl (by decide) v rs.length vs rfl (HO.out.alloc _) ⟨wr.heap.size, 0, none⟩ 1 1 [.slice (some ⟨ga, (enc rs).length + 8, none⟩) m (capa - (enc rs).length - 8)] rfl rfl (jo_one _ _) (by simp [Value.oneCell']) (by unfold maxLen; omega) (by omega) (by have := BL.out; simp; omega) ?_; intro v' w5 hown5 hgrow5 hnil5 hloc5; obtain ⟨A5, c5, rfl⟩ := own_slice hown5; obtain ⟨p0, p1, p2, p3, e1, e2, e3⟩ := jn_cells (jn_keep HJJ.out HO.out hgrow5); have OO := Aside0.mk hown5; have GG := Aside0.mk hgrow5; clear hown5 hgrow5 hnil5 hloc5)
        generalize hW6 : ((w5.setCell ⟨bj, 1, none⟩ _).setCell ⟨bj, 2, none⟩ _) = W6
        obtain ⟨hj6, t6⟩ := jn_set (jn_keep HJJ.out HO.out GG.out) _ _ W6 hW6.symm
        have hgab : ¬ (ga = bs ∨ ga = bn) := by
          have k1 := HD.out.hs.lt
          have k2 := HD.out.hn.lt
          have k3 := HG.out
          omega
        have hA6 : Blk W6 ga nw := HX.out.2.1.turn (((jn_tn GG.out).mono (fun k _ q => Or.inl q)).trans (t6.mono (S' := fun k => v.ownBlock = some k ∨ k = bj) (fun k _ q => Or.inr q))) (fun q => by
          obtain ⟨r, hr⟩ := HX.out.2.1
          rcases q with q | q
          · obtain ⟨c, hc⟩ := own_typed HO.out q
            rw [hr] at hc
            cases hc
          · have hc := HJJ.out
            rw [← q] at hc
            exact ty_ne hr hc (by decide))
        have hl' : (rest.drop (8 + m)).length = n - ((enc rs).length + (8 + m)) := by rw [List.length_drop]; omega
        have R := jr_at ga ((enc rs).length + (8 + m)) capa (capa - ((enc rs).length + (8 + m))) ⟨ga, (enc rs).length + (8 + m), none⟩ (rest.drop (8 + m)) W6 ((hA6.src ((enc rs).length + (8 + m)) (fun j x hx => by rw [HNW.out, Nat.add_assoc, List.getElem?_append_right (by omega), show (enc rs).length + ((8 + m) + j) - (enc rs).length = (8 + m) + j by omega]; rwa [List.getElem?_drop] at hx))) (fun _ => rfl) (fun x hx => HBY.out x (by rw [HNW.out]; exact List.mem_append_right _ (List.mem_of_mem_drop hx))) rfl (by omega) (by have := hca.2; omega)
        rw [hl'] at R
        refine R.mono ?_
        rintro e w7 ⟨u2, rfl, hu2, hb7⟩
        have ST := jo_step (u := u2) ⟨m1, m2, m3, HX.out.2.2.2⟩ HNW.out HJ.out (by have := HG.out; omega) hgab hca.1 HJJ.out HO.out HVS.out HX.out.1 HX.out.2.1 HX.out.2.2.1 HJ.out OO.out GG.out (Nat.le_refl _) hj6 t6 hu2 hb7
        have c7 : w7.cell? ⟨bj, 2, none⟩ = some (.int .i64 (↑(enc rs).length + (8 + ↑m))) := (blk_cell (hb7.block bj (blk_lt hj6) |>.trans hj6) 2).trans rfl
        clear hW6 hj6 t6 hA6 R hu2 hb7
        go_wp2_with fail
        refine ⟨⟨ST⟩, ?_⟩
        rw [c7, q2]
        simp [intOf]
        omega
    · obtain ⟨v, hj, -⟩ := hJ.hj
      obtain ⟨q0, q1, q2, q3, -⟩ := jn_cells hj
      have HJW := Aside0.mk hJ
      clear hj
      by_cases hx0 : capa = (enc rs).length
      · have hxx : (capa = (enc rs).length) = True := eq_true hx0
        have HX0 := Aside0.mk hx0
        clear hx0
        go_wp2_with fail
        have hl' : rest.length = n - (enc rs).length := by omega
        have R := jf_contains ⟨ga, 0, none⟩ (capa - (enc rs).length) rest wr (fun j x hx => by rw [List.getElem?_eq_none (by have := HX0.out; omega)] at hx; cases hx) (by omega)
        rw [hl'] at R
        refine R.mono ?_
        rintro e w5 ⟨rfl, hb5⟩
        have X5 := Aside0.mk hb5
        clear R hb5 hl'
        generalize hz : rest.any (· != 0) = z
        have HZ := Aside0.mk hz
        clear hz
        cases z
        · go_wp2_with fail
          go_ret2
          refine ⟨rs, rest, bj, st, D, rfl, HJ.out, hnw, hno, (hJ.below X5.out).lower hB, ?_, Tn.of_below (below_step hBl X5.out)⟩
          rw [← any_zero HZ.out, ← hnw]
          exact (hD.below X5.out).grow (by omega)
        · have hpos : 0 < rest.length := by
            rcases rest with _ | ⟨x, xs⟩
            · have := HZ.out; cases this
            · exact Nat.succ_pos _
          have kn : (↑n - ↑(enc rs).length : Int) = ↑(n - (enc rs).length) := by omega
          have hmk := fun W => run_make_row' (P := Try.prog) 22 5 (.int .u8 0) 1 Try.underlying22 jd_info rfl .i64 .i64 (n - (enc rs).length) (by omega) (by omega) W
          have hJ5 := hJ.below X5.out
          obtain ⟨v5, hj5, -⟩ := hJ5.hj
          obtain ⟨p0, p1, p2, p3, -⟩ := jn_cells hj5
          have HJ5 := Aside0.mk hJ5
          clear hJ5 hj5
          go_wp2_with fail
          refine start_ (n := 10) (S := fun w' => w'.cell? ⟨bj, 2, none⟩ = some (.int .i64 ↑(enc rs).length)) (ds := []) #[false, false, false, false, false, false, false, false, false, false] (by kernel_rfl) rfl rfl p2 (fun hHeld => ?_)
          have hD5 := (hD.below X5.out).below (below_drew1 (Below.refl _ _))
          have J5 := HJ5.out.below (below_drew1 (Below.refl w5.heap.size w5))
          have B5 := Aside0.mk (below_drew1 (below_step hBl X5.out))
          generalize w5.drew = wd at hHeld hD5 J5 B5 ⊢
          have HD5 := Aside0.mk hD5
          have HJ6 := Aside0.mk J5
          clear hD5 J5 p0 p1 p2 p3 HJ5
          refine pure_ (i := 0) (N := some 65) (v := ?_) (a' := ?_) #[true, false, false, false, false, false, false, false, false, false] rfl rfl (by kernel_rfl) (fun _ _ _ h => h) (Or.inl ⟨by rfl, ?_⟩) ?_ ?_
          rotate_left
          · intro w'
            go_simp
            with_reducible rfl
          rotate_left
          · simp only [Act.put, List.setIfInBounds_toArray, List.set_cons_zero, List.set_cons_succ, i64_w, i32_w]
            rfl
          refine pure_ (i := 1) (N := some 66) (v := ?_) (a' := ?_) #[true, true, false, false, false, false, false, false, false, false] rfl rfl (by kernel_rfl) (fun _ _ _ h => h) (Or.inl ⟨by rfl, ?_⟩) ?_ ?_
          rotate_left
          · intro w'
            go_simp
            with_reducible rfl
          rotate_left
          · simp only [Act.put, List.setIfInBounds_toArray, List.set_cons_zero, List.set_cons_succ, i64_w, i32_w]
            rfl
          refine pure_ (i := 2) (N := some 67) (v := ?_) (a' := ?_) #[true, true, true, false, false, false, false, false, false, false] rfl rfl (by kernel_rfl) (fun _ _ _ h => h) (Or.inl ⟨by rfl, ?_⟩) ?_ ?_
          rotate_left
          · intro w'
            go_simp
            with_reducible rfl
          rotate_left
          · simp only [Act.put, List.setIfInBounds_toArray, List.set_cons_zero, List.set_cons_succ, i64_w, i32_w]
            rfl
          refine pure_ (i := 3) (N := some 68) (v := ?_) (a' := ?_) #[true, true, true, true, false, false, false, false, false, false] rfl rfl (by kernel_rfl) (fun _ _ _ h => h) (Or.inl ⟨by rfl, ?_⟩) ?_ ?_
          rotate_left
          · intro w'
            go_simp
            with_reducible rfl
          rotate_left
          · simp only [Act.put, List.setIfInBounds_toArray, List.set_cons_zero, List.set_cons_succ, i64_w, i32_w]
            rfl
          refine take_ (i := 4) (N := some 69) (v := ?_) (a' := ?_) #[true, true, true, true, true, false, false, false, false, false] rfl rfl (by kernel_rfl) (fun _ _ _ h => h) (Or.inl ⟨by rfl, ?_⟩) hHeld ?_ ?_
          rotate_left
          · rintro w' s0
            go_simp
            with_reducible rfl
          rotate_left
          · simp only [Act.put, List.setIfInBounds_toArray, List.set_cons_zero, List.set_cons_succ, i64_w, i32_w]
            rfl
          refine pure_ (i := 5) (N := some 70) (v := ?_) (a' := ?_) #[true, true, true, true, true, true, false, false, false, false] rfl rfl (by kernel_rfl) (fun _ _ _ h => h) (Or.inl ⟨by rfl, ?_⟩) ?_ ?_
          rotate_left
          · intro w'
            go_simp
            with_reducible rfl
          rotate_left
          · simp only [Act.put, List.setIfInBounds_toArray, List.set_cons_zero, List.set_cons_succ, i64_w, i32_w]
            rfl
          refine pure_ (i := 6) (N := some 71) (v := ?_) (a' := ?_) #[true, true, true, true, true, true, true, false, false, false] rfl rfl (by kernel_rfl) (fun _ _ _ h => h) (Or.inl ⟨by rfl, ?_⟩) ?_ ?_
          rotate_left
          · intro w'
            go_simp
            with_reducible rfl
          rotate_left
          · simp only [Act.put, List.setIfInBounds_toArray, List.set_cons_zero, List.set_cons_succ, i64_w, i32_w]
            rfl
          refine one_ (i := 7) (N := some 72) #[true, true, true, true, true, true, true, true, false, false] rfl rfl (by kernel_rfl) (by decide) (fun K hK => ?_)
          refine value_ (w1 := ?_) (v := ?_) (by rfl) rfl ?_ ?_
          rotate_left 2
          · go_simp
            constructor
            · rfl
            · rfl
          clear hmk
          have HD6 := Aside0.mk (HD5.out.below (below_alloc (Below.refl _ _) (.cells (madeCells #[.int .u8 0] (n - (enc rs).length)) 5)))
          have HJ7 := Aside0.mk (HJ6.out.below (below_alloc (Below.refl _ _) (.cells (madeCells #[.int .u8 0] (n - (enc rs).length)) 5)))
          have B6 := Aside0.mk (below_alloc B5.out (.cells (madeCells #[.int .u8 0] (n - (enc rs).length)) 5))
          have Z6 : Aside0 (Blk (wd.alloc (.cells (madeCells #[.int .u8 0] (n - (enc rs).length)) 5)) wd.heap.size (List.replicate (n - (enc rs).length) 0)) := ⟨⟨[], by rw [bv_made]; exact blk_new wd _⟩⟩
          refine hK.out _ _ (by obtain ⟨v6, h6, -⟩ := HJ7.out.hj; exact (jn_cells h6).2.2.1) (fun hHeld => ?_)
          clear hK K
          generalize wd.alloc (.cells (madeCells #[.int .u8 0] (n - (enc rs).length)) 5) = w6 at HD6 HJ7 B6 Z6 hHeld ⊢
          generalize wd.heap.size = gz at Z6 ⊢
          refine norm_ (a' := ?_) ?_ ?_
          rotate_left
          · show Act.put _ (some 72) _ = _
            simp only [Act.put, List.setIfInBounds_toArray, List.set_cons_zero, List.set_cons_succ, i64_w, i32_w]
            rfl
          refine one_ (i := 8) (N := some 73) #[true, true, true, true, true, true, true, true, true, false] rfl rfl (by kernel_rfl) (by decide) (fun K hK => ?_)
          refine goes_ Try.func14 (by kernel_rfl) rfl #[.pointer (some ⟨bd, 0, none⟩), .int .i64 ↑(enc rs).length, .slice (some ⟨gz, 0, none⟩) (n - (enc rs).length) (n - (enc rs).length)] (by rfl) rfl rfl (by simp only [List.map_toArray, List.map_cons, List.map_nil]; first | done | rfl) ?_
          have W := jd_write HD6.out hn (fun q => by obtain ⟨r, hr⟩ := HD6.out.hn; exact ty_ne (q ▸ HD6.out.hd) hr (by decide)) (enc rs).length ⟨gz, 0, none⟩ (List.replicate (n - (enc rs).length) 0) (n - (enc rs).length) (by rw [List.length_replicate]; omega) Z6.out.src0 (by rw [List.length_replicate]; omega) (by rw [List.length_replicate]; omega)
          rw [List.length_replicate] at W
          refine W.mono ?_
          rintro e w7 ⟨rfl, hD7, t7⟩
          refine ⟨_, rfl, ?_⟩
          have HD7 := Aside0.mk hD7
          have HJ8 := Aside0.mk (jn_disk HJ7.out HD6.out (t7.mono (fun k _ q => Or.inr q)))
          have T7 : Aside0 (Tn (fun k => k = bs ∨ k = bn ∨ k = bm) w w7) := ⟨(Tn.of_below B6.out).trans (t7.mono (fun k _ q => Or.inr q))⟩
          refine hK.out _ _ (by obtain ⟨v6, h6, -⟩ := HJ8.out.hj; exact (jn_cells h6).2.2.1) (fun hHeld => ?_)
          clear hK K W hD7 t7 HJ7 HD6
          refine norm_ (a' := ?_) ?_ ?_
          rotate_left
          · show Act.put _ (some 73) _ = _
            simp only [Act.put, List.setIfInBounds_toArray, List.set_cons_zero, List.set_cons_succ, i64_w, i32_w]
            rfl
          refine pure_ (i := 9) (N := some 9) (v := ?_) (a' := ?_) #[true, true, true, true, true, true, true, true, true, true] rfl rfl (by kernel_rfl) (fun _ _ _ h => h) (Or.inl ⟨by rfl, ?_⟩) ?_ ?_
          rotate_left
          · intro w'
            go_simp
            with_reducible rfl
          rotate_left
          · simp only [Act.put, List.setIfInBounds_toArray, List.set_cons_zero, List.set_cons_succ, i64_w, i32_w]
            rfl
          refine done_ (by kernel_rfl) ?_
          clear hHeld
          go_wp2_with fail
          refine (jd_sync HD7.out hn (by omega) (fun q => by obtain ⟨r, hr⟩ := HD7.out.hs; exact ty_ne (q ▸ HD7.out.hd) hr (by decide))).mono ?_
          rintro e w8 ⟨rfl, hD8, t8⟩
          have HD8 := Aside0.mk hD8
          have HJ9 := Aside0.mk (jn_disk HJ8.out HD7.out (t8.mono (fun k _ q => by rcases q with q | q; exact Or.inl q; exact Or.inr (Or.inr q))))
          have T8 : Aside0 (Tn (fun k => k = bs ∨ k = bn ∨ k = bm) w w8) := ⟨T7.out.trans (t8.mono (fun k _ q => by rcases q with q | q; exact Or.inl q; exact Or.inr (Or.inr q)))⟩
          clear hD8 t8
          go_wp2_with fail
          go_ret2
          have e8 := HD8.out
          rw [hnw, show n - (enc rs).length = rest.length by omega, splice_end _ _ _ (by rw [List.length_replicate])] at e8
          exact ⟨rs, rest, bj, enc rs ++ List.replicate rest.length 0, .map [], rfl, HJ.out, hnw, hno, HJ9.out.lower hB, e8.grow (by omega), T8.out⟩
      · have hxx : (capa = (enc rs).length) = False := eq_false hx0
        clear hx0
        go_wp2_with fail
        have hl' : rest.length = n - (enc rs).length := by omega
        have R := jf_contains ⟨ga, (enc rs).length, none⟩ (capa - (enc rs).length) rest wr ((hA.src (enc rs).length (fun j x hx => by rw [hnw, List.getElem?_append_right (by omega), show (enc rs).length + j - (enc rs).length = j by omega]; exact hx))) (by omega)
        rw [hl'] at R
        refine R.mono ?_
        rintro e w5 ⟨rfl, hb5⟩
        have X5 := Aside0.mk hb5
        clear R hb5 hl'
        generalize hz : rest.any (· != 0) = z
        have HZ := Aside0.mk hz
        clear hz
        cases z
        · go_wp2_with fail
          go_ret2
          refine ⟨rs, rest, bj, st, D, rfl, HJ.out, hnw, hno, (hJ.below X5.out).lower hB, ?_, Tn.of_below (below_step hBl X5.out)⟩
          rw [← any_zero HZ.out, ← hnw]
          exact (hD.below X5.out).grow (by omega)
        · have hpos : 0 < rest.length := by
            rcases rest with _ | ⟨x, xs⟩
            · have := HZ.out; cases this
            · exact Nat.succ_pos _
          have kn : (↑n - ↑(enc rs).length : Int) = ↑(n - (enc rs).length) := by omega
          have hmk := fun W => run_make_row' (P := Try.prog) 22 5 (.int .u8 0) 1 Try.underlying22 jd_info rfl .i64 .i64 (n - (enc rs).length) (by omega) (by omega) W
          have hJ5 := hJ.below X5.out
          obtain ⟨v5, hj5, -⟩ := hJ5.hj
          obtain ⟨p0, p1, p2, p3, -⟩ := jn_cells hj5
          have HJ5 := Aside0.mk hJ5
          clear hJ5 hj5
          go_wp2_with fail
          refine start_ (n := 10) (S := fun w' => w'.cell? ⟨bj, 2, none⟩ = some (.int .i64 ↑(enc rs).length)) (ds := []) #[false, false, false, false, false, false, false, false, false, false] (by kernel_rfl) rfl rfl p2 (fun hHeld => ?_)
          have hD5 := (hD.below X5.out).below (below_drew1 (Below.refl _ _))
          have J5 := HJ5.out.below (below_drew1 (Below.refl w5.heap.size w5))
          have B5 := Aside0.mk (below_drew1 (below_step hBl X5.out))
          generalize w5.drew = wd at hHeld hD5 J5 B5 ⊢
          have HD5 := Aside0.mk hD5
          have HJ6 := Aside0.mk J5
          clear hD5 J5 p0 p1 p2 p3 HJ5
          refine pure_ (i := 0) (N := some 65) (v := ?_) (a' := ?_) #[true, false, false, false, false, false, false, false, false, false] rfl rfl (by kernel_rfl) (fun _ _ _ h => h) (Or.inl ⟨by rfl, ?_⟩) ?_ ?_
          rotate_left
          · intro w'
            go_simp
            with_reducible rfl
          rotate_left
          · simp only [Act.put, List.setIfInBounds_toArray, List.set_cons_zero, List.set_cons_succ, i64_w, i32_w]
            rfl
          refine pure_ (i := 1) (N := some 66) (v := ?_) (a' := ?_) #[true, true, false, false, false, false, false, false, false, false] rfl rfl (by kernel_rfl) (fun _ _ _ h => h) (Or.inl ⟨by rfl, ?_⟩) ?_ ?_
          rotate_left
          · intro w'
            go_simp
            with_reducible rfl
          rotate_left
          · simp only [Act.put, List.setIfInBounds_toArray, List.set_cons_zero, List.set_cons_succ, i64_w, i32_w]
            rfl
          refine pure_ (i := 2) (N := some 67) (v := ?_) (a' := ?_) #[true, true, true, false, false, false, false, false, false, false] rfl rfl (by kernel_rfl) (fun _ _ _ h => h) (Or.inl ⟨by rfl, ?_⟩) ?_ ?_
          rotate_left
          · intro w'
            go_simp
            with_reducible rfl
          rotate_left
          · simp only [Act.put, List.setIfInBounds_toArray, List.set_cons_zero, List.set_cons_succ, i64_w, i32_w]
            rfl
          refine pure_ (i := 3) (N := some 68) (v := ?_) (a' := ?_) #[true, true, true, true, false, false, false, false, false, false] rfl rfl (by kernel_rfl) (fun _ _ _ h => h) (Or.inl ⟨by rfl, ?_⟩) ?_ ?_
          rotate_left
          · intro w'
            go_simp
            with_reducible rfl
          rotate_left
          · simp only [Act.put, List.setIfInBounds_toArray, List.set_cons_zero, List.set_cons_succ, i64_w, i32_w]
            rfl
          refine take_ (i := 4) (N := some 69) (v := ?_) (a' := ?_) #[true, true, true, true, true, false, false, false, false, false] rfl rfl (by kernel_rfl) (fun _ _ _ h => h) (Or.inl ⟨by rfl, ?_⟩) hHeld ?_ ?_
          rotate_left
          · rintro w' s0
            go_simp
            with_reducible rfl
          rotate_left
          · simp only [Act.put, List.setIfInBounds_toArray, List.set_cons_zero, List.set_cons_succ, i64_w, i32_w]
            rfl
          refine pure_ (i := 5) (N := some 70) (v := ?_) (a' := ?_) #[true, true, true, true, true, true, false, false, false, false] rfl rfl (by kernel_rfl) (fun _ _ _ h => h) (Or.inl ⟨by rfl, ?_⟩) ?_ ?_
          rotate_left
          · intro w'
            go_simp
            with_reducible rfl
          rotate_left
          · simp only [Act.put, List.setIfInBounds_toArray, List.set_cons_zero, List.set_cons_succ, i64_w, i32_w]
            rfl
          refine pure_ (i := 6) (N := some 71) (v := ?_) (a' := ?_) #[true, true, true, true, true, true, true, false, false, false] rfl rfl (by kernel_rfl) (fun _ _ _ h => h) (Or.inl ⟨by rfl, ?_⟩) ?_ ?_
          rotate_left
          · intro w'
            go_simp
            with_reducible rfl
          rotate_left
          · simp only [Act.put, List.setIfInBounds_toArray, List.set_cons_zero, List.set_cons_succ, i64_w, i32_w]
            rfl
          refine one_ (i := 7) (N := some 72) #[true, true, true, true, true, true, true, true, false, false] rfl rfl (by kernel_rfl) (by decide) (fun K hK => ?_)
          refine value_ (w1 := ?_) (v := ?_) (by rfl) rfl ?_ ?_
          rotate_left 2
          · go_simp
            constructor
            · rfl
            · rfl
          clear hmk
          have HD6 := Aside0.mk (HD5.out.below (below_alloc (Below.refl _ _) (.cells (madeCells #[.int .u8 0] (n - (enc rs).length)) 5)))
          have HJ7 := Aside0.mk (HJ6.out.below (below_alloc (Below.refl _ _) (.cells (madeCells #[.int .u8 0] (n - (enc rs).length)) 5)))
          have B6 := Aside0.mk (below_alloc B5.out (.cells (madeCells #[.int .u8 0] (n - (enc rs).length)) 5))
          have Z6 : Aside0 (Blk (wd.alloc (.cells (madeCells #[.int .u8 0] (n - (enc rs).length)) 5)) wd.heap.size (List.replicate (n - (enc rs).length) 0)) := ⟨⟨[], by rw [bv_made]; exact blk_new wd _⟩⟩
          refine hK.out _ _ (by obtain ⟨v6, h6, -⟩ := HJ7.out.hj; exact (jn_cells h6).2.2.1) (fun hHeld => ?_)
          clear hK K
          generalize wd.alloc (.cells (madeCells #[.int .u8 0] (n - (enc rs).length)) 5) = w6 at HD6 HJ7 B6 Z6 hHeld ⊢
          generalize wd.heap.size = gz at Z6 ⊢
          refine norm_ (a' := ?_) ?_ ?_
          rotate_left
          · show Act.put _ (some 72) _ = _
            simp only [Act.put, List.setIfInBounds_toArray, List.set_cons_zero, List.set_cons_succ, i64_w, i32_w]
            rfl
          refine one_ (i := 8) (N := some 73) #[true, true, true, true, true, true, true, true, true, false] rfl rfl (by kernel_rfl) (by decide) (fun K hK => ?_)
          refine goes_ Try.func14 (by kernel_rfl) rfl #[.pointer (some ⟨bd, 0, none⟩), .int .i64 ↑(enc rs).length, .slice (some ⟨gz, 0, none⟩) (n - (enc rs).length) (n - (enc rs).length)] (by rfl) rfl rfl (by simp only [List.map_toArray, List.map_cons, List.map_nil]; first | done | rfl) ?_
          have W := jd_write HD6.out hn (fun q => by obtain ⟨r, hr⟩ := HD6.out.hn; exact ty_ne (q ▸ HD6.out.hd) hr (by decide)) (enc rs).length ⟨gz, 0, none⟩ (List.replicate (n - (enc rs).length) 0) (n - (enc rs).length) (by rw [List.length_replicate]; omega) Z6.out.src0 (by rw [List.length_replicate]; omega) (by rw [List.length_replicate]; omega)
          rw [List.length_replicate] at W
          refine W.mono ?_
          rintro e w7 ⟨rfl, hD7, t7⟩
          refine ⟨_, rfl, ?_⟩
          have HD7 := Aside0.mk hD7
          have HJ8 := Aside0.mk (jn_disk HJ7.out HD6.out (t7.mono (fun k _ q => Or.inr q)))
          have T7 : Aside0 (Tn (fun k => k = bs ∨ k = bn ∨ k = bm) w w7) := ⟨(Tn.of_below B6.out).trans (t7.mono (fun k _ q => Or.inr q))⟩
          refine hK.out _ _ (by obtain ⟨v6, h6, -⟩ := HJ8.out.hj; exact (jn_cells h6).2.2.1) (fun hHeld => ?_)
          clear hK K W hD7 t7 HJ7 HD6
          refine norm_ (a' := ?_) ?_ ?_
          rotate_left
          · show Act.put _ (some 73) _ = _
            simp only [Act.put, List.setIfInBounds_toArray, List.set_cons_zero, List.set_cons_succ, i64_w, i32_w]
            rfl
          refine pure_ (i := 9) (N := some 9) (v := ?_) (a' := ?_) #[true, true, true, true, true, true, true, true, true, true] rfl rfl (by kernel_rfl) (fun _ _ _ h => h) (Or.inl ⟨by rfl, ?_⟩) ?_ ?_
          rotate_left
          · intro w'
            go_simp
            with_reducible rfl
          rotate_left
          · simp only [Act.put, List.setIfInBounds_toArray, List.set_cons_zero, List.set_cons_succ, i64_w, i32_w]
            rfl
          refine done_ (by kernel_rfl) ?_
          clear hHeld
          go_wp2_with fail
          refine (jd_sync HD7.out hn (by omega) (fun q => by obtain ⟨r, hr⟩ := HD7.out.hs; exact ty_ne (q ▸ HD7.out.hd) hr (by decide))).mono ?_
          rintro e w8 ⟨rfl, hD8, t8⟩
          have HD8 := Aside0.mk hD8
          have HJ9 := Aside0.mk (jn_disk HJ8.out HD7.out (t8.mono (fun k _ q => by rcases q with q | q; exact Or.inl q; exact Or.inr (Or.inr q))))
          have T8 : Aside0 (Tn (fun k => k = bs ∨ k = bn ∨ k = bm) w w8) := ⟨T7.out.trans (t8.mono (fun k _ q => by rcases q with q | q; exact Or.inl q; exact Or.inr (Or.inr q)))⟩
          clear hD8 t8
          go_wp2_with fail
          go_ret2
          have e8 := HD8.out
          rw [hnw, show n - (enc rs).length = rest.length by omega, splice_end _ _ _ (by rw [List.length_replicate])] at e8
          exact ⟨rs, rest, bj, enc rs ++ List.replicate rest.length 0, .map [], rfl, HJ.out, hnw, hno, HJ9.out.lower hB, e8.grow (by omega), T8.out⟩

end Go.Proofs.Ythblaehmdailhaa.PJournalStays
