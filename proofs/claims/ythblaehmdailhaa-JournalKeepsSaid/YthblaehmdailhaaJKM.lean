import Derived.Test.YthblaehmdailhaaJKS
import Derived.Laws.AppendOwnNone
namespace Go.Proofs.Ythblaehmdailhaa.PJournalStays
open Go.RowKit Go.Proofs.YthblaehmdailhaaW.PrintWords Go.Proofs.YthblaehmdailhaaW.PrintLast Go.Proofs.YthblaehmdailhaaW.PrintMore
set_option linter.unusedVariables false
set_option linter.unusedSimpArgs false
attribute [local go_sem high] slEq slNe slEq0 slNe0 cerEqI cerEqL cerEqR cerNeI cerNeL cerNeR
theorem arg_at {w : World} {A : Option Addr} {n : Nat} {xs : List (List Int)} (h : Kd.C (Kd.slice 5 (Kd.int .u8)) w A n xs) {i : Nat} {r : List Int} (hi : xs[i]? = some r) (hn : i < n) : ∃ ad A0 c0, A = some ad ∧ w.cell? (ad.add i) = some (.slice A0 r.length c0) ∧ r.length ≤ c0 ∧ Kd.C (Kd.int .u8) w A0 r.length r := by
  obtain ⟨ad, c, e, _, hK, hc0⟩ := Kd.C_get h ([] : List Int) (i : Int) (by omega) (by omega)
  have hc : ∀ j u, c[j]? = some u → w.cell? (ad.add ((i : Int).toNat * 1 + j)) = some u := hc0
  obtain ⟨A0, c0, rfl, l0, g0⟩ := hK
  have e2 : xs.getD (i : Int).toNat [] = r := by rw [Int.toNat_natCast, List.getD_eq_getElem?_getD, hi]; rfl
  rw [e2] at hc l0 g0
  exact ⟨ad, A0, c0, e, by have hq := hc 0 _ rfl; rwa [Nat.mul_one, Nat.add_zero, Int.toNat_natCast] at hq, l0, g0⟩
theorem Rs.turn2 {S : Nat → Prop} {w W : World} {base : Nat} {bad : Nat → Prop} {v : Value} {rs : List (List Int)} (h : Rs w base bad v rs) (t : Tn S w W) (h1 : ∀ k, v.ownBlock = some k → ¬ S k) (h2 : ∀ k c, S k → w.heap[k]? = some (.cells c 5 (0, 0)) → bad k) : Rs W base bad v rs := by
  obtain ⟨vs, ho, hr⟩ := h
  refine ⟨vs, own_turn ho t h1, fun i r hi => ?_⟩
  obtain ⟨g, o, c, a1, a2, a3, a4, a5, a6, a7, cs, a8⟩ := hr i r hi
  have hn : ¬ S g := fun q => a4 (h2 g cs q a8)
  exact ⟨g, o, c, a1, a2.turn t hn, a3, a4, a5, a6, a7, cs, t.blk a8 hn⟩
theorem Rs.olt {w : World} {base : Nat} {bad : Nat → Prop} {v : Value} {rs : List (List Int)} (h : Rs w base bad v rs) {k : Nat} (hk : v.ownBlock = some k) : base ≤ k ∧ k < w.heap.size ∧ ∃ cs, w.heap[k]? = some (.cells cs 22 (0, 0)) := by
  obtain ⟨vs, ho, -⟩ := h
  obtain ⟨cs, hc⟩ := own_typed ho hk
  exact ⟨own_base ho hk, blk_lt hc, cs, hc⟩
theorem Wt.olt {w : World} {base : Nat} {v : Value} {rs : List (List Int)} (h : Wt w base v rs) {k : Nat} (hk : v.ownBlock = some k) : base ≤ k ∧ k < w.heap.size ∧ ∃ cs, w.heap[k]? = some (.cells cs 22 (0, 0)) := by
  obtain ⟨vs, ho, -⟩ := h
  obtain ⟨cs, hc⟩ := own_typed ho hk
  exact ⟨own_base ho hk, blk_lt hc, cs, hc⟩
theorem Src.lt {w : World} {ad : Addr} {l : List Int} (h : Src w ad l) (hl : 1 ≤ l.length) : ad.block < w.heap.size := by
  have := World.block_lt_of_cell? w _ (h 0 l[0] (List.getElem?_eq_getElem (by omega)))
  have hb : (ad.add 0).block = ad.block := by unfold Addr.add; split <;> rfl
  rwa [hb] at this
theorem JT.row {w W : World} {B bj bd bs bn bm n N : Nat} {v vw : Value} {rs : List (List Int)} (h : JT w B bj bd bs bn bm n v rs N) (t : Tn (fun k => vw.ownBlock = some k) w W) (hw : ∀ k, vw.ownBlock = some k → ∃ cs, w.heap[k]? = some (.cells cs 22 (0, 0))) (hne : ∀ k, vw.ownBlock = some k → v.ownBlock ≠ some k) : JT W B bj bd bs bn bm n v rs N := by
  have hd := h.d
  have hj := h.j
  refine ⟨t.blk h.j (fun q => ?_), h.r.turn2 t (fun k hk q => hne k q hk) (fun k c q hc => ?_), hd.turn t (fun q => ?_) (fun q => ?_) (fun q => ?_) (fun q => ?_), h.e⟩
  · obtain ⟨cs, hc⟩ := hw _ q
    unfold Jb at hj
    exact ty_ne hj hc (by decide)
  · obtain ⟨cs, hc'⟩ := hw _ q
    exact (ty_ne hc hc' (by decide)).elim
  · obtain ⟨cs, hc⟩ := hw _ q
    exact ty_ne hd.hd hc (by decide)
  · obtain ⟨cs, hc⟩ := hw _ q
    obtain ⟨r, hr⟩ := hd.hs
    exact ty_ne hr hc (by decide)
  · obtain ⟨cs, hc⟩ := hw _ q
    obtain ⟨r, hr⟩ := hd.hn
    exact ty_ne hr hc (by decide)
  · obtain ⟨cs, hc⟩ := hw _ q
    obtain ⟨es, cl, hm⟩ := hd.map
    rw [hm] at hc
    cases hc
structure TK (w wr : World) (bj bd bs bn bm n i : Nat) (v vw : Value) (rs : List (List Int)) (N : Nat) : Prop where
  j : JT wr w.heap.size bj bd bs bn bm n v rs N
  t : Wt wr w.heap.size vw rs
  b : Below w.heap.size w wr
  hN : N ≤ 4096 + i * 1040
  y : ∀ r ∈ rs, ∀ x ∈ r, 0 ≤ x ∧ x ≤ 255
  ne : ∀ k, vw.ownBlock = some k → v.ownBlock ≠ some k
  l : rs.length ≤ i
  il : i ≤ 20
theorem Wt.away {w wr W : World} {bj bd bs bn bm n N : Nat} {v vw : Value} {rs rs2 : List (List Int)} (h : Wt wr w.heap.size vw rs2) (hJ : JS wr w.heap.size bj bd bs bn bm n v rs N) (g1 : w.heap.size ≤ bs ∧ w.heap.size ≤ bn ∧ w.heap.size ≤ bm ∧ w.heap.size ≤ bj) (ne : ∀ k, vw.ownBlock = some k → v.ownBlock ≠ some k) (t : Tn (fun k => k = bs ∨ k = bn ∨ k = bm ∨ k = bj ∨ v.ownBlock = some k) wr W) : Wt W w.heap.size vw rs2 := by
  obtain ⟨st, D, hd⟩ := hJ.d
  have hj := hJ.j
  refine h.turn t (fun k q => ?_) (fun k hk q => ?_)
  · rcases q with q | q | q | q | q
    · omega
    · omega
    · omega
    · omega
    · exact (hJ.r.olt q).1
  · obtain ⟨-, -, cs, hc⟩ := h.olt hk
    rcases q with q | q | q | q | q
    · obtain ⟨r, hr⟩ := hd.hs
      exact ty_ne hr (q ▸ hc) (by decide)
    · obtain ⟨r, hr⟩ := hd.hn
      exact ty_ne hr (q ▸ hc) (by decide)
    · obtain ⟨es, cl, hm⟩ := hd.map
      rw [q, hm] at hc
      cases hc
    · unfold Jb at hj
      exact ty_ne hj (q ▸ hc) (by decide)
    · exact ne k hk q
theorem jt_ok {n en len : Nat} (h : jmay n en len = none) : 1 ≤ len ∧ len ≤ 1024 ∧ en + 8 + len ≤ n := by
  unfold jmay jfree at h
  split at h
  · cases h
  · split at h
    · cases h
    · omega
set_option maxRecDepth 100000 in
theorem jk_pick (c : Int) (w : World) (h0 : -9223372036854775808 ≤ c) (h1 : c ≤ 9223372036854775807) : Calls Try.prog 26 #[.int .i64 c, .int .i64 3] w fun e w' => (∃ p : Int, 0 ≤ p ∧ p < 3 ∧ e = .returned (.int .i64 p)) ∧ Below w.heap.size w w' := by
  by_cases cc : c < 0
  · have cb : decide (c < 0) = true := decide_eq_true cc
    go_enter Try.func26, Try.ntmps26
    go_wp2
    go_ret
    have e : -(c + 1).tmod 3 = -(c + 1) % 3 := by rw [← Int.neg_tmod, Int.tmod_eq_emod_of_nonneg (by omega)]
    exact ⟨⟨_, by omega, by omega, rfl⟩, Below.refl _ _⟩
  · have cb : decide (c < 0) = false := decide_eq_false cc
    go_enter Try.func26, Try.ntmps26
    go_wp2
    go_ret
    exact ⟨⟨_, by omega, by omega, rfl⟩, Below.refl _ _⟩
theorem jk_start {w : World} {B bj bd bs bn bm n N : Nat} {v : Value} {rs : List (List Int)} (h : JT w B bj bd bs bn bm n v rs N) (hn : n ≤ 65536) (n64 : ∃ M, n = M * 64) (hN : N + 4096 < 4294967296) (A : Option Addr) (l : List Int) (cap : Nat) (hl : l.length ≤ 9223372036854775807) (hs : 0 < l.length → ∃ ad, A = some ad ∧ Src w ad l ∧ ad.block ≠ bs ∧ ad.block ≠ bn ∧ ad.block ≠ bm ∧ ad.block ≠ bj) (hby : ∀ x ∈ enc rs, 0 ≤ x ∧ x ≤ 255) (hbl : ∀ x ∈ l, 0 ≤ x ∧ x ≤ 255) (s : Nat) (s1 : 1 ≤ s) (s3 : s ≤ 3) :
    Calls Try.prog 34 #[.pointer (some ⟨bj, 0, none⟩), .slice A l.length cap, .int .i64 ↑s] w fun e w' => ∃ r, e = .returned (cer r) ∧ (∃ st nw D ks, Dk w' bd bs bn bm n st nw (N + 2048) D ∧ Ks D ks ∧ (∀ b ∈ ks, b * 64 + 64 ≤ n) ∧ ∀ c : List Int, c.length = n → (∀ p : Nat, c[p]? = st[p]? ∨ c[p]? = nw[p]?) → Began rs l n r s c ∧ ∀ x ∈ c, 0 ≤ x ∧ x ≤ 255) ∧ (r = none → 1 ≤ l.length ∧ l.length ≤ 1024 ∧ (enc rs).length + 8 + l.length ≤ n) ∧ Tn (fun k => k = bs ∨ k = bn ∨ k = bm ∨ k = bj) w w' := by
  have hh : s = 1 ∨ s = 2 ∨ s = 3 := by omega
  rcases hh with rfl | rfl | rfl
  · exact jk_start1 h hn n64 hN A l cap hl hs hby hbl
  · exact jk_start2 h hn n64 hN A l cap hl hs hby hbl
  · exact jk_start3 h hn n64 hN A l cap hl hs hby hbl
theorem wpl_rows {w : World} {ops : Array Oper} {rest : List Oper} {o : Oper} {a : Act} {Q : Exit → Act → World → Prop} (hgd : o.guard = none) (s x : Operand)
    (ho : o.op = .call { callee := .builtin .append, args := #[s, x], argTypes := #[44, 44] })
    (base : Nat) (v : Value) (n : Nat) (xs : List Value) (hs : a.eval s = v) (hown : w.ownsRow base 22 1 v n xs)
    (u : Value) (b2 m : Nat) (ys : List Value) (hx : a.eval x = u) (hu : w.ownsRow b2 22 1 u m ys) (h1 : ∀ y ∈ ys, y.oneCell' = true) (h63 : n + m ≤ 65536) (hbase : base ≤ w.heap.size)
    (h : ∀ v' w', w'.ownsRow base 22 1 v' (n + m) (xs ++ ys) → w.grownBy w' v.ownBlock → (v'.ownBlock = v.ownBlock ∨ v'.ownBlock = some w.heap.size) → wpList Try.prog ops Q rest (a.put o.dst v') w') :
    wpList Try.prog ops Q (o :: rest) a w := by
  obtain ⟨i0, hi, hz0, hz1, hz2⟩ := info_parts jo_info
  obtain ⟨hl, ⟨rfl, h0⟩ | ⟨g, cap, cur, rfl, hg, hb, hc, hcm, hsz, ht⟩⟩ := hu
  · obtain rfl : m = 0 := h0
    obtain rfl : ys = [] := List.eq_nil_of_length_eq_zero (by simpa using hl)
    exact wpList_append_own_none hgd s x 44 ho base 22 i0 1 Try.underlying44 hi v n xs hs hown hx (h v w (by simpa using hown) (World.grownBy.refl w _) (Or.inl rfl))
  · refine wpList_append_own_at _ hgd s x 44 ho base 22 i0 (.slice none 0 0) 1 24 Try.underlying44 hi hz0 hz1 hz2 rfl (by decide) v n xs hs hown ⟨g, 0, none⟩ m cap ys hx hl (fun j y hj => ?_) h1 (by unfold maxLen; omega) (by omega) hbase (fun v' w' a1 a2 _ a3 => h v' w' a1 a2 a3)
    rw [ad_add, Nat.zero_add]
    refine (blk_cell hb j).trans ?_
    rw [← ht, Nat.mul_one, List.getElem?_take] at hj
    split at hj
    · rw [← Array.getElem?_toList]; exact hj
    · cases hj
theorem rv_of {W : World} {base : Nat} {v : Value} {rs : List (List Int)} {vs : List Value} (ho : W.ownsRow base 22 1 v rs.length vs) (hv : ∀ (i : Nat) (r : List Int), rs[i]? = some r → ∃ ad k, vs[i]? = some (.slice (some ad) r.length k) ∧ Src W ad r ∧ r.length ≤ 65536) : Rv W v rs := by
  obtain ⟨hl, ⟨rfl, h0⟩ | ⟨gr, c, cur, rfl, hg, hb, -, -, hsz, ht⟩⟩ := ho
  · refine ⟨none, 0, by rw [h0], fun i r hi => ?_⟩
    rw [List.eq_nil_of_length_eq_zero h0] at hi
    cases hi
  · refine ⟨_, c, rfl, fun i r hi => ?_⟩
    obtain ⟨ad, k, a1, a2, a3⟩ := hv i r hi
    refine ⟨gr, ad, k, rfl, ?_, a2, a3⟩
    have hlt : i < rs.length := (List.getElem?_eq_some_iff.1 hi).1
    rw [← ht, Nat.mul_one, List.getElem?_take, if_pos hlt] at a1
    exact (blk_cell hb i).trans (by rw [← Array.getElem?_toList]; exact a1)
theorem rv_snoc {w W : World} {base : Nat} {S : Nat → Prop} {v : Value} {rs : List (List Int)} {vs : List Value} {r : List Int} {ad : Addr} {k : Nat} (ho : W.ownsRow base 22 1 v (rs.length + 1) (vs ++ [.slice (some ad) r.length k])) (hvl : vs.length = rs.length) (hv : ∀ (i : Nat) (r : List Int), rs[i]? = some r → ∃ ad k, vs[i]? = some (.slice (some ad) r.length k) ∧ Src w ad r ∧ r.length ≤ 65536 ∧ ¬ S ad.block) (t : Tn S w W) (hs : Src W ad r) (hr : r.length ≤ 65536) : Rv W v (rs ++ [r]) := by
  refine rv_of (vs := vs ++ [.slice (some ad) r.length k]) (by rw [List.length_append]; exact ho) (fun i q hi => ?_)
  by_cases hl : i < rs.length
  · rw [List.getElem?_append_left hl] at hi
    obtain ⟨ad', k', a1, a2, a3, a4⟩ := hv i q hi
    exact ⟨ad', k', by rw [List.getElem?_append_left (by omega)]; exact a1, a2.turn t a4, a3⟩
  · rw [List.getElem?_append_right (by omega)] at hi
    obtain ⟨e, rfl⟩ : i - rs.length = 0 ∧ r = q := by
      rcases hz : i - rs.length with _ | z
      · rw [hz] at hi; exact ⟨rfl, Option.some.inj hi⟩
      · rw [hz] at hi; cases hi
    exact ⟨ad, k, by rw [List.getElem?_append_right (by omega), hvl, e]; rfl, hs, hr⟩
theorem Rs.keep {S : Nat → Prop} {w W : World} {base : Nat} {bad : Nat → Prop} {v : Value} {rs : List (List Int)} (h : Rs w base bad v rs) (t : Tn S w W) (hS : ∀ k, S k → k < base ∨ w.heap.size ≤ k) : Rs W base bad v rs := by
  obtain ⟨vs, ho, hr⟩ := h
  refine ⟨vs, own_turn ho t (fun k hk q => ?_), fun i r hi => ?_⟩
  · have h1 := own_base ho hk
    obtain ⟨cs, hc⟩ := own_typed ho hk
    have h2 := blk_lt hc
    have := hS k q
    omega
  · obtain ⟨g, o, c, a1, a2, a3, a4, a5, a6, a7, cs, a8⟩ := hr i r hi
    have hn : ¬ S g := fun q => by have h1 := blk_lt a8; have := hS g q; omega
    exact ⟨g, o, c, a1, a2.turn t hn, a3, a4, a5, a6, a7, cs, t.blk a8 hn⟩
theorem Wt.one {W : World} {base : Nat} {v : Value} {rs : List (List Int)} {vs : List Value} (ho : W.ownsRow base 22 1 v rs.length vs) (hv : ∀ (i : Nat) (r : List Int), rs[i]? = some r → ∃ ad k, vs[i]? = some (.slice (some ad) r.length k) ∧ Src W ad r ∧ r.length ≤ 65536 ∧ ad.block < base) : ∀ y ∈ vs, y.oneCell' = true := by
  intro y hy
  obtain ⟨i, hi⟩ := List.getElem?_of_mem hy
  have hlt : i < rs.length := by have h1 := (List.getElem?_eq_some_iff.1 hi).1; have h2 := ho.1; omega
  obtain ⟨ad, k, a1, -⟩ := hv i rs[i] (List.getElem?_eq_getElem hlt)
  rw [hi] at a1
  cases a1
  rfl
theorem rows_empty (w : World) : (w.alloc (.cells #[] 22)).ownsRow w.heap.size 22 1 (.slice (some ⟨w.heap.size, 0, none⟩) 0 0) 0 [] := ⟨rfl, Or.inr ⟨w.heap.size, 0, #[], rfl, Nat.le_refl _, blk_new w _, Nat.le_refl _, by unfold maxLen; omega, rfl, rfl⟩⟩
theorem Dk.lts {w : World} {bd bs bn bm n : Nat} {st nw : List Int} {N : Nat} {D : DataW Unit} (h : Dk w bd bs bn bm n st nw N D) : bd < w.heap.size ∧ bs < w.heap.size ∧ bn < w.heap.size ∧ bm < w.heap.size := by
  obtain ⟨es, cl, hm⟩ := h.map
  exact ⟨blk_lt h.hd, h.hs.lt, h.hn.lt, blk_lt hm⟩
set_option maxRecDepth 100000 in
theorem jz_differ {w : World} {n m : Nat} {A0 A1 : Option Addr} {c0 c1 : Nat} (h : n ≠ m) (hn : n ≤ 65536) (hm : m ≤ 65536) : Calls Try.prog 22 #[.slice A0 n c0, .slice A1 m c1] w fun e w' => e = .returned (.bool false) ∧ Below w.heap.size w w' := by
  have hb : ((↑n : Int) != ↑m) = true := bne_iff_ne.2 (by omega)
  clear h
  go_enter Try.func22, Try.ntmps22
  go_wp2_with fail
  go_ret
  exact ⟨rfl, Below.refl _ _⟩
set_option maxHeartbeats 20000000 in
set_option maxRecDepth 100000 in
theorem jk_main (A0 : Option Addr) (c0 : Nat) (L : List (List Int)) (A1 : Option Addr) (d1 : Nat) (b : List Int) (sg : Int) (A2 : Option Addr) (d2 : Nat) (P : List Int) (A3 : Option Addr) (d3 : Nat) (mo : List Int) (w : World) (h0 : -9223372036854775808 ≤ sg) (h1 : sg ≤ 9223372036854775807)
    (hr : Kd.C (Kd.slice 5 (Kd.int .u8)) w A0 L.length L) (hr1 : Kd.C (Kd.int .u8) w A1 b.length b) (hr2 : Kd.C (Kd.int .i64) w A2 P.length P) (hr3 : Kd.C (Kd.int .u8) w A3 mo.length mo) (hl : L.length ≤ 20) (hp : P.length ≤ 2000) (hby : ∀ r ∈ L, ∀ x ∈ r, 0 ≤ x ∧ x ≤ 255) (hb1 : ∀ x ∈ b, 0 ≤ x ∧ x ≤ 255) (hP : ∀ p ∈ P, -9223372036854775808 ≤ p ∧ p ≤ 9223372036854775807) (hb3 : ∀ x ∈ mo, 0 ≤ x ∧ x ≤ 255) :
    Calls Try.prog 11 #[.slice A0 L.length c0, .slice A1 b.length d1, .int .i64 sg, .slice A2 P.length d2, .slice A3 mo.length d3] w fun e w' => e = .returned (.bool true) ∧ Below w.heap.size w w' := by
  have U := Aside0.mk (fun W => jy_up W)
  have PK := Aside0.mk (fun W => jk_pick sg W h0 h1)
  have HRR := Aside0.mk hr
  have HBY := Aside0.mk hby
  have R1 := Aside0.mk (And.intro hr1 hb1)
  have R2 := Aside0.mk (And.intro hr2 hP)
  have R3 := Aside0.mk (And.intro hr3 hb3)
  have hb63 : b.length ≤ 9223372036854775807 := hr1.2.1
  have hm63 : mo.length ≤ 9223372036854775807 := hr3.2.1
  have lb : decide ((20 : Int) < ↑L.length) = false := decide_eq_false (by omega)
  have lp : decide ((2000 : Int) < ↑P.length) = false := decide_eq_false (by omega)
  clear hr hby hr1 hb1 hr2 hP hr3 hb3
  go_enter Try.func11, Try.ntmps11
  go_wp2_with fail
  refine (U.out _).mono ?_
  rintro e w0 ⟨rfl, hb⟩
  have B0 := Aside0.mk hb
  clear hb
  go_wp2_with fail
  refine (jd_new 64 _ (by omega) (by omega)).mono ?_
  rintro e w1 ⟨bd, bs, bn, bm, rfl, hD, g1, g2, g3, g4, hb⟩
  have HD1 := Aside0.mk (show Dk w1 bd bs bn bm 4096 (List.replicate 4096 0) (List.replicate 4096 0) 0 (.map []) from hD)
  have B1 := Aside0.mk (below_step B0.out hb)
  have G1 : Aside0 (w.heap.size ≤ bd ∧ w.heap.size ≤ bs ∧ w.heap.size ≤ bn ∧ w.heap.size ≤ bm) := ⟨by have := B0.out.size; omega⟩
  clear hD g1 g2 g3 g4 hb
  go_wp2_with fail
  refine (jt_open (rs := []) (rest := List.replicate 4096 0) w.heap.size B1.out.size HD1.out rfl (jt_zero _) (fun r h => by cases h) (fun x hx => by have := List.eq_of_mem_replicate hx; omega) (by omega) (by omega) (by omega)).mono ?_
  rintro e w2 ⟨bj, v, rfl, hbj, hJ, hv, ht⟩
  have HJ2 := Aside0.mk hJ
  have B2 := Aside0.mk (Tn.below B1.out ht B1.out.size (fun k q => by have := G1.out; rcases q with q | q | q <;> omega))
  have HV2 := Aside0.mk hv
  have HBJ : Aside0 (w.heap.size ≤ bj) := ⟨Nat.le_trans B1.out.size hbj⟩
  clear hJ hv ht hbj
  have HTW : Aside0 (TK w w2 bj bd bs bn bm 4096 0 v (.slice none 0 0) [] (0 + 4096)) := ⟨⟨HJ2.out, Wt.nil _ _, B2.out, by omega, (fun r hr => by cases hr), (fun k hk => by cases hk), Nat.le_refl _, by omega⟩⟩
  have GB : Aside0 (w.heap.size ≤ bs ∧ w.heap.size ≤ bn ∧ w.heap.size ≤ bm ∧ w.heap.size ≤ bj) := ⟨⟨G1.out.2.1, G1.out.2.2.1, G1.out.2.2.2, HBJ.out⟩⟩
  clear HD1 B1 B0 HJ2 B2 HV2
  go_wp2_with fail
  go_loopw [16, 17] (fun v16 v17 wr => ∃ i : Nat, v17 = .int .i64 ↑i ∧ Aside0 (∃ v rs N, TK w wr bj bd bs bn bm 4096 i v v16 rs N)) (fun _ v17 _ => (L.length - intOf v17).toNat)
  case atStart => exact ⟨0, rfl, ⟨_, _, _, HTW.out⟩⟩
  case round =>
    obtain ⟨i, rfl, HX⟩ := hrel
    obtain ⟨v, rs, N, hT⟩ := HX.out
    have HT := Aside0.mk hT
    clear hT HX
    by_cases ci : i < L.length
    · have ci2 : (↑i : Int) < ↑L.length := by omega
      have i0' : (0 : Int) ≤ ↑i := by omega
      obtain ⟨r, hr⟩ : ∃ r, L[i]? = some r := ⟨L[i], List.getElem?_eq_getElem ci⟩
      have hmem := List.mem_of_getElem? hr
      obtain ⟨ad, A1, c1, rfl, hcell, hc1, hC⟩ := arg_at HRR.out hr ci
      have CW := Aside0.mk hcell
      have hcell := (HT.out.b.cell (World.block_lt_of_cell? w _ hcell)).trans hcell
      have HC := Aside0.mk hC
      have HM := Aside0.mk hmem
      have hr63 : r.length ≤ 9223372036854775807 := hC.2.1
      clear hr hmem hC
      by_cases c2 : 1024 < r.length
      · have c2b : decide ((1024 : Int) < ↑r.length) = true := decide_eq_true (by omega)
        go_wp2_with fail
        go_ret
        exact ⟨rfl, HT.out.b⟩
      · have c2b : decide ((1024 : Int) < ↑r.length) = false := decide_eq_false (by omega)
        rcases hm : jmay 4096 (enc rs).length r.length with _ | c
        · have hok := jt_ok hm
          obtain ⟨ar, rfl, sr⟩ := Src.of_C HC.out (by omega)
          have sl := sr.lt hok.1
          have gb := GB.out
          have AP := jt_append HT.out.j HT.out.b.size (by omega) ar r c1 (sr.below HT.out.b) ⟨by omega, by omega, by omega⟩ hok.1 hok.2.1 (by omega) (by have := HT.out.hN; omega)
          have SR := Aside0.mk (And.intro sr sl)
          have HOK := Aside0.mk hok
          have h1024 : r.length ≤ 1024 := hok.2.1
          clear hm sr sl gb hok
          go_wp2_with fail
          refine AP.mono ?_
          rintro e w5 ⟨rfl, v5, hJ5, t5, hv5⟩
          have WT5 := HT.out.t.away HT.out.j.js GB.out HT.out.ne t5
          have b5 := Tn.below HT.out.b t5 HT.out.b.size (fun k q => by
            have gb := GB.out
            rcases q with q | q | q | q | q
            · omega
            · omega
            · omega
            · omega
            · exact (HT.out.j.r.olt q).1)
          have hne5 : ∀ k, u16.ownBlock = some k → v5.ownBlock ≠ some k := fun k hk hq => by
            rcases hv5 with q | ⟨k', q, hk'⟩
            · exact HT.out.ne k hk (by rw [← q]; exact hq)
            · rw [hq] at q
              have := (HT.out.t.olt hk).2.1
              cases q
              omega
          obtain ⟨vs, ho, hvs⟩ := WT5
          have HO := Aside0.mk ho
          have HVS := Aside0.mk hvs
          have B5 := Aside0.mk b5
          have HJ5 := Aside0.mk hJ5
          have NE5 := Aside0.mk hne5
          obtain ⟨i0, hi, hz0, hz1, hz2⟩ := info_parts jo_info
          have HI := Aside0.mk hi
          have hcell0 := ((b5.cell (World.block_lt_of_cell? w _ (show w.cell? (ad.add i) = _ from CW.out))).trans CW.out)
          have hrsl := HT.out.l
          clear AP ho hvs hJ5 t5 hv5 hne5 hi hcell
          have hcell := hcell0
          clear hcell0 b5
          go_wp2_with (at_builtin; refine wpList_append_own_at _ rfl _ _ 44 rfl w.heap.size 22 i0 (.slice none 0 0) 1 24 Try.underlying44 HI.out hz0 hz1 hz2 rfl (by decide) u16 rs.length vs rfl (HO.out.alloc _) ⟨w5.heap.size, 0, none⟩ 1 1 [.slice (some ar) r.length c1] rfl rfl (jo_one _ _) (by simp [Value.oneCell']) (by unfold maxLen; omega) (by omega) (by have := B5.out.size; simp; omega) ?_; intro vw6 w6 hown6 hgrow6 hnil6 hloc6)
          have t6 := jn_tn hgrow6
          refine ⟨⟨i + 1, rfl, ⟨v5, rs ++ [r], N + r.length + 8, HJ5.out.row t6 (fun k hk => own_typed HO.out hk) NE5.out, Wt.snoc HO.out HVS.out hgrow6 hown6 (SR.out.1.below B5.out) (by omega) SR.out.2, Tn.below B5.out t6 B5.out.size (fun k q => own_base HO.out q), by have := HT.out.hN; omega, fun q hq => ?_, fun k hk hq => ?_, by rw [List.length_append]; simp; omega, by omega⟩⟩, by simp [intOf]; omega⟩
          · rcases List.mem_append.1 hq with hq | hq
            · exact HT.out.y q hq
            · obtain rfl := List.mem_singleton.1 hq
              exact HBY.out q HM.out
          · rcases hloc6 with q | q
            · exact NE5.out k (by rw [← q]; exact hk) hq
            · rw [hk] at q
              have := (HJ5.out.r.olt hq).2.1
              cases q
              simp at this
              omega
        · have RF := jt_refuse HT.out.j (by omega) A1 r.length c1 (by omega) c hm
          go_wp2_with fail
          refine RF.mono ?_
          rintro e w4 ⟨rfl, hb⟩
          have HB4 := Aside0.mk hb
          clear RF hb hm
          go_wp2_with fail
          exact ⟨⟨i + 1, rfl, ⟨v, rs, N, HT.out.j.below HB4.out, HT.out.t.below HB4.out, below_step HT.out.b HB4.out, by have := HT.out.hN; omega, HT.out.y, HT.out.ne, by have := HT.out.l; omega, by omega⟩⟩, by simp [intOf]; omega⟩
    · have ci2 : ¬ (↑i : Int) < ↑L.length := by omega
      go_wp2_with fail
      refine (PK.out _).mono ?_
      rintro e w5 ⟨⟨p, p0, p1, rfl⟩, hb⟩
      obtain ⟨s, hs⟩ : ∃ s : Nat, 1 + p = (s : Int) := ⟨(1 + p).toNat, by omega⟩
      obtain rfl : p = ↑s - 1 := by omega
      have s1 : 1 ≤ s := by omega
      have s3 : s ≤ 3 := by omega
      have e1 : (1 + (↑s - 1) : Int) = ↑s := by omega
      have HT5 := Aside0.mk (HT.out.j.below hb)
      have WT5 := Aside0.mk (HT.out.t.below hb)
      have B5 := Aside0.mk (below_step HT.out.b hb)
      have HL : Aside0 (rs.length ≤ 20 ∧ N ≤ 30000) := ⟨by have h1 := HT.out.hN; have h2 := HT.out.l; have h3 := HT.out.il; omega⟩
      have HY := Aside0.mk HT.out.y
      have HNE := Aside0.mk HT.out.ne
      have HLN := Aside0.mk HT.out.j.r.lens
      have HE := Aside0.mk HT.out.j.e
      have LT5 := Aside0.mk HT5.out.d.lts
      clear hs p0 p1 hb HT ci ci2
      go_wp2_with fail
      clear e1
      refine (jk_start HT5.out (by omega) ⟨64, rfl⟩ (by have := HL.out.2; omega) A1 b d1 hb63 (fun h => by
        obtain ⟨ad, e, hs⟩ := Src.of_C R1.out.1 h
        have h1 := hs.lt h
        have h2 := GB.out
        exact ⟨ad, e, hs.below B5.out, by omega, by omega, by omega, by omega⟩) (enc_byte rs HLN.out HY.out) R1.out.2 s s1 s3).mono ?_
      rintro e w6 ⟨r, rfl, ⟨st, nw, D, ks, hD, hK, hkb, hcr⟩, hrn, ht⟩
      have HD6 := Aside0.mk hD
      have HK6 := Aside0.mk (And.intro hK hkb)
      have HC6 := Aside0.mk hcr
      have HR6 := Aside0.mk hrn
      have WT6 := Aside0.mk (WT5.out.away HT5.out.js GB.out HNE.out (ht.mono (fun k _ q => by rcases q with q | q | q | q; exact .inl q; exact .inr (.inl q); exact .inr (.inr (.inl q)); exact .inr (.inr (.inr (.inl q))))))
      have B6 := Aside0.mk (Tn.below B5.out ht B5.out.size (fun k q => by have := GB.out; rcases q with q | q | q | q <;> omega))
      clear hD hK hkb hcr hrn ht
      go_wp2_with fail
      refine (jd_crash HD6.out HK6.out.1 HK6.out.2 (by have := HL.out.2; omega) (by omega) (by omega) A2 P d2 (by omega) (pk_crash R2.out.1 B6.out GB.out.1) R2.out.2).mono ?_
      rintro e w7 ⟨rfl, hD, ht⟩
      obtain ⟨hbe, hby7⟩ := HC6.out _ (crashN_length HD6.out.ls HD6.out.ln HK6.out.2 ks.length) (fun p => crash_at HD6.out.ls HD6.out.ln HK6.out.2 (P := P) ks.length p)
      generalize crashN st nw ks P ks.length = c at hD hbe hby7
      have HD7 := Aside0.mk hD
      have HB7 := Aside0.mk hby7
      have WT7 : Aside0 (Wt w7 w.heap.size u16 rs) := ⟨WT6.out.turn ht (fun k q => by have := GB.out; rcases q with q | q | q <;> omega) (fun k hk q => by
        obtain ⟨-, -, cs, hc⟩ := WT6.out.olt hk
        rcases q with q | q | q
        · obtain ⟨r, hr⟩ := HD6.out.hs
          exact ty_ne hr (q ▸ hc) (by decide)
        · obtain ⟨r, hr⟩ := HD6.out.hn
          exact ty_ne hr (q ▸ hc) (by decide)
        · obtain ⟨es, cl, hm⟩ := HD6.out.map
          rw [q, hm] at hc
          cases hc)⟩
      have B7 := Aside0.mk (Tn.below B6.out ht B6.out.size (fun k q => by have := GB.out; rcases q with q | q | q <;> omega))
      clear hD ht hby7 HT5 WT5 WT6 HD6 HK6 HC6
      go_wp2_with fail
      rcases hbe with ⟨rest, hc1, hno⟩ | ⟨hr, hs, hc1⟩
      · have HC := Aside0.mk hc1
        have HNO := Aside0.mk hno
        clear hc1 hno
        have HLR := HLN
        have HYR := HY
        have hlr : rs.length ≤ 21 := by have := HL.out.1; omega
        refine (jt_open (rs := rs) (rest := rest) w.heap.size B7.out.size HD7.out HC.out HNO.out HLR.out HB7.out (by omega) (by omega) (by have := HL.out.2; omega)).mono ?_
        rintro e w8 ⟨bk, vk, rfl, hbk, hJ, hv, ht⟩
        have HJ8 := Aside0.mk hJ
        have HD8 := Aside0.mk hJ.d
        have LT8 := Aside0.mk hJ.d.lts
        have WT8 : Aside0 (Wt w8 w.heap.size u16 rs) := ⟨WT7.out.turn ht (fun k q => by have := GB.out; rcases q with q | q | q <;> omega) (fun k hk q => by
          obtain ⟨-, -, cs, hc⟩ := WT7.out.olt hk
          rcases q with q | q | q
          · obtain ⟨r, hr⟩ := HD7.out.hs
            exact ty_ne hr (q ▸ hc) (by decide)
          · obtain ⟨r, hr⟩ := HD7.out.hn
            exact ty_ne hr (q ▸ hc) (by decide)
          · obtain ⟨es, cl, hm⟩ := HD7.out.map
            rw [q, hm] at hc
            cases hc)⟩
        have B8 := Aside0.mk (Tn.below B7.out ht B7.out.size (fun k q => by have := GB.out; rcases q with q | q | q <;> omega))
        clear hJ hv ht hbk HD7 WT7 HB7 HC
        go_wp2_with fail
        refine (js_records HJ8.out.js (by omega)).mono ?_
        rintro e w9 ⟨vo, rfl, hr, hb⟩
        have HR9 := Aside0.mk hr
        have WT9 := Aside0.mk (WT8.out.below hb)
        have HD9 := Aside0.mk (HD8.out.below hb)
        have B9 := Aside0.mk (below_step B8.out hb)
        have LE9 : Aside0 (w8.heap.size ≤ w9.heap.size) := ⟨hb.size⟩
        obtain ⟨Ar, cr, evo⟩ := hr.sl
        clear hr hb HJ8 HD8 WT8
        obtain ⟨vs, ho, hvs⟩ := WT9.out
        have HO9 := Aside0.mk ho
        have HV9 := Aside0.mk hvs
        have ONE9 := Aside0.mk (Wt.one ho hvs)
        clear ho hvs
        subst evo
        obtain ⟨i0, hi, hz0, hz1, hz2⟩ := info_parts jo_info
        have HI := Aside0.mk hi
        clear hi
        go_wp2_with (at_builtin; first | refine wpl_rows rfl _ _ rfl w9.heap.size (.slice (some ⟨w9.heap.size, 0, none⟩) 0 0) 0 [] rfl (rows_empty w9) u16 w.heap.size rs.length vs rfl (HO9.out.alloc _) ONE9.out (by have := HL.out.1; omega) (by simp) ?_ | fail)
        intro v10 w10 hown hgrow hloc
        have O10 := Aside0.mk hown
        have B10 : Aside0 (Below w9.heap.size w9 w10) := ⟨(below_alloc (Below.refl w9.heap.size w9) _).grown hgrow (by simp) (fun k hk => by cases hk; exact Nat.le_refl _)⟩
        have LE10 : Aside0 (w9.heap.size ≤ w10.heap.size) := ⟨B10.out.size⟩
        clear hown hgrow hloc
        go_wp2_with (at_builtin; first | refine wpList_append_own_at _ rfl _ _ 44 rfl w9.heap.size 22 i0 (.slice none 0 0) 1 24 Try.underlying44 HI.out hz0 hz1 hz2 rfl (by decide) v10 rs.length vs rfl (O10.out.alloc _) ⟨w10.heap.size, 0, none⟩ 1 1 [.slice A1 b.length d1] rfl rfl (jo_one _ _) (by simp [Value.oneCell']) (by have := HL.out.1; unfold maxLen; omega) (by have := HL.out.1; omega) (by have := LE10.out; simp; omega) ?_ | fail)
        intro v11 w11 hown hgrow _ hloc
        have O11 := Aside0.mk hown
        have T11 := Aside0.mk (jn_tn hgrow)
        have B11 : Aside0 (Below w9.heap.size w9 w11) := ⟨Tn.below B10.out T11.out LE10.out (fun k q => own_base O10.out q)⟩
        clear hown hgrow hloc
        have hlv : vs.length = rs.length := by have := HO9.out.1; omega
        have RW11 : Aside0 (∀ (i : Nat) (r : List Int), rs[i]? = some r → ∃ ad k, vs[i]? = some (.slice (some ad) r.length k) ∧ Src w9 ad r ∧ r.length ≤ 65536 ∧ ¬ w9.heap.size ≤ ad.block) := ⟨fun i r h => by
          obtain ⟨ad, k, a1, a2, a3, a4⟩ := HV9.out i r h
          exact ⟨ad, k, a1, a2, a3, by have := B9.out.size; omega⟩⟩
        have WT11 := Aside0.mk (WT9.out.below B11.out)
        have HR11 := Aside0.mk (HR9.out.below B11.out)
        have HD11 := Aside0.mk (HD9.out.below B11.out)
        obtain ⟨Aw, cw, ew, -⟩ := WT11.out.rv
        subst ew
        clear HI hz0 hz1 hz2 O10 B10 ONE9 HO9 WT9
        go_wp2_with fail
        refine (jz_same HR11.out.rv WT11.out.rv (by have := HL.out.1; omega)).mono ?_
        rintro e w13 ⟨rfl, hb⟩
        have B13 := Aside0.mk (below_step B11.out hb)
        have LE13 : Aside0 (w11.heap.size ≤ w13.heap.size) := ⟨hb.size⟩
        clear hb
        have HD13 := Aside0.mk (HD9.out.below B13.out)
        have B13w := Aside0.mk (below_step B9.out B13.out)
        clear HD11 HR11 WT11 HV9 HD9 B11
        go_wp2_with fail
        refine (jd_crash (A := none) (P := []) HD13.out Ks.nil (fun b h => by cases h) (by have := HL.out.2; omega) (by omega) (by omega) 0 (by decide) (fun i p h => by cases h) (fun p h => by cases h)).mono ?_
        rintro e w14 ⟨rfl, hD, ht⟩
        have HD14 := Aside0.mk (show Dk w14 bd bs bn bm 4096 (enc rs ++ List.replicate (4096 - (enc rs).length) 0) (enc rs ++ List.replicate (4096 - (enc rs).length) 0) _ (.map []) from hD)
        have T14 : Aside0 (Tn (fun k => k < w8.heap.size ∨ w9.heap.size ≤ k) w9 w14) := ⟨(Tn.of_below B13.out).trans (ht.mono (fun k _ q => by have := LT8.out; rcases q with q | q | q <;> omega))⟩
        have B14 := Aside0.mk (Tn.below B13w.out ht B13w.out.size (fun k q => by have := GB.out; rcases q with q | q | q <;> omega))
        have LE14 : Aside0 (w9.heap.size ≤ w14.heap.size) := ⟨T14.out.size⟩
        clear hD ht HD13 B13 B13w
        go_wp2_with fail
        refine (jt_open (rs := rs) (rest := List.replicate (4096 - (enc rs).length) 0) w14.heap.size (Nat.le_refl _) HD14.out rfl (jt_zero _) HLR.out (fun x hx => by rcases List.mem_append.1 hx with hx | hx; exact enc_byte rs HLR.out HYR.out x hx; have := List.eq_of_mem_replicate hx; omega) (by omega) (by omega) (by have := HL.out.2; omega)).mono ?_
        rintro e w15 ⟨bq, vq, rfl, hbq, hJ, hv, ht⟩
        have HJ15 := Aside0.mk hJ
        have HBQ : Aside0 (w9.heap.size ≤ bq) := ⟨by have := LE14.out; omega⟩
        have T15 : Aside0 (Tn (fun k => k < w8.heap.size ∨ w9.heap.size ≤ k) w9 w15) := ⟨T14.out.trans (ht.mono (fun k _ q => by have := LT8.out; rcases q with q | q | q <;> omega))⟩
        have B15 := Aside0.mk (Tn.below B14.out ht B14.out.size (fun k q => by have := GB.out; rcases q with q | q | q <;> omega))
        have LE15 : Aside0 (w14.heap.size ≤ w15.heap.size) := ⟨ht.size⟩
        clear hJ hv ht hbq HD14
        go_wp2_with fail
        refine (js_records HJ15.out.js (by omega)).mono ?_
        rintro e w16 ⟨vn, rfl, hr, hb⟩
        have HN16 := Aside0.mk hr
        have HJ16 := Aside0.mk (HJ15.out.below hb)
        have T16 : Aside0 (Tn (fun k => k < w8.heap.size ∨ w9.heap.size ≤ k) w9 w16) := ⟨T15.out.trans (Tn.of_below hb)⟩
        have HR16 := Aside0.mk (HR9.out.keep T16.out (fun k q => q))
        have B16 := Aside0.mk (below_step B15.out hb)
        have LE16 : Aside0 (w15.heap.size ≤ w16.heap.size) := ⟨hb.size⟩
        obtain ⟨An, cn, en⟩ := hr.sl
        subst en
        clear hr hb
        go_wp2_with fail
        refine (jz_same HN16.out.rv HR16.out.rv (by omega)).mono ?_
        rintro e w17 ⟨rfl, hb⟩
        have HJ17 := Aside0.mk (HJ16.out.below hb)
        have T17 : Aside0 (Tn (fun k => k < w8.heap.size ∨ w9.heap.size ≤ k) w9 w17) := ⟨T16.out.trans (Tn.of_below hb)⟩
        have B17 := Aside0.mk (below_step B16.out hb)
        have LE17 : Aside0 (w14.heap.size ≤ w17.heap.size) := ⟨by have h1 := LE15.out; have h2 := LE16.out; have := hb.size; omega⟩
        clear hb HN16 HR16 HJ15 HJ16
        rcases hm : jmay 4096 (enc rs).length mo.length with _ | cc
        · have hok := jt_ok hm
          have HOK := Aside0.mk hok
          clear hm
          obtain ⟨ar, ea, sr⟩ := Src.of_C R3.out.1 (by omega)
          subst ea
          have SR := Aside0.mk (And.intro sr (sr.lt hok.1))
          clear sr hok
          go_wp2_with fail
          refine (jt_append HJ17.out LE17.out (by omega) ar mo d3 (SR.out.1.below B17.out) (by have h1 := SR.out.2; have h2 := GB.out; exact ⟨by omega, by omega, by omega⟩) HOK.out.1 HOK.out.2.1 HOK.out.2.2 (by have h1 := HL.out.2; have h2 := HOK.out.2.1; omega)).mono ?_
          rintro e w18 ⟨rfl, v18, hJ, ht, hv⟩
          have HD18 := Aside0.mk hJ.d
          have HRL := Aside0.mk hJ.r.lens
          have T18 : Aside0 (Tn (fun k => k < w8.heap.size ∨ w9.heap.size ≤ k) w9 w18) := ⟨T17.out.trans (ht.mono (fun k _ q => by
            have h1 := LT8.out
            have h2 := HBQ.out
            have h3 := LE14.out
            rcases q with q | q | q | q | q
            · omega
            · omega
            · omega
            · omega
            · have := (HJ17.out.r.olt q).1; omega))⟩
          have B18 := Aside0.mk (Tn.below B17.out ht B17.out.size (fun k q => by
            have h1 := GB.out
            have h2 := HBQ.out
            have h3 := LE14.out
            have h4 := B9.out.size
            rcases q with q | q | q | q | q
            · omega
            · omega
            · omega
            · omega
            · have := (HJ17.out.r.olt q).1; omega))
          clear hJ ht hv HJ17
          have HYM : Aside0 (∀ r ∈ rs ++ [mo], ∀ x ∈ r, 0 ≤ x ∧ x ≤ 255) := ⟨fun r h => by
            rcases List.mem_append.1 h with h | h
            · exact HYR.out r h
            · obtain rfl := List.mem_singleton.1 h; exact R3.out.2⟩
          have hlm : (rs ++ [mo]).length = rs.length + 1 := by rw [List.length_append, List.length_singleton]
          obtain ⟨M, hM⟩ : ∃ M, rs ++ [mo] = M := ⟨_, rfl⟩
          rw [hM] at HD18 HRL HYM hlm
          have HM := Aside0.mk hM
          have hlm22 : M.length ≤ 22 := by omega
          clear hM hlm
          go_wp2_with fail
          have hlm : M.length ≤ 22 := by exact hlm22
          refine (jd_crash (A := none) (P := []) HD18.out Ks.nil (fun b h => by cases h) (by have := HL.out.2; have := HOK.out.2.1; omega) (by omega) (by omega) 0 (by decide) (fun i p h => by cases h) (fun p h => by cases h)).mono ?_
          rintro e w19 ⟨rfl, hD, ht⟩
          have HD19 := Aside0.mk (show Dk w19 bd bs bn bm 4096 (enc M ++ List.replicate (4096 - (enc M).length) 0) (enc M ++ List.replicate (4096 - (enc M).length) 0) _ (.map []) from hD)
          have T19 : Aside0 (Tn (fun k => k < w8.heap.size ∨ w9.heap.size ≤ k) w9 w19) := ⟨T18.out.trans (ht.mono (fun k _ q => by have := LT8.out; rcases q with q | q | q <;> omega))⟩
          have B19 := Aside0.mk (Tn.below B18.out ht B18.out.size (fun k q => by have := GB.out; rcases q with q | q | q <;> omega))
          have LE19 : Aside0 (w9.heap.size ≤ w19.heap.size) := ⟨T19.out.size⟩
          clear hD ht HD18
          go_wp2_with fail
          refine (jt_open (rs := M) (rest := List.replicate (4096 - (enc M).length) 0) w19.heap.size (Nat.le_refl _) HD19.out rfl (jt_zero _) HRL.out (fun x hx => by rcases List.mem_append.1 hx with hx | hx; exact enc_byte M HRL.out HYM.out x hx; have := List.eq_of_mem_replicate hx; omega) (by omega) (by omega) (by have := HL.out.2; have := HOK.out.2.1; omega)).mono ?_
          rintro e w20 ⟨bz, vz, rfl, hbz, hJ, hv, ht⟩
          have HJ20 := Aside0.mk hJ
          have T20 : Aside0 (Tn (fun k => k < w8.heap.size ∨ w9.heap.size ≤ k) w9 w20) := ⟨T19.out.trans (ht.mono (fun k _ q => by have := LT8.out; rcases q with q | q | q <;> omega))⟩
          have B20 := Aside0.mk (Tn.below B19.out ht B19.out.size (fun k q => by have := GB.out; rcases q with q | q | q <;> omega))
          have HR20 := Aside0.mk (HR9.out.keep T20.out (fun k q => q))
          clear hJ hv ht hbz HD19
          obtain ⟨vs2, ho2, hvs2⟩ := HR20.out
          have HO20 := Aside0.mk ho2
          have HV20 := Aside0.mk hvs2
          have hlv2 : vs2.length = rs.length := by have := ho2.1; omega
          clear ho2 hvs2
          obtain ⟨i0, hi, hz0, hz1, hz2⟩ := info_parts jo_info
          have HI := Aside0.mk hi
          have LE20 : Aside0 (w8.heap.size ≤ w20.heap.size) := ⟨by have h1 := T20.out.size; have h2 := LE9.out; omega⟩
          clear hi
          go_wp2_with (at_builtin; first | refine wpList_append_own_at _ rfl _ _ 44 rfl w8.heap.size 22 i0 (.slice none 0 0) 1 24 Try.underlying44 HI.out hz0 hz1 hz2 rfl (by decide) (.slice Ar rs.length cr) rs.length vs2 rfl (HO20.out.alloc _) ⟨w20.heap.size, 0, none⟩ 1 1 [.slice (some ar) mo.length d3] rfl rfl (jo_one _ _) (by simp [Value.oneCell']) (by unfold maxLen; omega) (by omega) (by have := LE20.out; simp; omega) ?_ | fail)
          intro v21 w21 hown hgrow _ hloc
          have O21 := Aside0.mk hown
          have T21 := Aside0.mk (jn_tn hgrow)
          clear hown hgrow hloc
          have RV21 : Aside0 (Rv w21 v21 M) := ⟨HM.out ▸ rv_snoc (w := w20) (S := fun k => (Value.slice Ar rs.length cr).ownBlock = some k) O21.out hlv2 (fun i r h => by
            obtain ⟨g, o, c, a1, a2, a3, a4, a5, a6, a7, cs, a8⟩ := HV20.out i r h
            exact ⟨⟨g, o, none⟩, c, a1, a2, by omega, fun q => by obtain ⟨cs2, hc2⟩ := own_typed HO20.out q; exact ty_ne a8 hc2 (by decide)⟩) T21.out ((SR.out.1.below B20.out).turn T21.out (fun q => by have h1 := own_base HO20.out q; have h2 := SR.out.2; have h3 := B8.out.size; omega)) (by have := HOK.out.2.1; omega)⟩
          have HJ21 := Aside0.mk (HJ20.out.row T21.out (fun k hk => own_typed HO20.out hk) (fun k hk hq => by
            have h1 := (HR9.out.olt hk).2.1
            have h2 := (HJ20.out.r.olt hq).1
            have h3 := LE19.out
            omega))
          have B21 := Aside0.mk (Tn.below B20.out T21.out B20.out.size (fun k q => by have h1 := own_base HO20.out q; have h2 := B8.out.size; omega))
          clear HI hz0 hz1 hz2 HO20 HV20 O21 T21 HJ20
          obtain ⟨Ay, cy, ey, -⟩ := RV21.out
          subst ey
          go_wp2_with fail
          refine (js_records HJ21.out.js (by omega)).mono ?_
          rintro e w22 ⟨vz2, rfl, hr, hb⟩
          have HZ22 := Aside0.mk hr
          have RV22 := Aside0.mk (RV21.out.below hb)
          have B22 := Aside0.mk (below_step B21.out hb)
          obtain ⟨Az, cz, ez⟩ := hr.sl
          subst ez
          clear hr hb
          go_wp2_with fail
          refine (jz_same HZ22.out.rv RV22.out (by omega)).mono ?_
          rintro e w23 ⟨rfl, hb⟩
          have B23 := Aside0.mk (below_step B22.out hb)
          clear hb
          go_wp2_with fail
          go_ret
          exact ⟨rfl, B23.out⟩
        · go_wp2_with fail
          refine (jt_refuse HJ17.out (by omega) A3 mo.length d3 hm63 cc hm).mono ?_
          rintro e w18 ⟨rfl, hb⟩
          have HD18 := Aside0.mk (HJ17.out.d.below hb)
          have T18 : Aside0 (Tn (fun k => k < w8.heap.size ∨ w9.heap.size ≤ k) w9 w18) := ⟨T17.out.trans (Tn.of_below hb)⟩
          have B18 := Aside0.mk (below_step B17.out hb)
          have HRL := HLR
          have HYM := HYR
          clear hb hm HJ17
          go_wp2_with fail
          have hlm : rs.length ≤ 22 := by omega
          refine (jd_crash (A := none) (P := []) HD18.out Ks.nil (fun b h => by cases h) (by have := HL.out.2; omega) (by omega) (by omega) 0 (by decide) (fun i p h => by cases h) (fun p h => by cases h)).mono ?_
          rintro e w19 ⟨rfl, hD, ht⟩
          have HD19 := Aside0.mk (show Dk w19 bd bs bn bm 4096 (enc rs ++ List.replicate (4096 - (enc rs).length) 0) (enc rs ++ List.replicate (4096 - (enc rs).length) 0) _ (.map []) from hD)
          have T19 : Aside0 (Tn (fun k => k < w8.heap.size ∨ w9.heap.size ≤ k) w9 w19) := ⟨T18.out.trans (ht.mono (fun k _ q => by have := LT8.out; rcases q with q | q | q <;> omega))⟩
          have B19 := Aside0.mk (Tn.below B18.out ht B18.out.size (fun k q => by have := GB.out; rcases q with q | q | q <;> omega))
          have LE19 : Aside0 (w9.heap.size ≤ w19.heap.size) := ⟨T19.out.size⟩
          clear hD ht HD18
          go_wp2_with fail
          refine (jt_open (rs := rs) (rest := List.replicate (4096 - (enc rs).length) 0) w19.heap.size (Nat.le_refl _) HD19.out rfl (jt_zero _) HRL.out (fun x hx => by rcases List.mem_append.1 hx with hx | hx; exact enc_byte rs HRL.out HYM.out x hx; have := List.eq_of_mem_replicate hx; omega) (by omega) (by omega) (by have := HL.out.2; omega)).mono ?_
          rintro e w20 ⟨bz, vz, rfl, hbz, hJ, hv, ht⟩
          have HJ20 := Aside0.mk hJ
          have T20 : Aside0 (Tn (fun k => k < w8.heap.size ∨ w9.heap.size ≤ k) w9 w20) := ⟨T19.out.trans (ht.mono (fun k _ q => by have := LT8.out; rcases q with q | q | q <;> omega))⟩
          have B20 := Aside0.mk (Tn.below B19.out ht B19.out.size (fun k q => by have := GB.out; rcases q with q | q | q <;> omega))
          have HR20 := Aside0.mk (HR9.out.keep T20.out (fun k q => q))
          clear hJ hv ht hbz HD19
          have RV21 := Aside0.mk HR20.out.rv
          have HJ21 := HJ20
          have B21 := B20
          go_wp2_with fail
          refine (js_records HJ21.out.js (by omega)).mono ?_
          rintro e w22 ⟨vz2, rfl, hr, hb⟩
          have HZ22 := Aside0.mk hr
          have RV22 := Aside0.mk (RV21.out.below hb)
          have B22 := Aside0.mk (below_step B21.out hb)
          obtain ⟨Az, cz, ez⟩ := hr.sl
          subst ez
          clear hr hb
          go_wp2_with fail
          refine (jz_same HZ22.out.rv RV22.out (by omega)).mono ?_
          rintro e w23 ⟨rfl, hb⟩
          have B23 := Aside0.mk (below_step B22.out hb)
          clear hb
          go_wp2_with fail
          go_ret
          exact ⟨rfl, B23.out⟩
      · obtain rfl := hr
        obtain rfl := hs
        have hbl := HR6.out rfl
        have HC := Aside0.mk hc1
        have HBL := Aside0.mk hbl
        clear hc1 hbl
        have HLR : Aside0 (∀ r ∈ rs ++ [b], 1 ≤ r.length ∧ r.length ≤ 1024) := ⟨fun r h => by
          rcases List.mem_append.1 h with h | h
          · exact HLN.out r h
          · obtain rfl := List.mem_singleton.1 h; exact ⟨HBL.out.1, HBL.out.2.1⟩⟩
        have HYR : Aside0 (∀ r ∈ rs ++ [b], ∀ x ∈ r, 0 ≤ x ∧ x ≤ 255) := ⟨fun r h => by
          rcases List.mem_append.1 h with h | h
          · exact HY.out r h
          · obtain rfl := List.mem_singleton.1 h; exact R1.out.2⟩
        have hlr : (rs ++ [b]).length = rs.length + 1 := by rw [List.length_append, List.length_singleton]
        obtain ⟨R, hR⟩ : ∃ R, rs ++ [b] = R := ⟨_, rfl⟩
        rw [hR] at HLR HYR hlr HC
        have HRR := Aside0.mk (And.intro hR hlr)
        have hlr21 : R.length ≤ 21 := by have := HL.out.1; omega
        clear hR hlr
        have hlr := hlr21
        clear hlr21
        refine (jt_open (rs := R) (rest := List.replicate (4096 - (enc R).length) 0) w.heap.size B7.out.size HD7.out HC.out (jt_zero _) HLR.out HB7.out (by omega) (by omega) (by have := HL.out.2; omega)).mono ?_
        rintro e w8 ⟨bk, vk, rfl, hbk, hJ, hv, ht⟩
        have HJ8 := Aside0.mk hJ
        have HD8 := Aside0.mk hJ.d
        have LT8 := Aside0.mk hJ.d.lts
        have WT8 : Aside0 (Wt w8 w.heap.size u16 rs) := ⟨WT7.out.turn ht (fun k q => by have := GB.out; rcases q with q | q | q <;> omega) (fun k hk q => by
          obtain ⟨-, -, cs, hc⟩ := WT7.out.olt hk
          rcases q with q | q | q
          · obtain ⟨r, hr⟩ := HD7.out.hs
            exact ty_ne hr (q ▸ hc) (by decide)
          · obtain ⟨r, hr⟩ := HD7.out.hn
            exact ty_ne hr (q ▸ hc) (by decide)
          · obtain ⟨es, cl, hm⟩ := HD7.out.map
            rw [q, hm] at hc
            cases hc)⟩
        have B8 := Aside0.mk (Tn.below B7.out ht B7.out.size (fun k q => by have := GB.out; rcases q with q | q | q <;> omega))
        clear hJ hv ht hbk HD7 WT7 HB7 HC
        go_wp2_with fail
        refine (js_records HJ8.out.js (by omega)).mono ?_
        rintro e w9 ⟨vo, rfl, hr, hb⟩
        have HR9 := Aside0.mk hr
        have WT9 := Aside0.mk (WT8.out.below hb)
        have HD9 := Aside0.mk (HD8.out.below hb)
        have B9 := Aside0.mk (below_step B8.out hb)
        have LE9 : Aside0 (w8.heap.size ≤ w9.heap.size) := ⟨hb.size⟩
        obtain ⟨Ar, cr, evo⟩ := hr.sl
        clear hr hb HJ8 HD8 WT8
        obtain ⟨vs, ho, hvs⟩ := WT9.out
        have HO9 := Aside0.mk ho
        have HV9 := Aside0.mk hvs
        have ONE9 := Aside0.mk (Wt.one ho hvs)
        clear ho hvs
        subst evo
        obtain ⟨i0, hi, hz0, hz1, hz2⟩ := info_parts jo_info
        have HI := Aside0.mk hi
        clear hi
        go_wp2_with (at_builtin; first | refine wpl_rows rfl _ _ rfl w9.heap.size (.slice (some ⟨w9.heap.size, 0, none⟩) 0 0) 0 [] rfl (rows_empty w9) u16 w.heap.size rs.length vs rfl (HO9.out.alloc _) ONE9.out (by have := HL.out.1; omega) (by simp) ?_ | fail)
        intro v10 w10 hown hgrow hloc
        have O10 := Aside0.mk hown
        have B10 : Aside0 (Below w9.heap.size w9 w10) := ⟨(below_alloc (Below.refl w9.heap.size w9) _).grown hgrow (by simp) (fun k hk => by cases hk; exact Nat.le_refl _)⟩
        have LE10 : Aside0 (w9.heap.size ≤ w10.heap.size) := ⟨B10.out.size⟩
        clear hown hgrow hloc
        go_wp2_with (at_builtin; first | refine wpList_append_own_at _ rfl _ _ 44 rfl w9.heap.size 22 i0 (.slice none 0 0) 1 24 Try.underlying44 HI.out hz0 hz1 hz2 rfl (by decide) v10 rs.length vs rfl (O10.out.alloc _) ⟨w10.heap.size, 0, none⟩ 1 1 [.slice A1 b.length d1] rfl rfl (jo_one _ _) (by simp [Value.oneCell']) (by have := HL.out.1; unfold maxLen; omega) (by have := HL.out.1; omega) (by have := LE10.out; simp; omega) ?_ | fail)
        intro v11 w11 hown hgrow _ hloc
        have O11 := Aside0.mk hown
        have T11 := Aside0.mk (jn_tn hgrow)
        have B11 : Aside0 (Below w9.heap.size w9 w11) := ⟨Tn.below B10.out T11.out LE10.out (fun k q => own_base O10.out q)⟩
        clear hown hgrow hloc
        have hlv : vs.length = rs.length := by have := HO9.out.1; omega
        have RW11 : Aside0 (∀ (i : Nat) (r : List Int), rs[i]? = some r → ∃ ad k, vs[i]? = some (.slice (some ad) r.length k) ∧ Src w9 ad r ∧ r.length ≤ 65536 ∧ ¬ w9.heap.size ≤ ad.block) := ⟨fun i r h => by
          obtain ⟨ad, k, a1, a2, a3, a4⟩ := HV9.out i r h
          exact ⟨ad, k, a1, a2, a3, by have := B9.out.size; omega⟩⟩
        have WT11 := Aside0.mk (WT9.out.below B11.out)
        have HR11 := Aside0.mk (HR9.out.below B11.out)
        have HD11 := Aside0.mk (HD9.out.below B11.out)
        obtain ⟨Aw, cw, ew, -⟩ := WT11.out.rv
        subst ew
        clear HI hz0 hz1 hz2 O10 B10 ONE9 HO9 WT9
        go_wp2_with fail
        refine (jz_differ (by have := HRR.out.2; omega) (by omega) (by have := HL.out.1; omega)).mono ?_
        rintro e w12 ⟨rfl, hb⟩
        have B12 := Aside0.mk (below_step B11.out hb)
        have Z12 := Aside0.mk hb
        clear hb
        have hce : cer none = .nilIface := rfl
        obtain ⟨adb, eb, sb⟩ := Src.of_C R1.out.1 (by have := HBL.out.1; omega)
        subst eb
        have RVW : Aside0 (Rv w12 v11 R) := ⟨HRR.out.1 ▸ (rv_snoc (S := fun k => w9.heap.size ≤ k) O11.out hlv RW11.out (Tn.of_below B11.out) (sb.below (below_step B9.out B11.out)) (by have := HBL.out.2.1; omega)).below Z12.out⟩
        have HR12 := Aside0.mk (HR11.out.below Z12.out)
        clear sb
        obtain ⟨Ax, cx, ex, -⟩ := RVW.out
        subst ex
        go_wp2_with fail
        refine (jz_same HR12.out.rv RVW.out (by omega)).mono ?_
        rintro e w13 ⟨rfl, hb⟩
        have B13 := Aside0.mk (below_step B12.out hb)
        have LE13 : Aside0 (w11.heap.size ≤ w13.heap.size) := ⟨by have := Z12.out.size; have := hb.size; omega⟩
        clear hb
        have HD13 := Aside0.mk (HD9.out.below B13.out)
        have B13w := Aside0.mk (below_step B9.out B13.out)
        clear HD11 HR11 WT11 HV9 HD9 B11
        go_wp2_with fail
        refine (jd_crash (A := none) (P := []) HD13.out Ks.nil (fun b h => by cases h) (by have := HL.out.2; omega) (by omega) (by omega) 0 (by decide) (fun i p h => by cases h) (fun p h => by cases h)).mono ?_
        rintro e w14 ⟨rfl, hD, ht⟩
        have HD14 := Aside0.mk (show Dk w14 bd bs bn bm 4096 (enc R ++ List.replicate (4096 - (enc R).length) 0) (enc R ++ List.replicate (4096 - (enc R).length) 0) _ (.map []) from hD)
        have T14 : Aside0 (Tn (fun k => k < w8.heap.size ∨ w9.heap.size ≤ k) w9 w14) := ⟨(Tn.of_below B13.out).trans (ht.mono (fun k _ q => by have := LT8.out; rcases q with q | q | q <;> omega))⟩
        have B14 := Aside0.mk (Tn.below B13w.out ht B13w.out.size (fun k q => by have := GB.out; rcases q with q | q | q <;> omega))
        have LE14 : Aside0 (w9.heap.size ≤ w14.heap.size) := ⟨T14.out.size⟩
        clear hD ht HD13 B13 B13w
        go_wp2_with fail
        refine (jt_open (rs := R) (rest := List.replicate (4096 - (enc R).length) 0) w14.heap.size (Nat.le_refl _) HD14.out rfl (jt_zero _) HLR.out (fun x hx => by rcases List.mem_append.1 hx with hx | hx; exact enc_byte R HLR.out HYR.out x hx; have := List.eq_of_mem_replicate hx; omega) (by omega) (by omega) (by have := HL.out.2; omega)).mono ?_
        rintro e w15 ⟨bq, vq, rfl, hbq, hJ, hv, ht⟩
        have HJ15 := Aside0.mk hJ
        have HBQ : Aside0 (w9.heap.size ≤ bq) := ⟨by have := LE14.out; omega⟩
        have T15 : Aside0 (Tn (fun k => k < w8.heap.size ∨ w9.heap.size ≤ k) w9 w15) := ⟨T14.out.trans (ht.mono (fun k _ q => by have := LT8.out; rcases q with q | q | q <;> omega))⟩
        have B15 := Aside0.mk (Tn.below B14.out ht B14.out.size (fun k q => by have := GB.out; rcases q with q | q | q <;> omega))
        have LE15 : Aside0 (w14.heap.size ≤ w15.heap.size) := ⟨ht.size⟩
        clear hJ hv ht hbq HD14
        go_wp2_with fail
        refine (js_records HJ15.out.js (by omega)).mono ?_
        rintro e w16 ⟨vn, rfl, hr, hb⟩
        have HN16 := Aside0.mk hr
        have HJ16 := Aside0.mk (HJ15.out.below hb)
        have T16 : Aside0 (Tn (fun k => k < w8.heap.size ∨ w9.heap.size ≤ k) w9 w16) := ⟨T15.out.trans (Tn.of_below hb)⟩
        have HR16 := Aside0.mk (HR9.out.keep T16.out (fun k q => q))
        have B16 := Aside0.mk (below_step B15.out hb)
        have LE16 : Aside0 (w15.heap.size ≤ w16.heap.size) := ⟨hb.size⟩
        obtain ⟨An, cn, en⟩ := hr.sl
        subst en
        clear hr hb
        go_wp2_with fail
        refine (jz_same HN16.out.rv HR16.out.rv (by omega)).mono ?_
        rintro e w17 ⟨rfl, hb⟩
        have HJ17 := Aside0.mk (HJ16.out.below hb)
        have T17 : Aside0 (Tn (fun k => k < w8.heap.size ∨ w9.heap.size ≤ k) w9 w17) := ⟨T16.out.trans (Tn.of_below hb)⟩
        have B17 := Aside0.mk (below_step B16.out hb)
        have LE17 : Aside0 (w14.heap.size ≤ w17.heap.size) := ⟨by have h1 := LE15.out; have h2 := LE16.out; have := hb.size; omega⟩
        clear hb HN16 HR16 HJ15 HJ16
        rcases hm : jmay 4096 (enc R).length mo.length with _ | cc
        · have hok := jt_ok hm
          have HOK := Aside0.mk hok
          clear hm
          obtain ⟨ar, ea, sr⟩ := Src.of_C R3.out.1 (by omega)
          subst ea
          have SR := Aside0.mk (And.intro sr (sr.lt hok.1))
          clear sr hok
          go_wp2_with fail
          refine (jt_append HJ17.out LE17.out (by omega) ar mo d3 (SR.out.1.below B17.out) (by have h1 := SR.out.2; have h2 := GB.out; exact ⟨by omega, by omega, by omega⟩) HOK.out.1 HOK.out.2.1 HOK.out.2.2 (by have h1 := HL.out.2; have h2 := HOK.out.2.1; omega)).mono ?_
          rintro e w18 ⟨rfl, v18, hJ, ht, hv⟩
          have HD18 := Aside0.mk hJ.d
          have HRL := Aside0.mk hJ.r.lens
          have T18 : Aside0 (Tn (fun k => k < w8.heap.size ∨ w9.heap.size ≤ k) w9 w18) := ⟨T17.out.trans (ht.mono (fun k _ q => by
            have h1 := LT8.out
            have h2 := HBQ.out
            have h3 := LE14.out
            rcases q with q | q | q | q | q
            · omega
            · omega
            · omega
            · omega
            · have := (HJ17.out.r.olt q).1; omega))⟩
          have B18 := Aside0.mk (Tn.below B17.out ht B17.out.size (fun k q => by
            have h1 := GB.out
            have h2 := HBQ.out
            have h3 := LE14.out
            have h4 := B9.out.size
            rcases q with q | q | q | q | q
            · omega
            · omega
            · omega
            · omega
            · have := (HJ17.out.r.olt q).1; omega))
          clear hJ ht hv HJ17
          have HYM : Aside0 (∀ r ∈ R ++ [mo], ∀ x ∈ r, 0 ≤ x ∧ x ≤ 255) := ⟨fun r h => by
            rcases List.mem_append.1 h with h | h
            · exact HYR.out r h
            · obtain rfl := List.mem_singleton.1 h; exact R3.out.2⟩
          have hlm : (R ++ [mo]).length = R.length + 1 := by rw [List.length_append, List.length_singleton]
          obtain ⟨M, hM⟩ : ∃ M, R ++ [mo] = M := ⟨_, rfl⟩
          rw [hM] at HD18 HRL HYM hlm
          have HM := Aside0.mk hM
          have hlm22 : M.length ≤ 22 := by omega
          clear hM hlm
          go_wp2_with fail
          have hlm : M.length ≤ 22 := by exact hlm22
          refine (jd_crash (A := none) (P := []) HD18.out Ks.nil (fun b h => by cases h) (by have := HL.out.2; have := HOK.out.2.1; omega) (by omega) (by omega) 0 (by decide) (fun i p h => by cases h) (fun p h => by cases h)).mono ?_
          rintro e w19 ⟨rfl, hD, ht⟩
          have HD19 := Aside0.mk (show Dk w19 bd bs bn bm 4096 (enc M ++ List.replicate (4096 - (enc M).length) 0) (enc M ++ List.replicate (4096 - (enc M).length) 0) _ (.map []) from hD)
          have T19 : Aside0 (Tn (fun k => k < w8.heap.size ∨ w9.heap.size ≤ k) w9 w19) := ⟨T18.out.trans (ht.mono (fun k _ q => by have := LT8.out; rcases q with q | q | q <;> omega))⟩
          have B19 := Aside0.mk (Tn.below B18.out ht B18.out.size (fun k q => by have := GB.out; rcases q with q | q | q <;> omega))
          have LE19 : Aside0 (w9.heap.size ≤ w19.heap.size) := ⟨T19.out.size⟩
          clear hD ht HD18
          go_wp2_with fail
          refine (jt_open (rs := M) (rest := List.replicate (4096 - (enc M).length) 0) w19.heap.size (Nat.le_refl _) HD19.out rfl (jt_zero _) HRL.out (fun x hx => by rcases List.mem_append.1 hx with hx | hx; exact enc_byte M HRL.out HYM.out x hx; have := List.eq_of_mem_replicate hx; omega) (by omega) (by omega) (by have := HL.out.2; have := HOK.out.2.1; omega)).mono ?_
          rintro e w20 ⟨bz, vz, rfl, hbz, hJ, hv, ht⟩
          have HJ20 := Aside0.mk hJ
          have T20 : Aside0 (Tn (fun k => k < w8.heap.size ∨ w9.heap.size ≤ k) w9 w20) := ⟨T19.out.trans (ht.mono (fun k _ q => by have := LT8.out; rcases q with q | q | q <;> omega))⟩
          have B20 := Aside0.mk (Tn.below B19.out ht B19.out.size (fun k q => by have := GB.out; rcases q with q | q | q <;> omega))
          have HR20 := Aside0.mk (HR9.out.keep T20.out (fun k q => q))
          clear hJ hv ht hbz HD19
          obtain ⟨vs2, ho2, hvs2⟩ := HR20.out
          have HO20 := Aside0.mk ho2
          have HV20 := Aside0.mk hvs2
          have hlv2 : vs2.length = R.length := by have := ho2.1; omega
          clear ho2 hvs2
          obtain ⟨i0, hi, hz0, hz1, hz2⟩ := info_parts jo_info
          have HI := Aside0.mk hi
          have LE20 : Aside0 (w8.heap.size ≤ w20.heap.size) := ⟨by have h1 := T20.out.size; have h2 := LE9.out; omega⟩
          clear hi
          go_wp2_with (at_builtin; first | refine wpList_append_own_at _ rfl _ _ 44 rfl w8.heap.size 22 i0 (.slice none 0 0) 1 24 Try.underlying44 HI.out hz0 hz1 hz2 rfl (by decide) (.slice Ar R.length cr) R.length vs2 rfl (HO20.out.alloc _) ⟨w20.heap.size, 0, none⟩ 1 1 [.slice (some ar) mo.length d3] rfl rfl (jo_one _ _) (by simp [Value.oneCell']) (by unfold maxLen; omega) (by omega) (by have := LE20.out; simp; omega) ?_ | fail)
          intro v21 w21 hown hgrow _ hloc
          have O21 := Aside0.mk hown
          have T21 := Aside0.mk (jn_tn hgrow)
          clear hown hgrow hloc
          have RV21 : Aside0 (Rv w21 v21 M) := ⟨HM.out ▸ rv_snoc (w := w20) (S := fun k => (Value.slice Ar R.length cr).ownBlock = some k) O21.out hlv2 (fun i r h => by
            obtain ⟨g, o, c, a1, a2, a3, a4, a5, a6, a7, cs, a8⟩ := HV20.out i r h
            exact ⟨⟨g, o, none⟩, c, a1, a2, by omega, fun q => by obtain ⟨cs2, hc2⟩ := own_typed HO20.out q; exact ty_ne a8 hc2 (by decide)⟩) T21.out ((SR.out.1.below B20.out).turn T21.out (fun q => by have h1 := own_base HO20.out q; have h2 := SR.out.2; have h3 := B8.out.size; omega)) (by have := HOK.out.2.1; omega)⟩
          have HJ21 := Aside0.mk (HJ20.out.row T21.out (fun k hk => own_typed HO20.out hk) (fun k hk hq => by
            have h1 := (HR9.out.olt hk).2.1
            have h2 := (HJ20.out.r.olt hq).1
            have h3 := LE19.out
            omega))
          have B21 := Aside0.mk (Tn.below B20.out T21.out B20.out.size (fun k q => by have h1 := own_base HO20.out q; have h2 := B8.out.size; omega))
          clear HI hz0 hz1 hz2 HO20 HV20 O21 T21 HJ20
          obtain ⟨Ay, cy, ey, -⟩ := RV21.out
          subst ey
          go_wp2_with fail
          refine (js_records HJ21.out.js (by omega)).mono ?_
          rintro e w22 ⟨vz2, rfl, hr, hb⟩
          have HZ22 := Aside0.mk hr
          have RV22 := Aside0.mk (RV21.out.below hb)
          have B22 := Aside0.mk (below_step B21.out hb)
          obtain ⟨Az, cz, ez⟩ := hr.sl
          subst ez
          clear hr hb
          go_wp2_with fail
          refine (jz_same HZ22.out.rv RV22.out (by omega)).mono ?_
          rintro e w23 ⟨rfl, hb⟩
          have B23 := Aside0.mk (below_step B22.out hb)
          clear hb
          go_wp2_with fail
          go_ret
          exact ⟨rfl, B23.out⟩
        · go_wp2_with fail
          refine (jt_refuse HJ17.out (by omega) A3 mo.length d3 hm63 cc hm).mono ?_
          rintro e w18 ⟨rfl, hb⟩
          have HD18 := Aside0.mk (HJ17.out.d.below hb)
          have T18 : Aside0 (Tn (fun k => k < w8.heap.size ∨ w9.heap.size ≤ k) w9 w18) := ⟨T17.out.trans (Tn.of_below hb)⟩
          have B18 := Aside0.mk (below_step B17.out hb)
          have HRL := HLR
          have HYM := HYR
          clear hb hm HJ17
          go_wp2_with fail
          have hlm : R.length ≤ 22 := by omega
          refine (jd_crash (A := none) (P := []) HD18.out Ks.nil (fun b h => by cases h) (by have := HL.out.2; omega) (by omega) (by omega) 0 (by decide) (fun i p h => by cases h) (fun p h => by cases h)).mono ?_
          rintro e w19 ⟨rfl, hD, ht⟩
          have HD19 := Aside0.mk (show Dk w19 bd bs bn bm 4096 (enc R ++ List.replicate (4096 - (enc R).length) 0) (enc R ++ List.replicate (4096 - (enc R).length) 0) _ (.map []) from hD)
          have T19 : Aside0 (Tn (fun k => k < w8.heap.size ∨ w9.heap.size ≤ k) w9 w19) := ⟨T18.out.trans (ht.mono (fun k _ q => by have := LT8.out; rcases q with q | q | q <;> omega))⟩
          have B19 := Aside0.mk (Tn.below B18.out ht B18.out.size (fun k q => by have := GB.out; rcases q with q | q | q <;> omega))
          have LE19 : Aside0 (w9.heap.size ≤ w19.heap.size) := ⟨T19.out.size⟩
          clear hD ht HD18
          go_wp2_with fail
          refine (jt_open (rs := R) (rest := List.replicate (4096 - (enc R).length) 0) w19.heap.size (Nat.le_refl _) HD19.out rfl (jt_zero _) HRL.out (fun x hx => by rcases List.mem_append.1 hx with hx | hx; exact enc_byte R HRL.out HYM.out x hx; have := List.eq_of_mem_replicate hx; omega) (by omega) (by omega) (by have := HL.out.2; omega)).mono ?_
          rintro e w20 ⟨bz, vz, rfl, hbz, hJ, hv, ht⟩
          have HJ20 := Aside0.mk hJ
          have T20 : Aside0 (Tn (fun k => k < w8.heap.size ∨ w9.heap.size ≤ k) w9 w20) := ⟨T19.out.trans (ht.mono (fun k _ q => by have := LT8.out; rcases q with q | q | q <;> omega))⟩
          have B20 := Aside0.mk (Tn.below B19.out ht B19.out.size (fun k q => by have := GB.out; rcases q with q | q | q <;> omega))
          have HR20 := Aside0.mk (HR9.out.keep T20.out (fun k q => q))
          clear hJ hv ht hbz HD19
          have RV21 := Aside0.mk HR20.out.rv
          have HJ21 := HJ20
          have B21 := B20
          go_wp2_with fail
          refine (js_records HJ21.out.js (by omega)).mono ?_
          rintro e w22 ⟨vz2, rfl, hr, hb⟩
          have HZ22 := Aside0.mk hr
          have RV22 := Aside0.mk (RV21.out.below hb)
          have B22 := Aside0.mk (below_step B21.out hb)
          obtain ⟨Az, cz, ez⟩ := hr.sl
          subst ez
          clear hr hb
          go_wp2_with fail
          refine (jz_same HZ22.out.rv RV22.out (by omega)).mono ?_
          rintro e w23 ⟨rfl, hb⟩
          have B23 := Aside0.mk (below_step B22.out hb)
          clear hb
          go_wp2_with fail
          go_ret
          exact ⟨rfl, B23.out⟩

end Go.Proofs.Ythblaehmdailhaa.PJournalStays
