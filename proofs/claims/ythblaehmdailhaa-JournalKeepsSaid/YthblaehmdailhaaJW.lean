import Derived.Test.YthblaehmdailhaaJZ
namespace Go.Proofs.Ythblaehmdailhaa.PJournalStays
open Go.RowKit Go.Proofs.YthblaehmdailhaaW.PrintWords Go.Proofs.YthblaehmdailhaaW.PrintLast Go.Proofs.YthblaehmdailhaaW.PrintMore
set_option linter.unusedVariables false
set_option linter.unusedSimpArgs false
theorem Tn.to_below {S : Nat → Prop} {w W : World} (h : Tn S w W) (hS : ∀ k, S k → w.heap.size ≤ k) : Below w.heap.size w W := ⟨h.os, h.tape, h.output, h.size, fun k hk => h.block k hk (fun q => by have := hS k q; omega)⟩
/-- Rows that a law has gathered: they lie below a block's number. -/
def Wt (W : World) (base : Nat) (v : Value) (rs : List (List Int)) : Prop :=
  ∃ vs : List Value, W.ownsRow base 22 1 v rs.length vs ∧ ∀ (i : Nat) (r : List Int), rs[i]? = some r → ∃ ad k, vs[i]? = some (.slice (some ad) r.length k) ∧ Src W ad r ∧ r.length ≤ 65536 ∧ ad.block < base
theorem Wt.nil (W : World) (base : Nat) : Wt W base (.slice none 0 0) [] := ⟨[], World.ownsRow_nil W base _ 1, fun i r h => by cases h⟩
theorem Wt.rv {W : World} {base : Nat} {v : Value} {rs : List (List Int)} (h : Wt W base v rs) : Rv W v rs := by
  obtain ⟨vs, ⟨hl, ⟨rfl, h0⟩ | ⟨gr, c, cur, rfl, hg, hb, -, -, hsz, ht⟩⟩, hv⟩ := h
  · refine ⟨none, 0, by rw [h0], fun i r hi => ?_⟩
    rw [List.eq_nil_of_length_eq_zero h0] at hi
    cases hi
  · refine ⟨_, c, rfl, fun i r hi => ?_⟩
    obtain ⟨ad, k, a1, a2, a3, -⟩ := hv i r hi
    refine ⟨gr, ad, k, rfl, ?_, a2, a3⟩
    have hlt : i < rs.length := (List.getElem?_eq_some_iff.1 hi).1
    rw [← ht, Nat.mul_one, List.getElem?_take, if_pos hlt] at a1
    exact (blk_cell hb i).trans (by rw [← Array.getElem?_toList]; exact a1)
theorem Wt.turn {S : Nat → Prop} {w W : World} {base : Nat} {v : Value} {rs : List (List Int)} (h : Wt w base v rs) (t : Tn S w W) (h1 : ∀ k, S k → base ≤ k) (h2 : ∀ k, v.ownBlock = some k → ¬ S k) : Wt W base v rs := by
  obtain ⟨vs, ho, hv⟩ := h
  refine ⟨vs, own_turn ho t h2, fun i r hi => ?_⟩
  obtain ⟨ad, k, a1, a2, a3, a4⟩ := hv i r hi
  exact ⟨ad, k, a1, a2.turn t (fun q => by have := h1 _ q; omega), a3, a4⟩
theorem Wt.below {w W : World} {base : Nat} {v : Value} {rs : List (List Int)} (h : Wt w base v rs) (t : Below w.heap.size w W) : Wt W base v rs :=
  h.turn (S := fun _ => False) (Tn.of_below t) (fun k q => q.elim) (fun k _ q => q)
/-- Gathered: one row more (behind a law's append). -/
theorem Wt.snoc {w W : World} {base : Nat} {v v' : Value} {rs : List (List Int)} {vs : List Value} {r : List Int} {ad : Addr} {k : Nat} {ob : Obj} (ho0 : w.ownsRow base 22 1 v rs.length vs) (hv : ∀ (i : Nat) (r : List Int), rs[i]? = some r → ∃ ad k, vs[i]? = some (.slice (some ad) r.length k) ∧ Src w ad r ∧ r.length ≤ 65536 ∧ ad.block < base)
    (hg : (w.alloc ob).grownBy W v.ownBlock) (ho : W.ownsRow base 22 1 v' (rs.length + 1) (vs ++ [.slice (some ad) r.length k])) (hs : Src w ad r) (hr : r.length ≤ 65536) (ha : ad.block < base) : Wt W base v' (rs ++ [r]) := by
  have t := jn_tn hg
  have hS : ∀ j, v.ownBlock = some j → base ≤ j := fun j q => own_base ho0 q
  have hvl : vs.length = rs.length := by have := ho0.1; omega
  refine ⟨vs ++ [.slice (some ad) r.length k], by rw [List.length_append]; exact ho, fun i q hi => ?_⟩
  by_cases hl : i < rs.length
  · rw [List.getElem?_append_left hl] at hi
    obtain ⟨ad', k', a1, a2, a3, a4⟩ := hv i q hi
    exact ⟨ad', k', by rw [List.getElem?_append_left (by omega)]; exact a1, a2.turn t (fun z => by have := hS _ z; omega), a3, a4⟩
  · rw [List.getElem?_append_right (by omega)] at hi
    obtain ⟨e, rfl⟩ : i - rs.length = 0 ∧ r = q := by
      rcases hz : i - rs.length with _ | z
      · rw [hz] at hi; exact ⟨rfl, Option.some.inj hi⟩
      · rw [hz] at hi; cases hi
    exact ⟨ad, k, by rw [List.getElem?_append_right (by omega), hvl, e]; rfl, hs.turn t (fun z => by have := hS _ z; omega), hr, ha⟩
theorem Blk.set {w : World} {g : Nat} {l : List Int} (h : Blk w g l) {i : Nat} (hi : i < l.length) (y : Int) : Blk (w.setCell ⟨g, i, none⟩ (.int .u8 y)) g (l.set i y) := by
  obtain ⟨rs, hr⟩ := h
  refine ⟨rs, (blk_set hr i (.int .u8 y)).trans ?_⟩
  congr 2
  simp [bv, List.set_append, hi, List.map_set]
theorem tn_set (w : World) (g i : Nat) (u : Value) : Tn (fun k => k = g) w (w.setCell ⟨g, i, none⟩ u) := ⟨rfl, rfl, rfl, by simp [World.setCell], fun k hk hne => Below.heap_setCell _ ⟨g, i, none⟩ _ k hne⟩
theorem Src.set {w : World} {g o : Nat} {l : List Int} (h : Src w ⟨g, o, none⟩ l) (ht : ∃ cs, w.heap[g]? = some (.cells cs 5 (0, 0))) (i : Nat) (y : Int) : Src (w.setCell ⟨g, o + i, none⟩ (.int .u8 y)) ⟨g, o, none⟩ (l.set i y) ∧ ∃ cs, (w.setCell ⟨g, o + i, none⟩ (.int .u8 y)).heap[g]? = some (.cells cs 5 (0, 0)) := by
  obtain ⟨cs, hcs⟩ := ht
  have hb := blk_set hcs (o + i) (.int .u8 y)
  refine ⟨fun j x hx => ?_, _, hb⟩
  rw [ad_add, blk_cell hb]
  rw [List.getElem?_set] at hx
  by_cases e : i = j
  · subst e
    rw [if_pos rfl] at hx
    split at hx
    · rename_i hlt
      have hc := h i l[i] (List.getElem?_eq_getElem hlt)
      rw [ad_add, blk_cell hcs] at hc
      have hsz : o + i < cs.size := (Array.getElem?_eq_some_iff.1 hc).1
      rw [Array.getElem?_setIfInBounds, if_pos rfl, if_pos hsz]
      rw [Option.some.inj hx]
    · cases hx
  · rw [if_neg e] at hx
    have hc := h j x hx
    rw [ad_add, blk_cell hcs] at hc
    rw [Array.getElem?_setIfInBounds, if_neg (by omega)]
    exact hc
theorem Rs.typ {w : World} {base : Nat} {bad : Nat → Prop} {v : Value} {rs : List (List Int)} (h : Rs w base bad v rs) {i : Nat} {r : List Int} (hi : rs[i]? = some r) : ∃ gr c g o k, v = .slice (some ⟨gr, 0, none⟩) rs.length c ∧ w.cell? ⟨gr, i, none⟩ = some (.slice (some ⟨g, o, none⟩) r.length k) ∧ Src w ⟨g, o, none⟩ r ∧ base ≤ g ∧ base ≤ gr ∧ gr ≠ g ∧ r.length ≤ k ∧ ∃ cs, w.heap[g]? = some (.cells cs 5 (0, 0)) := by
  obtain ⟨vs, ⟨hl, ⟨rfl, h0⟩ | ⟨gr, c, cur, rfl, hg, hb, -, -, hsz, ht⟩⟩, hv⟩ := h
  · rw [List.eq_nil_of_length_eq_zero h0] at hi
    cases hi
  · obtain ⟨g, o, k, a1, a2, a3, a4, a5, a6, a7, cs, a8⟩ := hv i r hi
    refine ⟨gr, c, g, o, k, rfl, ?_, a2, a3, hg, fun q => ty_ne (q ▸ hb) a8 (by decide), a7, cs, a8⟩
    have hlt : i < rs.length := (List.getElem?_eq_some_iff.1 hi).1
    rw [← ht, Nat.mul_one, List.getElem?_take, if_pos hlt] at a1
    exact (blk_cell hb i).trans (by rw [← Array.getElem?_toList]; exact a1)

end Go.Proofs.Ythblaehmdailhaa.PJournalStays
