import Derived.Test.YtcdhnglefldalaaPBookPlaysx0
import Derived.Maps.Own
import Derived.Maps.OwnOps
import Derived.Maps.OwnSet
import Derived.Maps.RangeWalk
import Derived.Maps.Ext
import Derived.Laws.CopyOwn
import Derived.WalkSpells
namespace Go.Proofs.Ytcdhnglefldalaa.PBook
open Go.RowKit Go.Proofs.YtcdhnglefldalaaW.PrintWords Go.Proofs.YtcdhnglefldalaaW.PrintLast Go.Proofs.YtcdhnglefldalaaW.PrintMore
set_option linter.unusedVariables false
set_option linter.unusedSimpArgs false
structure Tn (S : Nat → Prop) (w W : World) : Prop where
  os : W.os = w.os
  tape : W.tape = w.tape
  output : W.output = w.output
  size : w.heap.size ≤ W.heap.size
  block : ∀ k, k < w.heap.size → ¬ S k → W.heap[k]? = w.heap[k]?
theorem Tn.refl (S : Nat → Prop) (w : World) : Tn S w w := ⟨rfl, rfl, rfl, Nat.le_refl _, fun _ _ _ => rfl⟩
theorem Tn.of_below {S : Nat → Prop} {w W : World} (h : Below w.heap.size w W) : Tn S w W := ⟨h.os, h.tape, h.output, h.size, fun k hk _ => h.block k hk⟩
theorem Tn.of_grown {w W : World} {row : Option Nat} (h : w.grownBy W row) : Tn (fun k => row = some k) w W := ⟨h.os, h.tape, h.output, h.size, fun k hk hn => h.block k hk (fun e => hn e.symm)⟩
theorem Tn.trans {S : Nat → Prop} {w W X : World} (h : Tn S w W) (k : Tn S W X) : Tn S w X :=
  ⟨k.os.trans h.os, k.tape.trans h.tape, k.output.trans h.output, Nat.le_trans h.size k.size, fun i hi hn => (k.block i (Nat.lt_of_lt_of_le hi h.size) hn).trans (h.block i hi hn)⟩
theorem Tn.mono {S S' : Nat → Prop} {w W : World} (h : Tn S w W) (hs : ∀ k, k < w.heap.size → S k → S' k) : Tn S' w W := ⟨h.os, h.tape, h.output, h.size, fun k hk hn => h.block k hk (fun q => hn (hs k hk q))⟩
theorem Tn.below {S : Nat → Prop} {B : Nat} {w0 w W : World} (hb : Below B w0 w) (h : Tn S w W) (hB : B ≤ w.heap.size) (hs : ∀ k, S k → B ≤ k) : Below B w0 W :=
  hb.trans ⟨h.os, h.tape, h.output, h.size, fun k hk => h.block k (by omega) (fun q => by have := hs k q; omega)⟩
theorem Tn.blk {S : Nat → Prop} {w W : World} {g : Nat} {o : Obj} (h : Tn S w W) (hg : w.heap[g]? = some o) (hn : ¬ S g) : W.heap[g]? = some o := (h.block g (blk_lt hg) hn).trans hg
structure GWrld (w : World) where
  w' : World
  b : Below w.heap.size w w'
instance (w : World) : Inhabited (GWrld w) := ⟨⟨w, Below.refl _ _⟩⟩
theorem gb_region {P : Program} {id : Nat} {Q : Exit → Act → World → Prop} {a : Act} {w : World} {l : List Oper} (hm : P.follows .mixedOrders = true) (hB : Region.lexB .any l.toArray = true)
    (h : wpQuiet P l.toArray (fun w' => ∃ p : GWrld w, w' = p.w') (fun a' => ∀ w', (∃ p : GWrld w, w' = p.w') → Q .normal a' w') l a) : (Code.region id l.toArray true).wp P Q a w :=
  wp_region_quiet (C := fun w' => ∃ p : GWrld w, w' = p.w') hm hB ⟨⟨{ w with drawn := w.drawn + 1 }, ⟨rfl, rfl, rfl, Nat.le_refl _, fun _ _ => rfl⟩⟩, rfl⟩ (by simpa using h)
theorem gb_cell {w : World} {b o : Nat} {v : Value} (hb : b < w.heap.size) (h : w.cell? ⟨b, o, none⟩ = some v) (p : GWrld w) : p.w'.cell? ⟨b, o, none⟩ = some v := (p.b.cell (p := ⟨b, o, none⟩) hb).trans h
theorem gb_calls {P : Program} {f : FuncId} {args : Array Value} {w : World} {p : GWrld w} {v : Value}
    (h : Calls P f args p.w' fun e w' => e = .returned v ∧ Below p.w'.heap.size p.w' w') : Calls P f args p.w' fun e w'' => e = .returned v ∧ ∃ q : GWrld w, w'' = q.w' :=
  h.mono fun _ w'' ⟨he, hb⟩ => ⟨he, ⟨w'', below_step p.b hb⟩, rfl⟩
theorem ty_ne {w : World} {g : Nat} {c c' : Array Value} {T T' : TypeId} (h : w.heap[g]? = some (.cells c T (0, 0))) (h' : w.heap[g]? = some (.cells c' T' (0, 0))) (hne : T ≠ T') : False := by
  rw [h] at h'
  injection h' with h'
  injection h' with _ h2 _
  exact hne h2
theorem own_turn {S : Nat → Prop} {w W : World} {base e sz n : Nat} {v : Value} {xs : List Value} (h : w.ownsRow base e sz v n xs) (t : Tn S w W) (hv : ∀ k, v.ownBlock = some k → ¬ S k) : W.ownsRow base e sz v n xs := by
  obtain ⟨h1, h2 | ⟨g, cap, cur, rfl, h4, h5, h6⟩⟩ := h
  · exact ⟨h1, Or.inl h2⟩
  · exact ⟨h1, Or.inr ⟨g, cap, cur, rfl, h4, t.blk h5 (hv g rfl), h6⟩⟩
theorem own_typed {w : World} {base e sz n : Nat} {v : Value} {xs : List Value} (h : w.ownsRow base e sz v n xs) {k : Nat} (hk : v.ownBlock = some k) : ∃ cs, w.heap[k]? = some (.cells cs e (0, 0)) := by
  obtain ⟨h1, ⟨rfl, -⟩ | ⟨g, cap, cur, rfl, h4, h5, h6⟩⟩ := h
  · cases hk
  · cases hk
    exact ⟨cur, h5⟩
theorem own_lower {w : World} {base base' e sz n : Nat} {v : Value} {xs : List Value} (h : w.ownsRow base e sz v n xs) (hb : base' ≤ base) : w.ownsRow base' e sz v n xs := by
  obtain ⟨h1, h2 | ⟨g, cap, cur, h3, h4, h5⟩⟩ := h
  · exact ⟨h1, Or.inl h2⟩
  · exact ⟨h1, Or.inr ⟨g, cap, cur, h3, Nat.le_trans hb h4, h5⟩⟩
theorem own_base {w : World} {base e sz n : Nat} {v : Value} {xs : List Value} (h : w.ownsRow base e sz v n xs) {k : Nat} (hk : v.ownBlock = some k) : base ≤ k := by
  obtain ⟨h1, ⟨rfl, -⟩ | ⟨g, cap, cur, rfl, h4, h5⟩⟩ := h
  · cases hk
  · cases hk
    exact h4
theorem jn_tn {w w5 : World} {v : Value} {ob : Obj} (h : (w.alloc ob).grownBy w5 v.ownBlock) : Tn (fun k => v.ownBlock = some k) w w5 := (Tn.of_below (below_alloc (Below.refl _ _) _)).trans (Tn.of_grown h)
theorem ad_add (g off j : Nat) : (⟨g, off, none⟩ : Addr).add j = ⟨g, off + j, none⟩ := by
  unfold Addr.add
  split
  · rename_i h
    rw [h]
    rfl
  · rfl
theorem ad_block (ad : Addr) (i : Nat) : (ad.add i).block = ad.block := by unfold Addr.add; split <;> rfl
theorem Tn.cell {S : Nat → Prop} {w W : World} {ad : Addr} {x : Value} (t : Tn S w W) (h : w.cell? ad = some x) (hn : ¬ S ad.block) : W.cell? ad = some x :=
  (World.cell?_of_block (w := w) (t.block ad.block (World.block_lt_of_cell? w _ h) hn)).trans h
theorem Tn.to_below {S : Nat → Prop} {w W : World} (h : Tn S w W) (hS : ∀ k, S k → w.heap.size ≤ k) : Below w.heap.size w W := ⟨h.os, h.tape, h.output, h.size, fun k hk => h.block k hk (fun q => by have := hS k q; omega)⟩
theorem tn_set (w : World) (g i : Nat) (u : Value) : Tn (fun k => k = g) w (w.setCell ⟨g, i, none⟩ u) := ⟨rfl, rfl, rfl, by simp [World.setCell], fun k hk hne => Below.heap_setCell _ ⟨g, i, none⟩ _ k hne⟩
open Go.Proofs.Ytcdhnglefldalaa.PBookPlays (S32 S34 S40 k32 k34 k40 z32 z34 z40 rd_T34 at_T34 rd_T40 at_T40)
/-- A line's three cells. -/
def ln (x : S34) : List Value := [.int .i64 x.f0.f0, .int .i64 x.f0.f1, .int .i64 x.f1]
def lns (l : List S34) : List Value := l.flatMap ln
theorem lns_len : ∀ l : List S34, (lns l).length = l.length * 3 := by
  intro l
  induction l with
  | nil => rfl
  | cons a t ih => show (ln a ++ lns t).length = _; rw [List.length_append, ih]; simp [ln]; omega
theorem lns_append (a b : List S34) : lns (a ++ b) = lns a ++ lns b := by simp [lns]
theorem lns_at : ∀ (l : List S34) (j : Nat) (x : S34), l[j]? = some x → (lns l)[j * 3]? = some (.int .i64 x.f0.f0) ∧ (lns l)[j * 3 + 1]? = some (.int .i64 x.f0.f1) ∧ (lns l)[j * 3 + 2]? = some (.int .i64 x.f1) := by
  intro l
  induction l with
  | nil => intro j x h; cases h
  | cons a t ih =>
    intro j x h
    have e : lns (a :: t) = ln a ++ lns t := rfl
    rw [e]
    rcases j with _ | j
    · obtain rfl := Option.some.inj h
      exact ⟨rfl, rfl, rfl⟩
    · obtain ⟨h1, h2, h3⟩ := ih j x (by simpa using h)
      have hl : (ln a).length = 3 := rfl
      refine ⟨?_, ?_, ?_⟩
      · rw [List.getElem?_append_right (by omega), hl, show (j + 1) * 3 - 3 = j * 3 by omega]; exact h1
      · rw [List.getElem?_append_right (by omega), hl, show (j + 1) * 3 + 1 - 3 = j * 3 + 1 by omega]; exact h2
      · rw [List.getElem?_append_right (by omega), hl, show (j + 1) * 3 + 2 - 3 = j * 3 + 2 by omega]; exact h3
theorem lns_one (l : List S34) : ∀ u ∈ lns l, u.oneCell' = true := by
  intro u hu
  obtain ⟨x, -, hx⟩ := List.mem_flatMap.1 hu
  simp [ln] at hx
  rcases hx with rfl | rfl | rfl <;> rfl
/-- Lines that can be read. -/
def Lr (w : World) (A : Option Addr) (l : List S34) : Prop := ∀ (j : Nat) (x : S34), l[j]? = some x → ∃ ad, A = some ad ∧ w.cell? (ad.add (j * 3)) = some (.int .i64 x.f0.f0) ∧ w.cell? ⟨(ad.add (j * 3)).block, (ad.add (j * 3)).off + 1, none⟩ = some (.int .i64 x.f0.f1) ∧ w.cell? ⟨(ad.add (j * 3)).block, (ad.add (j * 3)).off + 2, none⟩ = some (.int .i64 x.f1)
theorem Lr.turn {S : Nat → Prop} {w W : World} {A : Option Addr} {l : List S34} (h : Lr w A l) (t : Tn S w W) (hn : ∀ ad, A = some ad → ¬ S ad.block) : Lr W A l := fun j x hx => by
  obtain ⟨ad, e, a, b, c⟩ := h j x hx
  have k := hn ad e
  exact ⟨ad, e, t.cell a (by rw [ad_block]; exact k), t.cell b (by show ¬ S (ad.add (j * 3)).block; rw [ad_block]; exact k), t.cell c (by show ¬ S (ad.add (j * 3)).block; rw [ad_block]; exact k)⟩
theorem Lr.below {w W : World} {A : Option Addr} {l : List S34} (h : Lr w A l) (t : Below w.heap.size w W) : Lr W A l := h.turn (S := fun _ => False) (Tn.of_below t) (fun _ _ => id)
theorem Lr.lt {w : World} {A : Option Addr} {l : List S34} (h : Lr w A l) (hl : 0 < l.length) : ∃ ad, A = some ad ∧ ad.block < w.heap.size := by
  obtain ⟨ad, e, a, -, -⟩ := h 0 l[0] (List.getElem?_eq_getElem hl)
  have := World.block_lt_of_cell? w _ a
  rw [ad_block] at this
  exact ⟨ad, e, this⟩
theorem Lr.of_C {w : World} {A : Option Addr} {l : List S34} (h : Kd.C k34 w A l.length l) : Lr w A l := fun j x hx => by
  have hj : j < l.length := (List.getElem?_eq_some_iff.1 hx).1
  obtain ⟨ad, c, e, _, hK, hc0⟩ := Kd.C_get h z34 (j : Int) (by omega) (by omega)
  have hc : ∀ i u, c[i]? = some u → w.cell? (ad.add ((j : Int).toNat * 3 + i)) = some u := hc0
  obtain rfl := Go.Proofs.Ytcdhnglefldalaa.PBookPlays.k34_open hK
  have e2 : l.getD (j : Int).toNat z34 = x := by rw [Int.toNat_natCast, List.getD_eq_getElem?_getD, hx]; rfl
  rw [e2, Int.toNat_natCast] at hc
  exact ⟨ad, e, hc 0 _ rfl, by rw [← add_field _ _ 1 (by omega)]; exact hc 1 _ rfl, by rw [← add_field _ _ 2 (by omega)]; exact hc 2 _ rfl⟩
theorem Lr.C {w : World} {A : Option Addr} {l : List S34} (h : Lr w A l) (hl : l.length ≤ 9223372036854775807) : Kd.C k34 w A l.length l := by
  refine ⟨rfl, hl, fun hn => ?_⟩
  obtain ⟨ad, e, -⟩ := h 0 l[0] (List.getElem?_eq_getElem hn)
  refine ⟨ad, e, fun j x hx => ⟨ln x, rfl, Go.Proofs.Ytcdhnglefldalaa.PBookPlays.k34_mk w x, fun i u hu => ?_⟩⟩
  obtain ⟨ad', e', a, b, c⟩ := h j x hx
  rw [e] at e'
  cases e'
  show w.cell? (ad.add (j * 3 + i)) = some u
  rcases i with _ | _ | _ | i
  · cases hu; exact a
  · cases hu; rw [add_field _ _ 1 (by omega)]; exact b
  · cases hu; rw [add_field _ _ 2 (by omega)]; exact c
  · cases hu
/-- A block of lines. -/
def LB (w : World) (g : Nat) (l : List S34) : Prop := ∃ rest, w.heap[g]? = some (.cells (lns l ++ rest).toArray 34 (0, 0))
theorem LB.turn {S : Nat → Prop} {w W : World} {g : Nat} {l : List S34} (h : LB w g l) (t : Tn S w W) (hn : ¬ S g) : LB W g l := h.imp fun _ hr => t.blk hr hn
theorem LB.lt {w : World} {g : Nat} {l : List S34} (h : LB w g l) : g < w.heap.size := by obtain ⟨r, hr⟩ := h; exact blk_lt hr
theorem LB.cells {w : World} {g : Nat} {l : List S34} (h : LB w g l) {j : Nat} {x : S34} (hx : l[j]? = some x) : w.cell? ⟨g, j * 3, none⟩ = some (.int .i64 x.f0.f0) ∧ w.cell? ⟨g, j * 3 + 1, none⟩ = some (.int .i64 x.f0.f1) ∧ w.cell? ⟨g, j * 3 + 2, none⟩ = some (.int .i64 x.f1) := by
  obtain ⟨r, hr⟩ := h
  obtain ⟨a, b, c⟩ := lns_at l j x hx
  have hj : j < l.length := (List.getElem?_eq_some_iff.1 hx).1
  have hl := lns_len l
  refine ⟨?_, ?_, ?_⟩
  · exact (blk_cell hr _).trans (by rw [← Array.getElem?_toList]; exact (List.getElem?_append_left (by omega)).trans a)
  · exact (blk_cell hr _).trans (by rw [← Array.getElem?_toList]; exact (List.getElem?_append_left (by omega)).trans b)
  · exact (blk_cell hr _).trans (by rw [← Array.getElem?_toList]; exact (List.getElem?_append_left (by omega)).trans c)
theorem LB.lr {w : World} {g : Nat} {l : List S34} (h : LB w g l) : Lr w (some ⟨g, 0, none⟩) l := fun j x hx => by
  obtain ⟨a, b, c⟩ := h.cells hx
  refine ⟨_, rfl, ?_, ?_, ?_⟩
  · rw [ad_add, Nat.zero_add]; exact a
  · rw [ad_add, Nat.zero_add]; exact b
  · rw [ad_add, Nat.zero_add]; exact c
theorem own_lb {w : World} {base : Nat} {v : Value} {l : List S34} (h : w.ownsRow base 34 3 v l.length (lns l)) : ∃ A c, v = .slice A l.length c ∧ (∀ ad, A = some ad → ∃ g, ad = ⟨g, 0, none⟩ ∧ base ≤ g ∧ LB w g l ∧ l.length ≤ c) ∧ (A = none → l = []) := by
  obtain ⟨hl, ⟨rfl, h0⟩ | ⟨g, cap, cur, rfl, hg, hb, hc, hcm, -, ht⟩⟩ := h
  · exact ⟨none, 0, by rw [h0], (fun ad e => by cases e), fun _ => List.eq_nil_of_length_eq_zero h0⟩
  · refine ⟨_, cap, rfl, fun ad e => ?_, (fun e => by cases e)⟩
    cases e
    refine ⟨g, rfl, hg, ⟨cur.toList.drop (l.length * 3), hb.trans ?_⟩, hc⟩
    rw [← ht, List.take_append_drop]
theorem b_info34 : (Try.prog.info? 34).map (fun i => (i.zero, i.size, i.bytes)) = some (some (.agg #[.int .i64 0, .int .i64 0, .int .i64 0]), 3, 24) := by kernel_rfl

end Go.Proofs.Ytcdhnglefldalaa.PBook
