import Derived.Test.YthblaehmdailhaaJA
namespace Go.Proofs.Ythblaehmdailhaa.PJournalStays
open Go.RowKit Go.Proofs.YthblaehmdailhaaW.PrintWords Go.Proofs.YthblaehmdailhaaW.PrintLast Go.Proofs.YthblaehmdailhaaW.PrintMore
set_option linter.unusedVariables false
set_option linter.unusedSimpArgs false
theorem Dk.cells {w : World} {bd bs bn bm n : Nat} {st nw : List Int} {N : Nat} {D : DataW Unit} (h : Dk w bd bs bn bm n st nw N D) : w.cell? ⟨bd, 0, none⟩ = some (.slice (some ⟨bs, 0, none⟩) n n) ∧ w.cell? ⟨bd, 1, none⟩ = some (.slice (some ⟨bn, 0, none⟩) n n) ∧ w.cell? ⟨bd, 2, none⟩ = some (.map (some bm)) :=
  ⟨(blk_cell h.hd 0).trans rfl, (blk_cell h.hd 1).trans rfl, (blk_cell h.hd 2).trans rfl⟩
theorem Dk.turn {S : Nat → Prop} {w W : World} {bd bs bn bm n : Nat} {st nw : List Int} {N : Nat} {D : DataW Unit} (h : Dk w bd bs bn bm n st nw N D) (t : Tn S w W) (hd : ¬ S bd) (hs : ¬ S bs) (hn : ¬ S bn) (hm : ¬ S bm) : Dk W bd bs bn bm n st nw N D := by
  obtain ⟨m, h1, es, cl, h2, h3⟩ := h.hm
  exact ⟨t.blk h.hd hd, h.hs.turn t hs, h.hn.turn t hn, h.ls, h.ln, h.ne, m, h1, es, cl, t.blk h2 hm, h3⟩
theorem Dk.below {w W : World} {bd bs bn bm n : Nat} {st nw : List Int} {N : Nat} {D : DataW Unit} (h : Dk w bd bs bn bm n st nw N D) (t : Below w.heap.size w W) : Dk W bd bs bn bm n st nw N D :=
  h.turn (S := fun _ => False) (Tn.of_below t) id id id id
theorem Dk.map {w : World} {bd bs bn bm n : Nat} {st nw : List Int} {N : Nat} {D : DataW Unit} (h : Dk w bd bs bn bm n st nw N D) : ∃ es cl, w.heap[bm]? = some (.map es cl) := by
  obtain ⟨m, h1, es, cl, h2, h3⟩ := h.hm
  exact ⟨es, cl, h2⟩
theorem jd_size {w : World} {bd bs bn bm n : Nat} {st nw : List Int} {N : Nat} {D : DataW Unit} (h : Dk w bd bs bn bm n st nw N D) : Calls Try.prog 28 #[.pointer (some ⟨bd, 0, none⟩)] w fun e w' => e = .returned (.int .i64 n) ∧ Below w.heap.size w w' := by
  obtain ⟨c0, c1, c2⟩ := h.cells
  go_enter Try.func28, Try.ntmps28
  go_wp2
  go_ret
  exact ⟨rfl, Below.refl _ _⟩
theorem jd_dec {p : Prop} [Decidable p] {b : Bool} (h : (b = true) ↔ p) : (decide p) = b := by
  cases b
  · exact decide_eq_false (fun q => by have := h.2 q; cases this)
  · exact decide_eq_true (h.1 rfl)
theorem jd_there {w : World} {bd bs bn bm n : Nat} {st nw : List Int} {N : Nat} {D : DataW Unit} (h : Dk w bd bs bn bm n st nw N D) (at_ k : Int) (hn : n ≤ 65536) : Calls Try.prog 35 #[.pointer (some ⟨bd, 0, none⟩), .int .i64 at_, .int .i64 k] w fun e w' => e = .returned (.bool (decide (0 ≤ at_ ∧ 0 ≤ k ∧ at_ ≤ n ∧ k ≤ n - at_))) ∧ Below w.heap.size w w' := by
  obtain ⟨c0, c1, c2⟩ := h.cells
  obtain ⟨r, hr⟩ : ∃ r, decide (0 ≤ at_ ∧ 0 ≤ k ∧ at_ ≤ n ∧ k ≤ n - at_) = r := ⟨_, rfl⟩
  rw [hr]
  have HR := Aside0.mk hr
  clear hr
  go_enter Try.func35, Try.ntmps35
  go_wp2
  all_goals
    go_ret
    refine ⟨congrArg (fun z => Ending.returned (Value.bool z)) ((Eq.symm (jd_dec ?_)).trans HR.out), Below.refl _ _⟩
    simp only [decide_eq_true_eq, Bool.false_eq_true, false_iff, eq_self_iff_true, true_iff]
    omega
theorem bv_one (l : List Int) : ∀ u ∈ bv l, u.oneCell' = true := by
  intro u hu
  obtain ⟨x, -, rfl⟩ := List.mem_map.1 hu
  rfl
theorem ad_add (g off j : Nat) : (⟨g, off, none⟩ : Addr).add j = ⟨g, off + j, none⟩ := by
  unfold Addr.add
  split
  · rename_i h
    rw [h]
    rfl
  · rfl
theorem own_blk {w : World} {base : Nat} {v : Value} {n : Nat} {l : List Int} (h : w.ownsRow base 5 1 v n (bv l)) (hn : 0 < n) : ∃ g cap, v = .slice (some ⟨g, 0, none⟩) n cap ∧ base ≤ g ∧ Blk w g l ∧ n ≤ cap ∧ cap ≤ maxLen := by
  obtain ⟨hl, ⟨-, h0⟩ | ⟨g, cap, cur, rfl, hg, hb, hc, hcm, -, ht⟩⟩ := h
  · omega
  · refine ⟨g, cap, rfl, hg, ⟨cur.toList.drop n, hb.trans ?_⟩, hc, hcm⟩
    rw [← ht, Nat.mul_one, List.take_append_drop]
/-- Bytes that can be read from a place on. -/
def Src (w : World) (ad : Addr) (l : List Int) : Prop := ∀ j x, l[j]? = some x → w.cell? (ad.add j) = some (.int .u8 x)
theorem bv_cells {w : World} {l : List Int} {ad : Addr} (h : Src w ad l) : ∀ j u, (bv l)[j]? = some u → w.cell? (ad.add j) = some u := by
  intro j u hu
  unfold bv at hu
  rw [List.getElem?_map] at hu
  obtain ⟨x, hx, rfl⟩ := Option.map_eq_some_iff.1 hu
  exact h j x hx
theorem Src.turn {S : Nat → Prop} {w W : World} {ad : Addr} {l : List Int} (h : Src w ad l) (t : Tn S w W) (hn : ¬ S ad.block) : Src W ad l := fun j x hx => by
  have hc := h j x hx
  have hb : (ad.add j).block = ad.block := by unfold Addr.add; split <;> rfl
  rw [World.cell?_of_block]
  · exact hc
  · rw [hb]
    exact t.block _ (by have := World.block_lt_of_cell? w _ hc; rwa [hb] at this) hn
theorem Src.below {w W : World} {ad : Addr} {l : List Int} (h : Src w ad l) (t : Below w.heap.size w W) : Src W ad l := h.turn (S := fun _ => False) (Tn.of_below t) id
theorem Src.alloc {w : World} {ad : Addr} {l : List Int} (h : Src w ad l) (o : Obj) : Src (w.alloc o) ad l := h.below (below_alloc (Below.refl _ _) _)
theorem below_cell0 {w : World} {a : Addr} {v : Value} (h : w.cell? a = some v) (o : Obj) : (w.alloc o).cell? a = some v := ((below_alloc (Below.refl w.heap.size w) o).cell (World.block_lt_of_cell? w _ h)).trans h
theorem own_empty (w : World) : (w.alloc (.cells #[] 5)).ownsRow w.heap.size 5 1 (.slice (some ⟨w.heap.size, 0, none⟩) 0 0) 0 [] := ⟨rfl, Or.inr ⟨w.heap.size, 0, #[], rfl, Nat.le_refl _, blk_new w _, Nat.le_refl _, by unfold maxLen; omega, rfl, rfl⟩⟩
theorem slEq (a : Addr) (n c : Nat) (w : World) : (binOp .eql 22 (.slice (some a) n c) (.slice none 0 0)).run Try.prog w = .ok (.bool false) w :=
  Lib.run_eql_slice_nil w _ _ _ _ _ _ _ Try.underlying22
theorem slNe (a : Addr) (n c : Nat) (w : World) : (binOp .neq 22 (.slice (some a) n c) (.slice none 0 0)).run Try.prog w = .ok (.bool true) w :=
  run_neq_slice_nil_any w _ _ _ _ _ _ _ Try.underlying22
attribute [local go_sem high] slEq slNe
set_option maxRecDepth 100000 in
theorem jd_clone {w : World} (ad : Addr) (cap : Nat) (l : List Int) (hl : 0 < l.length) (hl2 : l.length ≤ 65536) (hc : Src w ad l) : Calls Try.prog 41 #[.slice (some ad) l.length cap] w fun e w' => ∃ g' cap', e = .returned (.slice (some ⟨g', 0, none⟩) l.length cap') ∧ w.heap.size ≤ g' ∧ Blk w' g' l ∧ (l.length ≤ cap' ∧ cap' ≤ maxLen) ∧ Below w.heap.size w w' := by
  obtain ⟨i0, hi, hz0, hz1, hz2⟩ := info_parts jd_info
  have HI := Aside0.mk hi
  have HC := Aside0.mk hc
  clear hi hc
  go_enter Try.func41, Try.ntmps41
  go_wp2_with (at_builtin; refine wpList_append_own_at _ rfl _ _ 22 rfl w.heap.size 5 i0 (.int .u8 0) 1 1 Try.underlying22 HI.out hz0 hz1 hz2 rfl (by decide) (.slice (some ⟨w.heap.size, 0, none⟩) 0 0) 0 [] rfl (own_empty w) ad l.length cap (bv l) rfl (by simp [bv]) (bv_cells (HC.out.alloc _)) (bv_one l) (by unfold maxLen; omega) (by omega) (by simp) ?_; intro v' w1 hown' hgrow hnil hloc)
  go_ret
  rw [Nat.zero_add, List.nil_append] at hown'
  obtain ⟨g', cap', e, hg, hb, hcap⟩ := own_blk hown' hl
  exact ⟨g', cap', by rw [e]; rfl, hg, hb, hcap, (below_alloc (Below.refl w.heap.size w) _).grown hgrow (by simp) (fun k hk => by cases hk; exact Nat.le_refl _)⟩
theorem Blk.cell {w : World} {g : Nat} {l : List Int} (h : Blk w g l) {j : Nat} {x : Int} (hx : l[j]? = some x) : w.cell? ⟨g, j, none⟩ = some (.int .u8 x) := by
  obtain ⟨r, hr⟩ := h
  refine (blk_cell hr j).trans ?_
  have hj : j < l.length := (List.getElem?_eq_some_iff.1 hx).1
  simp [bv, List.getElem?_append_left, hj]
  exact (List.getElem?_eq_some_iff.1 hx).2
theorem Blk.src {w : World} {g : Nat} {l : List Int} (h : Blk w g l) (off : Nat) {cs : List Int} (hc : ∀ j x, cs[j]? = some x → l[off + j]? = some x) : Src w ⟨g, off, none⟩ cs := fun j x hx => by
  rw [ad_add]
  exact h.cell (hc j x hx)
theorem Blk.src0 {w : World} {g : Nat} {l : List Int} (h : Blk w g l) : Src w ⟨g, 0, none⟩ l := h.src 0 (fun j x hx => by rwa [Nat.zero_add])
theorem jd_sub {l : List Int} {a k j : Nat} {x : Int} (h : ((l.drop a).take k)[j]? = some x) : l[a + j]? = some x := by
  rw [List.getElem?_take] at h
  split at h
  · rwa [List.getElem?_drop] at h
  · cases h
set_option maxRecDepth 100000 in
theorem jd_read {w : World} {bd bs bn bm n : Nat} {st nw : List Int} {N : Nat} {D : DataW Unit} (h : Dk w bd bs bn bm n st nw N D) (at_ k : Nat) (hn : n ≤ 65536) (h0 : 0 < k) (h1 : at_ + k ≤ n) : Calls Try.prog 21 #[.pointer (some ⟨bd, 0, none⟩), .int .i64 at_, .int .i64 k] w fun e w' => ∃ g cap, e = .returned (.tuple #[.slice (some ⟨g, 0, none⟩) k cap, .nilIface]) ∧ w.heap.size ≤ g ∧ Blk w' g ((nw.drop at_).take k) ∧ (k ≤ cap ∧ cap ≤ maxLen) ∧ Below w.heap.size w w' := by
  obtain ⟨c0, c1, c2⟩ := h.cells
  have TH := Aside0.mk (jd_there h at_ k hn)
  rw [decide_eq_true (show (0 : Int) ≤ ↑at_ ∧ (0 : Int) ≤ ↑k ∧ (↑at_ : Int) ≤ ↑n ∧ (↑k : Int) ≤ ↑n - ↑at_ by omega)] at TH
  have HD := Aside0.mk h
  clear h
  go_enter Try.func21, Try.ntmps21
  go_wp2_with fail
  refine TH.out.mono ?_
  rintro e w1 ⟨rfl, hb⟩
  have HD1 := Aside0.mk (HD.out.below hb)
  have HB := Aside0.mk hb
  clear c0 c1 c2 hb
  obtain ⟨c0, c1, c2⟩ := HD1.out.cells
  have q1 : (↑at_ + ↑k : Int) ≤ ↑n := by omega
  have q2 : (0 : Int) ≤ ↑at_ := by omega
  have q3 : (↑at_ : Int) ≤ ↑at_ + ↑k := by omega
  go_wp2_with fail
  have hlen : ((nw.drop at_).take k).length = k := by have := HD1.out.ln; rw [List.length_take, List.length_drop]; omega
  have CL := jd_clone (w := w1) ⟨bn, at_, none⟩ (n - at_) ((nw.drop at_).take k) (by omega) (by omega) (HD1.out.hn.src at_ (fun j x hx => jd_sub hx))
  rw [hlen] at CL
  refine CL.mono ?_
  rintro e w2 ⟨g, cap, rfl, hg, hb2, hcap, hb3⟩
  have HF := Aside0.mk (And.intro hg (And.intro hb2 (And.intro hcap hb3)))
  clear hg hb2 hb3 hcap CL hlen c0 c1 c2
  go_wp2
  go_ret2
  exact ⟨g, cap, rfl, Nat.le_trans HB.out.size HF.out.1, HF.out.2.1, HF.out.2.2.1, below_step HB.out HF.out.2.2.2⟩

end Go.Proofs.Ythblaehmdailhaa.PJournalStays
