import Derived.Test.YthblaehmdailhaaJY
namespace Go.Proofs.Ythblaehmdailhaa.PJournalStays
open Go.RowKit Go.Proofs.YthblaehmdailhaaW.PrintWords Go.Proofs.YthblaehmdailhaaW.PrintLast Go.Proofs.YthblaehmdailhaaW.PrintMore
set_option linter.unusedVariables false
set_option linter.unusedSimpArgs false
attribute [local go_sem high] slEq slNe slEq0 slNe0 cerEqI cerEqL cerEqR cerNeI cerNeL cerNeR
/-- Rows of bytes that can be read. -/
def Rv (w : World) (v : Value) (rs : List (List Int)) : Prop := ∃ A c, v = .slice A rs.length c ∧ ∀ (i : Nat) (r : List Int), rs[i]? = some r → ∃ gr ad k, A = some ⟨gr, 0, none⟩ ∧ w.cell? ⟨gr, i, none⟩ = some (.slice (some ad) r.length k) ∧ Src w ad r ∧ r.length ≤ 65536
theorem Rs.rv {w : World} {base : Nat} {bad : Nat → Prop} {v : Value} {rs : List (List Int)} (h : Rs w base bad v rs) : Rv w v rs := by
  obtain ⟨A, c, rfl⟩ := h.sl
  refine ⟨A, c, rfl, fun i r hi => ?_⟩
  obtain ⟨gr, c', g, o, k, e, a1, a2, a3, a4, a5, a6, a7, a8⟩ := h.get hi
  injection e with e1 e2 e3
  exact ⟨gr, ⟨g, o, none⟩, k, e1, a2, a3, by omega⟩
theorem Rv.below {w W : World} {v : Value} {rs : List (List Int)} (h : Rv w v rs) (t : Below w.heap.size w W) : Rv W v rs := by
  obtain ⟨A, c, e, hr⟩ := h
  refine ⟨A, c, e, fun i r hi => ?_⟩
  obtain ⟨gr, ad, k, a1, a2, a3, a4⟩ := hr i r hi
  exact ⟨gr, ad, k, a1, (t.cell (World.block_lt_of_cell? w _ a2)).trans a2, a3.below t, a4⟩
set_option maxRecDepth 100000 in
theorem jz_same {w : World} {va vb : Value} {rs : List (List Int)} (ha : Rv w va rs) (hb : Rv w vb rs) (hl : rs.length ≤ 65536) : Calls Try.prog 22 #[va, vb] w fun e w' => e = .returned (.bool true) ∧ Below w.heap.size w w' := by
  obtain ⟨A0, c0, rfl, h0⟩ := ha
  obtain ⟨A1, c1, rfl, h1⟩ := hb
  have H0 := Aside0.mk h0
  have H1 := Aside0.mk h1
  clear h0 h1
  go_enter Try.func22, Try.ntmps22
  go_wp2_with fail
  go_loopw [5] (fun v3 wr => ∃ i : Nat, v3 = .int .i64 ↑i ∧ Aside0 (Below w.heap.size w wr)) (fun v3 _ => (rs.length - intOf v3).toNat)
  case atStart => exact ⟨0, rfl, ⟨Below.refl _ _⟩⟩
  case round =>
    obtain ⟨i, rfl, HX⟩ := hrel
    by_cases ci : i < rs.length
    · have ci2 : (↑i : Int) < ↑rs.length := by omega
      have i0' : (0 : Int) ≤ ↑i := by omega
      obtain ⟨r, hr⟩ : ∃ r, rs[i]? = some r := ⟨rs[i], List.getElem?_eq_getElem ci⟩
      obtain ⟨g0, ad0, k0, e0, a0, b0, d0⟩ := H0.out i r hr
      obtain ⟨g1, ad1, k1, e1, a1, b1, d1⟩ := H1.out i r hr
      subst e0
      subst e1
      have a0 := (HX.out.cell (World.block_lt_of_cell? w _ a0)).trans a0
      have a1 := (HX.out.cell (World.block_lt_of_cell? w _ a1)).trans a1
      have z0 := gb_cell (World.block_lt_of_cell? wr ⟨g0, i, none⟩ a0) a0
      have z1 := gb_cell (World.block_lt_of_cell? wr ⟨g1, i, none⟩ a1) a1
      have S0 := fun p : GWrld wr => ((b0.below HX.out).below p.b).str k0 d0
      have S1 := fun p : GWrld wr => ((b1.below HX.out).below p.b).str k1 d1
      clear hr b0 b1 d0 d1 a0 a1
      generalize r.length = rl at z0 z1 S0 S1
      have sb : ((strOfNums r).toList != (strOfNums r).toList) = false := bne_self_eq_false _
      generalize strOfNums r = sr at S0 S1 sb
      go_wp2_with fail
      refine gb_region (by kernel_rfl) (by kernel_rfl) ?_
      repeat (go_big_quiet_step (fail))
      refine wpQuiet_nil ?_
      intro _ hw'
      obtain ⟨gq, hw''⟩ := hw'
      subst hw''
      have BQ := Aside0.mk (below_step HX.out gq.b)
      go_wp2_with fail
      exact ⟨⟨i + 1, rfl, ⟨BQ.out⟩⟩, by simp [intOf]; omega⟩
    · have ci2 : ¬ (↑i : Int) < ↑rs.length := by omega
      go_wp2_with fail
      go_ret
      exact ⟨rfl, HX.out⟩

end Go.Proofs.Ythblaehmdailhaa.PJournalStays
