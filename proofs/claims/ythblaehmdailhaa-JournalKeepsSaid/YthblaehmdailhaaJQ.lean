import Derived.Test.YthblaehmdailhaaJG
namespace Go.Proofs.Ythblaehmdailhaa.PJournalStays
open Go.RowKit Go.Proofs.YthblaehmdailhaaW.PrintWords Go.Proofs.YthblaehmdailhaaW.PrintLast Go.Proofs.YthblaehmdailhaaW.PrintMore
set_option linter.unusedVariables false
set_option linter.unusedSimpArgs false
attribute [local go_sem high] slEq slNe slEq0 slNe0
theorem jq_nil (w : World) : Calls Try.prog 16 #[.pointer none] w fun e w' => e = .returned (.tuple #[.pointer none, .iface 55 (.int .i64 1)]) ∧ Below w.heap.size w w' := by
  go_enter Try.func16, Try.ntmps16
  go_wp2
  go_ret2
  exact ⟨rfl, Below.refl _ _⟩
theorem Rs.get {w : World} {base : Nat} {bad : Nat → Prop} {v : Value} {rs : List (List Int)} (h : Rs w base bad v rs) {i : Nat} {r : List Int} (hi : rs[i]? = some r) : ∃ gr c g o k, v = .slice (some ⟨gr, 0, none⟩) rs.length c ∧ base ≤ gr ∧ w.cell? ⟨gr, i, none⟩ = some (.slice (some ⟨g, o, none⟩) r.length k) ∧ Src w ⟨g, o, none⟩ r ∧ base ≤ g ∧ ¬ bad g ∧ 1 ≤ r.length ∧ r.length ≤ 1024 ∧ r.length ≤ k := by
  obtain ⟨vs, ⟨hl, ⟨rfl, h0⟩ | ⟨gr, c, cur, rfl, hg, hb, -, -, hsz, ht⟩⟩, hv⟩ := h
  · rw [List.eq_nil_of_length_eq_zero h0] at hi
    cases hi
  · obtain ⟨g, o, k, a1, a2, a3, a4, a5, a6, a7, -⟩ := hv i r hi
    refine ⟨gr, c, g, o, k, rfl, hg, ?_, a2, a3, a4, a5, a6, a7⟩
    have hlt : i < rs.length := (List.getElem?_eq_some_iff.1 hi).1
    rw [← ht, Nat.mul_one, List.getElem?_take, if_pos hlt] at a1
    exact (blk_cell hb i).trans (by rw [← Array.getElem?_toList]; exact a1)
theorem Rs.sl {w : World} {base : Nat} {bad : Nat → Prop} {v : Value} {rs : List (List Int)} (h : Rs w base bad v rs) : ∃ A c, v = .slice A rs.length c := by
  obtain ⟨vs, ho, -⟩ := h
  exact own_slice ho
set_option maxHeartbeats 1000000 in
set_option maxRecDepth 100000 in
theorem jq_records {bad : Nat → Prop} {w : World} {B bj bd en : Nat} {v : Value} {rs : List (List Int)} {sp : Bool} (hJ : Jb w bj bd v en sp) (hR : Rs w B bad v rs) (hrl : rs.length ≤ 65536) : Calls Try.prog 23 #[.pointer (some ⟨bj, 0, none⟩)] w fun e w' => ∃ vo, e = .returned vo ∧ Rs w' w.heap.size (fun _ => False) vo rs ∧ Below w.heap.size w w' := by
  obtain ⟨Ar, cr, rfl⟩ := hR.sl
  have HJ := Aside0.mk hJ
  have HR := Aside0.mk hR
  obtain ⟨q0, q1, q2, q3, f1, f2, f3⟩ := jn_cells hJ
  clear hJ hR
  go_enter Try.func23, Try.ntmps23
  go_wp2_with fail
  obtain ⟨i0, hi, hz0, hz1, hz2⟩ := info_parts jo_info
  have HI := Aside0.mk hi
  clear hi
  go_loopw [3, 11] (fun v3 v11 wr => ∃ i : Nat, v11 = .int .i64 ↑i ∧ Aside0 (i ≤ rs.length ∧ Rs wr w.heap.size (fun _ => False) v3 (rs.take i) ∧ Below w.heap.size w wr)) (fun _ v11 _ => (rs.length - intOf v11).toNat)
  case atStart => exact ⟨0, rfl, ⟨Nat.zero_le _, Rs.nil _ _ _, Below.refl _ _⟩⟩
  case round =>
    obtain ⟨i, rfl, HX⟩ := hrel
    by_cases ci : i < rs.length
    · have ci2 : (↑i : Int) < ↑rs.length := by omega
      have i0' : (0 : Int) ≤ ↑i := by omega
      obtain ⟨r, hr⟩ : ∃ r, rs[i]? = some r := ⟨rs[i], List.getElem?_eq_getElem ci⟩
      obtain ⟨gr, c, g, o, k, e, a1, a2, a3, a4, a5, a6, a7, a8⟩ := (HR.out.below HX.out.2.2).get hr
      injection e with e1 e2 e3
      subst e1
      have HS := Aside0.mk a3
      have HRR := Aside0.mk hr
      have HB := Aside0.mk (And.intro a6 (And.intro a7 a8))
      clear hr a1 a3 a4 a5 a8 e3
      go_wp2_with fail
      refine (jd_clone ⟨g, o, none⟩ k r (by omega) (by omega) HS.out).mono ?_
      rintro e w5 ⟨gc, cc, rfl, hgc, hbc, hcc, hb5⟩
      have BC := Aside0.mk hbc
      have GC := Aside0.mk (And.intro hgc (And.intro hcc hb5))
      obtain ⟨vs, ho, hvs⟩ := HX.out.2.1.below hb5
      have hlt : (rs.take i).length = i := by rw [List.length_take]; omega
      have HO := Aside0.mk ho
      have HVS := Aside0.mk hvs
      have HLT := Aside0.mk hlt
      have BL := Aside0.mk (below_step HX.out.2.2 hb5)
      clear hbc hgc hcc hb5 ho hvs
      rw [hlt] at HO
      clear hlt
      go_wp2_with (at_builtin; refine wpList_append_own_at _ rfl _ _ 44 rfl w.heap.size 22 i0 (.slice none 0 0) 1 24 Try.underlying44 HI.out hz0 hz1 hz2 rfl (by decide) u3 i vs rfl (HO.out.alloc _) ⟨w5.heap.size, 0, none⟩ 1 1 [.slice (some ⟨gc, 0, none⟩) r.length cc] rfl rfl (jo_one _ _) (by simp [Value.oneCell']) (by unfold maxLen; omega) (by omega) (by have := BL.out.size; simp; omega) ?_; intro v' w6 hown6 hgrow6 hnil6 hloc6)
      refine ⟨⟨i + 1, rfl, ⟨by omega, ?_, ?_⟩⟩, by simp [intOf]; omega⟩
      · rw [List.take_add_one, HRR.out]
        refine Rs.snoc HVS.out (jn_tn hgrow6) (fun k c q h => ?_) ?_ ?_ BC.out.src0 (by have h1 := GC.out.1; have h2 := HX.out.2.2.size; omega) id a6 a7 GC.out.2.1.1 (by obtain ⟨r, hr⟩ := BC.out; exact ⟨_, hr⟩)
        · obtain ⟨c1, h1⟩ := own_typed HO.out q
          exact ty_ne h h1 (by decide)
        · have h1 := HO.out.1
          have h2 := HLT.out
          omega
        · rw [HLT.out]
          exact hown6
      · exact Tn.below BL.out (jn_tn hgrow6) BL.out.size (fun k q => own_base HO.out q)
    · have ci2 : ¬ (↑i : Int) < ↑rs.length := by omega
      go_wp2
      go_ret
      have h := HX.out.2.1
      rw [List.take_of_length_le (by omega)] at h
      exact ⟨_, rfl, h, HX.out.2.2⟩

end Go.Proofs.Ythblaehmdailhaa.PJournalStays
