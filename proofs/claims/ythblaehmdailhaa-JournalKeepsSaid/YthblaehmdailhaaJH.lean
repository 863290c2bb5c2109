import Derived.Test.YthblaehmdailhaaJC
namespace Go.Proofs.Ythblaehmdailhaa.PJournalStays
open Go.RowKit Go.Proofs.YthblaehmdailhaaW.PrintWords Go.Proofs.YthblaehmdailhaaW.PrintLast Go.Proofs.YthblaehmdailhaaW.PrintMore
set_option linter.unusedVariables false
set_option linter.unusedSimpArgs false
attribute [local go_sem high] slEq slNe
/-- A record's head. -/
def hd4 (n : Int) : List Int := [n % 256, n / 256, n / 65536, n / 16777216]
def hdl (n : Int) : List Int := hd4 n ++ (hd4 n).map (255 - ·)
theorem jh_xor_all : ((List.range 256).all fun k => bits .xor .u8 IntKind.u8.max (k : Int) == 255 - (k : Int)) = true := by kernel_rfl
theorem jh_xor {x : Int} (h : 0 ≤ x ∧ x ≤ 255) : bits .xor .u8 IntKind.u8.max x = 255 - x := by
  have := List.all_eq_true.1 jh_xor_all x.toNat (List.mem_range.2 (by omega))
  have e : ((x.toNat : Nat) : Int) = x := by omega
  rw [e] at this
  exact beq_iff_eq.1 this
theorem jh_xor' {x : Int} (h : 0 ≤ x ∧ x ≤ 255) : bits .xor .u8 (if IntKind.u8.signed = true then -1 else IntKind.u8.max) x = 255 - x := jh_xor h
theorem bv_app (a b : List Int) : bv (a ++ b) = bv a ++ bv b := List.map_append ..
theorem own_lower {w : World} {base base' e sz n : Nat} {v : Value} {xs : List Value} (h : w.ownsRow base e sz v n xs) (hb : base' ≤ base) : w.ownsRow base' e sz v n xs := by
  obtain ⟨h1, h2 | ⟨g, cap, cur, h3, h4, h5⟩⟩ := h
  · exact ⟨h1, Or.inl h2⟩
  · exact ⟨h1, Or.inr ⟨g, cap, cur, h3, Nat.le_trans hb h4, h5⟩⟩
theorem own_base {w : World} {base e sz n : Nat} {v : Value} {xs : List Value} (h : w.ownsRow base e sz v n xs) {k : Nat} (hk : v.ownBlock = some k) : base ≤ k := by
  obtain ⟨h1, ⟨rfl, -⟩ | ⟨g, cap, cur, rfl, h4, h5⟩⟩ := h
  · cases hk
  · cases hk
    exact h4
theorem jh_src1 (w : World) (x : Int) : Src (w.alloc (.cells #[.int .u8 x] 5)) ⟨w.heap.size, 0, none⟩ [x] :=
  (show Blk (w.alloc (.cells #[.int .u8 x] 5)) w.heap.size [x] from ⟨[], blk_new w _⟩).src0
set_option maxRecDepth 100000 in
theorem jh_head (n : Int) (w : World) (h0 : 0 ≤ n) (h1 : n ≤ 1024) : Calls Try.prog 49 #[.int .i64 n] w fun e w' => ∃ g cap, e = .returned (.slice (some ⟨g, 0, none⟩) 8 cap) ∧ w.heap.size ≤ g ∧ Blk w' g (hdl n) ∧ 8 ≤ cap ∧ Below w.heap.size w w' := by
  go_enter Try.func49, Try.ntmps49
  go_wp2_with fail
  have E0 : Aside0 (Blk (w.alloc (.cells #[.int .u8 (n % 256), .int .u8 (n / 256), .int .u8 (n / 65536), .int .u8 (n / 16777216)] 5)) w.heap.size (hd4 n)) := ⟨⟨[], blk_new w _⟩⟩
  have B0 := Aside0.mk (below_alloc (Below.refl w.heap.size w) (.cells #[.int .u8 (n % 256), .int .u8 (n / 256), .int .u8 (n / 65536), .int .u8 (n / 16777216)] 5))
  have Z0 : (w.alloc (.cells #[.int .u8 (n % 256), .int .u8 (n / 256), .int .u8 (n / 65536), .int .u8 (n / 16777216)] 5)).heap.size = w.heap.size + 1 := Array.size_push _
  generalize w.alloc (.cells #[.int .u8 (n % 256), .int .u8 (n / 256), .int .u8 (n / 65536), .int .u8 (n / 16777216)] 5) = w1 at E0 B0 Z0 ⊢
  have Z0 := Aside0.mk Z0
  have hx : ∀ x ∈ hd4 n, 0 ≤ x ∧ x ≤ 255 := by intro x hx; simp [hd4] at hx; omega
  have HX := Aside0.mk hx
  clear hx
  obtain ⟨i0, hi, hz0, hz1, hz2⟩ := info_parts jd_info
  have HI := Aside0.mk hi
  clear hi
  go_loopw [3, 21] (fun v3 v21 wr => ∃ i : Nat, v21 = .int .i64 ↑i ∧ Aside0 (i ≤ 4 ∧ Blk wr w.heap.size (hd4 n) ∧ Below w.heap.size w wr ∧ w.heap.size < wr.heap.size) ∧ ((i = 0 ∧ v3 = .slice (some ⟨w.heap.size, 0, none⟩) 4 4) ∨ (0 < i ∧ Aside0 (wr.ownsRow (w.heap.size + 1) 5 1 v3 (4 + i) (bv (hd4 n ++ ((hd4 n).take i).map (255 - ·))))))) (fun _ v21 _ => (4 - intOf v21).toNat)
  case atStart => exact ⟨0, rfl, ⟨by omega, E0.out, B0.out, by have := Z0.out; omega⟩, Or.inl ⟨rfl, rfl⟩⟩
  case round =>
    obtain ⟨i, rfl, HR, ⟨rfl, rfl⟩ | ⟨hi0, HO⟩⟩ := hrel
    · obtain ⟨x, hx⟩ : ∃ x, (hd4 n)[0]? = some x := ⟨_, rfl⟩
      have c := HR.out.2.1.cell hx
      have hb := jh_xor (HX.out x (List.mem_of_getElem? hx))
      have hb' := jh_xor' (HX.out x (List.mem_of_getElem? hx))
      have HXX := Aside0.mk hx
      clear hx
      go_wp2_with (at_builtin; refine wpList_append_grows _ rfl _ _ 22 rfl 5 i0 (.int .u8 0) 1 1 Try.underlying22 HI.out hz0 hz1 hz2 rfl (by decide) (some ⟨w.heap.size, 0, none⟩) 4 4 (bv (hd4 n)) rfl (fun h => by cases h) rfl (fun b hb => by cases hb; exact bv_cells (HR.out.2.1.src0.alloc _)) ⟨wr.heap.size, 0, none⟩ 1 1 (bv [255 - x]) rfl rfl (bv_cells (jh_src1 wr (255 - x))) (bv_one _) (by decide) (by unfold maxLen; decide) (by decide) ?_; intro v' w4 hown4 hgrow4)
      have t : Tn (fun _ => False) wr w4 := (Tn.of_below (below_alloc (Below.refl _ _) _)).trans ((Tn.of_grown hgrow4).mono (fun k _ q => by cases q))
      refine ⟨⟨1, rfl, ⟨by omega, HR.out.2.1.turn t id, Tn.below HR.out.2.2.1 t HR.out.2.2.1.size (fun k q => q.elim), Nat.lt_of_lt_of_le HR.out.2.2.2 t.size⟩, Or.inr ⟨by omega, ⟨?_⟩⟩⟩, by decide⟩
      have e : (hd4 n).take 1 = [x] := by
        have := HXX.out
        simp only [hd4, List.getElem?_cons_zero, Option.some.injEq] at this
        subst this
        rfl
      rw [e, bv_app]
      refine own_lower hown4 ?_
      have := HR.out.2.2.2
      simp
      omega
    · by_cases i4 : i < 4
      · obtain ⟨x, hx⟩ : ∃ x, (hd4 n)[i]? = some x := ⟨(hd4 n)[i]'(by simpa [hd4] using i4), List.getElem?_eq_getElem _⟩
        have c := HR.out.2.1.cell hx
        have hb := jh_xor (HX.out x (List.mem_of_getElem? hx))
        have hb' := jh_xor' (HX.out x (List.mem_of_getElem? hx))
        have HXX := Aside0.mk hx
        clear hx
        have i5 : (0 : Int) ≤ ↑i := by omega
        have i6 : (↑i : Int) < 4 := by omega
        have LE := Aside0.mk HR.out.2.2.2
        go_wp2_with (at_builtin; refine wpList_append_own_at _ rfl _ _ 22 rfl (w.heap.size + 1) 5 i0 (.int .u8 0) 1 1 Try.underlying22 HI.out hz0 hz1 hz2 rfl (by decide) u3 (4 + i) (bv (hd4 n ++ ((hd4 n).take i).map (255 - ·))) rfl (HO.out.alloc _) ⟨wr.heap.size, 0, none⟩ 1 1 (bv [255 - x]) rfl rfl (bv_cells (jh_src1 wr (255 - x))) (bv_one _) (by unfold maxLen; omega) (by omega) (by have := LE.out; simp; omega) ?_; intro v' w4 hown4 hgrow4 hnil4 hloc4)
        have t : Tn (fun k => u3.ownBlock = some k) wr w4 := (Tn.of_below (below_alloc (Below.refl _ _) _)).trans (Tn.of_grown hgrow4)
        refine ⟨⟨i + 1, rfl, ⟨by omega, HR.out.2.1.turn t (fun q => by have := own_base HO.out q; omega), Tn.below HR.out.2.2.1 t HR.out.2.2.1.size (fun k q => by have := own_base HO.out q; omega), Nat.lt_of_lt_of_le HR.out.2.2.2 t.size⟩, Or.inr ⟨by omega, ⟨?_⟩⟩⟩, by simp [intOf]; omega⟩
        rw [List.take_add_one, HXX.out]
        rw [← bv_app] at hown4
        simpa [List.append_assoc, Nat.add_assoc] using hown4
      · have e : i = 4 := by have := HR.out.1; omega
        subst e
        obtain ⟨g, cap, rfl, hg, hb, hcap⟩ := own_blk HO.out (by omega)
        have HG := Aside0.mk hb
        have HCP := Aside0.mk hcap
        clear hb hcap
        go_wp2
        go_ret
        exact ⟨g, cap, rfl, by omega, HG.out, HCP.out.1, HR.out.2.2.1⟩

end Go.Proofs.Ythblaehmdailhaa.PJournalStays
