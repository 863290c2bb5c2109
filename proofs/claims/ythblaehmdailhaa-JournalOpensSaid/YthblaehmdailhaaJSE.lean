import Derived.Test.YthblaehmdailhaaJSD
namespace Go.Proofs.Ythblaehmdailhaa.PJournalStays
open Go.RowKit Go.Proofs.YthblaehmdailhaaW.PrintWords Go.Proofs.YthblaehmdailhaaW.PrintLast Go.Proofs.YthblaehmdailhaaW.PrintMore
set_option linter.unusedVariables false
set_option linter.unusedSimpArgs false
attribute [local go_sem high] slEq slNe slEq0 slNe0
theorem Rs.low {S : Nat → Prop} {w W : World} {base : Nat} {bad : Nat → Prop} {v : Value} {rs : List (List Int)} (h : Rs w base bad v rs) (t : Tn S w W) (h1 : ∀ k, S k → k < base) : Rs W base bad v rs := by
  obtain ⟨vs, ho, hr⟩ := h
  refine ⟨vs, own_turn ho t (fun k hk hS => by have := own_base ho hk; have := h1 k hS; omega), fun i r hi => ?_⟩
  obtain ⟨g, o, c, a1, a2, a3, a4, a5, a6, a7, cs, a8⟩ := hr i r hi
  have hn : ¬ S g := fun z => by have := h1 g z; omega
  exact ⟨g, o, c, a1, a2.turn t hn, a3, a4, a5, a6, a7, cs, t.blk a8 hn⟩
theorem Rs.shape {w : World} {base : Nat} {bad : Nat → Prop} {v : Value} {rs : List (List Int)} (h : Rs w base bad v rs) : ∃ A n c, v = .slice A n c := by
  obtain ⟨vs, ⟨hl, ⟨h1, h0⟩ | ⟨g, cap, cur, h1, -⟩⟩, -⟩ := h
  · exact ⟨_, _, _, h1⟩
  · exact ⟨_, _, _, h1⟩
set_option maxHeartbeats 2000000 in
set_option maxRecDepth 100000 in
theorem jm_open {w : World} {md ms mn mb n nb : Nat} {st nw : List Int} (h : Md w md ms mn mb n nb st nw) (hn : n ≤ 65536) (hby : ∀ x ∈ nw, 0 ≤ x ∧ x ≤ 255) : Calls Try.prog 20 #[.pointer (some ⟨md, 0, none⟩)] w fun e w' => ∃ rs rest jb vo st', e = .returned (.pointer (some ⟨jb, 0, none⟩)) ∧ nw = enc rs ++ rest ∧ (∀ m, ¬ isRec rest m) ∧ w'.heap[jb]? = some (.cells #[.pointer (some ⟨md, 0, none⟩), vo, .int .i64 ↑(enc rs).length, .bool false] 47 (0, 0)) ∧ Rs w' w.heap.size (fun _ => False) vo rs ∧ Md w' md ms mn mb n nb st' (enc rs ++ List.replicate rest.length 0) ∧ Tn (fun k => k = ms ∨ k = mn ∨ k = mb) w w' := by
  have HD := Aside0.mk h
  have HBY := Aside0.mk hby
  obtain ⟨c0, c1, c2⟩ := h.cells
  have hln := h.ln
  have LT : Aside0 (ms < w.heap.size ∧ mn < w.heap.size ∧ mb < w.heap.size) := ⟨⟨h.hs.lt, h.hn.lt, by obtain ⟨dy, h3, -⟩ := h.hb; exact blk_lt h3⟩⟩
  clear h hby
  go_enter Try.func20, Try.ntmps20
  go_wp2_with fail
  have HS := js_scan mn n nw w HD.out.hn (by omega) (by omega) hn HBY.out
  rw [hln] at HS
  refine HS.mono ?_
  rintro e w1 ⟨rs, rest, vo, rfl, hnw, hno, hrs, hb1⟩
  obtain ⟨Av, nv, cv, rfl⟩ := hrs.shape
  have hll : (enc rs).length + rest.length = n := by rw [← hln, hnw, List.length_append]
  have HR := Aside0.mk hrs
  have HNO := Aside0.mk hno
  have HNW := Aside0.mk hnw
  have B1 := Aside0.mk hb1
  clear HS hrs hno hnw hb1 hln c0 c1 c2
  obtain ⟨en, hen⟩ : ∃ en, (enc rs).length = en := ⟨_, rfl⟩
  have HEN := Aside0.mk hen
  rw [hen] at hll ⊢
  clear hen
  go_wp2_with fail
  go_loopw [5, 6] (fun v5 v6 wr => ∃ (o : Bool) (i : Nat), v5 = .bool o ∧ v6 = .int .i64 ↑i ∧ Aside0 (en ≤ i ∧ i ≤ n ∧ (o = false → ∀ j, en ≤ j → j < i → nw[j]? = some 0) ∧ Below w1.heap.size w1 wr)) (fun _ v6 _ => (n - intOf v6).toNat)
  case atStart => exact ⟨false, en, rfl, rfl, ⟨Nat.le_refl _, by omega, fun _ j h1 h2 => by omega, Below.refl _ _⟩⟩
  case round =>
    obtain ⟨o, i, rfl, rfl, HX⟩ := hrel
    have hi1 := HX.out.1
    have hi2 := HX.out.2.1
    have MX := Aside0.mk (HD.out.below (below_step B1.out HX.out.2.2.2))
    obtain ⟨c0, c1, c2⟩ := MX.out.cells
    by_cases ci : i < n
    · have ci2 : (↑i : Int) < ↑n := by omega
      have i0' : (0 : Int) ≤ ↑i := by omega
      obtain ⟨x, hx⟩ : ∃ x, nw[i]? = some x := ⟨nw[i]'(by rw [HD.out.ln]; exact ci), List.getElem?_eq_getElem _⟩
      have cb := MX.out.hn.src0 i x hx
      rw [ad_add, Nat.zero_add] at cb
      have HXX := Aside0.mk hx
      clear hx
      cases o
      · by_cases hx0 : x = 0
        · subst hx0
          go_wp2_with fail
          refine ⟨⟨false, i + 1, rfl, rfl, ⟨by omega, by omega, fun _ j h1 h2 => ?_, HX.out.2.2.2⟩⟩, by simp [intOf]; omega⟩
          by_cases q : j < i
          · exact HX.out.2.2.1 rfl j h1 q
          · rw [show j = i by omega]; exact HXX.out
        · have ex : (x == 0) = false := beq_eq_false_iff_ne.mpr hx0
          have ex2 := Aside0.mk (show (x != 0) = true by simp [bne, ex])
          clear ex
          go_wp2_with fail
          exact ⟨⟨true, i + 1, by rw [ex2.out], rfl, ⟨by omega, by omega, (fun q => by cases q), HX.out.2.2.2⟩⟩, by simp [intOf]; omega⟩
      · go_wp2_with fail
        exact ⟨⟨true, i + 1, rfl, rfl, ⟨by omega, by omega, (fun q => by cases q), HX.out.2.2.2⟩⟩, by simp [intOf]; omega⟩
    · have ci2 : ¬ (↑i : Int) < ↑n := by omega
      have RX := Aside0.mk (HR.out.below HX.out.2.2.2)
      have BX := Aside0.mk (below_step B1.out HX.out.2.2.2)
      cases o
      · have hz : rest = List.replicate rest.length 0 := by
          apply List.eq_replicate_iff.2
          refine ⟨rfl, fun x hx => ?_⟩
          obtain ⟨j, hj⟩ := List.getElem?_of_mem hx
          have hjl := (List.getElem?_eq_some_iff.1 hj).1
          have h2 := HX.out.2.2.1 rfl (en + j) (by omega) (by omega)
          rw [HNW.out, List.getElem?_append_right (by rw [HEN.out]; omega), HEN.out, Nat.add_sub_cancel_left, hj] at h2
          exact Option.some.inj h2
        have HZ := Aside0.mk hz
        clear hz
        go_wp2_with fail
        go_ret
        have al := below_alloc (Below.refl wr.heap.size wr) (.cells #[.pointer (some ⟨md, 0, none⟩), .slice Av nv cv, .int .i64 ↑en, .bool false] 47)
        refine ⟨rs, rest, wr.heap.size, rfl, HNW.out, HNO.out, _, by rw [HEN.out]; exact blk_new wr _, RX.out.below al, ⟨st, ?_⟩, Tn.of_below (below_step BX.out al)⟩
        rw [← HZ.out, ← HNW.out]
        exact MX.out.below al
      · have hmk := fun W => run_make_row' (P := Try.prog) 22 5 (.int .u8 0) 1 Try.underlying22 jd_info rfl .i64 .i64 rest.length (by omega) (by omega) W
        have kn : (↑n - ↑en : Int) = ↑rest.length := by omega
        have Z3 : Aside0 (Blk (wr.alloc (.cells (madeCells #[.int .u8 0] rest.length) 5)) wr.heap.size (List.replicate rest.length 0)) := ⟨⟨[], by rw [bv_made]; exact blk_new wr _⟩⟩
        have al := Aside0.mk (below_alloc (Below.refl wr.heap.size wr) (.cells (madeCells #[.int .u8 0] rest.length) 5))
        have G3 : Aside0 (wr.heap.size ≠ mn ∧ wr.heap.size ≠ mb) := ⟨⟨fun q => by have := MX.out.hn.lt; omega, fun q => by obtain ⟨dy, h3, -⟩ := MX.out.hb; have := blk_lt h3; omega⟩⟩
        go_wp2_with fail
        have W := jm_write (MX.out.below al.out) hn en (some ⟨wr.heap.size, 0, none⟩) (List.replicate rest.length 0) rest.length (fun _ ad q => by cases q; exact ⟨Z3.out.src0, G3.out⟩) (fun _ => ⟨_, rfl⟩) (by rw [List.length_replicate]; omega)
        rw [List.length_replicate] at W
        refine W.mono ?_
        rintro e w5 ⟨rfl, hM5, t5⟩
        have M5 := Aside0.mk hM5
        have T5 : Aside0 (Tn (fun k => k = ms ∨ k = mn ∨ k = mb) w w5) := ⟨(Tn.of_below (below_step BX.out al.out)).trans (t5.mono (fun k _ q => Or.inr q))⟩
        have R5 := Aside0.mk ((RX.out.below al.out).low t5 (fun k q => by rcases q with rfl | rfl; exact LT.out.2.1; exact LT.out.2.2))
        clear W hM5 t5 hmk
        go_wp2_with fail
        refine (jm_sync M5.out hn).mono ?_
        rintro e w6 ⟨rfl, hM6, t6⟩
        have M6 := Aside0.mk hM6
        have T6 := Aside0.mk (T5.out.trans t6)
        have R6 := Aside0.mk (R5.out.low t6 (fun k q => by rcases q with rfl | rfl | rfl; exact LT.out.1; exact LT.out.2.1; exact LT.out.2.2))
        clear hM6 t6
        go_wp2_with fail
        go_ret
        have al := below_alloc (Below.refl w6.heap.size w6) (.cells #[.pointer (some ⟨md, 0, none⟩), .slice Av nv cv, .int .i64 ↑en, .bool false] 47)
        have e6 := M6.out.below al
        rw [HNW.out, show splice (enc rs ++ rest) en (List.replicate rest.length 0) = enc rs ++ List.replicate rest.length 0 from by rw [← HEN.out]; exact splice_end _ _ _ (by rw [List.length_replicate])] at e6
        exact ⟨rs, rest, w6.heap.size, _, _, rfl, HNW.out, HNO.out, by rw [HEN.out]; exact blk_new w6 _, R6.out.below al, e6, T6.out.trans (Tn.of_below al)⟩

end Go.Proofs.Ythblaehmdailhaa.PJournalStays
