import Derived.Test.YthblaehmdailhaaJCR
namespace Go.Proofs.Ythblaehmdailhaa.PJournalStays
open Go.RowKit Go.Proofs.YthblaehmdailhaaW.PrintWords Go.Proofs.YthblaehmdailhaaW.PrintLast Go.Proofs.YthblaehmdailhaaW.PrintMore
set_option linter.unusedVariables false
set_option linter.unusedSimpArgs false
attribute [local go_sem high] slEq slNe slEq0 slNe0
theorem has_dirt {D : DataW Unit} (hD : Go.Maps.IsMap D) (at_ : Nat) (x : Int) : ∀ k : Nat, Go.Maps.IsMap (dirt D at_ k) ∧ (Go.Maps.has (dirt D at_ k) (.int .i64 x) = true ↔ (Go.Maps.has D (.int .i64 x) = true ∨ ∃ i, i < k ∧ x = ((at_ + i) / 64 : Nat))) := by
  intro k
  induction k with
  | zero => exact ⟨hD, ⟨Or.inl, fun h => by rcases h with h | ⟨i, h, -⟩; exact h; omega⟩⟩
  | succ k ih =>
    refine ⟨ih.1.put _ _, ?_⟩
    show Go.Maps.has ((dirt D at_ k).put (.int .i64 ((↑at_ + ↑k : Int) / 64)) (.lit (.bool true))) _ = true ↔ _
    by_cases hx : x = (↑at_ + ↑k : Int) / 64
    · rw [← hx, Go.Maps.has_put_same ih.1 (by trivial)]
      exact ⟨fun _ => Or.inr ⟨k, by omega, by omega⟩, fun _ => rfl⟩
    · rw [Go.Maps.has_put_other (fun q => hx (by cases q; rfl)), ih.2]
      constructor
      · rintro (h | ⟨i, h1, h2⟩)
        · exact Or.inl h
        · exact Or.inr ⟨i, by omega, h2⟩
      · rintro (h | ⟨i, h1, h2⟩)
        · exact Or.inl h
        · refine Or.inr ⟨i, ?_, h2⟩
          rcases Nat.lt_succ_iff_lt_or_eq.1 h1 with h | rfl
          · exact h
          · exact absurd (by omega) hx
theorem Dk.isMap {w : World} {bd bs bn bm n : Nat} {st nw : List Int} {N : Nat} {D : DataW Unit} (h : Dk w bd bs bn bm n st nw N D) : Go.Maps.IsMap D := by
  obtain ⟨m, h1, h2⟩ := h.hm
  exact (h2.tidy (Go.Maps.int_keyed (P := Try.prog) Try.underlying3)).isMap
theorem list_bound (ks : List Nat) : ∃ M, ∀ b ∈ ks, b < M := by
  induction ks with
  | nil => exact ⟨0, fun b h => by cases h⟩
  | cons a t ih =>
    obtain ⟨M, hM⟩ := ih
    refine ⟨M + a + 1, fun b h => ?_⟩
    rcases List.mem_cons.1 h with rfl | h
    · omega
    · have := hM b h; omega
theorem Ks.dirt {D : DataW Unit} {ks : List Nat} (hD : Go.Maps.IsMap D) (h : Ks D ks) (at_ k : Nat) : ∃ ks', Ks (dirt D at_ k) ks' ∧ ∀ b, b ∈ ks' ↔ b ∈ ks ∨ ∃ i, i < k ∧ b = (at_ + i) / 64 := by
  classical
  obtain ⟨M, hM⟩ : ∃ M, ∀ b, (b ∈ ks ∨ ∃ i, i < k ∧ b = (at_ + i) / 64) → b < M := by
    obtain ⟨M, hM⟩ := list_bound ks
    refine ⟨M + at_ + k + 1, fun b hb => ?_⟩
    rcases hb with hb | ⟨i, h1, h2⟩
    · have := hM b hb; omega
    · omega
  refine ⟨(List.range M).filter (fun b => decide (b ∈ ks ∨ ∃ i, i < k ∧ b = (at_ + i) / 64)), ⟨(List.pairwise_lt_range).filter _, fun x => ?_⟩, fun b => ?_⟩
  · rw [(has_dirt hD at_ x k).2, h.2 x]
    constructor
    · rintro (⟨b, h1, h2⟩ | ⟨i, h1, h2⟩)
      · exact ⟨b, List.mem_filter.2 ⟨List.mem_range.2 (hM b (Or.inl h1)), decide_eq_true (Or.inl h1)⟩, h2⟩
      · exact ⟨_, List.mem_filter.2 ⟨List.mem_range.2 (hM _ (Or.inr ⟨i, h1, rfl⟩)), decide_eq_true (Or.inr ⟨i, h1, rfl⟩)⟩, h2⟩
    · rintro ⟨b, h1, h2⟩
      rcases of_decide_eq_true (List.mem_filter.1 h1).2 with h | ⟨i, h3, h4⟩
      · exact Or.inl ⟨b, h, h2⟩
      · exact Or.inr ⟨i, h3, by rw [h2, h4]⟩
  · rw [List.mem_filter, List.mem_range, decide_eq_true_eq]
    exact ⟨fun h => h.2, fun h => ⟨hM b h, h⟩⟩
theorem ks_one : Ks (dirt (.map [] : DataW Unit) 0 2) [0] := by
  refine ⟨by simp, fun x => ?_⟩
  rw [(has_dirt Go.Maps.isMap_empty 0 x 2).2, Ks.nil.2 x]
  constructor
  · rintro (⟨b, h1, -⟩ | ⟨i, h1, h2⟩)
    · cases h1
    · exact ⟨0, by simp, by omega⟩
  · rintro ⟨b, h1, h2⟩
    rw [List.mem_singleton] at h1
    exact Or.inr ⟨0, by omega, by omega⟩
set_option maxRecDepth 100000 in
theorem d_up (w : World) : Calls Try.prog 27 #[] w fun e w' => e = .returned (.bool true) ∧ Below w.heap.size w w' := by
  have B0 := Aside0.mk (Nat.le_refl w.heap.size)
  go_enter Try.func27, Try.ntmps27
  go_wp2_with fail
  refine (jd_new 1 w (by decide) (by decide)).mono ?_
  rintro e w1 ⟨bd, bs, bn, bm, rfl, hD, g1, g2, g3, g4, hb⟩
  have HD1 := Aside0.mk (show Dk w1 bd bs bn bm 64 (List.replicate 64 0) (List.replicate 64 0) 0 (.map []) from hD)
  have G1 := Aside0.mk (And.intro g1 (And.intro g2 (And.intro g3 (And.intro g4 hb))))
  clear hD g1 g2 g3 g4 hb
  go_wp2_with fail
  have al1 := below_alloc (Below.refl w1.heap.size w1) (.cells #[.int .u8 7, .int .u8 8] 5)
  have BB : Blk (w1.alloc (.cells #[.int .u8 7, .int .u8 8] 5)) w1.heap.size [7, 8] := ⟨[], blk_new w1 _⟩
  have WR := jd_write (HD1.out.below al1) (by omega) (fun q => by obtain ⟨r, hr⟩ := HD1.out.hn; exact ty_ne (q ▸ HD1.out.hd) hr (by decide)) 0 ⟨w1.heap.size, 0, none⟩ [7, 8] 2 (by decide) BB.src0 (by decide) (by decide)
  have b1 := below_step G1.out.2.2.2.2 al1
  clear al1 BB
  refine WR.mono ?_
  rintro e w2 ⟨rfl, hD, ht⟩
  have HD2 := Aside0.mk (show Dk w2 bd bs bn bm 64 (List.replicate 64 0) (splice (List.replicate 64 0) 0 [7, 8]) 2 (dirt (.map []) 0 2) from hD)
  have B2 := Aside0.mk (Tn.below b1 ht b1.size (fun k q => by have := G1.out; rcases q with q | q <;> omega))
  clear hD ht WR b1
  go_wp2_with fail
  have al2 := below_alloc (Below.refl w2.heap.size w2) (.cells #[.int .i64 1] 3)
  have b2 := below_step B2.out al2
  have CR := jd_crash (HD2.out.below al2) ks_one (fun b h => by rw [List.mem_singleton] at h; omega) (by decide) (by decide) (by decide) (some ⟨w2.heap.size, 0, none⟩) [1] 1 (by decide) (fun i p h => ⟨_, rfl, fun q => by have := HD2.out.hs.lt; rw [← show w2.heap.size = bs from q] at this; omega, by
    rw [ad_add, Nat.zero_add]
    exact (blk_cell (blk_new w2 _) i).trans (by rcases i with _ | i; (have e := Option.some.inj h; subst e; rfl); cases h)⟩) (fun p h => by rw [List.mem_singleton] at h; omega)
  clear al2
  refine CR.mono ?_
  rintro e w3 ⟨rfl, hD, ht⟩
  have HD3 := Aside0.mk hD
  have B3 := Aside0.mk (Tn.below b2 ht b2.size (fun k q => by have := G1.out; rcases q with q | q | q <;> omega))
  clear hD ht CR b2
  go_wp2_with fail
  refine (jd_read HD3.out 0 2 (by decide) (by decide) (by decide)).mono ?_
  rintro e w4 ⟨gr, cr, rfl, hgr, hbr, hcr, hb4⟩
  have hbr' : Blk w4 gr [7, 0] := hbr
  have BR := Aside0.mk hbr'
  have B4 := Aside0.mk (below_step B3.out hb4)
  clear hgr hbr hbr' hcr hb4
  have sq : (convert 22 9 (.slice (some ⟨gr, 0, none⟩) 2 cr)).run Try.prog w4 = .ok (.string ⟨#[7, 0]⟩) w4 := (BR.out.str cr (by decide)).trans (by rw [show strOfNums [7, 0] = (⟨#[7, 0]⟩ : ByteArray) by kernel_rfl])
  go_wp2_with fail
  go_ret
  exact ⟨rfl, B4.out⟩

end Go.Proofs.Ythblaehmdailhaa.PJournalStays
