import Derived.Test.YthblaehmdailhaaJR
namespace Go.Proofs.Ythblaehmdailhaa.PJournalStays
open Go.RowKit Go.Proofs.YthblaehmdailhaaW.PrintWords Go.Proofs.YthblaehmdailhaaW.PrintLast Go.Proofs.YthblaehmdailhaaW.PrintMore
set_option linter.unusedVariables false
set_option linter.unusedSimpArgs false
attribute [local go_sem high] slEq slNe
set_option maxRecDepth 100000 in
theorem jf_open1 (x : Int) (w : World) : Calls Try.prog 38 #[.int .u8 x] w fun e w' => e = .returned (.bool (x != 0)) ∧ w' = w := by
  go_enter Try.func38, Try.ntmps38
  go_wp2
  go_ret
  exact ⟨rfl, rfl⟩
set_option maxRecDepth 100000 in
theorem jf_index (ad : Addr) (cap : Nat) (l : List Int) (w : World) (hs : Src w ad l) (hl : l.length ≤ 65536) : Calls Try.prog 50 #[.slice (some ad) l.length cap, .func (.func 38) #[] #[]] w fun e w' => (∃ i : Int, e = .returned (.int .i64 i) ∧ (decide (0 ≤ i) = l.any (· != 0))) ∧ Below w.heap.size w w' := by
  have HS := Aside0.mk hs
  clear hs
  go_enter Try.func50, Try.ntmps50
  have O1 := Aside0.mk (fun x W => jf_open1 x W)
  go_wp2_with fail
  go_loopw [8] (fun v8 wr => ∃ i : Nat, v8 = .int .i64 ↑i ∧ Aside0 (i ≤ l.length ∧ (l.take i).any (· != 0) = false) ∧ wr = w) (fun v8 _ => (l.length - intOf v8).toNat)
  case atStart => exact ⟨0, rfl, ⟨Nat.zero_le _, rfl⟩, rfl⟩
  case round =>
    obtain ⟨i, rfl, HI, rfl⟩ := hrel
    by_cases ci : i < l.length
    · have ci2 : (↑i : Int) < ↑l.length := by omega
      have i0 : (0 : Int) ≤ ↑i := by omega
      obtain ⟨x, hx⟩ : ∃ x, l[i]? = some x := ⟨l[i], List.getElem?_eq_getElem ci⟩
      have c := HS.out i x hx
      have HX := Aside0.mk hx
      clear hx
      go_wp2_with fail
      refine (O1.out x _).mono ?_
      rintro e w2 ⟨rfl, rfl⟩
      by_cases q : x = 0
      · subst q
        go_wp2_with fail
        refine ⟨⟨i + 1, rfl, ⟨by omega, ?_⟩, trivial⟩, by simp [intOf]; omega⟩
        rw [List.take_add_one, HX.out, List.any_append, HI.out.2]
        rfl
      · have qb : (x != 0) = true := bne_iff_ne.mpr q
        go_wp2_with fail
        go_ret
        refine ⟨⟨↑i, rfl, ?_⟩, Below.refl _ _⟩
        rw [decide_eq_true (show (0 : Int) ≤ ↑i by omega)]
        exact (List.any_eq_true.2 ⟨x, List.mem_of_getElem? HX.out, qb⟩).symm
    · have ci2 : ¬ (↑i : Int) < ↑l.length := by omega
      go_wp2_with fail
      go_ret
      refine ⟨⟨-1, rfl, ?_⟩, Below.refl _ _⟩
      have h := HI.out.2
      rw [List.take_of_length_le (by omega)] at h
      rw [h]
      rfl
set_option maxRecDepth 100000 in
theorem jf_contains (ad : Addr) (cap : Nat) (l : List Int) (w : World) (hs : Src w ad l) (hl : l.length ≤ 65536) : Calls Try.prog 37 #[.slice (some ad) l.length cap, .func (.func 38) #[] #[]] w fun e w' => e = .returned (.bool (l.any (· != 0))) ∧ Below w.heap.size w w' := by
  have IX := Aside0.mk (jf_index ad cap l w hs hl)
  clear hs
  go_enter Try.func37, Try.ntmps37
  go_wp2_with fail
  refine IX.out.mono ?_
  rintro e w2 ⟨⟨i, rfl, hi⟩, hb⟩
  have HI := Aside0.mk (And.intro hi hb)
  clear hi hb
  go_wp2
  go_ret
  exact ⟨congrArg (fun z => Ending.returned (Value.bool z)) HI.out.1, HI.out.2⟩

end Go.Proofs.Ythblaehmdailhaa.PJournalStays
