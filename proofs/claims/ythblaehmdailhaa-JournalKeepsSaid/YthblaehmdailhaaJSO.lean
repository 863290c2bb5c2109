import Derived.Test.YthblaehmdailhaaJW
import Derived.Test.YthblaehmdailhaaShelf
namespace Go.Proofs.Ythblaehmdailhaa.PJournalStays
open Go.RowKit Go.Proofs.YthblaehmdailhaaW.PrintWords Go.Proofs.YthblaehmdailhaaW.PrintLast Go.Proofs.YthblaehmdailhaaW.PrintMore
set_option linter.unusedVariables false
set_option linter.unusedSimpArgs false
open Go.Maps Go.Sort Go.Shelf
/-- Which blocks are dirty: a list of them, ascending. -/
def Ks (D : DataW Unit) (ks : List Nat) : Prop := ks.Pairwise (· < ·) ∧ ∀ x : Int, Go.Maps.has D (.int .i64 x) = true ↔ ∃ b ∈ ks, x = ↑b
theorem Ks.nil : Ks (.map [] : DataW Unit) [] := ⟨List.Pairwise.nil, fun x => by simp [Go.Maps.has]⟩
theorem Ks.perm {w : World} {b m : Nat} {D : DataW Unit} {ks : List Nat} {R : Value → Option (DataW Unit × List MemPlace)} (hown : w.ownsMap Try.prog 3 R b m D) (hk : Ks D ks) : (ks.map fun b : Nat => (b : Int)).Perm (intKeys D) := by
  have K := Go.Maps.int_keyed (P := Try.prog) Try.underlying3
  obtain ⟨es, hD, hpw, _⟩ := hown.entries K
  obtain ⟨es', hD', hko⟩ := hown.keysOf
  obtain rfl : es = es' := by rw [hD] at hD'; simpa using hD'
  subst hD
  refine perm_intKeys hpw (fun p hp => by obtain ⟨v, hv⟩ := hko p hp; obtain ⟨x, _, hx, _⟩ := Maps.keyOf_i64 Try.underlying3 hv; exact ⟨x, hx⟩) ?_ (fun x => ?_)
  · exact List.pairwise_map.2 (hk.1.imp (fun h => by omega))
  · rw [hk.2 x, List.mem_map]
    constructor
    · rintro ⟨b, h1, h2⟩; exact ⟨b, h1, h2.symm⟩
    · rintro ⟨b, h1, h2⟩; exact ⟨b, h1, h2.symm⟩
theorem Ks.size {w : World} {b m : Nat} {D : DataW Unit} {ks : List Nat} {R : Value → Option (DataW Unit × List MemPlace)} (hown : w.ownsMap Try.prog 3 R b m D) (hk : Ks D ks) : Go.Maps.size D = ks.length ∧ ks.length ≤ m := by
  have hp := (hk.perm hown).length_eq
  rw [List.length_map] at hp
  have e : (intKeys D).length = Go.Maps.size D := by cases D <;> simp [intKeys, Go.Maps.size]
  refine ⟨by omega, ?_⟩
  have := hown.size_le
  omega
theorem Ks.sort {w : World} {b m : Nat} {D : DataW Unit} {ks : List Nat} {ss : List Int} {R : Value → Option (DataW Unit × List MemPlace)} (hown : w.ownsMap Try.prog 3 R b m D) (hk : Ks D ks) (hs : ss.Perm (intKeys D)) : ss.mergeSort (fun x y => decide (x ≤ y)) = ks.map fun b : Nat => (b : Int) := by
  have h := mergeSort_of_perm_i (hs.trans (hk.perm hown).symm)
  refine h.trans (List.mergeSort_of_pairwise ?_)
  exact List.pairwise_map.2 (hk.1.imp (fun h => by simp only [decide_eq_true_eq]; omega))
theorem jd_sorts (m : Nat) : AnyZI.SortsIn Try.prog Try.sortedA_ren Fence.wide m :=
  ⟨fun blk off cap ss W hH hblk hsz => callsIn_wide.2 (AnyM.slices_Sort_int Try.sortA blk off cap ss W hH hblk hsz),
   fun p cap W => callsIn_wide.2 (AnyM.slices_Sort_int_none Try.sortA p cap W)⟩
theorem jd_keys (mb : Option Nat) (W : World) : Calls Try.prog 45 #[.map mb] W fun e w' => e = .returned (.func (.func 54) #[] #[.pointer (some ⟨W.heap.size, 0, none⟩)]) ∧ w' = W.alloc (.cells #[.map mb] 67) :=
  (callsIn_wide (n := 5)).1 (AnyZI.keys_in Try.keysA Fence.wide 5 trivial rfl mb W)
theorem jd_sorted {w : World} {g b m : Nat} {D : DataW Unit} {ks : List Nat} (hown : w.ownsMap Try.prog 3 (plainElem Try.prog 4) b m D) (hk : Ks D ks) (hg : w.cell? ⟨g, 0, none⟩ = some (.map (some b))) (hgl : g < w.heap.size) (hm : m ≤ 4294967296) : Calls Try.prog 44 #[.func (.func 54) #[] #[.pointer (some ⟨g, 0, none⟩)]] w fun e w' => ∃ v, e = .returned v ∧ w'.ownsRow w.heap.size 3 1 v ks.length (ks.map fun b : Nat => Value.int .i64 (b : Int)) ∧ Below w.heap.size w w' := by
  obtain ⟨e1, e2⟩ := hk.size hown
  have hseq : SeqGives Fence.wide 2 Try.prog 54 #[.pointer (some ⟨g, 0, none⟩)] encZ (fun ss => ss.Perm (intKeys D)) (Go.Maps.size D) w :=
    AnyZI.keys_gives (ρ := Try.keysA_ren) { Try.keysA with } Fence.wide _ trivial rfl (by omega) g b m D w hgl hg hown
  have cS := AnyZI.sorted_in Try.sortedA Fence.wide 5 trivial trivial trivial trivial rfl (by omega) (jd_sorts _) (enters_of Try.func53 (by kernel_rfl) rfl) 54 #[.pointer (some ⟨g, 0, none⟩)] trivial (enters_of Try.func54 (by kernel_rfl) rfl) _ _ (by unfold maxLen; omega) (by omega) _ hseq
  refine ((callsIn_wide (n := 5)).1 cS).mono ?_
  rintro e w' ⟨v, ss, rfl, hp, hrow, -, hb⟩
  have hl := hp.length_eq
  have e3 : (intKeys D).length = Go.Maps.size D := by cases D <;> simp [intKeys, Go.Maps.size]
  rw [hk.sort hown hp, show ss.length = ks.length by omega, List.map_map] at hrow
  exact ⟨v, rfl, hrow, hb⟩

end Go.Proofs.Ythblaehmdailhaa.PJournalStays
