import Derived.Test.YthblaehmdailhaaJH
namespace Go.Proofs.Ythblaehmdailhaa.PJournalStays
open Go.RowKit Go.Proofs.YthblaehmdailhaaW.PrintWords Go.Proofs.YthblaehmdailhaaW.PrintLast Go.Proofs.YthblaehmdailhaaW.PrintMore
set_option linter.unusedVariables false
set_option linter.unusedSimpArgs false
theorem Src.C {w : World} {ad : Addr} {l : List Int} (h : Src w ad l) (hl : l.length ≤ 9223372036854775807) : Kd.C (Kd.int .u8) w (some ad) l.length l :=
  ⟨rfl, hl, fun _ => ⟨ad, rfl, fun j p hj => ⟨[.int .u8 p], rfl, rfl, fun i u hu => by
    match i, hu with
    | 0, hu =>
      obtain rfl := Option.some.inj hu
      exact (congrArg (fun z => w.cell? (ad.add z)) (by show j * 1 + 0 = j; omega)).trans (h j p hj)
    | k + 1, hu => cases hu⟩⟩⟩
theorem Src.of_C {w : World} {A : Option Addr} {n : Nat} {l : List Int} (h : Kd.C (Kd.int .u8) w A n l) (hn : 0 < n) : ∃ ad, A = some ad ∧ Src w ad l := by
  obtain ⟨ad, e, hc⟩ := h.2.2 hn
  refine ⟨ad, e, fun j x hx => ?_⟩
  obtain ⟨c, hl, hk, hcell⟩ := hc j x hx
  have hk : c = [.int .u8 x] := hk
  subst hk
  have := hcell 0 _ rfl
  exact (congrArg (fun z => w.cell? (ad.add z)) (by show j = j * 1 + 0; omega)).trans this
theorem eq_loop (x0 x1 : List Int) (hl : x0.length = x1.length) (hm : x0.length ≤ 65536) : ∀ (k i : Nat), x0.length < k + i → i ≤ x0.length → slices_Equal_byte_byte.l0 k x0 x1 (x0.length : Int) (i : Int) = some (decide (x0.drop i = x1.drop i)) := by
  intro k
  induction k with
  | zero => intro i h1 h2; omega
  | succ k ih =>
    intro i h1 h2
    unfold slices_Equal_byte_byte.l0
    by_cases c : i < x0.length
    · have hw : wrap64 ((i : Int) + 1) = ((i + 1 : Nat) : Int) := by unfold wrap64; omega
      have r0 : rd x0 (i : Int) = x0[i] := by unfold rd; simp [List.getD_eq_getElem?_getD, c]
      have r1 : rd x1 (i : Int) = x1[i]'(by omega) := by unfold rd; simp [List.getD_eq_getElem?_getD, (show i < x1.length by omega)]
      rw [if_pos (by omega), if_pos (by omega), if_pos (by omega), if_pos (by omega), r0, r1, hw]
      rw [List.drop_eq_getElem_cons c, List.drop_eq_getElem_cons (show i < x1.length by omega)]
      have ih' := ih (i + 1) (by omega) (by omega)
      generalize x0.drop (i + 1) = u at ih' ⊢
      generalize x1.drop (i + 1) = v at ih' ⊢
      by_cases q : x0[i] = x1[i]'(by omega)
      · rw [if_pos q, ih', q]
        simp
      · rw [if_neg q]
        simp [q]
    · rw [if_neg (by omega), List.drop_eq_nil_of_le (by omega), List.drop_eq_nil_of_le (by omega)]
      rfl
theorem eq_f (x0 x1 : List Int) (hm : x0.length ≤ 65536) : slices_Equal_byte_byte.f (x0.length + 1) x0 x1 = some (decide (x0 = x1)) := by
  unfold slices_Equal_byte_byte.f
  by_cases hl : x0.length = x1.length
  · rw [if_pos (by omega)]
    have := eq_loop x0 x1 hl hm (x0.length + 1) 0 (by omega) (Nat.zero_le _)
    simpa using this
  · rw [if_neg (by omega)]
    congr 1
    exact (decide_eq_false (fun q => hl (by rw [q]))).symm
/-- slices.Equal over two rows of bytes. -/
theorem je_equal {w : World} {a0 a1 : Addr} {l0 l1 : List Int} (c0 c1 : Nat) (h0 : Src w a0 l0) (h1 : Src w a1 l1) (hc0 : l0.length ≤ c0) (hc1 : l1.length ≤ c1) (hm0 : l0.length ≤ 65536) (hm1 : l1.length ≤ 65536) : Calls Try.prog 48 #[.slice (some a0) l0.length c0, .slice (some a1) l1.length c1] w fun e w' => e = .returned (.bool (decide (l0 = l1))) ∧ Below w.heap.size w w' :=
  (slices_Equal_byte_byte.calls _ _ _ _ _ _ _ _ _ (h0.C (by omega)) hc0 (h1.C (by omega)) hc1 (eq_f l0 l1 hm0)).mono (by
    rintro e w' ⟨rfl, ⟨n, rfl⟩⟩
    exact ⟨rfl, pw_below_drewN (Below.refl _ _) n⟩)
def rnum (x0 x1 x2 x3 : Int) : Int := bits .or .i64 (bits .or .i64 (bits .or .i64 x0 (x1 * 256)) (x2 * 65536)) (x3 * 16777216)
theorem rnum_all : ((List.range 1025).all fun k => rnum ((k : Int) % 256) ((k : Int) / 256) ((k : Int) / 65536) ((k : Int) / 16777216) == (k : Int)) = true := by kernel_rfl
theorem rnum_hd {n : Int} (h0 : 0 ≤ n) (h1 : n ≤ 1024) : rnum (n % 256) (n / 256) (n / 65536) (n / 16777216) = n := by
  have := List.all_eq_true.1 rnum_all n.toNat (List.mem_range.2 (by omega))
  have e : ((n.toNat : Nat) : Int) = n := by omega
  rw [e] at this
  exact beq_iff_eq.1 this

end Go.Proofs.Ythblaehmdailhaa.PJournalStays
