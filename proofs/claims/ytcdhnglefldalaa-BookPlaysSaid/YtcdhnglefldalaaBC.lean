import Derived.Test.YtcdhnglefldalaaBB
import Derived.Laws.Externs
namespace Go.Proofs.Ytcdhnglefldalaa.PBook
open Go.RowKit Go.Proofs.YtcdhnglefldalaaW.PrintWords Go.Proofs.YtcdhnglefldalaaW.PrintLast Go.Proofs.YtcdhnglefldalaaW.PrintMore
set_option linter.unusedVariables false
set_option linter.unusedSimpArgs false
open Go.Proofs.Ytcdhnglefldalaa.PBookPlays (S32 S34 S40 k32 k34 k40 z32 z34 z40 rd_T34 at_T34 rd_T40 at_T40 errEqI errEqL errEqR errNeI errNeL errNeR)
attribute [local go_sem high] errEqI errNeI errEqL errNeL errEqR errNeR
theorem bc_add64 (x y c : Nat) (hx : x < 18446744073709551616) (hy : y < 18446744073709551616) (hc : c ≤ 1) (w : World) :
    (callFunc 57 #[.int .u64 x, .int .u64 y, .int .u64 c]).run Try.prog w = .ok (.value (.tuple #[.int .u64 (((x + y + c) % 18446744073709551616 : Nat) : Int), .int .u64 (((x + y + c) / 18446744073709551616 : Nat) : Int)])) w := by
  rw [run_callFunc_extern Try.func57 (by kernel_rfl) (by kernel_rfl) (by kernel_rfl) (e := add64Entry) (by kernel_rfl), run_add64 x y c (by omega) (by omega) (by omega) (by omega)]
  simp only [Result.andThen]
  congr 5 <;> omega
theorem u64w (x : Int) : IntKind.wrap .u64 x = x % 18446744073709551616 := by
  simp [IntKind.wrap, IntKind.signed, IntKind.bits]
theorem bc_u (x : Int) (h0 : -9223372036854775808 ≤ x) (h1 : x ≤ 9223372036854775807) : ∃ u v : Nat, IntKind.wrap .u64 x = ↑u ∧ IntKind.wrap .u64 (x / 9223372036854775808) = ↑v ∧ u < 18446744073709551616 ∧ v < 18446744073709551616 ∧ ((v : Int) * 18446744073709551616 + u - x = 0 ∨ (v : Int) * 18446744073709551616 + u - x = 340282366920938463463374607431768211456) := by
  rw [u64w, u64w]
  refine ⟨(x % 18446744073709551616).toNat, ((x / 9223372036854775808) % 18446744073709551616).toNat, by omega, by omega, by omega, by omega, ?_⟩
  by_cases h : 0 ≤ x
  · left; omega
  · right; omega
theorem bc_step (hi lo u v : Nat) (S x : Int) (h1 : hi < 18446744073709551616) (h2 : lo < 18446744073709551616) (h3 : u < 18446744073709551616) (h4 : v < 18446744073709551616) (hm : ((hi : Int) * 18446744073709551616 + lo - S) % 340282366920938463463374607431768211456 = 0) (hx : (v : Int) * 18446744073709551616 + u - x = 0 ∨ (v : Int) * 18446744073709551616 + u - x = 340282366920938463463374607431768211456) :
    (((((hi + v + (lo + u + 0) / 18446744073709551616) % 18446744073709551616 : Nat) : Int)) * 18446744073709551616 + (((lo + u + 0) % 18446744073709551616 : Nat) : Int) - (S + x)) % 340282366920938463463374607431768211456 = 0 := by
  obtain ⟨c, hc⟩ : ∃ c, (lo + u + 0) / 18446744073709551616 = c := ⟨_, rfl⟩
  obtain ⟨d, hd⟩ : ∃ d, (lo + u + 0) % 18446744073709551616 = d := ⟨_, rfl⟩
  rw [hc, hd]
  obtain ⟨k, hk⟩ : ∃ k, (hi + v + c) / 18446744073709551616 = k := ⟨_, rfl⟩
  obtain ⟨m, hm2⟩ : ∃ m, (hi + v + c) % 18446744073709551616 = m := ⟨_, rfl⟩
  rw [hm2]
  have e1 : lo + u = c * 18446744073709551616 + d := by omega
  have e2 : hi + v + c = k * 18446744073709551616 + m := by omega
  clear hc hd hk hm2
  rcases hx with hx | hx <;> omega
theorem bc_end (hi lo : Nat) (S : Int) (h1 : hi < 18446744073709551616) (h2 : lo < 18446744073709551616) (hm : ((hi : Int) * 18446744073709551616 + lo - S) % 340282366920938463463374607431768211456 = 0) (s0 : -1237940039285380274899124224 ≤ S) (s1 : S ≤ 1237940039285380274899124224) :
    ((-9223372036854775808 ≤ S ∧ S ≤ 9223372036854775807) ∧ ((hi : Int) != IntKind.wrap .u64 (wrap64 ↑lo / 9223372036854775808)) = false ∧ wrap64 (lo : Int) = S) ∨ (¬ (-9223372036854775808 ≤ S ∧ S ≤ 9223372036854775807) ∧ ((hi : Int) != IntKind.wrap .u64 (wrap64 ↑lo / 9223372036854775808)) = true) := by
  rw [u64w]
  obtain ⟨y, hy⟩ : ∃ y, wrap64 (lo : Int) = y := ⟨_, rfl⟩
  rw [hy]
  have y1 : (y = lo ∧ (lo : Int) < 9223372036854775808) ∨ (y = (lo : Int) - 18446744073709551616 ∧ 9223372036854775808 ≤ (lo : Int)) := by unfold wrap64 at hy; omega
  clear hy
  by_cases c : -9223372036854775808 ≤ S ∧ S ≤ 9223372036854775807
  · left
    refine ⟨c, ?_, ?_⟩
    · rw [bne_eq_false_iff_eq]
      rcases y1 with y1 | y1
      · by_cases p : 0 ≤ S <;> omega
      · by_cases p : 0 ≤ S <;> omega
    · rcases y1 with y1 | y1
      · by_cases p : 0 ≤ S <;> omega
      · by_cases p : 0 ≤ S <;> omega
  · right
    refine ⟨c, ?_⟩
    rw [bne_iff_ne]
    intro e
    rcases y1 with y1 | y1
    · by_cases p : 0 ≤ S <;> omega
    · by_cases p : 0 ≤ S <;> omega
theorem sum_snoc (l : List Int) (i : Nat) (x : Int) (h : l[i]? = some x) : (l.take (i + 1)).sum = (l.take i).sum + x := by
  rw [List.take_add_one, h, List.sum_append]
  simp
theorem sum_bd (l : List Int) (h : ∀ x ∈ l, -9223372036854775808 ≤ x ∧ x ≤ 9223372036854775807) : -9223372036854775808 * (l.length : Int) ≤ l.sum ∧ l.sum ≤ 9223372036854775808 * (l.length : Int) := by
  induction l with
  | nil => simp
  | cons a t ih =>
    have h1 := h a (List.mem_cons_self ..)
    have h2 := ih (fun x hx => h x (List.mem_cons_of_mem _ hx))
    rw [List.sum_cons, List.length_cons]
    omega
def i64s (l : List Int) : List Value := l.map (Value.int .i64)
/-- Whole numbers that can be read. -/
def Ir (w : World) (A : Option Addr) (l : List Int) : Prop := ∀ (j : Nat) (x : Int), l[j]? = some x → ∃ ad, A = some ad ∧ w.cell? (ad.add j) = some (.int .i64 x)
set_option maxRecDepth 100000 in
theorem bc_sum (A : Option Addr) (cap : Nat) (l : List Int) (w : World) (hs : Ir w A l) (hl : l.length ≤ 65536) (hb : ∀ x ∈ l, -9223372036854775808 ≤ x ∧ x ≤ 9223372036854775807) : Calls Try.prog 49 #[.slice A l.length cap] w fun e w' => e = .returned (if -9223372036854775808 ≤ l.sum ∧ l.sum ≤ 9223372036854775807 then .tuple #[.int .i64 l.sum, .nilIface] else .tuple #[.int .i64 0, .iface 42 (.int .i64 3)]) ∧ Below w.heap.size w w' := by
  have HS := Aside0.mk hs
  have HB := Aside0.mk hb
  obtain ⟨r, hr⟩ : ∃ r, (if -9223372036854775808 ≤ l.sum ∧ l.sum ≤ 9223372036854775807 then Value.tuple #[.int .i64 l.sum, .nilIface] else .tuple #[.int .i64 0, .iface 42 (.int .i64 3)]) = r := ⟨_, rfl⟩
  rw [hr]
  have HRR := Aside0.mk hr
  clear hs hb hr
  go_enter Try.func49, Try.ntmps49
  go_wp2_with fail
  go_loopw [4, 5, 12] (fun v4 v5 v12 wr => ∃ hi lo i : Nat, v4 = .int .u64 ↑hi ∧ v5 = .int .u64 ↑lo ∧ v12 = .int .i64 ↑i ∧ wr = w ∧ Aside0 (i ≤ l.length ∧ hi < 18446744073709551616 ∧ lo < 18446744073709551616 ∧ ((hi : Int) * 18446744073709551616 + lo - (l.take i).sum) % 340282366920938463463374607431768211456 = 0)) (fun _ _ v12 _ => (l.length - intOf v12).toNat)
  case atStart => exact ⟨0, 0, 0, rfl, rfl, rfl, rfl, ⟨Nat.zero_le _, by decide, by decide, rfl⟩⟩
  case round =>
    obtain ⟨hi, lo, i, rfl, rfl, rfl, rfl, HI⟩ := hrel
    by_cases ci : i < l.length
    · have ci2 : (↑i : Int) < ↑l.length := by omega
      have i0 : (0 : Int) ≤ ↑i := by omega
      obtain ⟨x, hx⟩ : ∃ x, l[i]? = some x := ⟨l[i], List.getElem?_eq_getElem ci⟩
      obtain ⟨ad, rfl, c0⟩ := HS.out i x hx
      have HX := Aside0.mk hx
      have hbx := HB.out x (List.mem_of_getElem? hx)
      obtain ⟨u, v, hu, hv, u1, v1, huv⟩ := bc_u x hbx.1 hbx.2
      obtain ⟨-, h1, h2, h3⟩ := HI.out
      have ST := Aside0.mk (bc_step hi lo u v _ x h1 h2 u1 v1 h3 huv)
      rw [← sum_snoc l i x hx] at ST
      have A1 := bc_add64 lo u 0 h2 u1 (by omega) wr
      have hc1 : (lo + u + 0) / 18446744073709551616 ≤ 1 := by omega
      have A2 := bc_add64 hi v ((lo + u + 0) / 18446744073709551616) h1 v1 hc1 wr
      have BD : Aside0 ((hi + v + (lo + u + 0) / 18446744073709551616) % 18446744073709551616 < 18446744073709551616 ∧ (lo + u + 0) % 18446744073709551616 < 18446744073709551616) := ⟨by omega⟩
      rw [← hu] at A1
      rw [← hv] at A2
      generalize (lo + u + 0) / 18446744073709551616 = c at A1 A2 ST BD
      generalize (lo + u + 0) % 18446744073709551616 = lo' at A1 ST BD
      generalize (hi + v + c) / 18446744073709551616 = c' at A2
      generalize (hi + v + c) % 18446744073709551616 = hi' at A2 ST BD
      simp only [Int.cast_ofNat_Int] at A1
      clear hx hu hv u1 v1 huv h1 h2 h3 hc1 hbx
      go_wp2_with fail
      exact ⟨⟨hi', lo', i + 1, rfl, rfl, rfl, trivial, ⟨by omega, BD.out.1, BD.out.2, ST.out⟩⟩, by simp [intOf]; omega⟩
    · have ci2 : ¬ (↑i : Int) < ↑l.length := by omega
      obtain ⟨h0, h1, h2, h3⟩ := HI.out
      rw [List.take_of_length_le (by omega)] at h3
      have sb := sum_bd l HB.out
      have HR := HRR.out
      rcases bc_end hi lo l.sum h1 h2 h3 (by omega) (by omega) with ⟨q, t1, t2⟩ | ⟨q, t1⟩
      · rw [if_pos q] at HR
        rw [t2] at t1
        subst HR
        clear h0 h1 h2 h3 sb q HI
        go_wp2_with fail
        go_ret2
        exact ⟨rfl, Below.refl _ _⟩
      · rw [if_neg q] at HR
        subst HR
        clear h0 h1 h2 h3 sb q HI
        go_wp2_with fail
        go_ret2
        exact ⟨rfl, Below.refl _ _⟩

end Go.Proofs.Ytcdhnglefldalaa.PBook
