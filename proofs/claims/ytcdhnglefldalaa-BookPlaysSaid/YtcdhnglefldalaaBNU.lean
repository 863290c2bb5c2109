import Derived.Test.YtcdhnglefldalaaBK
import Derived.Lib.Zigzag
namespace Go.Proofs.Ytcdhnglefldalaa.PBook
open Go.RowKit Go.Proofs.YtcdhnglefldalaaW.PrintWords Go.Proofs.YtcdhnglefldalaaW.PrintLast Go.Proofs.YtcdhnglefldalaaW.PrintMore
set_option linter.unusedVariables false
set_option linter.unusedSimpArgs false
/-- Numbers of 64 bits that can be read. -/
def Ur (w : World) (A : Option Addr) (d : List Int) : Prop := ∀ (j : Nat) (x : Int), d[j]? = some x → ∃ ad, A = some ad ∧ w.cell? (ad.add j) = some (.int .u64 x)
theorem Ur.below {w W : World} {A : Option Addr} {d : List Int} (h : Ur w A d) (t : Below w.heap.size w W) : Ur W A d := fun j x hx => by
  obtain ⟨ad, e, a⟩ := h j x hx
  exact ⟨ad, e, (t.cell (World.block_lt_of_cell? w _ a)).trans a⟩
theorem Ur.take {w : World} {A : Option Addr} {d : List Int} (h : Ur w A d) (k : Nat) : Ur w A (d.take k) := fun j x hx => by
  rw [List.getElem?_take] at hx
  split at hx
  · exact h j x hx
  · cases hx
def Dg (d : List Int) : Prop := ∀ x ∈ d, 0 ≤ x ∧ x < 65536
def va : List Int → Int
  | [] => 0
  | x :: t => x + 65536 * va t
theorem va_append (a b : List Int) : va (a ++ b) = va a + 65536 ^ a.length * va b := by
  induction a with
  | nil => simp [va]
  | cons x t ih =>
    show x + 65536 * va (t ++ b) = x + 65536 * va t + 65536 ^ (t.length + 1) * va b
    rw [ih, Int.pow_succ, Int.mul_add, Int.mul_comm (65536 ^ t.length) 65536, Int.mul_assoc]
    omega
theorem va_take {d : List Int} {k : Nat} {x : Int} (hx : d[k]? = some x) : va (d.take (k + 1)) = va (d.take k) + 65536 ^ k * x := by
  have hk : k < d.length := (List.getElem?_eq_some_iff.1 hx).1
  rw [List.take_add_one, hx, Option.toList_some, va_append, List.length_take, Nat.min_eq_left (by omega)]
  simp [va]
theorem va_nonneg {d : List Int} (h : Dg d) : 0 ≤ va d := by
  induction d with
  | nil => exact Int.le_refl _
  | cons x t ih =>
    have h1 := h x List.mem_cons_self
    have h2 := ih (fun y hy => h y (List.mem_cons_of_mem _ hy))
    show 0 ≤ x + 65536 * va t
    omega
/-- No zeros on top. -/
def Tp (d : List Int) : Prop := d.getLast? ≠ some 0
set_option maxRecDepth 100000 in
theorem bn_at (A : Option Addr) (c : Nat) (d : List Int) (i : Nat) (w : World) (h : Ur w A d) : Calls Try.prog 53 #[.slice A d.length c, .int .i64 ↑i] w fun e w' => e = .returned (.int .u64 (d.getD i 0)) ∧ Below w.heap.size w w' := by
  by_cases p : i < d.length
  · have p2 : (↑i : Int) < ↑d.length := by omega
    have i0 : (0 : Int) ≤ ↑i := by omega
    obtain ⟨x, hx⟩ : ∃ x, d[i]? = some x := ⟨d[i], List.getElem?_eq_getElem p⟩
    obtain ⟨ad, rfl, k⟩ := h i x hx
    rw [List.getD_eq_getElem?_getD, hx]
    clear h hx
    go_enter Try.func53, Try.ntmps53
    go_wp2_with fail
    go_ret
    exact ⟨rfl, Below.refl _ _⟩
  · have p2 : ¬ (↑i : Int) < ↑d.length := by omega
    rw [List.getD_eq_getElem?_getD, List.getElem?_eq_none (by omega)]
    clear h
    go_enter Try.func53, Try.ntmps53
    go_wp2_with fail
    go_ret
    exact ⟨rfl, Below.refl _ _⟩
set_option maxRecDepth 100000 in
set_option maxHeartbeats 1000000 in
theorem bn_norm (A : Option Addr) (c : Nat) (d : List Int) (m : Bool) (w : World) (h : Ur w A d) (hc : d.length ≤ c) (hl : c ≤ maxLen) : Calls Try.prog 36 #[.slice A d.length c, .bool m] w fun e w' => ∃ k, k ≤ d.length ∧ e = .returned (.agg #[.slice A k c, .bool (m && decide (0 < k))]) ∧ va (d.take k) = va d ∧ Tp (d.take k) ∧ Below w.heap.size w w' := by
  have H := Aside0.mk h
  unfold maxLen at hl
  clear h
  go_enter Try.func36, Try.ntmps36
  go_wp2_with fail
  go_loopw [0] (fun v0 wr => ∃ k : Nat, v0 = .slice A k c ∧ Aside0 (k ≤ d.length ∧ va (d.take k) = va d) ∧ wr = w.alloc (.cells #[.slice none 0 0, .bool false] 47)) (fun v0 _ => match v0 with | .slice _ k _ => k | _ => 0)
  case atStart => exact ⟨d.length, rfl, ⟨Nat.le_refl _, by rw [List.take_length]⟩, rfl⟩
  case round =>
    obtain ⟨k, rfl, HI, rfl⟩ := hrel
    have al := below_alloc (Below.refl w.heap.size w)
    rcases k with _ | j
    · cases m
      all_goals
        go_wp2_with fail
        refine bodyPost_ret (results_cell_row rfl _ _ w.heap.size 47 #[.slice A 0 c, .bool false] (0, 0) _ rfl (blk_new w _) Try.underlying47 rfl (by kernel_rfl)) rfl ?_
        exact ⟨0, Nat.zero_le _, rfl, HI.out.2, by unfold Tp; simp, al _⟩
    · have hj : j < d.length := by have := HI.out.1; omega
      obtain ⟨x, hx⟩ : ∃ x, d[j]? = some x := ⟨d[j], List.getElem?_eq_getElem hj⟩
      obtain ⟨ad, rfl, k0⟩ := (H.out.below (below_alloc (Below.refl w.heap.size w) (.cells #[.slice none 0 0, .bool false] 47))) j x hx
      have HX := Aside0.mk hx
      have g1 : (↑j : Int) + 1 > 0 := by omega
      have g2 : wrap64 ((↑j : Int) + 1 - 1) = ↑j := by unfold wrap64; omega
      have g3 : (0 : Int) ≤ ↑j := by omega
      have g4 : (↑j : Int) < ↑j + 1 := by omega
      have g5 : j ≤ c := by omega
      have g6 : (↑j : Int) ≤ ↑c := by omega
      clear hx
      by_cases px : x = 0
      · subst px
        go_wp2_with fail
        refine ⟨⟨j, rfl, ⟨by omega, ?_⟩, trivial⟩, by simp⟩
        rw [← HI.out.2, va_take HX.out]
        omega
      · have HT : Aside0 (Tp (d.take (j + 1))) := ⟨by
          unfold Tp
          rw [List.take_add_one, HX.out]
          simpa using px⟩
        cases m
        all_goals
          go_wp2_with fail
          refine bodyPost_ret (results_cell_row rfl _ _ w.heap.size 47 #[.slice (some ad) (j + 1) c, .bool _] (0, 0) _ rfl (blk_new w _) Try.underlying47 rfl (by kernel_rfl)) rfl ?_
          exact ⟨j + 1, HI.out.1, rfl, HI.out.2, HT.out, al _⟩

def u64s (l : List Int) : List Value := l.map (fun x => .int .u64 x)
theorem bo_info : (Try.prog.info? 80).map (fun i => (i.zero, i.size, i.bytes)) = some (some (.int .u64 0), 1, 8) := by kernel_rfl
theorem own_ur {w : World} {base : Nat} {v : Value} {l : List Int} (h : w.ownsRow base 80 1 v l.length (u64s l)) : ∃ A c, v = .slice A l.length c ∧ Ur w A l ∧ l.length ≤ c ∧ c ≤ maxLen := by
  obtain ⟨hl, ⟨rfl, h0⟩ | ⟨g, cap, cur, rfl, hg, hb, hc, hcm, -, ht⟩⟩ := h
  · refine ⟨none, 0, by rw [h0], fun j x hx => ?_, by omega, by unfold maxLen; omega⟩
    rw [List.eq_nil_of_length_eq_zero h0] at hx
    cases hx
  · refine ⟨_, cap, rfl, fun j x hx => ⟨_, rfl, ?_⟩, hc, hcm⟩
    have hj : j < l.length := (List.getElem?_eq_some_iff.1 hx).1
    rw [ad_add, Nat.zero_add]
    refine (blk_cell hb j).trans ?_
    rw [← Array.getElem?_toList]
    have e : (u64s l)[j]? = some (.int .u64 x) := by unfold u64s; rw [List.getElem?_map, hx]; rfl
    rw [← ht, Nat.mul_one, List.getElem?_take, if_pos hj] at e
    exact e
theorem bo_one (w : World) (v : Value) (T : TypeId) : ∀ j u, [v][j]? = some u → (w.alloc (.cells #[v] T)).cell? ((⟨w.heap.size, 0, none⟩ : Addr).add j) = some u := by
  intro j u hu
  match j, hu with
  | 0, hu =>
    rw [ad_add]
    exact ((blk_cell (blk_new w (.cells #[v] T)) 0).trans rfl).trans hu
  | k + 1, hu => cases hu
theorem dg_get {d : List Int} (h : Dg d) (i : Nat) : 0 ≤ d.getD i 0 ∧ d.getD i 0 < 65536 := by
  rw [List.getD_eq_getElem?_getD]
  cases q : d[i]? with
  | none => simp
  | some x => exact h x (List.mem_of_getElem? q)
theorem va_next (d : List Int) (i : Nat) : va (d.take (i + 1)) = va (d.take i) + 65536 ^ i * d.getD i 0 := by
  rw [List.getD_eq_getElem?_getD]
  cases q : d[i]? with
  | some x => exact va_take q
  | none =>
    have : d.length ≤ i := List.getElem?_eq_none_iff.1 q
    rw [List.take_of_length_le (by omega), List.take_of_length_le this]
    simp
set_option maxRecDepth 100000 in
set_option maxHeartbeats 1000000 in
theorem bo_plus (A0 A1 : Option Addr) (c0 c1 : Nat) (a b : List Int) (w : World) (h0 : Ur w A0 a) (h1 : Ur w A1 b) (ha : Dg a) (hb : Dg b) (la : a.length ≤ 65536) (lb : b.length ≤ 65536) : Calls Try.prog 37 #[.slice A0 a.length c0, .slice A1 b.length c1] w fun e w' => ∃ A c o, e = .returned (.slice A o.length c) ∧ Ur w' A o ∧ o.length ≤ c ∧ c ≤ maxLen ∧ Dg o ∧ va o = va a + va b ∧ o.length ≤ max a.length b.length + 1 ∧ Below w.heap.size w w' := by
  have H0 := Aside0.mk h0
  have H1 := Aside0.mk h1
  have HA := Aside0.mk ha
  have HB := Aside0.mk hb
  obtain ⟨i0, hi, hz0, hz1, hz2⟩ := info_parts bo_info
  have HI := Aside0.mk hi
  clear h0 h1 ha hb hi
  go_enter Try.func37, Try.ntmps37
  go_wp2_with fail
  go_loopw [5, 6, 7] (fun v5 v6 v7 wr => ∃ (i cc : Nat) (o : List Int), v6 = .int .u64 ↑cc ∧ v7 = .int .i64 ↑i ∧ Aside0 (o.length = i ∧ (i ≤ max a.length b.length ∨ (i = max a.length b.length + 1 ∧ cc = 0)) ∧ cc ≤ 1 ∧ Dg o ∧ va o + 65536 ^ i * (cc : Int) = va (a.take i) + va (b.take i) ∧ wr.ownsRow w.heap.size 80 1 v5 o.length (u64s o) ∧ Below w.heap.size w wr)) (fun _ _ v7 _ => (max a.length b.length + 2 - intOf v7).toNat)
  case atStart => exact ⟨0, 0, [], rfl, rfl, ⟨rfl, Or.inl (Nat.zero_le _), by omega, (fun x hx => by cases hx), by simp [va], World.ownsRow_nil _ _ _ 1, Below.refl _ _⟩⟩
  case round =>
    obtain ⟨i, cc, o, rfl, rfl, HX⟩ := hrel
    have hgo : (i < a.length ∨ i < b.length ∨ 0 < cc) ∨ (¬ i < a.length ∧ ¬ i < b.length ∧ cc = 0) := by omega
    rcases hgo with hgo | ⟨p0, p1, p2⟩
    · have hx := dg_get HA.out i
      have hy := dg_get HB.out i
      have AT0 := Aside0.mk (fun W t => bn_at A0 c0 a i W (H0.out.below (W := W) t))
      have AT1 := Aside0.mk (fun W t => bn_at A1 c1 b i W (H1.out.below (W := W) t))
      obtain ⟨x, ex⟩ : ∃ x, a.getD i 0 = x := ⟨_, rfl⟩
      obtain ⟨y, ey⟩ : ∃ y, b.getD i 0 = y := ⟨_, rfl⟩
      have HEX := Aside0.mk ex
      have HEY := Aside0.mk ey
      rw [ex] at hx AT0
      rw [ey] at hy AT1
      clear ex ey
      have hcond : ((↑i : Int) < ↑a.length) ∨ ((¬ (↑i : Int) < ↑a.length) ∧ (↑i : Int) < ↑b.length) ∨ ((¬ (↑i : Int) < ↑a.length) ∧ (¬ (↑i : Int) < ↑b.length) ∧ (↑cc : Int) > 0) := by omega
      rcases hcond with q0 | ⟨q0, q1⟩ | ⟨q0, q1, q2⟩
      all_goals
        go_wp2_with fail
        refine (AT0.out wr HX.out.2.2.2.2.2.2).mono ?_
        rintro e w1 ⟨rfl, hb1⟩
        have B1 := Aside0.mk (below_step HX.out.2.2.2.2.2.2 hb1)
        have HO1 := Aside0.mk (own_turn (S := fun _ => False) HX.out.2.2.2.2.2.1 (Tn.of_below hb1) (fun _ _ => id))
        clear hb1
        go_wp2_with fail
        refine (AT1.out w1 B1.out).mono ?_
        rintro e w2 ⟨rfl, hb2⟩
        have B2 := Aside0.mk (below_step B1.out hb2)
        have HO2 := Aside0.mk (own_turn (S := fun _ => False) HO1.out (Tn.of_below hb2) (fun _ _ => id))
        clear hb2
        obtain ⟨z, hz⟩ : ∃ z, x + y + ↑cc = z := ⟨_, rfl⟩
        have hcc := HX.out.2.2.1
        have gw : IntKind.u64.wrap z = z := by simp [IntKind.wrap, IntKind.bits, IntKind.signed]; omega
        obtain ⟨m, cn, hm, hmz, gm, gq⟩ : ∃ (m : Int) (cn : Nat), (0 ≤ m ∧ m < 65536) ∧ m + 65536 * ↑cn = z ∧ z.tmod 65536 = m ∧ z.tdiv 65536 = ↑cn := ⟨z.tmod 65536, (z.tdiv 65536).toNat, by rw [Int.tmod_eq_emod_of_nonneg (by omega)]; omega, by rw [Int.tmod_eq_emod_of_nonneg (by omega), Int.tdiv_eq_ediv_of_nonneg (by omega)]; omega, rfl, by rw [Int.tdiv_eq_ediv_of_nonneg (by omega)]; omega⟩
        have hcn : cn ≤ 1 := by omega
        have gc : IntKind.u64.wrap (↑cn : Int) = ↑cn := by simp [IntKind.wrap, IntKind.bits, IntKind.signed]; omega
        have HZ := Aside0.mk (And.intro hz (And.intro hmz (And.intro hm hcn)))
        have him : i ≤ max a.length b.length := by have := HX.out.2.1; omega
        have hol : o.length ≤ 65536 := by have := HX.out.1; omega
        have HW := Aside0.mk B2.out.size
        clear hmz hm hcn hcc
        go_wp2_with (at_builtin; refine wpList_append_own_at _ rfl _ _ 45 rfl w.heap.size 80 i0 (.int .u64 0) 1 8 Try.underlying45 HI.out hz0 hz1 hz2 rfl (by decide) u5 o.length _ rfl (HO2.out.alloc _) ⟨w2.heap.size, 0, none⟩ 1 1 [.int .u64 m] rfl rfl (bo_one _ _ _) (by simp [Value.oneCell']) (by unfold maxLen; omega) (by omega) (by have := HW.out; simp; omega) ?_; intro v3 w3 hown hgrow _ _)
        have hob : ∀ k, u5.ownBlock = some k → w.heap.size ≤ k := fun k hk => own_base HO2.out hk
        refine ⟨⟨i + 1, cn, o ++ [m], rfl, by simp, ⟨by simp; exact HX.out.1, ?_, HZ.out.2.2.2, ?_, ?_, ?_, (below_alloc B2.out _).grown hgrow (by have := HW.out; simp; omega) hob⟩⟩, by simp [intOf]; omega⟩
        · rcases Nat.lt_or_ge i (max a.length b.length) with q | q
          · exact Or.inl (by omega)
          · have e1 := HEX.out
            have e2 := HEY.out
            rw [List.getD_eq_getElem?_getD, List.getElem?_eq_none (by omega)] at e1 e2
            simp at e1 e2
            have e3 := HZ.out.1
            have e4 := HZ.out.2.1
            have e5 := HZ.out.2.2.1
            have e6 := HX.out.2.2.1
            exact Or.inr ⟨by omega, by omega⟩
        · intro t ht
          rcases List.mem_append.1 ht with ht | ht
          · exact HX.out.2.2.2.1 t ht
          · rw [List.mem_singleton] at ht
            rw [ht]
            exact HZ.out.2.2.1
        · have e1 := HX.out.2.2.2.2.1
          rw [va_next, va_next, HEX.out, HEY.out, va_append, HX.out.1, Int.pow_succ]
          have e2 := HZ.out.1
          have e3 := HZ.out.2.1
          show va o + 65536 ^ i * (m + 65536 * 0) + 65536 ^ i * 65536 * ↑cn = _
          have e4 : (65536 : Int) ^ i * (m + 65536 * ↑cn) = 65536 ^ i * x + 65536 ^ i * y + 65536 ^ i * ↑cc := by rw [e3, ← e2, Int.mul_add, Int.mul_add]
          rw [Int.mul_add, ← Int.mul_assoc] at e4
          generalize (65536 : Int) ^ i * x = Px at *
          generalize (65536 : Int) ^ i * y = Py at *
          generalize (65536 : Int) ^ i * (cc : Int) = Pc at *
          rw [Int.mul_zero, Int.add_zero]
          omega
        · have e : u64s (o ++ [m]) = u64s o ++ [.int .u64 m] := by simp [u64s]
          rw [e, List.length_append]
          exact hown
    · have q0 : ¬ (↑i : Int) < ↑a.length := by omega
      have q1 : ¬ (↑i : Int) < ↑b.length := by omega
      subst p2
      obtain ⟨A, c, rfl, hu, hc1, hc2⟩ := own_ur HX.out.2.2.2.2.2.1
      have HU := Aside0.mk hu
      clear hu
      go_wp2_with fail
      go_ret
      refine ⟨A, c, o, rfl, HU.out, hc1, hc2, HX.out.2.2.2.1, ?_, ?_, HX.out.2.2.2.2.2.2⟩
      · have e := HX.out.2.2.2.2.1
        rw [List.take_of_length_le (by omega), List.take_of_length_le (by omega)] at e
        simpa using e
      · have h1 := HX.out.1
        have h2 := HX.out.2.1
        omega

theorem pw_pos (k : Nat) : (0 : Int) < 65536 ^ k := Int.pow_pos (by decide)
theorem va_lt {d : List Int} (h : Dg d) : va d < 65536 ^ d.length := by
  induction d with
  | nil => exact Int.one_pos
  | cons x t ih =>
    have h1 := h x List.mem_cons_self
    have h2 := ih (fun y hy => h y (List.mem_cons_of_mem _ hy))
    show x + 65536 * va t < 65536 ^ (t.length + 1)
    rw [Int.pow_succ]
    generalize (65536 : Int) ^ t.length = P at *
    omega
theorem va_split (d : List Int) {k : Nat} (hk : k ≤ d.length) : va d = va (d.take k) + 65536 ^ k * va (d.drop k) := by
  have h := va_append (d.take k) (d.drop k)
  rw [List.take_append_drop, List.length_take, Nat.min_eq_left hk] at h
  exact h
theorem Dg.take {d : List Int} (h : Dg d) (k : Nat) : Dg (d.take k) := fun x hx => h x (List.mem_of_mem_take hx)
theorem va_ge {d : List Int} (h : Dg d) (ht : Tp d) (hne : d ≠ []) : (65536 : Int) ^ (d.length - 1) ≤ va d := by
  have hl : 0 < d.length := List.length_pos_iff.2 hne
  have hlast : d.getLast? = d[d.length - 1]? := List.getLast?_eq_getElem?
  obtain ⟨x, hx⟩ : ∃ x, d[d.length - 1]? = some x := ⟨d[d.length - 1], List.getElem?_eq_getElem (by omega)⟩
  have e := va_take hx
  rw [show d.length - 1 + 1 = d.length by omega, List.take_length] at e
  have h1 := va_nonneg (h.take (d.length - 1))
  have h2 := h x (List.mem_of_getElem? hx)
  have h3 : x ≠ 0 := fun q => ht (by rw [hlast, hx, q])
  have h4 : (65536 : Int) ^ (d.length - 1) * 1 ≤ 65536 ^ (d.length - 1) * x := Int.mul_le_mul_of_nonneg_left (by omega) (Int.le_of_lt (pw_pos _))
  rw [Int.mul_one] at h4
  omega
theorem less_len {a b : List Int} (ha : Dg a) (hb : Dg b) (tb : Tp b) (h : a.length < b.length) : va a < va b := by
  have h1 := va_lt ha
  have h2 := va_ge hb tb (fun q => by rw [q] at h; simp at h)
  have h3 : (65536 : Int) ^ a.length ≤ 65536 ^ (b.length - 1) := by
    obtain ⟨k, hk⟩ : ∃ k, b.length - 1 = a.length + k := ⟨b.length - 1 - a.length, by omega⟩
    rw [hk, Int.pow_add]
    have h4 := pw_pos k
    have h5 : (65536 : Int) ^ a.length * 1 ≤ 65536 ^ a.length * 65536 ^ k := Int.mul_le_mul_of_nonneg_left (by omega) (Int.le_of_lt (pw_pos _))
    omega
  omega
theorem less_at {a b : List Int} (ha : Dg a) (hb : Dg b) {i : Nat} {x y : Int} (hx : a[i]? = some x) (hy : b[i]? = some y) (hd : a.drop (i + 1) = b.drop (i + 1)) (h : x < y) : va a < va b := by
  have la : i < a.length := (List.getElem?_eq_some_iff.1 hx).1
  have lb : i < b.length := (List.getElem?_eq_some_iff.1 hy).1
  have e1 := va_split a (k := i + 1) (by omega)
  have e2 := va_split b (k := i + 1) (by omega)
  rw [va_take hx] at e1
  rw [va_take hy] at e2
  rw [hd] at e1
  have h1 := va_lt (ha.take i)
  have h2 := va_nonneg (hb.take i)
  rw [List.length_take, Nat.min_eq_left (by omega)] at h1
  have h3 : (65536 : Int) ^ i * (x + 1) ≤ 65536 ^ i * y := Int.mul_le_mul_of_nonneg_left (by omega) (Int.le_of_lt (pw_pos _))
  rw [Int.mul_add, Int.mul_one] at h3
  omega

theorem gu_at {w : World} {a : Addr} {v : Value} (h : w.cell? a = some v) (p : GWrld w) : p.w'.cell? a = some v := (p.b.cell (World.block_lt_of_cell? w _ h)).trans h
set_option maxRecDepth 100000 in
set_option maxHeartbeats 2000000 in
theorem bh_less (A0 A1 : Option Addr) (c0 c1 : Nat) (a b : List Int) (w : World) (h0 : Ur w A0 a) (h1 : Ur w A1 b) (ha : Dg a) (hb : Dg b) (ta : Tp a) (tb : Tp b) (la : a.length ≤ 65536) (lb : b.length ≤ 65536) : Calls Try.prog 38 #[.slice A0 a.length c0, .slice A1 b.length c1] w fun e w' => e = .returned (.bool (decide (va a < va b))) ∧ Below w.heap.size w w' := by
  obtain ⟨r, hr⟩ : ∃ r, decide (va a < va b) = r := ⟨_, rfl⟩
  rw [hr]
  have HR := Aside0.mk hr
  have H0 := Aside0.mk h0
  have H1 := Aside0.mk h1
  have HA := Aside0.mk (And.intro ha hb)
  have HT := Aside0.mk (And.intro ta tb)
  clear hr h0 h1 ha hb ta tb
  rcases Nat.lt_trichotomy a.length b.length with p | p | p
  · have hr : r = true := by rw [← HR.out]; exact decide_eq_true (less_len HA.out.1 HA.out.2 HT.out.2 p)
    subst hr
    have p1 : ¬ (↑a.length : Int) = ↑b.length := by omega
    have p2 : (↑a.length : Int) < ↑b.length := by omega
    go_enter Try.func38, Try.ntmps38
    go_wp2_with fail
    go_ret
    exact ⟨rfl, Below.refl _ _⟩
  · obtain ⟨ln, hln⟩ : ∃ ln, a.length = ln := ⟨_, rfl⟩
    have HLN := Aside0.mk (And.intro hln (p.symm.trans hln))
    rw [← p, hln]
    clear p
    rw [hln] at la
    clear hln lb
    go_enter Try.func38, Try.ntmps38
    have gw : wrap64 ((↑ln : Int) - 1) = ↑ln - 1 := by unfold wrap64; omega
    go_wp2_with fail
    go_loopw [5] (fun v5 wr => ∃ (k : Nat) (z : Int), v5 = .int .i64 z ∧ Aside0 (z = ↑k - 1 ∧ k ≤ ln ∧ a.drop k = b.drop k ∧ Below w.heap.size w wr)) (fun v5 _ => (intOf v5 + 1).toNat)
    case atStart => exact ⟨ln, _, rfl, ⟨rfl, Nat.le_refl _, by rw [List.drop_eq_nil_of_le (by rw [HLN.out.1]; exact Nat.le_refl _), List.drop_eq_nil_of_le (by rw [HLN.out.2]; exact Nat.le_refl _)], Below.refl _ _⟩⟩
    case round =>
      obtain ⟨k, z, rfl, HX⟩ := hrel
      rcases k with _ | j
      · obtain rfl : z = -1 := by have := HX.out.1; omega
        have hab : a = b := by simpa using HX.out.2.2.1
        have hr : r = false := by rw [← HR.out, hab]; exact decide_eq_false (Int.lt_irrefl _)
        have HRF := Aside0.mk hr
        clear hr hab
        go_wp2_with fail
        go_ret
        rw [HRF.out]
        exact ⟨rfl, HX.out.2.2.2⟩
      · obtain rfl : z = ↑j := by have := HX.out.1; omega
        have hj : j < ln := by have := HX.out.2.1; omega
        obtain ⟨x, hx⟩ : ∃ x, a[j]? = some x := ⟨a[j]'(by rw [HLN.out.1]; exact hj), List.getElem?_eq_getElem _⟩
        obtain ⟨y, hy⟩ : ∃ y, b[j]? = some y := ⟨b[j]'(by rw [HLN.out.2]; exact hj), List.getElem?_eq_getElem _⟩
        obtain ⟨ad, rfl, k0⟩ := (H0.out.below HX.out.2.2.2) j x hx
        obtain ⟨ae, rfl, k1⟩ := (H1.out.below HX.out.2.2.2) j y hy
        have a0 := fun p : GWrld wr => gu_at k0 p
        have a1 := fun p : GWrld wr => gu_at k1 p
        have hj2 : (↑j : Int) < ↑ln := by omega
        have hj0 : (0 : Int) ≤ ↑j := by omega
        have hj3 : (↑j : Int) ≥ 0 := by omega
        have gj : wrap64 ((↑j : Int) - 1) = ↑j - 1 := by unfold wrap64; omega
        have HXY := Aside0.mk (And.intro hx hy)
        clear hx hy
        by_cases e : x = y
        · subst e
          go_wp2_with fail
          refine gb_region (by kernel_rfl) (by kernel_rfl) ?_
          repeat (go_big_quiet_step (fail))
          refine wpQuiet_nil ?_
          intro _ hw'
          obtain ⟨gq, hw''⟩ := hw'
          subst hw''
          have B9 := Aside0.mk (below_step HX.out.2.2.2 gq.b)
          clear a0 a1
          go_wp2_with fail
          refine ⟨⟨j, _, rfl, ⟨rfl, by omega, ?_, B9.out⟩⟩, by simp [intOf]⟩
          have hla : j < a.length := (List.getElem?_eq_some_iff.1 HXY.out.1).1
          have hlb : j < b.length := (List.getElem?_eq_some_iff.1 HXY.out.2).1
          rw [List.drop_eq_getElem_cons hla, List.drop_eq_getElem_cons hlb, HX.out.2.2.1]
          congr 1
          have q1 := HXY.out.1
          have q2 := HXY.out.2
          rw [List.getElem?_eq_getElem hla] at q1
          rw [List.getElem?_eq_getElem hlb] at q2
          rw [Option.some.inj q1, Option.some.inj q2]
        · have hr : decide (x < y) = r := by
            rw [← HR.out]
            refine decide_eq_decide.2 ⟨fun q => less_at HA.out.1 HA.out.2 HXY.out.1 HXY.out.2 HX.out.2.2.1 q, fun q => ?_⟩
            rcases Int.lt_trichotomy x y with q2 | q2 | q2
            · exact q2
            · exact absurd q2 e
            · have := less_at HA.out.2 HA.out.1 HXY.out.2 HXY.out.1 HX.out.2.2.1.symm q2
              omega
          go_wp2_with fail
          refine gb_region (by kernel_rfl) (by kernel_rfl) ?_
          repeat (go_big_quiet_step (fail))
          refine wpQuiet_nil ?_
          intro _ hw'
          obtain ⟨gq, hw''⟩ := hw'
          subst hw''
          have B9 := Aside0.mk (below_step HX.out.2.2.2 gq.b)
          have k0' := (gq.b.cell (World.block_lt_of_cell? _ _ k0)).trans k0
          have k1' := (gq.b.cell (World.block_lt_of_cell? _ _ k1)).trans k1
          have b0 := fun p : GWrld gq.w' => gu_at k0' p
          have b1 := fun p : GWrld gq.w' => gu_at k1' p
          clear a0 a1 k0 k1 k0' k1'
          go_wp2_with fail
          refine gb_region (by kernel_rfl) (by kernel_rfl) ?_
          repeat (go_big_quiet_step (fail))
          refine wpQuiet_nil ?_
          intro _ hw'
          obtain ⟨gr, hw''⟩ := hw'
          subst hw''
          clear b0 b1
          go_wp2_with fail
          go_ret
          exact ⟨rfl, below_step B9.out gr.b⟩
  · have hr : r = false := by rw [← HR.out]; exact decide_eq_false (fun q => by have := less_len HA.out.2 HA.out.1 HT.out.1 p; omega)
    subst hr
    have p1 : ¬ (↑a.length : Int) = ↑b.length := by omega
    have p2 : ¬ (↑a.length : Int) < ↑b.length := by omega
    go_enter Try.func38, Try.ntmps38
    go_wp2_with fail
    go_ret
    exact ⟨rfl, Below.refl _ _⟩

set_option maxRecDepth 100000 in
set_option maxHeartbeats 2000000 in
theorem bi_minus (A0 A1 : Option Addr) (c0 c1 : Nat) (a b : List Int) (w : World) (h0 : Ur w A0 a) (h1 : Ur w A1 b) (ha : Dg a) (hb : Dg b) (la : a.length ≤ 65536) (lb : b.length ≤ a.length) (hv : va b ≤ va a) : Calls Try.prog 39 #[.slice A0 a.length c0, .slice A1 b.length c1] w fun e w' => ∃ A c o, e = .returned (.slice A o.length c) ∧ Ur w' A o ∧ o.length ≤ c ∧ c ≤ maxLen ∧ Dg o ∧ Tp o ∧ va o = va a - va b ∧ o.length ≤ a.length ∧ Below w.heap.size w w' := by
  have H0 := Aside0.mk h0
  have H1 := Aside0.mk h1
  have HA := Aside0.mk ha
  have HB := Aside0.mk hb
  have HV := Aside0.mk hv
  obtain ⟨i0, hi, hz0, hz1, hz2⟩ := info_parts bo_info
  have HI := Aside0.mk hi
  clear h0 h1 ha hb hi hv
  go_enter Try.func39, Try.ntmps39
  go_wp2_with fail
  go_loopw [5, 6, 7] (fun v5 v6 v7 wr => ∃ (i cc : Nat) (o : List Int), v6 = .int .u64 ↑cc ∧ v7 = .int .i64 ↑i ∧ Aside0 (o.length = i ∧ i ≤ a.length ∧ cc ≤ 1 ∧ Dg o ∧ va o - 65536 ^ i * (cc : Int) = va (a.take i) - va (b.take i) ∧ wr.ownsRow w.heap.size 80 1 v5 o.length (u64s o) ∧ Below w.heap.size w wr)) (fun _ _ v7 _ => (a.length - intOf v7).toNat)
  case atStart => exact ⟨0, 0, [], rfl, rfl, ⟨rfl, Nat.zero_le _, by omega, (fun x hx => by cases hx), by simp [va], World.ownsRow_nil _ _ _ 1, Below.refl _ _⟩⟩
  case round =>
    obtain ⟨i, cc, o, rfl, rfl, HX⟩ := hrel
    by_cases ci : i < a.length
    · have ci2 : (↑i : Int) < ↑a.length := by omega
      have ci0 : (0 : Int) ≤ ↑i := by omega
      obtain ⟨x, hx⟩ : ∃ x, a[i]? = some x := ⟨a[i], List.getElem?_eq_getElem ci⟩
      have hx2 := HA.out x (List.mem_of_getElem? hx)
      obtain ⟨ad, rfl, k0⟩ := (H0.out.below HX.out.2.2.2.2.2.2) i x hx
      have a0 := fun p : GWrld wr => gu_at k0 p
      have hy := dg_get HB.out i
      have AT1 := Aside0.mk (fun p : GWrld wr => bn_at A1 c1 b i p.w' (H1.out.below (below_step HX.out.2.2.2.2.2.2 p.b)))
      obtain ⟨y, ey⟩ : ∃ y, b.getD i 0 = y := ⟨_, rfl⟩
      have HEY := Aside0.mk ey
      rw [ey] at hy AT1
      have HEX := Aside0.mk hx
      have hcc := HX.out.2.2.1
      obtain ⟨z, hz⟩ : ∃ z, 65536 + x - y - ↑cc = z := ⟨_, rfl⟩
      have g1 : IntKind.u64.wrap (65536 + x) = 65536 + x := by simp [IntKind.wrap, IntKind.bits, IntKind.signed]; omega
      have g2 : IntKind.u64.wrap (65536 + x - y) = 65536 + x - y := by simp [IntKind.wrap, IntKind.bits, IntKind.signed]; omega
      have g3 : IntKind.u64.wrap z = z := by simp [IntKind.wrap, IntKind.bits, IntKind.signed]; omega
      clear ey hx k0
      go_wp2_with fail
      refine gb_region (by kernel_rfl) (by kernel_rfl) ?_
      repeat (go_big_quiet_step (with_reducible exact gb_calls (AT1.out _)))
      refine wpQuiet_nil ?_
      intro _ hw'
      obtain ⟨gq, hw''⟩ := hw'
      subst hw''
      have B9 := Aside0.mk (below_step HX.out.2.2.2.2.2.2 gq.b)
      have HO2 := Aside0.mk (own_turn (S := fun _ => False) HX.out.2.2.2.2.2.1 (Tn.of_below gq.b) (fun _ _ => id))
      clear a0
      obtain ⟨m, q, cn, hm, hmz, gm, gm2, gq1, gq2, hq⟩ : ∃ (m q : Int) (cn : Nat), (0 ≤ m ∧ m < 65536) ∧ m + 65536 * q = z ∧ z % 65536 = m ∧ z.tmod 65536 = m ∧ z / 65536 = q ∧ z.tdiv 65536 = q ∧ (q + ↑cn = 1) := ⟨z % 65536, z / 65536, (1 - z / 65536).toNat, by omega, by omega, rfl, by rw [Int.tmod_eq_emod_of_nonneg (by omega)], rfl, by rw [Int.tdiv_eq_ediv_of_nonneg (by omega)], by omega⟩
      have hcn : cn ≤ 1 := by omega
      have gs : IntKind.u64.wrap (1 - q) = ↑cn := by simp [IntKind.wrap, IntKind.bits, IntKind.signed]; omega
      have gs2 : IntKind.u64.wrap (↑cn : Int) = ↑cn := by simp [IntKind.wrap, IntKind.bits, IntKind.signed]; omega
      have gs3 : IntKind.u64.wrap q = q := by simp [IntKind.wrap, IntKind.bits, IntKind.signed]; omega
      have HZ := Aside0.mk (And.intro hz (And.intro hmz (And.intro hm (And.intro hcn hq))))
      have hol : o.length ≤ 65536 := by have := HX.out.1; omega
      have HW := Aside0.mk B9.out.size
      clear hmz hm hcn hcc hq hx2 hy
      go_wp2_with (at_builtin; refine wpList_append_own_at _ rfl _ _ 45 rfl w.heap.size 80 i0 (.int .u64 0) 1 8 Try.underlying45 HI.out hz0 hz1 hz2 rfl (by decide) u5 o.length _ rfl (HO2.out.alloc _) ⟨gq.w'.heap.size, 0, none⟩ 1 1 [.int .u64 m] rfl rfl (bo_one _ _ _) (by simp [Value.oneCell']) (by unfold maxLen; omega) (by omega) (by have := HW.out; simp; omega) ?_; intro v3 w3 hown hgrow _ _)
      have hob : ∀ k, u5.ownBlock = some k → w.heap.size ≤ k := fun k hk => own_base HO2.out hk
      refine ⟨⟨i + 1, cn, o ++ [m], rfl, by simp, ⟨by simp; exact HX.out.1, by omega, HZ.out.2.2.2.1, ?_, ?_, ?_, (below_alloc B9.out _).grown hgrow (by have := HW.out; simp; omega) hob⟩⟩, by simp [intOf]; omega⟩
      · intro t ht
        rcases List.mem_append.1 ht with ht | ht
        · exact HX.out.2.2.2.1 t ht
        · rw [List.mem_singleton] at ht
          rw [ht]
          exact HZ.out.2.2.1
      · have e1 := HX.out.2.2.2.2.1
        have ex : a.getD i 0 = x := by rw [List.getD_eq_getElem?_getD, HEX.out]; rfl
        rw [va_next, va_next, ex, HEY.out, va_append, HX.out.1, Int.pow_succ]
        have e2 := HZ.out.1
        have e3 := HZ.out.2.1
        have e5 := HZ.out.2.2.2.2
        show va o + 65536 ^ i * (m + 65536 * 0) - 65536 ^ i * 65536 * ↑cn = _
        have e6 : m - 65536 * (cn : Int) = x - y - ↑cc := by omega
        have e4 : (65536 : Int) ^ i * (m - 65536 * ↑cn) = 65536 ^ i * x - 65536 ^ i * y - 65536 ^ i * ↑cc := by rw [e6, Int.mul_sub, Int.mul_sub]
        rw [Int.mul_sub, ← Int.mul_assoc] at e4
        generalize (65536 : Int) ^ i * x = Px at *
        generalize (65536 : Int) ^ i * y = Py at *
        generalize (65536 : Int) ^ i * (cc : Int) = Pc at *
        rw [Int.mul_zero, Int.add_zero]
        omega
      · have e : u64s (o ++ [m]) = u64s o ++ [.int .u64 m] := by simp [u64s]
        rw [e, List.length_append]
        exact hown
    · have q0 : ¬ (↑i : Int) < ↑a.length := by omega
      obtain ⟨A, c, rfl, hu, hc1, hc2⟩ := own_ur HX.out.2.2.2.2.2.1
      have NM := Aside0.mk (bn_norm A c o false wr hu hc1 hc2)
      have HU := Aside0.mk hu
      clear hu
      go_wp2_with fail
      refine NM.out.mono ?_
      rintro e w5 ⟨k, hk, rfl, hva, htp, hb5⟩
      have HVT := Aside0.mk (And.intro hva htp)
      have B5 := Aside0.mk (below_step HX.out.2.2.2.2.2.2 hb5)
      have HU5 := Aside0.mk ((HU.out.below hb5).take k)
      clear hva htp hb5
      rw [Bool.false_and]
      have hf : ∀ W : World, (Instr.field 47 (.agg #[.slice A k c, .bool false]) 0).run Try.prog W = .ok (.slice A k c) W := fun W => by kernel_rfl
      go_wp2_with fail
      go_ret
      have hkl : (o.take k).length = k := by rw [List.length_take]; omega
      refine ⟨A, c, o.take k, by rw [hkl]; rfl, HU5.out, by rw [hkl]; omega, hc2, HX.out.2.2.2.1.take k, HVT.out.2, ?_, by rw [hkl]; have := HX.out.1; have := HX.out.2.1; omega, B5.out⟩
      rw [HVT.out.1]
      have e := HX.out.2.2.2.2.1
      have hi2 : i = a.length := by have := HX.out.2.1; omega
      rw [List.take_of_length_le (by omega), List.take_of_length_le (by omega)] at e
      have h1 := va_lt HX.out.2.2.2.1
      rw [HX.out.1] at h1
      have h2 := HV.out
      have h3 := HX.out.2.2.1
      have h4 : cc = 0 ∨ cc = 1 := by omega
      rcases h4 with rfl | rfl
      · simpa using e
      · simp at e
        omega

/-- A long number in memory. -/
def Nm (w : World) (v : Value) (z : Int) (n : Nat) : Prop := ∃ A c d m, v = .agg #[.slice A d.length c, .bool m] ∧ Ur w A d ∧ d.length ≤ c ∧ c ≤ maxLen ∧ Dg d ∧ Tp d ∧ z = (if m = true then -va d else va d) ∧ (m = true → d ≠ []) ∧ d.length ≤ n
theorem Nm.below {w W : World} {v : Value} {z : Int} {n : Nat} (h : Nm w v z n) (t : Below w.heap.size w W) : Nm W v z n := by
  obtain ⟨A, c, d, m, a1, a2, a3⟩ := h
  exact ⟨A, c, d, m, a1, a2.below t, a3⟩
theorem Nm.zero (w : World) (n : Nat) : Nm w (.agg #[.slice none 0 0, .bool false]) 0 n := ⟨none, 0, [], false, rfl, (fun j x h => by cases h), Nat.le_refl _, Nat.zero_le _, (fun x h => by cases h), by unfold Tp; simp, by simp [va], by simp, Nat.zero_le _⟩
theorem va_eq_zero {d : List Int} (h : Dg d) (ht : Tp d) (hz : va d = 0) : d = [] := by
  cases d with
  | nil => rfl
  | cons x t =>
    have := va_ge h ht (by simp)
    have h2 := pw_pos ((x :: t).length - 1)
    omega

theorem gx_not (a : Int) (h0 : -9223372036854775808 ≤ a) (h1 : a < 0) : bits .xor .u64 IntKind.u64.max (a + 18446744073709551616) = -a - 1 := by
  obtain ⟨b, hb⟩ : ∃ b : Nat, a + 18446744073709551616 = ↑b := ⟨(a + 18446744073709551616).toNat, by omega⟩
  have e2 : IntKind.u64.max = ((2 ^ 64 - 1 : Nat) : Int) := by decide
  rw [hb, e2, bits_xor_u64_nat _ _ (by decide) (by omega), Go.Lib.xor_ones64 _ (by omega)]
  omega
theorem Ur.turn {S : Nat → Prop} {w W : World} {A : Option Addr} {d : List Int} (h : Ur w A d) (t : Tn S w W) (hn : ∀ ad, A = some ad → ¬ S ad.block) : Ur W A d := fun j x hx => by
  obtain ⟨ad, e, a⟩ := h j x hx
  exact ⟨ad, e, t.cell a (by rw [ad_block]; exact hn ad e)⟩
theorem own_urb {w : World} {base : Nat} {A : Option Addr} {n c : Nat} {l : List Int} (h : w.ownsRow base 80 1 (.slice A n c) l.length (u64s l)) : ∀ ad, A = some ad → base ≤ ad.block := by
  intro ad e
  subst e
  obtain ⟨hl, ⟨q, h0⟩ | ⟨g, cap, cur, q, hg, hb, hc, hcm, -, ht⟩⟩ := h
  · cases q
  · cases q
    exact hg

set_option maxRecDepth 100000 in
set_option maxHeartbeats 2000000 in
theorem bof_of (a : Int) (w : World) (ha : W64 a) : Calls Try.prog 21 #[.int .i64 a] w fun e w' => ∃ v, e = .returned v ∧ Nm w' v a 4 ∧ Below w.heap.size w w' := by
  unfold W64 at ha
  obtain ⟨i0, hi, hz0, hz1, hz2⟩ := info_parts bo_info
  have HI := Aside0.mk hi
  clear hi
  by_cases p : a < 0
  · have g1 : IntKind.u64.wrap a = a + 18446744073709551616 := by simp [IntKind.wrap, IntKind.bits, IntKind.signed]; omega
    have gx := gx_not a ha.1 p
    obtain ⟨U, hU⟩ : ∃ U, -a = U := ⟨_, rfl⟩
    have g2 : IntKind.u64.wrap (-a) = U := by simp [IntKind.wrap, IntKind.bits, IntKind.signed]; omega
    have HU : Aside0 (0 ≤ U ∧ U ≤ 9223372036854775808) := ⟨by omega⟩
    have HAU := Aside0.mk hU
    clear hU
    go_enter Try.func21, Try.ntmps21
    go_wp2_with fail
    go_loopw [3, 4, 5] (fun v3 v4 v5 wr => ∃ (i : Nat) (u : Int) (o : List Int), v3 = .int .u64 u ∧ v5 = .int .i64 ↑i ∧ Aside0 (o.length = i ∧ i ≤ 4 ∧ (0 ≤ u ∧ u ≤ 9223372036854775808) ∧ Dg o ∧ va o + 65536 ^ i * u = U ∧ wr.ownsRow (w.heap.size + 1) 80 1 v4 o.length (u64s o) ∧ Below w.heap.size w wr ∧ wr.heap[w.heap.size]? = some (.cells #[.slice none 0 0, .bool false] 47 (0, 0)) ∧ w.heap.size + 1 ≤ wr.heap.size)) (fun _ _ v5 _ => (4 - intOf v5).toNat)
    case atStart => exact ⟨0, U, [], rfl, rfl, ⟨rfl, by omega, HU.out, (fun x hx => by cases hx), by simp [va], World.ownsRow_nil _ _ _ 1, below_alloc (Below.refl _ _) _, blk_new w _, by simp⟩⟩
    case round =>
      obtain ⟨i, u, o, rfl, rfl, HX⟩ := hrel
      by_cases ci : i < 4
      · have ci2 : (↑i : Int) < 4 := by omega
        have hu := HX.out.2.2.1
        obtain ⟨m, q, hm, hmz, gm, gm2, gq1, gq2, hq⟩ : ∃ (m q : Int), (0 ≤ m ∧ m < 65536) ∧ m + 65536 * q = u ∧ u % 65536 = m ∧ u.tmod 65536 = m ∧ u / 65536 = q ∧ u.tdiv 65536 = q ∧ (0 ≤ q ∧ q ≤ 9223372036854775808) := ⟨u % 65536, u / 65536, by omega, by omega, rfl, by rw [Int.tmod_eq_emod_of_nonneg (by omega)], rfl, by rw [Int.tdiv_eq_ediv_of_nonneg (by omega)], by omega⟩
        have gs3 : IntKind.u64.wrap q = q := by simp [IntKind.wrap, IntKind.bits, IntKind.signed]; omega
        have HZ := Aside0.mk (And.intro hmz (And.intro hm hq))
        have hol : o.length ≤ 65536 := by have := HX.out.1; omega
        have HW := Aside0.mk HX.out.2.2.2.2.2.2.2.2
        clear hmz hm hq hu
        go_wp2_with (at_builtin; refine wpList_append_own_at _ rfl _ _ 45 rfl (w.heap.size + 1) 80 i0 (.int .u64 0) 1 8 Try.underlying45 HI.out hz0 hz1 hz2 rfl (by decide) u4 o.length _ rfl (HX.out.2.2.2.2.2.1.alloc _) ⟨wr.heap.size, 0, none⟩ 1 1 [.int .u64 m] rfl rfl (bo_one _ _ _) (by simp [Value.oneCell']) (by unfold maxLen; omega) (by omega) (by have := HW.out; simp; omega) ?_; intro v3 w3 hown hgrow _ _)
        have hob : ∀ k, u4.ownBlock = some k → w.heap.size + 1 ≤ k := fun k hk => own_base HX.out.2.2.2.2.2.1 hk
        have T3 : Tn (fun k => u4.ownBlock = some k) wr w3 := jn_tn hgrow
        refine ⟨⟨i + 1, q, o ++ [m], rfl, by simp, ⟨by simp; exact HX.out.1, by omega, HZ.out.2.2, ?_, ?_, ?_, (below_alloc HX.out.2.2.2.2.2.2.1 _).grown hgrow (by have := HW.out; simp; omega) (fun k hk => by have := hob k hk; omega), T3.blk HX.out.2.2.2.2.2.2.2.1 (fun h => by have := hob _ h; omega), by have := T3.size; have := HW.out; omega⟩⟩, by simp [intOf]; omega⟩
        · intro t ht
          rcases List.mem_append.1 ht with ht | ht
          · exact HX.out.2.2.2.1 t ht
          · rw [List.mem_singleton] at ht
            rw [ht]
            exact HZ.out.2.1
        · have e1 := HX.out.2.2.2.2.1
          have e2 := HZ.out.1
          rw [va_append, HX.out.1, Int.pow_succ, ← e1, ← e2]
          show va o + 65536 ^ i * (m + 65536 * 0) + 65536 ^ i * 65536 * q = _
          rw [Int.mul_zero, Int.add_zero, Int.mul_add, ← Int.mul_assoc]
          omega
        · have e : u64s (o ++ [m]) = u64s o ++ [.int .u64 m] := by simp [u64s]
          rw [e, List.length_append]
          exact hown
      · have ci2 : ¬ (↑i : Int) < 4 := by omega
        obtain ⟨A, c, rfl, hu, hc1, hc2⟩ := own_ur HX.out.2.2.2.2.2.1
        have HUB := Aside0.mk (own_urb HX.out.2.2.2.2.2.1)
        have NM := Aside0.mk (bn_norm A c o true wr hu hc1 hc2)
        have HUR := Aside0.mk hu
        clear hu
        go_wp2_with fail
        refine NM.out.mono ?_
        rintro e w5 ⟨k, hk, rfl, hva, htp, hb5⟩
        have hcell := (hb5.block w.heap.size (by have := HX.out.2.2.2.2.2.2.2.2; omega)).trans HX.out.2.2.2.2.2.2.2.1
        have kc0 := (blk_cell hcell 0).trans rfl
        have kc1 := (blk_cell hcell 1).trans rfl
        have kf0 := blk_frozen hcell 0
        have kf1 := blk_frozen hcell 1
        have HV := Aside0.mk hva
        have HC := Aside0.mk hcell
        have HT := Aside0.mk htp
        have B5 := Aside0.mk (below_step HX.out.2.2.2.2.2.2.1 hb5)
        have HK := Aside0.mk hk
        have HU5 := Aside0.mk (HUR.out.below hb5)
        clear hva hcell htp hb5 hk
        go_wp2_with fail
        have s1 := tn_set w5 w.heap.size 0 (.slice A k c)
        have s2 := s1.trans (tn_set _ w.heap.size 1 (.bool (decide (0 < k))))
        have hne : ∀ ad, A = some ad → ¬ ad.block = w.heap.size := fun ad e q => by have := HUB.out ad e; omega
        have hl5 : w.heap.size ≤ w5.heap.size := B5.out.size
        refine bodyPost_ret (results_cell_row rfl _ _ w.heap.size 47 #[.slice A k c, .bool (decide (0 < k))] (0, 0) _ rfl (blk_set (blk_set HC.out 0 (.slice A k c)) 1 (.bool (decide (0 < k)))) Try.underlying47 rfl (by kernel_rfl)) rfl ?_
        have hko : (o.take k).length = k := by rw [List.length_take]; exact Nat.min_eq_left HK.out
        have hdg : Dg (o.take k) := HX.out.2.2.2.1.take k
        have hu4 : i = 4 := by have := HX.out.2.1; omega
        have hu0 : u = 0 := by
          have e1 := HX.out.2.2.2.2.1
          have e2 := va_nonneg HX.out.2.2.2.1
          have e3 := HX.out.2.2.1
          have e4 := HU.out
          subst hu4
          have e5 : (65536 : Int) ^ 4 = 18446744073709551616 := by decide
          rw [e5] at e1
          omega
        have hva2 : va (o.take k) = U := by
          have e1 := HX.out.2.2.2.2.1
          rw [hu0, Int.mul_zero, Int.add_zero] at e1
          rw [HV.out, e1]
        refine ⟨_, rfl, ⟨A, c, o.take k, (decide (0 < k)), by rw [hko], ?_, by rw [hko]; have := HK.out; omega, hc2, hdg, HT.out, ?_, ?_, by rw [hko]; have := HK.out; have := HX.out.1; omega⟩, Tn.below B5.out s2 hl5 (fun k q => by rcases q with rfl; exact Nat.le_refl _)⟩
        · exact (HU5.out.take k).turn s2 hne
        · rw [hva2, ← HAU.out]
          have hk0 : 0 < k := by
            rcases Nat.eq_zero_or_pos k with q | q
            · subst q
              have e1 : va (o.take 0) = 0 := rfl
              have e2 := HAU.out
              omega
            · exact q
          rw [decide_eq_true hk0]
          simp
        · intro q e
          have e1 : (o.take k).length = 0 := by rw [e]; rfl
          rw [hko] at e1
          simp at q
          omega

  · obtain ⟨U, hU⟩ : ∃ U, a = U := ⟨_, rfl⟩
    have g1 : IntKind.u64.wrap a = U := by rw [← hU]; simp [IntKind.wrap, IntKind.bits, IntKind.signed]; omega
    have HU : Aside0 (0 ≤ U ∧ U ≤ 9223372036854775808) := ⟨by omega⟩
    have HAU := Aside0.mk hU
    clear hU
    go_enter Try.func21, Try.ntmps21
    go_wp2_with fail
    go_loopw [3, 4, 5] (fun v3 v4 v5 wr => ∃ (i : Nat) (u : Int) (o : List Int), v3 = .int .u64 u ∧ v5 = .int .i64 ↑i ∧ Aside0 (o.length = i ∧ i ≤ 4 ∧ (0 ≤ u ∧ u ≤ 9223372036854775808) ∧ Dg o ∧ va o + 65536 ^ i * u = U ∧ wr.ownsRow (w.heap.size + 1) 80 1 v4 o.length (u64s o) ∧ Below w.heap.size w wr ∧ wr.heap[w.heap.size]? = some (.cells #[.slice none 0 0, .bool false] 47 (0, 0)) ∧ w.heap.size + 1 ≤ wr.heap.size)) (fun _ _ v5 _ => (4 - intOf v5).toNat)
    case atStart => exact ⟨0, U, [], rfl, rfl, ⟨rfl, by omega, HU.out, (fun x hx => by cases hx), by simp [va], World.ownsRow_nil _ _ _ 1, below_alloc (Below.refl _ _) _, blk_new w _, by simp⟩⟩
    case round =>
      obtain ⟨i, u, o, rfl, rfl, HX⟩ := hrel
      by_cases ci : i < 4
      · have ci2 : (↑i : Int) < 4 := by omega
        have hu := HX.out.2.2.1
        obtain ⟨m, q, hm, hmz, gm, gm2, gq1, gq2, hq⟩ : ∃ (m q : Int), (0 ≤ m ∧ m < 65536) ∧ m + 65536 * q = u ∧ u % 65536 = m ∧ u.tmod 65536 = m ∧ u / 65536 = q ∧ u.tdiv 65536 = q ∧ (0 ≤ q ∧ q ≤ 9223372036854775808) := ⟨u % 65536, u / 65536, by omega, by omega, rfl, by rw [Int.tmod_eq_emod_of_nonneg (by omega)], rfl, by rw [Int.tdiv_eq_ediv_of_nonneg (by omega)], by omega⟩
        have gs3 : IntKind.u64.wrap q = q := by simp [IntKind.wrap, IntKind.bits, IntKind.signed]; omega
        have HZ := Aside0.mk (And.intro hmz (And.intro hm hq))
        have hol : o.length ≤ 65536 := by have := HX.out.1; omega
        have HW := Aside0.mk HX.out.2.2.2.2.2.2.2.2
        clear hmz hm hq hu
        go_wp2_with (at_builtin; refine wpList_append_own_at _ rfl _ _ 45 rfl (w.heap.size + 1) 80 i0 (.int .u64 0) 1 8 Try.underlying45 HI.out hz0 hz1 hz2 rfl (by decide) u4 o.length _ rfl (HX.out.2.2.2.2.2.1.alloc _) ⟨wr.heap.size, 0, none⟩ 1 1 [.int .u64 m] rfl rfl (bo_one _ _ _) (by simp [Value.oneCell']) (by unfold maxLen; omega) (by omega) (by have := HW.out; simp; omega) ?_; intro v3 w3 hown hgrow _ _)
        have hob : ∀ k, u4.ownBlock = some k → w.heap.size + 1 ≤ k := fun k hk => own_base HX.out.2.2.2.2.2.1 hk
        have T3 : Tn (fun k => u4.ownBlock = some k) wr w3 := jn_tn hgrow
        refine ⟨⟨i + 1, q, o ++ [m], rfl, by simp, ⟨by simp; exact HX.out.1, by omega, HZ.out.2.2, ?_, ?_, ?_, (below_alloc HX.out.2.2.2.2.2.2.1 _).grown hgrow (by have := HW.out; simp; omega) (fun k hk => by have := hob k hk; omega), T3.blk HX.out.2.2.2.2.2.2.2.1 (fun h => by have := hob _ h; omega), by have := T3.size; have := HW.out; omega⟩⟩, by simp [intOf]; omega⟩
        · intro t ht
          rcases List.mem_append.1 ht with ht | ht
          · exact HX.out.2.2.2.1 t ht
          · rw [List.mem_singleton] at ht
            rw [ht]
            exact HZ.out.2.1
        · have e1 := HX.out.2.2.2.2.1
          have e2 := HZ.out.1
          rw [va_append, HX.out.1, Int.pow_succ, ← e1, ← e2]
          show va o + 65536 ^ i * (m + 65536 * 0) + 65536 ^ i * 65536 * q = _
          rw [Int.mul_zero, Int.add_zero, Int.mul_add, ← Int.mul_assoc]
          omega
        · have e : u64s (o ++ [m]) = u64s o ++ [.int .u64 m] := by simp [u64s]
          rw [e, List.length_append]
          exact hown
      · have ci2 : ¬ (↑i : Int) < 4 := by omega
        obtain ⟨A, c, rfl, hu, hc1, hc2⟩ := own_ur HX.out.2.2.2.2.2.1
        have HUB := Aside0.mk (own_urb HX.out.2.2.2.2.2.1)
        have NM := Aside0.mk (bn_norm A c o false wr hu hc1 hc2)
        have HUR := Aside0.mk hu
        clear hu
        go_wp2_with fail
        have ed : decide (a < 0) = false := decide_eq_false (by omega)
        rw [ed]
        refine NM.out.mono ?_
        rintro e w5 ⟨k, hk, rfl, hva, htp, hb5⟩
        have hcell := (hb5.block w.heap.size (by have := HX.out.2.2.2.2.2.2.2.2; omega)).trans HX.out.2.2.2.2.2.2.2.1
        have kc0 := (blk_cell hcell 0).trans rfl
        have kc1 := (blk_cell hcell 1).trans rfl
        have kf0 := blk_frozen hcell 0
        have kf1 := blk_frozen hcell 1
        have HV := Aside0.mk hva
        have HC := Aside0.mk hcell
        have HT := Aside0.mk htp
        have B5 := Aside0.mk (below_step HX.out.2.2.2.2.2.2.1 hb5)
        have HK := Aside0.mk hk
        have HU5 := Aside0.mk (HUR.out.below hb5)
        clear hva hcell htp hb5 hk
        go_wp2_with fail
        have s1 := tn_set w5 w.heap.size 0 (.slice A k c)
        have s2 := s1.trans (tn_set _ w.heap.size 1 (.bool false))
        have hne : ∀ ad, A = some ad → ¬ ad.block = w.heap.size := fun ad e q => by have := HUB.out ad e; omega
        have hl5 : w.heap.size ≤ w5.heap.size := B5.out.size
        refine bodyPost_ret (results_cell_row rfl _ _ w.heap.size 47 #[.slice A k c, .bool false] (0, 0) _ rfl (blk_set (blk_set HC.out 0 (.slice A k c)) 1 (.bool false)) Try.underlying47 rfl (by kernel_rfl)) rfl ?_
        have hko : (o.take k).length = k := by rw [List.length_take]; exact Nat.min_eq_left HK.out
        have hdg : Dg (o.take k) := HX.out.2.2.2.1.take k
        have hu4 : i = 4 := by have := HX.out.2.1; omega
        have hu0 : u = 0 := by
          have e1 := HX.out.2.2.2.2.1
          have e2 := va_nonneg HX.out.2.2.2.1
          have e3 := HX.out.2.2.1
          have e4 := HU.out
          subst hu4
          have e5 : (65536 : Int) ^ 4 = 18446744073709551616 := by decide
          rw [e5] at e1
          omega
        have hva2 : va (o.take k) = U := by
          have e1 := HX.out.2.2.2.2.1
          rw [hu0, Int.mul_zero, Int.add_zero] at e1
          rw [HV.out, e1]
        refine ⟨_, rfl, ⟨A, c, o.take k, false, by rw [hko], ?_, by rw [hko]; have := HK.out; omega, hc2, hdg, HT.out, ?_, ?_, by rw [hko]; have := HK.out; have := HX.out.1; omega⟩, Tn.below B5.out s2 hl5 (fun k q => by rcases q with rfl; exact Nat.le_refl _)⟩
        · exact (HU5.out.take k).turn s2 hne
        · rw [hva2, HAU.out]
          simp
        · intro q
          cases q


theorem ba_held {w : World} {n : Nat} {p q r s : Value} (h0 : w.heap[n]? = some (.cells #[p, q] 47 (0, 0))) (h1 : w.heap[n + 1]? = some (.cells #[r, s] 47 (0, 0))) : w.cell? ⟨n, 0, none⟩ = some p ∧ w.cell? ⟨n, 1, none⟩ = some q ∧ w.cell? ⟨n + 1, 0, none⟩ = some r ∧ w.cell? ⟨n + 1, 1, none⟩ = some s :=
  ⟨(blk_cell h0 0).trans rfl, (blk_cell h0 1).trans rfl, (blk_cell h1 0).trans rfl, (blk_cell h1 1).trans rfl⟩
/-- A row that can be read does not lie in the block of a Num. -/
theorem Ur.apart {w W : World} {A : Option Addr} {d : List Int} (h : Ur w A d) {g : Nat} {m : Bool} {A' : Option Addr} {l c : Nat} (hg : w.heap[g]? = some (.cells #[.slice A' l c, .bool m] 47 (0, 0))) (t : Tn (fun k => k = g) w W) : Ur W A d := fun j x hx => by
  obtain ⟨ad, e, a⟩ := h j x hx
  refine ⟨ad, e, t.cell a (fun q => ?_)⟩
  unfold World.cell? at a
  rw [q, hg] at a
  simp only at a
  split at a
  · cases a
  · generalize (ad.add j).off = o at a
    match o, a with
    | 0, a => cases a
    | 1, a => cases a
    | k + 2, a => simp at a
theorem ba_three (w : World) (o0 o1 o2 : Obj) : (((w.alloc o0).alloc o1).alloc o2).heap[w.heap.size]? = some o0 ∧ (((w.alloc o0).alloc o1).alloc o2).heap[w.heap.size + 1]? = some o1 ∧ (((w.alloc o0).alloc o1).alloc o2).heap[w.heap.size + 1 + 1]? = some o2 ∧ Below w.heap.size w (((w.alloc o0).alloc o1).alloc o2) ∧ w.heap.size + 1 + 1 < (((w.alloc o0).alloc o1).alloc o2).heap.size := by
  have e1 : (w.alloc o0).heap.size = w.heap.size + 1 := Array.size_push _
  have e2 : ((w.alloc o0).alloc o1).heap.size = w.heap.size + 1 + 1 := by rw [← e1]; exact Array.size_push _
  have e3 : (((w.alloc o0).alloc o1).alloc o2).heap.size = w.heap.size + 1 + 1 + 1 := by rw [← e2]; exact Array.size_push _
  refine ⟨blk_alloc (blk_alloc (blk_new w o0) o1) o2, ?_, ?_, below_alloc (below_alloc (below_alloc (Below.refl _ _) _) _) _, by omega⟩
  · rw [← e1]
    exact blk_alloc (blk_new (w.alloc o0) o1) o2
  · rw [← e2]
    exact blk_new ((w.alloc o0).alloc o1) o2
theorem nm_end {W : World} {A : Option Addr} {o : List Int} {k c : Nat} (hu : Ur W A o) (hk : k ≤ o.length) (hc : o.length ≤ c) (hcm : c ≤ maxLen) (hdg : Dg o) (htp : Tp (o.take k)) (hv : va (o.take k) = va o) (m mb : Bool) (hmb : mb = (m && decide (0 < k))) (z : Int) (hz : z = if m = true then -va o else va o) (n : Nat) (hn : o.length ≤ n) : Nm W (.agg #[.slice A k c, .bool mb]) z n := by
  have hko : (o.take k).length = k := by rw [List.length_take]; exact Nat.min_eq_left hk
  refine ⟨A, c, o.take k, mb, by rw [hko], hu.take k, by omega, hcm, hdg.take k, htp, ?_, ?_, by omega⟩
  · subst hmb
    rw [hv]
    cases m
    · exact hz
    · rcases Nat.eq_zero_or_pos k with q | q
      · subst q
        have e1 : va (o.take 0) = 0 := rfl
        rw [hz, ← hv, e1]
        rfl
      · rw [decide_eq_true q]
        exact hz
  · intro q e
    have e1 : (o.take k).length = 0 := by rw [e]; rfl
    subst hmb
    rw [hko] at e1
    subst e1
    simp at q
theorem va_le_len {a b : List Int} (ha : Dg a) (hb : Dg b) (ta : Tp a) (h : va a ≤ va b) : a.length ≤ b.length := by
  rcases Nat.lt_or_ge b.length a.length with q | q
  · have := less_len hb ha ta q
    omega
  · exact q
set_option maxRecDepth 100000 in
set_option maxHeartbeats 4000000 in
theorem bad_add (A0 A1 : Option Addr) (c0 c1 : Nat) (a b : List Int) (m0 m1 : Bool) (w : World) (h0 : Ur w A0 a) (h1 : Ur w A1 b) (ha : Dg a) (hb : Dg b) (ta : Tp a) (tb : Tp b) (la : a.length ≤ 65536) (lb : b.length ≤ 65536) : Calls Try.prog 20 #[.agg #[.slice A0 a.length c0, .bool m0], .agg #[.slice A1 b.length c1, .bool m1]] w fun e w' => ∃ v, e = .returned v ∧ Nm w' v ((if m0 = true then -va a else va a) + (if m1 = true then -va b else va b)) (max a.length b.length + 1) ∧ Below w.heap.size w w' := by
  have H0 := Aside0.mk h0
  have H1 := Aside0.mk h1
  have HA := Aside0.mk ha
  have HB := Aside0.mk hb
  have TA := Aside0.mk ta
  have TB := Aside0.mk tb
  clear h0 h1 ha hb ta tb
  by_cases pm : m0 = m1
  · subst pm
    cases m0
    · go_enter Try.func20, Try.ntmps20
      go_wp2_with fail
      obtain ⟨z0, z1, z2, z3, z4⟩ := ba_three w (.cells #[.slice A0 a.length c0, .bool false] 47) (.cells #[.slice A1 b.length c1, .bool false] 47) (.cells #[.slice none 0 0, .bool false] 47)
      generalize ((w.alloc (.cells #[.slice A0 a.length c0, .bool false] 47)).alloc (.cells #[.slice A1 b.length c1, .bool false] 47)).alloc (.cells #[.slice none 0 0, .bool false] 47) = w0 at z0 z1 z2 z3 z4 ⊢
      have HD0 := Aside0.mk z0
      have HD1 := Aside0.mk z1
      have HCR := Aside0.mk z2
      have HB0 := Aside0.mk z3
      have HZ0 := Aside0.mk z4
      clear z0 z1 z2 z3 z4
      refine start_ (n := 9) (S := fun w' => w'.cell? ⟨w.heap.size, 0, none⟩ = some (.slice A0 a.length c0) ∧ w'.cell? ⟨w.heap.size, 1, none⟩ = some (.bool false) ∧ w'.cell? ⟨w.heap.size + 1, 0, none⟩ = some (.slice A1 b.length c1) ∧ w'.cell? ⟨w.heap.size + 1, 1, none⟩ = some (.bool false)) (ds := [8]) #[false, false, false, false, false, false, false, false, false] (by kernel_rfl) rfl rfl (ba_held HD0.out HD1.out) (fun hHeld => ?_)
      have B4 := Aside0.mk (below_step HB0.out (below_drew1 (Below.refl w0.heap.size w0)))
      have BD := Aside0.mk (below_drew1 (Below.refl w0.heap.size w0))
      have H04 := Aside0.mk (H0.out.below B4.out)
      have H14 := Aside0.mk (H1.out.below B4.out)
      have HC4 := Aside0.mk (blk_drew HCR.out)
      have HZ4 := Aside0.mk HZ0.out
      have D0 := Aside0.mk (blk_drew HD0.out)
      have D1 := Aside0.mk (blk_drew HD1.out)
      rw [show w0.heap.size = w0.drew.heap.size from rfl] at HZ4
      generalize w0.drew = wd at hHeld B4 BD H04 H14 HC4 HZ4 D0 D1 ⊢
      refine pure_ (i := 0) (N := some 11) (v := ?_) (a' := ?_) #[true, false, false, false, false, false, false, false, false] rfl rfl (by kernel_rfl) (fun _ _ _ h => h) (Or.inl ⟨by rfl, ?_⟩) ?_ ?_
      rotate_left
      · intro w'
        go_simp
        with_reducible rfl
      rotate_left
      · simp only [Act.put, List.setIfInBounds_toArray, List.set_cons_zero, List.set_cons_succ, i64_w, i32_w]
        rfl
      refine pure_ (i := 2) (N := some 13) (v := ?_) (a' := ?_) #[true, false, true, false, false, false, false, false, false] rfl rfl (by kernel_rfl) (fun _ _ _ h => h) (Or.inl ⟨by rfl, ?_⟩) ?_ ?_
      rotate_left
      · intro w'
        go_simp
        with_reducible rfl
      rotate_left
      · simp only [Act.put, List.setIfInBounds_toArray, List.set_cons_zero, List.set_cons_succ, i64_w, i32_w]
        rfl
      refine pure_ (i := 5) (N := some 16) (v := ?_) (a' := ?_) #[true, false, true, false, false, true, false, false, false] rfl rfl (by kernel_rfl) (fun _ _ _ h => h) (Or.inl ⟨by rfl, ?_⟩) ?_ ?_
      rotate_left
      · intro w'
        go_simp
        with_reducible rfl
      rotate_left
      · simp only [Act.put, List.setIfInBounds_toArray, List.set_cons_zero, List.set_cons_succ, i64_w, i32_w]
        rfl
      refine take_ (i := 1) (N := some 12) (v := ?_) (a' := ?_) #[true, true, true, false, false, true, false, false, false] rfl rfl (by kernel_rfl) (fun _ _ _ h => h) (Or.inl ⟨by rfl, ?_⟩) hHeld ?_ ?_
      rotate_left
      · rintro w' ⟨s0, s1, s2, s3⟩
        go_simp
        with_reducible rfl
      rotate_left
      · simp only [Act.put, List.setIfInBounds_toArray, List.set_cons_zero, List.set_cons_succ, i64_w, i32_w]
        rfl
      refine take_ (i := 3) (N := some 14) (v := ?_) (a' := ?_) #[true, true, true, true, false, true, false, false, false] rfl rfl (by kernel_rfl) (fun _ _ _ h => h) (Or.inl ⟨by rfl, ?_⟩) hHeld ?_ ?_
      rotate_left
      · rintro w' ⟨s0, s1, s2, s3⟩
        go_simp
        with_reducible rfl
      rotate_left
      · simp only [Act.put, List.setIfInBounds_toArray, List.set_cons_zero, List.set_cons_succ, i64_w, i32_w]
        rfl
      refine take_ (i := 6) (N := some 17) (v := ?_) (a' := ?_) #[true, true, true, true, false, true, true, false, false] rfl rfl (by kernel_rfl) (fun _ _ _ h => h) (Or.inl ⟨by rfl, ?_⟩) hHeld ?_ ?_
      rotate_left
      · rintro w' ⟨s0, s1, s2, s3⟩
        go_simp
        with_reducible rfl
      rotate_left
      · simp only [Act.put, List.setIfInBounds_toArray, List.set_cons_zero, List.set_cons_succ, i64_w, i32_w]
        rfl
      refine one_ (i := 4) (N := some 15) #[true, true, true, true, true, true, true, false, false] rfl rfl (by kernel_rfl) (by decide) (fun K hK => ?_)
      refine goes_ Try.func37 (by kernel_rfl) rfl #[.slice A0 a.length c0, .slice A1 b.length c1] (by rfl) rfl rfl (by simp only [List.map_toArray, List.map_cons, List.map_nil]; first | done | rfl) ?_
      refine (bo_plus A0 A1 c0 c1 a b wd H04.out H14.out HA.out HB.out la lb).mono ?_
      rintro e w6 ⟨A, c, o, rfl, hu, hc1, hc2, hdg, hva, hol, hb6⟩
      refine ⟨_, rfl, ?_⟩
      have HU6 := Aside0.mk hu
      have HDG := Aside0.mk (And.intro hdg (And.intro hva (show o.length ≤ max a.length b.length + 1 by omega)))
      have HD06 := Aside0.mk (D0.out |> fun h => (hb6.block _ (blk_lt h)).trans h)
      have HD16 := Aside0.mk (D1.out |> fun h => (hb6.block _ (blk_lt h)).trans h)
      have HC6 := Aside0.mk (HC4.out |> fun h => (hb6.block _ (blk_lt h)).trans h)
      have B6 := Aside0.mk (below_step B4.out hb6)
      have HZ6 := Aside0.mk (Nat.le_trans HZ4.out hb6.size)
      refine hK.out _ _ (ba_held HD06.out HD16.out) (fun hHeld => ?_)
      clear hK K hu hdg hva hol hb6
      refine norm_ (a' := ?_) ?_ ?_
      rotate_left
      · show Act.put _ (some 15) _ = _
        simp only [Act.put, List.setIfInBounds_toArray, List.set_cons_zero, List.set_cons_succ, i64_w, i32_w]
        rfl
      refine one_ (i := 7) (N := some 18) #[true, true, true, true, true, true, true, true, false] rfl rfl (by kernel_rfl) (by decide) (fun K hK => ?_)
      refine goes_ Try.func36 (by kernel_rfl) rfl #[.slice A o.length c, .bool false] (by rfl) rfl rfl (by simp only [List.map_toArray, List.map_cons, List.map_nil]; first | done | rfl) ?_
      refine (bn_norm A c o false w6 HU6.out hc1 hc2).mono ?_
      rintro e w7 ⟨k, hk, rfl, hva7, htp7, hb7⟩
      refine ⟨_, rfl, ?_⟩
      have HD07 := Aside0.mk (HD06.out |> fun h => (hb7.block _ (blk_lt h)).trans h)
      have HD17 := Aside0.mk (HD16.out |> fun h => (hb7.block _ (blk_lt h)).trans h)
      have HC7 := Aside0.mk (HC6.out |> fun h => (hb7.block _ (blk_lt h)).trans h)
      have B7 := Aside0.mk (below_step B6.out hb7)
      have HZ7 := Aside0.mk (Nat.le_trans HZ6.out hb7.size)
      have HN7 := Aside0.mk (And.intro hk (And.intro hva7 htp7))
      have HU7 := Aside0.mk (HU6.out.below hb7)
      refine hK.out _ _ (ba_held HD07.out HD17.out) (fun hHeld => ?_)
      clear hK K hk hva7 htp7 hb7
      refine norm_ (a' := ?_) ?_ ?_
      rotate_left
      · show Act.put _ (some 18) _ = _
        simp only [Act.put, List.setIfInBounds_toArray, List.set_cons_zero, List.set_cons_succ, i64_w, i32_w]
        rfl
      refine last_ (i := 8) (N := none) #[true, true, true, true, true, true, true, true, true] rfl rfl (by kernel_rfl) (by decide) (fun K hK => ?_)
      have kc0 := (blk_cell HC7.out 0).trans rfl
      have kc1 := (blk_cell HC7.out 1).trans rfl
      have kf0 := blk_frozen HC7.out 0
      have kf1 := blk_frozen HC7.out 1
      go_simp
      refine hK.out _ _ ?_
      clear hK K
      refine done_ (by kernel_rfl) ?_
      clear hHeld
      go_wp2_with fail
      have s1 := tn_set w7 (w.heap.size + 1 + 1) 0 (.slice A k c)
      have s2 := s1.trans (tn_set _ (w.heap.size + 1 + 1) 1 (.bool (false)))
      refine bodyPost_ret (results_cell_row rfl _ _ (w.heap.size + 1 + 1) 47 #[.slice A k c, .bool (false)] (0, 0) _ rfl (blk_set (blk_set HC7.out 0 (.slice A k c)) 1 (.bool (false))) Try.underlying47 rfl (by kernel_rfl)) rfl ?_
      refine ⟨_, rfl, nm_end (HU7.out.apart HC7.out s2) HN7.out.1 hc1 hc2 HDG.out.1 HN7.out.2.2 HN7.out.2.1 false _ (by simp) _ (by rw [HDG.out.2.1]; simp; try omega) _ (by have := HDG.out.2.2; omega), Tn.below B7.out s2 (by have := HZ7.out; omega) (fun k q => by rcases q with rfl; omega)⟩
    · go_enter Try.func20, Try.ntmps20
      go_wp2_with fail
      obtain ⟨z0, z1, z2, z3, z4⟩ := ba_three w (.cells #[.slice A0 a.length c0, .bool true] 47) (.cells #[.slice A1 b.length c1, .bool true] 47) (.cells #[.slice none 0 0, .bool false] 47)
      generalize ((w.alloc (.cells #[.slice A0 a.length c0, .bool true] 47)).alloc (.cells #[.slice A1 b.length c1, .bool true] 47)).alloc (.cells #[.slice none 0 0, .bool false] 47) = w0 at z0 z1 z2 z3 z4 ⊢
      have HD0 := Aside0.mk z0
      have HD1 := Aside0.mk z1
      have HCR := Aside0.mk z2
      have HB0 := Aside0.mk z3
      have HZ0 := Aside0.mk z4
      clear z0 z1 z2 z3 z4
      refine start_ (n := 9) (S := fun w' => w'.cell? ⟨w.heap.size, 0, none⟩ = some (.slice A0 a.length c0) ∧ w'.cell? ⟨w.heap.size, 1, none⟩ = some (.bool true) ∧ w'.cell? ⟨w.heap.size + 1, 0, none⟩ = some (.slice A1 b.length c1) ∧ w'.cell? ⟨w.heap.size + 1, 1, none⟩ = some (.bool true)) (ds := [8]) #[false, false, false, false, false, false, false, false, false] (by kernel_rfl) rfl rfl (ba_held HD0.out HD1.out) (fun hHeld => ?_)
      have B4 := Aside0.mk (below_step HB0.out (below_drew1 (Below.refl w0.heap.size w0)))
      have BD := Aside0.mk (below_drew1 (Below.refl w0.heap.size w0))
      have H04 := Aside0.mk (H0.out.below B4.out)
      have H14 := Aside0.mk (H1.out.below B4.out)
      have HC4 := Aside0.mk (blk_drew HCR.out)
      have HZ4 := Aside0.mk HZ0.out
      have D0 := Aside0.mk (blk_drew HD0.out)
      have D1 := Aside0.mk (blk_drew HD1.out)
      rw [show w0.heap.size = w0.drew.heap.size from rfl] at HZ4
      generalize w0.drew = wd at hHeld B4 BD H04 H14 HC4 HZ4 D0 D1 ⊢
      refine pure_ (i := 0) (N := some 11) (v := ?_) (a' := ?_) #[true, false, false, false, false, false, false, false, false] rfl rfl (by kernel_rfl) (fun _ _ _ h => h) (Or.inl ⟨by rfl, ?_⟩) ?_ ?_
      rotate_left
      · intro w'
        go_simp
        with_reducible rfl
      rotate_left
      · simp only [Act.put, List.setIfInBounds_toArray, List.set_cons_zero, List.set_cons_succ, i64_w, i32_w]
        rfl
      refine pure_ (i := 2) (N := some 13) (v := ?_) (a' := ?_) #[true, false, true, false, false, false, false, false, false] rfl rfl (by kernel_rfl) (fun _ _ _ h => h) (Or.inl ⟨by rfl, ?_⟩) ?_ ?_
      rotate_left
      · intro w'
        go_simp
        with_reducible rfl
      rotate_left
      · simp only [Act.put, List.setIfInBounds_toArray, List.set_cons_zero, List.set_cons_succ, i64_w, i32_w]
        rfl
      refine pure_ (i := 5) (N := some 16) (v := ?_) (a' := ?_) #[true, false, true, false, false, true, false, false, false] rfl rfl (by kernel_rfl) (fun _ _ _ h => h) (Or.inl ⟨by rfl, ?_⟩) ?_ ?_
      rotate_left
      · intro w'
        go_simp
        with_reducible rfl
      rotate_left
      · simp only [Act.put, List.setIfInBounds_toArray, List.set_cons_zero, List.set_cons_succ, i64_w, i32_w]
        rfl
      refine take_ (i := 1) (N := some 12) (v := ?_) (a' := ?_) #[true, true, true, false, false, true, false, false, false] rfl rfl (by kernel_rfl) (fun _ _ _ h => h) (Or.inl ⟨by rfl, ?_⟩) hHeld ?_ ?_
      rotate_left
      · rintro w' ⟨s0, s1, s2, s3⟩
        go_simp
        with_reducible rfl
      rotate_left
      · simp only [Act.put, List.setIfInBounds_toArray, List.set_cons_zero, List.set_cons_succ, i64_w, i32_w]
        rfl
      refine take_ (i := 3) (N := some 14) (v := ?_) (a' := ?_) #[true, true, true, true, false, true, false, false, false] rfl rfl (by kernel_rfl) (fun _ _ _ h => h) (Or.inl ⟨by rfl, ?_⟩) hHeld ?_ ?_
      rotate_left
      · rintro w' ⟨s0, s1, s2, s3⟩
        go_simp
        with_reducible rfl
      rotate_left
      · simp only [Act.put, List.setIfInBounds_toArray, List.set_cons_zero, List.set_cons_succ, i64_w, i32_w]
        rfl
      refine take_ (i := 6) (N := some 17) (v := ?_) (a' := ?_) #[true, true, true, true, false, true, true, false, false] rfl rfl (by kernel_rfl) (fun _ _ _ h => h) (Or.inl ⟨by rfl, ?_⟩) hHeld ?_ ?_
      rotate_left
      · rintro w' ⟨s0, s1, s2, s3⟩
        go_simp
        with_reducible rfl
      rotate_left
      · simp only [Act.put, List.setIfInBounds_toArray, List.set_cons_zero, List.set_cons_succ, i64_w, i32_w]
        rfl
      refine one_ (i := 4) (N := some 15) #[true, true, true, true, true, true, true, false, false] rfl rfl (by kernel_rfl) (by decide) (fun K hK => ?_)
      refine goes_ Try.func37 (by kernel_rfl) rfl #[.slice A0 a.length c0, .slice A1 b.length c1] (by rfl) rfl rfl (by simp only [List.map_toArray, List.map_cons, List.map_nil]; first | done | rfl) ?_
      refine (bo_plus A0 A1 c0 c1 a b wd H04.out H14.out HA.out HB.out la lb).mono ?_
      rintro e w6 ⟨A, c, o, rfl, hu, hc1, hc2, hdg, hva, hol, hb6⟩
      refine ⟨_, rfl, ?_⟩
      have HU6 := Aside0.mk hu
      have HDG := Aside0.mk (And.intro hdg (And.intro hva (show o.length ≤ max a.length b.length + 1 by omega)))
      have HD06 := Aside0.mk (D0.out |> fun h => (hb6.block _ (blk_lt h)).trans h)
      have HD16 := Aside0.mk (D1.out |> fun h => (hb6.block _ (blk_lt h)).trans h)
      have HC6 := Aside0.mk (HC4.out |> fun h => (hb6.block _ (blk_lt h)).trans h)
      have B6 := Aside0.mk (below_step B4.out hb6)
      have HZ6 := Aside0.mk (Nat.le_trans HZ4.out hb6.size)
      refine hK.out _ _ (ba_held HD06.out HD16.out) (fun hHeld => ?_)
      clear hK K hu hdg hva hol hb6
      refine norm_ (a' := ?_) ?_ ?_
      rotate_left
      · show Act.put _ (some 15) _ = _
        simp only [Act.put, List.setIfInBounds_toArray, List.set_cons_zero, List.set_cons_succ, i64_w, i32_w]
        rfl
      refine one_ (i := 7) (N := some 18) #[true, true, true, true, true, true, true, true, false] rfl rfl (by kernel_rfl) (by decide) (fun K hK => ?_)
      refine goes_ Try.func36 (by kernel_rfl) rfl #[.slice A o.length c, .bool true] (by rfl) rfl rfl (by simp only [List.map_toArray, List.map_cons, List.map_nil]; first | done | rfl) ?_
      refine (bn_norm A c o true w6 HU6.out hc1 hc2).mono ?_
      rintro e w7 ⟨k, hk, rfl, hva7, htp7, hb7⟩
      refine ⟨_, rfl, ?_⟩
      have HD07 := Aside0.mk (HD06.out |> fun h => (hb7.block _ (blk_lt h)).trans h)
      have HD17 := Aside0.mk (HD16.out |> fun h => (hb7.block _ (blk_lt h)).trans h)
      have HC7 := Aside0.mk (HC6.out |> fun h => (hb7.block _ (blk_lt h)).trans h)
      have B7 := Aside0.mk (below_step B6.out hb7)
      have HZ7 := Aside0.mk (Nat.le_trans HZ6.out hb7.size)
      have HN7 := Aside0.mk (And.intro hk (And.intro hva7 htp7))
      have HU7 := Aside0.mk (HU6.out.below hb7)
      refine hK.out _ _ (ba_held HD07.out HD17.out) (fun hHeld => ?_)
      clear hK K hk hva7 htp7 hb7
      refine norm_ (a' := ?_) ?_ ?_
      rotate_left
      · show Act.put _ (some 18) _ = _
        simp only [Act.put, List.setIfInBounds_toArray, List.set_cons_zero, List.set_cons_succ, i64_w, i32_w]
        rfl
      refine last_ (i := 8) (N := none) #[true, true, true, true, true, true, true, true, true] rfl rfl (by kernel_rfl) (by decide) (fun K hK => ?_)
      have kc0 := (blk_cell HC7.out 0).trans rfl
      have kc1 := (blk_cell HC7.out 1).trans rfl
      have kf0 := blk_frozen HC7.out 0
      have kf1 := blk_frozen HC7.out 1
      go_simp
      refine hK.out _ _ ?_
      clear hK K
      refine done_ (by kernel_rfl) ?_
      clear hHeld
      go_wp2_with fail
      have s1 := tn_set w7 (w.heap.size + 1 + 1) 0 (.slice A k c)
      have s2 := s1.trans (tn_set _ (w.heap.size + 1 + 1) 1 (.bool (decide (0 < k))))
      refine bodyPost_ret (results_cell_row rfl _ _ (w.heap.size + 1 + 1) 47 #[.slice A k c, .bool (decide (0 < k))] (0, 0) _ rfl (blk_set (blk_set HC7.out 0 (.slice A k c)) 1 (.bool (decide (0 < k)))) Try.underlying47 rfl (by kernel_rfl)) rfl ?_
      refine ⟨_, rfl, nm_end (HU7.out.apart HC7.out s2) HN7.out.1 hc1 hc2 HDG.out.1 HN7.out.2.2 HN7.out.2.1 true _ (by simp) _ (by rw [HDG.out.2.1]; simp; try omega) _ (by have := HDG.out.2.2; omega), Tn.below B7.out s2 (by have := HZ7.out; omega) (fun k q => by rcases q with rfl; omega)⟩
  · have hms : (m0 = false ∧ m1 = true) ∨ (m0 = true ∧ m1 = false) := by cases m0 <;> cases m1 <;> simp at pm ⊢
    clear pm
    by_cases pl : va a < va b
    · have PL := Aside0.mk pl
      clear pl
      rcases hms with ⟨rfl, rfl⟩ | ⟨rfl, rfl⟩
      · go_enter Try.func20, Try.ntmps20
        go_wp2_with fail
        obtain ⟨z0, z1, z2, z3, z4⟩ := ba_three w (.cells #[.slice A0 a.length c0, .bool false] 47) (.cells #[.slice A1 b.length c1, .bool true] 47) (.cells #[.slice none 0 0, .bool false] 47)
        generalize ((w.alloc (.cells #[.slice A0 a.length c0, .bool false] 47)).alloc (.cells #[.slice A1 b.length c1, .bool true] 47)).alloc (.cells #[.slice none 0 0, .bool false] 47) = w0 at z0 z1 z2 z3 z4 ⊢
        have HD0 := Aside0.mk z0
        have HD1 := Aside0.mk z1
        have HCR := Aside0.mk z2
        have HB0 := Aside0.mk z3
        have HZ0 := Aside0.mk z4
        clear z0 z1 z2 z3 z4
        refine (bh_less A0 A1 c0 c1 a b w0 (H0.out.below HB0.out) (H1.out.below HB0.out) HA.out HB.out TA.out TB.out la lb).mono ?_
        rintro e wl ⟨rfl, hbl⟩
        replace HD0 := Aside0.mk (HD0.out |> fun h => (hbl.block _ (blk_lt h)).trans h)
        replace HD1 := Aside0.mk (HD1.out |> fun h => (hbl.block _ (blk_lt h)).trans h)
        replace HCR := Aside0.mk (HCR.out |> fun h => (hbl.block _ (blk_lt h)).trans h)
        replace HB0 := Aside0.mk (below_step HB0.out hbl)
        replace HZ0 := Aside0.mk (Nat.lt_of_lt_of_le HZ0.out hbl.size)
        clear hbl
        rw [decide_eq_true PL.out]
        go_wp2_with fail
        refine start_ (n := 9) (S := fun w' => w'.cell? ⟨w.heap.size, 0, none⟩ = some (.slice A0 a.length c0) ∧ w'.cell? ⟨w.heap.size, 1, none⟩ = some (.bool false) ∧ w'.cell? ⟨w.heap.size + 1, 0, none⟩ = some (.slice A1 b.length c1) ∧ w'.cell? ⟨w.heap.size + 1, 1, none⟩ = some (.bool true)) (ds := [8]) #[false, false, false, false, false, false, false, false, false] (by kernel_rfl) rfl rfl (ba_held HD0.out HD1.out) (fun hHeld => ?_)
        have B4 := Aside0.mk (below_step HB0.out (below_drew1 (Below.refl wl.heap.size wl)))
        have BD := Aside0.mk (below_drew1 (Below.refl wl.heap.size wl))
        have H04 := Aside0.mk (H0.out.below B4.out)
        have H14 := Aside0.mk (H1.out.below B4.out)
        have HC4 := Aside0.mk (blk_drew HCR.out)
        have HZ4 := Aside0.mk HZ0.out
        have D0 := Aside0.mk (blk_drew HD0.out)
        have D1 := Aside0.mk (blk_drew HD1.out)
        rw [show wl.heap.size = wl.drew.heap.size from rfl] at HZ4
        generalize wl.drew = wd at hHeld B4 BD H04 H14 HC4 HZ4 D0 D1 ⊢
        refine pure_ (i := 0) (N := some 25) (v := ?_) (a' := ?_) #[true, false, false, false, false, false, false, false, false] rfl rfl (by kernel_rfl) (fun _ _ _ h => h) (Or.inl ⟨by rfl, ?_⟩) ?_ ?_
        rotate_left
        · intro w'
          go_simp
          with_reducible rfl
        rotate_left
        · simp only [Act.put, List.setIfInBounds_toArray, List.set_cons_zero, List.set_cons_succ, i64_w, i32_w]
          rfl
        refine pure_ (i := 2) (N := some 27) (v := ?_) (a' := ?_) #[true, false, true, false, false, false, false, false, false] rfl rfl (by kernel_rfl) (fun _ _ _ h => h) (Or.inl ⟨by rfl, ?_⟩) ?_ ?_
        rotate_left
        · intro w'
          go_simp
          with_reducible rfl
        rotate_left
        · simp only [Act.put, List.setIfInBounds_toArray, List.set_cons_zero, List.set_cons_succ, i64_w, i32_w]
          rfl
        refine pure_ (i := 5) (N := some 30) (v := ?_) (a' := ?_) #[true, false, true, false, false, true, false, false, false] rfl rfl (by kernel_rfl) (fun _ _ _ h => h) (Or.inl ⟨by rfl, ?_⟩) ?_ ?_
        rotate_left
        · intro w'
          go_simp
          with_reducible rfl
        rotate_left
        · simp only [Act.put, List.setIfInBounds_toArray, List.set_cons_zero, List.set_cons_succ, i64_w, i32_w]
          rfl
        refine take_ (i := 1) (N := some 26) (v := ?_) (a' := ?_) #[true, true, true, false, false, true, false, false, false] rfl rfl (by kernel_rfl) (fun _ _ _ h => h) (Or.inl ⟨by rfl, ?_⟩) hHeld ?_ ?_
        rotate_left
        · rintro w' ⟨s0, s1, s2, s3⟩
          go_simp
          with_reducible rfl
        rotate_left
        · simp only [Act.put, List.setIfInBounds_toArray, List.set_cons_zero, List.set_cons_succ, i64_w, i32_w]
          rfl
        refine take_ (i := 3) (N := some 28) (v := ?_) (a' := ?_) #[true, true, true, true, false, true, false, false, false] rfl rfl (by kernel_rfl) (fun _ _ _ h => h) (Or.inl ⟨by rfl, ?_⟩) hHeld ?_ ?_
        rotate_left
        · rintro w' ⟨s0, s1, s2, s3⟩
          go_simp
          with_reducible rfl
        rotate_left
        · simp only [Act.put, List.setIfInBounds_toArray, List.set_cons_zero, List.set_cons_succ, i64_w, i32_w]
          rfl
        refine take_ (i := 6) (N := some 31) (v := ?_) (a' := ?_) #[true, true, true, true, false, true, true, false, false] rfl rfl (by kernel_rfl) (fun _ _ _ h => h) (Or.inl ⟨by rfl, ?_⟩) hHeld ?_ ?_
        rotate_left
        · rintro w' ⟨s0, s1, s2, s3⟩
          go_simp
          with_reducible rfl
        rotate_left
        · simp only [Act.put, List.setIfInBounds_toArray, List.set_cons_zero, List.set_cons_succ, i64_w, i32_w]
          rfl
        refine one_ (i := 4) (N := some 29) #[true, true, true, true, true, true, true, false, false] rfl rfl (by kernel_rfl) (by decide) (fun K hK => ?_)
        refine goes_ Try.func39 (by kernel_rfl) rfl #[.slice A1 b.length c1, .slice A0 a.length c0] (by rfl) rfl rfl (by simp only [List.map_toArray, List.map_cons, List.map_nil]; first | done | rfl) ?_
        refine (bi_minus A1 A0 c1 c0 b a wd H14.out H04.out HB.out HA.out lb (va_le_len HA.out HB.out TA.out (by have := PL.out; omega)) (by have := PL.out; omega)).mono ?_
        rintro e w6 ⟨A, c, o, rfl, hu, hc1, hc2, hdg, htp0, hva, hol, hb6⟩
        refine ⟨_, rfl, ?_⟩
        have HU6 := Aside0.mk hu
        have HDG := Aside0.mk (And.intro hdg (And.intro hva (show o.length ≤ max a.length b.length + 1 by omega)))
        have HD06 := Aside0.mk (D0.out |> fun h => (hb6.block _ (blk_lt h)).trans h)
        have HD16 := Aside0.mk (D1.out |> fun h => (hb6.block _ (blk_lt h)).trans h)
        have HC6 := Aside0.mk (HC4.out |> fun h => (hb6.block _ (blk_lt h)).trans h)
        have B6 := Aside0.mk (below_step B4.out hb6)
        have HZ6 := Aside0.mk (Nat.le_trans HZ4.out hb6.size)
        refine hK.out _ _ (ba_held HD06.out HD16.out) (fun hHeld => ?_)
        clear hK K hu hdg hva hol hb6
        refine norm_ (a' := ?_) ?_ ?_
        rotate_left
        · show Act.put _ (some 29) _ = _
          simp only [Act.put, List.setIfInBounds_toArray, List.set_cons_zero, List.set_cons_succ, i64_w, i32_w]
          rfl
        refine one_ (i := 7) (N := some 32) #[true, true, true, true, true, true, true, true, false] rfl rfl (by kernel_rfl) (by decide) (fun K hK => ?_)
        refine goes_ Try.func36 (by kernel_rfl) rfl #[.slice A o.length c, .bool true] (by rfl) rfl rfl (by simp only [List.map_toArray, List.map_cons, List.map_nil]; first | done | rfl) ?_
        refine (bn_norm A c o true w6 HU6.out hc1 hc2).mono ?_
        rintro e w7 ⟨k, hk, rfl, hva7, htp7, hb7⟩
        refine ⟨_, rfl, ?_⟩
        have HD07 := Aside0.mk (HD06.out |> fun h => (hb7.block _ (blk_lt h)).trans h)
        have HD17 := Aside0.mk (HD16.out |> fun h => (hb7.block _ (blk_lt h)).trans h)
        have HC7 := Aside0.mk (HC6.out |> fun h => (hb7.block _ (blk_lt h)).trans h)
        have B7 := Aside0.mk (below_step B6.out hb7)
        have HZ7 := Aside0.mk (Nat.le_trans HZ6.out hb7.size)
        have HN7 := Aside0.mk (And.intro hk (And.intro hva7 htp7))
        have HU7 := Aside0.mk (HU6.out.below hb7)
        refine hK.out _ _ (ba_held HD07.out HD17.out) (fun hHeld => ?_)
        clear hK K hk hva7 htp7 hb7
        refine norm_ (a' := ?_) ?_ ?_
        rotate_left
        · show Act.put _ (some 32) _ = _
          simp only [Act.put, List.setIfInBounds_toArray, List.set_cons_zero, List.set_cons_succ, i64_w, i32_w]
          rfl
        refine last_ (i := 8) (N := none) #[true, true, true, true, true, true, true, true, true] rfl rfl (by kernel_rfl) (by decide) (fun K hK => ?_)
        have kc0 := (blk_cell HC7.out 0).trans rfl
        have kc1 := (blk_cell HC7.out 1).trans rfl
        have kf0 := blk_frozen HC7.out 0
        have kf1 := blk_frozen HC7.out 1
        go_simp
        refine hK.out _ _ ?_
        clear hK K
        refine done_ (by kernel_rfl) ?_
        clear hHeld
        go_wp2_with fail
        have s1 := tn_set w7 (w.heap.size + 1 + 1) 0 (.slice A k c)
        have s2 := s1.trans (tn_set _ (w.heap.size + 1 + 1) 1 (.bool (decide (0 < k))))
        refine bodyPost_ret (results_cell_row rfl _ _ (w.heap.size + 1 + 1) 47 #[.slice A k c, .bool (decide (0 < k))] (0, 0) _ rfl (blk_set (blk_set HC7.out 0 (.slice A k c)) 1 (.bool (decide (0 < k)))) Try.underlying47 rfl (by kernel_rfl)) rfl ?_
        refine ⟨_, rfl, nm_end (HU7.out.apart HC7.out s2) HN7.out.1 hc1 hc2 HDG.out.1 HN7.out.2.2 HN7.out.2.1 true _ (by simp) _ (by rw [HDG.out.2.1]; simp; try omega) _ (by have := HDG.out.2.2; omega), Tn.below B7.out s2 (by have := HZ7.out; omega) (fun k q => by rcases q with rfl; omega)⟩
      · go_enter Try.func20, Try.ntmps20
        go_wp2_with fail
        obtain ⟨z0, z1, z2, z3, z4⟩ := ba_three w (.cells #[.slice A0 a.length c0, .bool true] 47) (.cells #[.slice A1 b.length c1, .bool false] 47) (.cells #[.slice none 0 0, .bool false] 47)
        generalize ((w.alloc (.cells #[.slice A0 a.length c0, .bool true] 47)).alloc (.cells #[.slice A1 b.length c1, .bool false] 47)).alloc (.cells #[.slice none 0 0, .bool false] 47) = w0 at z0 z1 z2 z3 z4 ⊢
        have HD0 := Aside0.mk z0
        have HD1 := Aside0.mk z1
        have HCR := Aside0.mk z2
        have HB0 := Aside0.mk z3
        have HZ0 := Aside0.mk z4
        clear z0 z1 z2 z3 z4
        refine (bh_less A0 A1 c0 c1 a b w0 (H0.out.below HB0.out) (H1.out.below HB0.out) HA.out HB.out TA.out TB.out la lb).mono ?_
        rintro e wl ⟨rfl, hbl⟩
        replace HD0 := Aside0.mk (HD0.out |> fun h => (hbl.block _ (blk_lt h)).trans h)
        replace HD1 := Aside0.mk (HD1.out |> fun h => (hbl.block _ (blk_lt h)).trans h)
        replace HCR := Aside0.mk (HCR.out |> fun h => (hbl.block _ (blk_lt h)).trans h)
        replace HB0 := Aside0.mk (below_step HB0.out hbl)
        replace HZ0 := Aside0.mk (Nat.lt_of_lt_of_le HZ0.out hbl.size)
        clear hbl
        rw [decide_eq_true PL.out]
        go_wp2_with fail
        refine start_ (n := 9) (S := fun w' => w'.cell? ⟨w.heap.size, 0, none⟩ = some (.slice A0 a.length c0) ∧ w'.cell? ⟨w.heap.size, 1, none⟩ = some (.bool true) ∧ w'.cell? ⟨w.heap.size + 1, 0, none⟩ = some (.slice A1 b.length c1) ∧ w'.cell? ⟨w.heap.size + 1, 1, none⟩ = some (.bool false)) (ds := [8]) #[false, false, false, false, false, false, false, false, false] (by kernel_rfl) rfl rfl (ba_held HD0.out HD1.out) (fun hHeld => ?_)
        have B4 := Aside0.mk (below_step HB0.out (below_drew1 (Below.refl wl.heap.size wl)))
        have BD := Aside0.mk (below_drew1 (Below.refl wl.heap.size wl))
        have H04 := Aside0.mk (H0.out.below B4.out)
        have H14 := Aside0.mk (H1.out.below B4.out)
        have HC4 := Aside0.mk (blk_drew HCR.out)
        have HZ4 := Aside0.mk HZ0.out
        have D0 := Aside0.mk (blk_drew HD0.out)
        have D1 := Aside0.mk (blk_drew HD1.out)
        rw [show wl.heap.size = wl.drew.heap.size from rfl] at HZ4
        generalize wl.drew = wd at hHeld B4 BD H04 H14 HC4 HZ4 D0 D1 ⊢
        refine pure_ (i := 0) (N := some 25) (v := ?_) (a' := ?_) #[true, false, false, false, false, false, false, false, false] rfl rfl (by kernel_rfl) (fun _ _ _ h => h) (Or.inl ⟨by rfl, ?_⟩) ?_ ?_
        rotate_left
        · intro w'
          go_simp
          with_reducible rfl
        rotate_left
        · simp only [Act.put, List.setIfInBounds_toArray, List.set_cons_zero, List.set_cons_succ, i64_w, i32_w]
          rfl
        refine pure_ (i := 2) (N := some 27) (v := ?_) (a' := ?_) #[true, false, true, false, false, false, false, false, false] rfl rfl (by kernel_rfl) (fun _ _ _ h => h) (Or.inl ⟨by rfl, ?_⟩) ?_ ?_
        rotate_left
        · intro w'
          go_simp
          with_reducible rfl
        rotate_left
        · simp only [Act.put, List.setIfInBounds_toArray, List.set_cons_zero, List.set_cons_succ, i64_w, i32_w]
          rfl
        refine pure_ (i := 5) (N := some 30) (v := ?_) (a' := ?_) #[true, false, true, false, false, true, false, false, false] rfl rfl (by kernel_rfl) (fun _ _ _ h => h) (Or.inl ⟨by rfl, ?_⟩) ?_ ?_
        rotate_left
        · intro w'
          go_simp
          with_reducible rfl
        rotate_left
        · simp only [Act.put, List.setIfInBounds_toArray, List.set_cons_zero, List.set_cons_succ, i64_w, i32_w]
          rfl
        refine take_ (i := 1) (N := some 26) (v := ?_) (a' := ?_) #[true, true, true, false, false, true, false, false, false] rfl rfl (by kernel_rfl) (fun _ _ _ h => h) (Or.inl ⟨by rfl, ?_⟩) hHeld ?_ ?_
        rotate_left
        · rintro w' ⟨s0, s1, s2, s3⟩
          go_simp
          with_reducible rfl
        rotate_left
        · simp only [Act.put, List.setIfInBounds_toArray, List.set_cons_zero, List.set_cons_succ, i64_w, i32_w]
          rfl
        refine take_ (i := 3) (N := some 28) (v := ?_) (a' := ?_) #[true, true, true, true, false, true, false, false, false] rfl rfl (by kernel_rfl) (fun _ _ _ h => h) (Or.inl ⟨by rfl, ?_⟩) hHeld ?_ ?_
        rotate_left
        · rintro w' ⟨s0, s1, s2, s3⟩
          go_simp
          with_reducible rfl
        rotate_left
        · simp only [Act.put, List.setIfInBounds_toArray, List.set_cons_zero, List.set_cons_succ, i64_w, i32_w]
          rfl
        refine take_ (i := 6) (N := some 31) (v := ?_) (a' := ?_) #[true, true, true, true, false, true, true, false, false] rfl rfl (by kernel_rfl) (fun _ _ _ h => h) (Or.inl ⟨by rfl, ?_⟩) hHeld ?_ ?_
        rotate_left
        · rintro w' ⟨s0, s1, s2, s3⟩
          go_simp
          with_reducible rfl
        rotate_left
        · simp only [Act.put, List.setIfInBounds_toArray, List.set_cons_zero, List.set_cons_succ, i64_w, i32_w]
          rfl
        refine one_ (i := 4) (N := some 29) #[true, true, true, true, true, true, true, false, false] rfl rfl (by kernel_rfl) (by decide) (fun K hK => ?_)
        refine goes_ Try.func39 (by kernel_rfl) rfl #[.slice A1 b.length c1, .slice A0 a.length c0] (by rfl) rfl rfl (by simp only [List.map_toArray, List.map_cons, List.map_nil]; first | done | rfl) ?_
        refine (bi_minus A1 A0 c1 c0 b a wd H14.out H04.out HB.out HA.out lb (va_le_len HA.out HB.out TA.out (by have := PL.out; omega)) (by have := PL.out; omega)).mono ?_
        rintro e w6 ⟨A, c, o, rfl, hu, hc1, hc2, hdg, htp0, hva, hol, hb6⟩
        refine ⟨_, rfl, ?_⟩
        have HU6 := Aside0.mk hu
        have HDG := Aside0.mk (And.intro hdg (And.intro hva (show o.length ≤ max a.length b.length + 1 by omega)))
        have HD06 := Aside0.mk (D0.out |> fun h => (hb6.block _ (blk_lt h)).trans h)
        have HD16 := Aside0.mk (D1.out |> fun h => (hb6.block _ (blk_lt h)).trans h)
        have HC6 := Aside0.mk (HC4.out |> fun h => (hb6.block _ (blk_lt h)).trans h)
        have B6 := Aside0.mk (below_step B4.out hb6)
        have HZ6 := Aside0.mk (Nat.le_trans HZ4.out hb6.size)
        refine hK.out _ _ (ba_held HD06.out HD16.out) (fun hHeld => ?_)
        clear hK K hu hdg hva hol hb6
        refine norm_ (a' := ?_) ?_ ?_
        rotate_left
        · show Act.put _ (some 29) _ = _
          simp only [Act.put, List.setIfInBounds_toArray, List.set_cons_zero, List.set_cons_succ, i64_w, i32_w]
          rfl
        refine one_ (i := 7) (N := some 32) #[true, true, true, true, true, true, true, true, false] rfl rfl (by kernel_rfl) (by decide) (fun K hK => ?_)
        refine goes_ Try.func36 (by kernel_rfl) rfl #[.slice A o.length c, .bool false] (by rfl) rfl rfl (by simp only [List.map_toArray, List.map_cons, List.map_nil]; first | done | rfl) ?_
        refine (bn_norm A c o false w6 HU6.out hc1 hc2).mono ?_
        rintro e w7 ⟨k, hk, rfl, hva7, htp7, hb7⟩
        refine ⟨_, rfl, ?_⟩
        have HD07 := Aside0.mk (HD06.out |> fun h => (hb7.block _ (blk_lt h)).trans h)
        have HD17 := Aside0.mk (HD16.out |> fun h => (hb7.block _ (blk_lt h)).trans h)
        have HC7 := Aside0.mk (HC6.out |> fun h => (hb7.block _ (blk_lt h)).trans h)
        have B7 := Aside0.mk (below_step B6.out hb7)
        have HZ7 := Aside0.mk (Nat.le_trans HZ6.out hb7.size)
        have HN7 := Aside0.mk (And.intro hk (And.intro hva7 htp7))
        have HU7 := Aside0.mk (HU6.out.below hb7)
        refine hK.out _ _ (ba_held HD07.out HD17.out) (fun hHeld => ?_)
        clear hK K hk hva7 htp7 hb7
        refine norm_ (a' := ?_) ?_ ?_
        rotate_left
        · show Act.put _ (some 32) _ = _
          simp only [Act.put, List.setIfInBounds_toArray, List.set_cons_zero, List.set_cons_succ, i64_w, i32_w]
          rfl
        refine last_ (i := 8) (N := none) #[true, true, true, true, true, true, true, true, true] rfl rfl (by kernel_rfl) (by decide) (fun K hK => ?_)
        have kc0 := (blk_cell HC7.out 0).trans rfl
        have kc1 := (blk_cell HC7.out 1).trans rfl
        have kf0 := blk_frozen HC7.out 0
        have kf1 := blk_frozen HC7.out 1
        go_simp
        refine hK.out _ _ ?_
        clear hK K
        refine done_ (by kernel_rfl) ?_
        clear hHeld
        go_wp2_with fail
        have s1 := tn_set w7 (w.heap.size + 1 + 1) 0 (.slice A k c)
        have s2 := s1.trans (tn_set _ (w.heap.size + 1 + 1) 1 (.bool (false)))
        refine bodyPost_ret (results_cell_row rfl _ _ (w.heap.size + 1 + 1) 47 #[.slice A k c, .bool (false)] (0, 0) _ rfl (blk_set (blk_set HC7.out 0 (.slice A k c)) 1 (.bool (false))) Try.underlying47 rfl (by kernel_rfl)) rfl ?_
        refine ⟨_, rfl, nm_end (HU7.out.apart HC7.out s2) HN7.out.1 hc1 hc2 HDG.out.1 HN7.out.2.2 HN7.out.2.1 false _ (by simp) _ (by rw [HDG.out.2.1]; simp; try omega) _ (by have := HDG.out.2.2; omega), Tn.below B7.out s2 (by have := HZ7.out; omega) (fun k q => by rcases q with rfl; omega)⟩
    · have PL := Aside0.mk pl
      clear pl
      rcases hms with ⟨rfl, rfl⟩ | ⟨rfl, rfl⟩
      · go_enter Try.func20, Try.ntmps20
        go_wp2_with fail
        obtain ⟨z0, z1, z2, z3, z4⟩ := ba_three w (.cells #[.slice A0 a.length c0, .bool false] 47) (.cells #[.slice A1 b.length c1, .bool true] 47) (.cells #[.slice none 0 0, .bool false] 47)
        generalize ((w.alloc (.cells #[.slice A0 a.length c0, .bool false] 47)).alloc (.cells #[.slice A1 b.length c1, .bool true] 47)).alloc (.cells #[.slice none 0 0, .bool false] 47) = w0 at z0 z1 z2 z3 z4 ⊢
        have HD0 := Aside0.mk z0
        have HD1 := Aside0.mk z1
        have HCR := Aside0.mk z2
        have HB0 := Aside0.mk z3
        have HZ0 := Aside0.mk z4
        clear z0 z1 z2 z3 z4
        refine (bh_less A0 A1 c0 c1 a b w0 (H0.out.below HB0.out) (H1.out.below HB0.out) HA.out HB.out TA.out TB.out la lb).mono ?_
        rintro e wl ⟨rfl, hbl⟩
        replace HD0 := Aside0.mk (HD0.out |> fun h => (hbl.block _ (blk_lt h)).trans h)
        replace HD1 := Aside0.mk (HD1.out |> fun h => (hbl.block _ (blk_lt h)).trans h)
        replace HCR := Aside0.mk (HCR.out |> fun h => (hbl.block _ (blk_lt h)).trans h)
        replace HB0 := Aside0.mk (below_step HB0.out hbl)
        replace HZ0 := Aside0.mk (Nat.lt_of_lt_of_le HZ0.out hbl.size)
        clear hbl
        rw [show decide (va a < va b) = false from decide_eq_false (by have := PL.out; omega)]
        go_wp2_with fail
        refine start_ (n := 9) (S := fun w' => w'.cell? ⟨w.heap.size, 0, none⟩ = some (.slice A0 a.length c0) ∧ w'.cell? ⟨w.heap.size, 1, none⟩ = some (.bool false) ∧ w'.cell? ⟨w.heap.size + 1, 0, none⟩ = some (.slice A1 b.length c1) ∧ w'.cell? ⟨w.heap.size + 1, 1, none⟩ = some (.bool true)) (ds := [8]) #[false, false, false, false, false, false, false, false, false] (by kernel_rfl) rfl rfl (ba_held HD0.out HD1.out) (fun hHeld => ?_)
        have B4 := Aside0.mk (below_step HB0.out (below_drew1 (Below.refl wl.heap.size wl)))
        have BD := Aside0.mk (below_drew1 (Below.refl wl.heap.size wl))
        have H04 := Aside0.mk (H0.out.below B4.out)
        have H14 := Aside0.mk (H1.out.below B4.out)
        have HC4 := Aside0.mk (blk_drew HCR.out)
        have HZ4 := Aside0.mk HZ0.out
        have D0 := Aside0.mk (blk_drew HD0.out)
        have D1 := Aside0.mk (blk_drew HD1.out)
        rw [show wl.heap.size = wl.drew.heap.size from rfl] at HZ4
        generalize wl.drew = wd at hHeld B4 BD H04 H14 HC4 HZ4 D0 D1 ⊢
        refine pure_ (i := 0) (N := some 33) (v := ?_) (a' := ?_) #[true, false, false, false, false, false, false, false, false] rfl rfl (by kernel_rfl) (fun _ _ _ h => h) (Or.inl ⟨by rfl, ?_⟩) ?_ ?_
        rotate_left
        · intro w'
          go_simp
          with_reducible rfl
        rotate_left
        · simp only [Act.put, List.setIfInBounds_toArray, List.set_cons_zero, List.set_cons_succ, i64_w, i32_w]
          rfl
        refine pure_ (i := 2) (N := some 35) (v := ?_) (a' := ?_) #[true, false, true, false, false, false, false, false, false] rfl rfl (by kernel_rfl) (fun _ _ _ h => h) (Or.inl ⟨by rfl, ?_⟩) ?_ ?_
        rotate_left
        · intro w'
          go_simp
          with_reducible rfl
        rotate_left
        · simp only [Act.put, List.setIfInBounds_toArray, List.set_cons_zero, List.set_cons_succ, i64_w, i32_w]
          rfl
        refine pure_ (i := 5) (N := some 38) (v := ?_) (a' := ?_) #[true, false, true, false, false, true, false, false, false] rfl rfl (by kernel_rfl) (fun _ _ _ h => h) (Or.inl ⟨by rfl, ?_⟩) ?_ ?_
        rotate_left
        · intro w'
          go_simp
          with_reducible rfl
        rotate_left
        · simp only [Act.put, List.setIfInBounds_toArray, List.set_cons_zero, List.set_cons_succ, i64_w, i32_w]
          rfl
        refine take_ (i := 1) (N := some 34) (v := ?_) (a' := ?_) #[true, true, true, false, false, true, false, false, false] rfl rfl (by kernel_rfl) (fun _ _ _ h => h) (Or.inl ⟨by rfl, ?_⟩) hHeld ?_ ?_
        rotate_left
        · rintro w' ⟨s0, s1, s2, s3⟩
          go_simp
          with_reducible rfl
        rotate_left
        · simp only [Act.put, List.setIfInBounds_toArray, List.set_cons_zero, List.set_cons_succ, i64_w, i32_w]
          rfl
        refine take_ (i := 3) (N := some 36) (v := ?_) (a' := ?_) #[true, true, true, true, false, true, false, false, false] rfl rfl (by kernel_rfl) (fun _ _ _ h => h) (Or.inl ⟨by rfl, ?_⟩) hHeld ?_ ?_
        rotate_left
        · rintro w' ⟨s0, s1, s2, s3⟩
          go_simp
          with_reducible rfl
        rotate_left
        · simp only [Act.put, List.setIfInBounds_toArray, List.set_cons_zero, List.set_cons_succ, i64_w, i32_w]
          rfl
        refine take_ (i := 6) (N := some 39) (v := ?_) (a' := ?_) #[true, true, true, true, false, true, true, false, false] rfl rfl (by kernel_rfl) (fun _ _ _ h => h) (Or.inl ⟨by rfl, ?_⟩) hHeld ?_ ?_
        rotate_left
        · rintro w' ⟨s0, s1, s2, s3⟩
          go_simp
          with_reducible rfl
        rotate_left
        · simp only [Act.put, List.setIfInBounds_toArray, List.set_cons_zero, List.set_cons_succ, i64_w, i32_w]
          rfl
        refine one_ (i := 4) (N := some 37) #[true, true, true, true, true, true, true, false, false] rfl rfl (by kernel_rfl) (by decide) (fun K hK => ?_)
        refine goes_ Try.func39 (by kernel_rfl) rfl #[.slice A0 a.length c0, .slice A1 b.length c1] (by rfl) rfl rfl (by simp only [List.map_toArray, List.map_cons, List.map_nil]; first | done | rfl) ?_
        refine (bi_minus A0 A1 c0 c1 a b wd H04.out H14.out HA.out HB.out la (va_le_len HB.out HA.out TB.out (by have := PL.out; omega)) (by have := PL.out; omega)).mono ?_
        rintro e w6 ⟨A, c, o, rfl, hu, hc1, hc2, hdg, htp0, hva, hol, hb6⟩
        refine ⟨_, rfl, ?_⟩
        have HU6 := Aside0.mk hu
        have HDG := Aside0.mk (And.intro hdg (And.intro hva (show o.length ≤ max a.length b.length + 1 by omega)))
        have HD06 := Aside0.mk (D0.out |> fun h => (hb6.block _ (blk_lt h)).trans h)
        have HD16 := Aside0.mk (D1.out |> fun h => (hb6.block _ (blk_lt h)).trans h)
        have HC6 := Aside0.mk (HC4.out |> fun h => (hb6.block _ (blk_lt h)).trans h)
        have B6 := Aside0.mk (below_step B4.out hb6)
        have HZ6 := Aside0.mk (Nat.le_trans HZ4.out hb6.size)
        refine hK.out _ _ (ba_held HD06.out HD16.out) (fun hHeld => ?_)
        clear hK K hu hdg hva hol hb6
        refine norm_ (a' := ?_) ?_ ?_
        rotate_left
        · show Act.put _ (some 37) _ = _
          simp only [Act.put, List.setIfInBounds_toArray, List.set_cons_zero, List.set_cons_succ, i64_w, i32_w]
          rfl
        refine one_ (i := 7) (N := some 40) #[true, true, true, true, true, true, true, true, false] rfl rfl (by kernel_rfl) (by decide) (fun K hK => ?_)
        refine goes_ Try.func36 (by kernel_rfl) rfl #[.slice A o.length c, .bool false] (by rfl) rfl rfl (by simp only [List.map_toArray, List.map_cons, List.map_nil]; first | done | rfl) ?_
        refine (bn_norm A c o false w6 HU6.out hc1 hc2).mono ?_
        rintro e w7 ⟨k, hk, rfl, hva7, htp7, hb7⟩
        refine ⟨_, rfl, ?_⟩
        have HD07 := Aside0.mk (HD06.out |> fun h => (hb7.block _ (blk_lt h)).trans h)
        have HD17 := Aside0.mk (HD16.out |> fun h => (hb7.block _ (blk_lt h)).trans h)
        have HC7 := Aside0.mk (HC6.out |> fun h => (hb7.block _ (blk_lt h)).trans h)
        have B7 := Aside0.mk (below_step B6.out hb7)
        have HZ7 := Aside0.mk (Nat.le_trans HZ6.out hb7.size)
        have HN7 := Aside0.mk (And.intro hk (And.intro hva7 htp7))
        have HU7 := Aside0.mk (HU6.out.below hb7)
        refine hK.out _ _ (ba_held HD07.out HD17.out) (fun hHeld => ?_)
        clear hK K hk hva7 htp7 hb7
        refine norm_ (a' := ?_) ?_ ?_
        rotate_left
        · show Act.put _ (some 40) _ = _
          simp only [Act.put, List.setIfInBounds_toArray, List.set_cons_zero, List.set_cons_succ, i64_w, i32_w]
          rfl
        refine last_ (i := 8) (N := none) #[true, true, true, true, true, true, true, true, true] rfl rfl (by kernel_rfl) (by decide) (fun K hK => ?_)
        have kc0 := (blk_cell HC7.out 0).trans rfl
        have kc1 := (blk_cell HC7.out 1).trans rfl
        have kf0 := blk_frozen HC7.out 0
        have kf1 := blk_frozen HC7.out 1
        go_simp
        refine hK.out _ _ ?_
        clear hK K
        refine done_ (by kernel_rfl) ?_
        clear hHeld
        go_wp2_with fail
        have s1 := tn_set w7 (w.heap.size + 1 + 1) 0 (.slice A k c)
        have s2 := s1.trans (tn_set _ (w.heap.size + 1 + 1) 1 (.bool (false)))
        refine bodyPost_ret (results_cell_row rfl _ _ (w.heap.size + 1 + 1) 47 #[.slice A k c, .bool (false)] (0, 0) _ rfl (blk_set (blk_set HC7.out 0 (.slice A k c)) 1 (.bool (false))) Try.underlying47 rfl (by kernel_rfl)) rfl ?_
        refine ⟨_, rfl, nm_end (HU7.out.apart HC7.out s2) HN7.out.1 hc1 hc2 HDG.out.1 HN7.out.2.2 HN7.out.2.1 false _ (by simp) _ (by rw [HDG.out.2.1]; simp; try omega) _ (by have := HDG.out.2.2; omega), Tn.below B7.out s2 (by have := HZ7.out; omega) (fun k q => by rcases q with rfl; omega)⟩
      · go_enter Try.func20, Try.ntmps20
        go_wp2_with fail
        obtain ⟨z0, z1, z2, z3, z4⟩ := ba_three w (.cells #[.slice A0 a.length c0, .bool true] 47) (.cells #[.slice A1 b.length c1, .bool false] 47) (.cells #[.slice none 0 0, .bool false] 47)
        generalize ((w.alloc (.cells #[.slice A0 a.length c0, .bool true] 47)).alloc (.cells #[.slice A1 b.length c1, .bool false] 47)).alloc (.cells #[.slice none 0 0, .bool false] 47) = w0 at z0 z1 z2 z3 z4 ⊢
        have HD0 := Aside0.mk z0
        have HD1 := Aside0.mk z1
        have HCR := Aside0.mk z2
        have HB0 := Aside0.mk z3
        have HZ0 := Aside0.mk z4
        clear z0 z1 z2 z3 z4
        refine (bh_less A0 A1 c0 c1 a b w0 (H0.out.below HB0.out) (H1.out.below HB0.out) HA.out HB.out TA.out TB.out la lb).mono ?_
        rintro e wl ⟨rfl, hbl⟩
        replace HD0 := Aside0.mk (HD0.out |> fun h => (hbl.block _ (blk_lt h)).trans h)
        replace HD1 := Aside0.mk (HD1.out |> fun h => (hbl.block _ (blk_lt h)).trans h)
        replace HCR := Aside0.mk (HCR.out |> fun h => (hbl.block _ (blk_lt h)).trans h)
        replace HB0 := Aside0.mk (below_step HB0.out hbl)
        replace HZ0 := Aside0.mk (Nat.lt_of_lt_of_le HZ0.out hbl.size)
        clear hbl
        rw [show decide (va a < va b) = false from decide_eq_false (by have := PL.out; omega)]
        go_wp2_with fail
        refine start_ (n := 9) (S := fun w' => w'.cell? ⟨w.heap.size, 0, none⟩ = some (.slice A0 a.length c0) ∧ w'.cell? ⟨w.heap.size, 1, none⟩ = some (.bool true) ∧ w'.cell? ⟨w.heap.size + 1, 0, none⟩ = some (.slice A1 b.length c1) ∧ w'.cell? ⟨w.heap.size + 1, 1, none⟩ = some (.bool false)) (ds := [8]) #[false, false, false, false, false, false, false, false, false] (by kernel_rfl) rfl rfl (ba_held HD0.out HD1.out) (fun hHeld => ?_)
        have B4 := Aside0.mk (below_step HB0.out (below_drew1 (Below.refl wl.heap.size wl)))
        have BD := Aside0.mk (below_drew1 (Below.refl wl.heap.size wl))
        have H04 := Aside0.mk (H0.out.below B4.out)
        have H14 := Aside0.mk (H1.out.below B4.out)
        have HC4 := Aside0.mk (blk_drew HCR.out)
        have HZ4 := Aside0.mk HZ0.out
        have D0 := Aside0.mk (blk_drew HD0.out)
        have D1 := Aside0.mk (blk_drew HD1.out)
        rw [show wl.heap.size = wl.drew.heap.size from rfl] at HZ4
        generalize wl.drew = wd at hHeld B4 BD H04 H14 HC4 HZ4 D0 D1 ⊢
        refine pure_ (i := 0) (N := some 33) (v := ?_) (a' := ?_) #[true, false, false, false, false, false, false, false, false] rfl rfl (by kernel_rfl) (fun _ _ _ h => h) (Or.inl ⟨by rfl, ?_⟩) ?_ ?_
        rotate_left
        · intro w'
          go_simp
          with_reducible rfl
        rotate_left
        · simp only [Act.put, List.setIfInBounds_toArray, List.set_cons_zero, List.set_cons_succ, i64_w, i32_w]
          rfl
        refine pure_ (i := 2) (N := some 35) (v := ?_) (a' := ?_) #[true, false, true, false, false, false, false, false, false] rfl rfl (by kernel_rfl) (fun _ _ _ h => h) (Or.inl ⟨by rfl, ?_⟩) ?_ ?_
        rotate_left
        · intro w'
          go_simp
          with_reducible rfl
        rotate_left
        · simp only [Act.put, List.setIfInBounds_toArray, List.set_cons_zero, List.set_cons_succ, i64_w, i32_w]
          rfl
        refine pure_ (i := 5) (N := some 38) (v := ?_) (a' := ?_) #[true, false, true, false, false, true, false, false, false] rfl rfl (by kernel_rfl) (fun _ _ _ h => h) (Or.inl ⟨by rfl, ?_⟩) ?_ ?_
        rotate_left
        · intro w'
          go_simp
          with_reducible rfl
        rotate_left
        · simp only [Act.put, List.setIfInBounds_toArray, List.set_cons_zero, List.set_cons_succ, i64_w, i32_w]
          rfl
        refine take_ (i := 1) (N := some 34) (v := ?_) (a' := ?_) #[true, true, true, false, false, true, false, false, false] rfl rfl (by kernel_rfl) (fun _ _ _ h => h) (Or.inl ⟨by rfl, ?_⟩) hHeld ?_ ?_
        rotate_left
        · rintro w' ⟨s0, s1, s2, s3⟩
          go_simp
          with_reducible rfl
        rotate_left
        · simp only [Act.put, List.setIfInBounds_toArray, List.set_cons_zero, List.set_cons_succ, i64_w, i32_w]
          rfl
        refine take_ (i := 3) (N := some 36) (v := ?_) (a' := ?_) #[true, true, true, true, false, true, false, false, false] rfl rfl (by kernel_rfl) (fun _ _ _ h => h) (Or.inl ⟨by rfl, ?_⟩) hHeld ?_ ?_
        rotate_left
        · rintro w' ⟨s0, s1, s2, s3⟩
          go_simp
          with_reducible rfl
        rotate_left
        · simp only [Act.put, List.setIfInBounds_toArray, List.set_cons_zero, List.set_cons_succ, i64_w, i32_w]
          rfl
        refine take_ (i := 6) (N := some 39) (v := ?_) (a' := ?_) #[true, true, true, true, false, true, true, false, false] rfl rfl (by kernel_rfl) (fun _ _ _ h => h) (Or.inl ⟨by rfl, ?_⟩) hHeld ?_ ?_
        rotate_left
        · rintro w' ⟨s0, s1, s2, s3⟩
          go_simp
          with_reducible rfl
        rotate_left
        · simp only [Act.put, List.setIfInBounds_toArray, List.set_cons_zero, List.set_cons_succ, i64_w, i32_w]
          rfl
        refine one_ (i := 4) (N := some 37) #[true, true, true, true, true, true, true, false, false] rfl rfl (by kernel_rfl) (by decide) (fun K hK => ?_)
        refine goes_ Try.func39 (by kernel_rfl) rfl #[.slice A0 a.length c0, .slice A1 b.length c1] (by rfl) rfl rfl (by simp only [List.map_toArray, List.map_cons, List.map_nil]; first | done | rfl) ?_
        refine (bi_minus A0 A1 c0 c1 a b wd H04.out H14.out HA.out HB.out la (va_le_len HB.out HA.out TB.out (by have := PL.out; omega)) (by have := PL.out; omega)).mono ?_
        rintro e w6 ⟨A, c, o, rfl, hu, hc1, hc2, hdg, htp0, hva, hol, hb6⟩
        refine ⟨_, rfl, ?_⟩
        have HU6 := Aside0.mk hu
        have HDG := Aside0.mk (And.intro hdg (And.intro hva (show o.length ≤ max a.length b.length + 1 by omega)))
        have HD06 := Aside0.mk (D0.out |> fun h => (hb6.block _ (blk_lt h)).trans h)
        have HD16 := Aside0.mk (D1.out |> fun h => (hb6.block _ (blk_lt h)).trans h)
        have HC6 := Aside0.mk (HC4.out |> fun h => (hb6.block _ (blk_lt h)).trans h)
        have B6 := Aside0.mk (below_step B4.out hb6)
        have HZ6 := Aside0.mk (Nat.le_trans HZ4.out hb6.size)
        refine hK.out _ _ (ba_held HD06.out HD16.out) (fun hHeld => ?_)
        clear hK K hu hdg hva hol hb6
        refine norm_ (a' := ?_) ?_ ?_
        rotate_left
        · show Act.put _ (some 37) _ = _
          simp only [Act.put, List.setIfInBounds_toArray, List.set_cons_zero, List.set_cons_succ, i64_w, i32_w]
          rfl
        refine one_ (i := 7) (N := some 40) #[true, true, true, true, true, true, true, true, false] rfl rfl (by kernel_rfl) (by decide) (fun K hK => ?_)
        refine goes_ Try.func36 (by kernel_rfl) rfl #[.slice A o.length c, .bool true] (by rfl) rfl rfl (by simp only [List.map_toArray, List.map_cons, List.map_nil]; first | done | rfl) ?_
        refine (bn_norm A c o true w6 HU6.out hc1 hc2).mono ?_
        rintro e w7 ⟨k, hk, rfl, hva7, htp7, hb7⟩
        refine ⟨_, rfl, ?_⟩
        have HD07 := Aside0.mk (HD06.out |> fun h => (hb7.block _ (blk_lt h)).trans h)
        have HD17 := Aside0.mk (HD16.out |> fun h => (hb7.block _ (blk_lt h)).trans h)
        have HC7 := Aside0.mk (HC6.out |> fun h => (hb7.block _ (blk_lt h)).trans h)
        have B7 := Aside0.mk (below_step B6.out hb7)
        have HZ7 := Aside0.mk (Nat.le_trans HZ6.out hb7.size)
        have HN7 := Aside0.mk (And.intro hk (And.intro hva7 htp7))
        have HU7 := Aside0.mk (HU6.out.below hb7)
        refine hK.out _ _ (ba_held HD07.out HD17.out) (fun hHeld => ?_)
        clear hK K hk hva7 htp7 hb7
        refine norm_ (a' := ?_) ?_ ?_
        rotate_left
        · show Act.put _ (some 40) _ = _
          simp only [Act.put, List.setIfInBounds_toArray, List.set_cons_zero, List.set_cons_succ, i64_w, i32_w]
          rfl
        refine last_ (i := 8) (N := none) #[true, true, true, true, true, true, true, true, true] rfl rfl (by kernel_rfl) (by decide) (fun K hK => ?_)
        have kc0 := (blk_cell HC7.out 0).trans rfl
        have kc1 := (blk_cell HC7.out 1).trans rfl
        have kf0 := blk_frozen HC7.out 0
        have kf1 := blk_frozen HC7.out 1
        go_simp
        refine hK.out _ _ ?_
        clear hK K
        refine done_ (by kernel_rfl) ?_
        clear hHeld
        go_wp2_with fail
        have s1 := tn_set w7 (w.heap.size + 1 + 1) 0 (.slice A k c)
        have s2 := s1.trans (tn_set _ (w.heap.size + 1 + 1) 1 (.bool (decide (0 < k))))
        refine bodyPost_ret (results_cell_row rfl _ _ (w.heap.size + 1 + 1) 47 #[.slice A k c, .bool (decide (0 < k))] (0, 0) _ rfl (blk_set (blk_set HC7.out 0 (.slice A k c)) 1 (.bool (decide (0 < k)))) Try.underlying47 rfl (by kernel_rfl)) rfl ?_
        refine ⟨_, rfl, nm_end (HU7.out.apart HC7.out s2) HN7.out.1 hc1 hc2 HDG.out.1 HN7.out.2.2 HN7.out.2.1 true _ (by simp) _ (by rw [HDG.out.2.1]; simp; try omega) _ (by have := HDG.out.2.2; omega), Tn.below B7.out s2 (by have := HZ7.out; omega) (fun k q => by rcases q with rfl; omega)⟩

theorem pw_mono {a b : Nat} (h : a ≤ b) : (65536 : Int) ^ a ≤ 65536 ^ b := by
  obtain ⟨c, rfl⟩ := Nat.le.dest h
  rw [Int.pow_add]
  have h1 := pw_pos a
  have h2 := pw_pos c
  have h3 : (65536 : Int) ^ a * 1 ≤ 65536 ^ a * 65536 ^ c := Int.mul_le_mul_of_nonneg_left (by omega) (by omega)
  omega
theorem Nm.len {w : World} {v : Value} {z : Int} {n : Nat} (h : Nm w v z n) (k : Nat) (hz : -(65536 ^ k) < z ∧ z < 65536 ^ k) : Nm w v z k := by
  obtain ⟨A, c, d, m, h1, h2, h3, h4, h5, h6, h7, h8, h9⟩ := h
  refine ⟨A, c, d, m, h1, h2, h3, h4, h5, h6, h7, h8, ?_⟩
  rcases Nat.lt_or_ge k d.length with q | q
  · exfalso
    have e := va_ge h5 h6 (fun e => by subst e; exact absurd q (Nat.not_lt_zero _))
    have e2 : (65536 : Int) ^ k ≤ 65536 ^ (d.length - 1) := by
      exact pw_mono (by omega)
    generalize (65536 : Int) ^ k = P at *
    generalize (65536 : Int) ^ (d.length - 1) = P2 at *
    cases m
    · have h7 : z = va d := h7
      omega
    · have h7 : z = -va d := h7
      omega
  · exact q
theorem nm_add {w : World} {u v : Value} {y z : Int} {n : Nat} (h : Nm w u y n) (k : Nm w v z n) (hn : n ≤ 65536) : Calls Try.prog 20 #[u, v] w fun e w' => ∃ r, e = .returned r ∧ Nm w' r (y + z) (n + 1) ∧ Below w.heap.size w w' := by
  obtain ⟨A, c, d, m, rfl, h2, h3, h4, h5, h6, h7, h8, h9⟩ := h
  obtain ⟨A', c', d', m', rfl, k2, k3, k4, k5, k6, k7, k8, k9⟩ := k
  refine (bad_add A A' c c' d d' m m' w h2 k2 h5 k5 h6 k6 (by omega) (by omega)).mono ?_
  rintro e w' ⟨r, rfl, ⟨B, e, o, mo, g1, g2, g3, g4, g5, g6, g7, g8, g9⟩, hb⟩
  exact ⟨r, rfl, ⟨B, e, o, mo, g1, g2, g3, g4, g5, g6, by rw [h7, k7]; exact g7, g8, by omega⟩, hb⟩
theorem Nm.isz {w : World} {v : Value} {n : Nat} (h : Nm w v 0 n) : ∃ A c, v = .agg #[.slice A 0 c, .bool false] := by
  obtain ⟨A, c, d, m, h1, h2, h3, h4, h5, h6, h7, h8, h9⟩ := h
  have e : va d = 0 := by
    cases m
    · have h7 : 0 = va d := h7
      omega
    · have h7 : 0 = -va d := h7
      omega
  have e2 := va_eq_zero h5 h6 e
  subst e2
  cases m
  · exact ⟨A, c, h1⟩
  · exact absurd rfl (h8 rfl)
theorem Nm.turn {w W : World} {v : Value} {z : Int} {n : Nat} (h : Nm w v z n) {g : Nat} {m : Bool} {A' : Option Addr} {l c : Nat} (hg : w.heap[g]? = some (.cells #[.slice A' l c, .bool m] 47 (0, 0))) (t : Tn (fun k => k = g) w W) : Nm W v z n := by
  obtain ⟨A, c, d, m, h1, h2, h3⟩ := h
  exact ⟨A, c, d, m, h1, h2.apart hg t, h3⟩
theorem Nm.shape {w : World} {v : Value} {z : Int} {n : Nat} (h : Nm w v z n) : ∃ A l c m, v = .agg #[.slice A l c, .bool m] := by
  obtain ⟨A, c, d, m, h1, h2⟩ := h
  exact ⟨A, _, c, m, h1⟩
theorem p6 : (65536 : Int) ^ 6 = 79228162514264337593543950336 := by decide
theorem Nm.six {w : World} {v : Value} {z : Int} {n : Nat} (h : Nm w v z n) (hz : -1208925819614629174706176 ≤ z ∧ z ≤ 1208925819614629174706176) : Nm w v z 6 := h.len 6 (by rw [p6]; omega)
theorem Nm.six64 {w : World} {v : Value} {z : Int} {n : Nat} (h : Nm w v z n) (hz : W64 z) : Nm w v z 6 := h.six (by unfold W64 at hz; omega)


end Go.Proofs.Ytcdhnglefldalaa.PBook
