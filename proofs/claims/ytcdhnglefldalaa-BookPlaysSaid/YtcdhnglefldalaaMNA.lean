import Derived.Test.YtcdhnglefldalaaBZP
import Derived.Test.YtcdhnglefldalaaBNU
namespace Go.Proofs.Ytcdhnglefldalaa.PBook
open Go.RowKit Go.Proofs.YtcdhnglefldalaaW.PrintWords Go.Proofs.YtcdhnglefldalaaW.PrintLast Go.Proofs.YtcdhnglefldalaaW.PrintMore
set_option linter.unusedVariables false
set_option linter.unusedSimpArgs false
open Go.Proofs.Ytcdhnglefldalaa.PBookPlays (S32 S34 S40 k32 k34 k40 z32 z34 z40 rd_T34 at_T34 rd_T40 at_T40 errEqI errEqL errEqR errNeI errNeL errNeR)
open Go.Maps
attribute [local go_sem high] errEqI errNeI errEqL errNeL errEqR errNeR
set_option maxRecDepth 100000 in
theorem ma_may (k o : Int) (w : World) : Calls Try.prog 55 #[.agg #[.int .i64 k, .int .i64 o]] w fun e w' => e = .returned (.bool (cn_may k o)) ∧ Below w.heap.size w w' := by
  unfold cn_may
  have al := fun o => below_alloc (Below.refl w.heap.size w) o
  by_cases c1 : 1 ≤ k
  · have f1 : k ≥ 1 := c1
    by_cases c3 : k ≤ 3
    · have d3 : k ≤ 12 := by omega
      obtain ⟨z, hz⟩ : ∃ z, (o == 0) = z := ⟨_, rfl⟩
      have e6 : decide (o = 0) = z := by rw [← hz]; rfl
      rw [decide_eq_true c1, decide_eq_true d3, if_pos c3, e6]
      clear d3
      go_enter Try.func55, Try.ntmps55
      go_wp2_with fail
      go_ret
      exact ⟨rfl, al _⟩
    · rw [if_neg c3]
      by_cases c4 : k ≤ 12
      · have f4 : k ≥ 4 := by omega
        by_cases c5 : 1 ≤ o
        · have f5 : o ≥ 1 := c5
          obtain ⟨z, hz⟩ : ∃ z, decide (o ≤ 65536) = z := ⟨_, rfl⟩
          rw [decide_eq_true c1, decide_eq_true c4, decide_eq_true c5, hz]
          cases z
          · have f6 : ¬ o ≤ 65536 := of_decide_eq_false hz
            clear hz
            go_enter Try.func55, Try.ntmps55
            go_wp2_with fail
            go_ret
            exact ⟨rfl, al _⟩
          · have f6 : o ≤ 65536 := of_decide_eq_true hz
            clear hz
            go_enter Try.func55, Try.ntmps55
            go_wp2_with fail
            go_ret
            exact ⟨rfl, al _⟩
        · have f5 : ¬ o ≥ 1 := c5
          rw [decide_eq_true c1, decide_eq_true c4, decide_eq_false c5]
          go_enter Try.func55, Try.ntmps55
          go_wp2_with fail
          go_ret
          exact ⟨rfl, al _⟩
      · have f4 : k ≥ 4 := by omega
        rw [decide_eq_true c1, decide_eq_false c4]
        go_enter Try.func55, Try.ntmps55
        go_wp2_with fail
        go_ret
        exact ⟨rfl, al _⟩
  · have f1 : ¬ k ≥ 1 := c1
    have f4 : ¬ k ≥ 4 := by omega
    rw [decide_eq_false c1]
    go_enter Try.func55, Try.ntmps55
    go_wp2_with fail
    go_ret
    exact ⟨rfl, al _⟩

theorem gx_not2 (u : Int) (h0 : 0 ≤ u) (h1 : u ≤ 18446744073709551615) : bits .xor .u64 IntKind.u64.max u = 18446744073709551615 - u := by
  obtain ⟨b, rfl⟩ : ∃ b : Nat, u = ↑b := ⟨u.toNat, by omega⟩
  have e2 : IntKind.u64.max = ((2 ^ 64 - 1 : Nat) : Int) := by decide
  rw [e2, bits_xor_u64_nat _ _ (by decide) (by omega), Go.Lib.xor_ones64 _ (by omega)]
  omega
theorem va_drop {d : List Int} {i : Nat} {x : Int} (hx : d[i]? = some x) : va (d.drop i) = x + 65536 * va (d.drop (i + 1)) := by
  have hi : i < d.length := (List.getElem?_eq_some_iff.1 hx).1
  rw [List.drop_eq_getElem_cons hi]
  have := List.getElem?_eq_getElem hi
  rw [hx] at this
  rw [← Option.some.inj this]
  rfl
theorem Dg.drop {d : List Int} (h : Dg d) (k : Nat) : Dg (d.drop k) := fun x hx => h x (List.mem_of_mem_drop hx)
theorem va_bd {d : List Int} (h : Dg d) (hl : d.length ≤ 3) : va d ≤ 281474976710655 := by
  have e := va_lt h
  have : (65536 : Int) ^ d.length ≤ 65536 ^ 3 := pw_mono hl
  have p3 : (65536 : Int) ^ 3 = 281474976710656 := by decide
  omega
def fits (z : Int) : Bool := decide (-9223372036854775808 ≤ z) && decide (z ≤ 9223372036854775807)
theorem fits_iff (z : Int) : fits z = true ↔ W64 z := by unfold fits W64; simp
theorem fits_true {z : Int} (h : W64 z) : fits z = true := (fits_iff z).2 h
theorem fits_false {z : Int} (h : ¬ W64 z) : fits z = false := by rw [← Bool.not_eq_true, fits_iff]; exact h
set_option maxRecDepth 100000 in
set_option maxHeartbeats 2000000 in
theorem mb_to {w : World} {v : Value} {z : Int} {n : Nat} (h : Nm w v z n) : Calls Try.prog 44 #[v] w fun e w' => ∃ (r : Int), e = .returned (.tuple #[.int .i64 r, .bool (fits z)]) ∧ (W64 z → r = z) ∧ Below w.heap.size w w' := by
  obtain ⟨b, hb⟩ : ∃ b, fits z = b := ⟨_, rfl⟩
  have HBZ := Aside0.mk hb
  rw [hb]
  clear hb
  obtain ⟨A, c, d, m, rfl, h2, h3, h4, h5, h6, h7, h8, h9⟩ := h
  have al := Aside0.mk (fun o => below_alloc (Below.refl w.heap.size w) o)
  have H2 := Aside0.mk h2
  have H5 := Aside0.mk h5
  have H6 := Aside0.mk h6
  have H7 := Aside0.mk h7
  have H8 := Aside0.mk h8
  obtain ⟨l, hl⟩ : ∃ l, d.length = l := ⟨_, rfl⟩
  have HL := Aside0.mk hl
  rw [hl] at h3 h9 ⊢
  clear h2 h5 h6 h7 h8 hl h9
  by_cases c4 : (↑l : Int) > 4
  · have hbig : ¬ W64 z := by
      have e := va_ge H5.out H6.out (fun q => by have := HL.out; rw [q] at this; simp at this; omega)
      have e2 : (65536 : Int) ^ 4 ≤ 65536 ^ (d.length - 1) := pw_mono (by rw [HL.out]; omega)
      have e3 : (65536 : Int) ^ 4 = 18446744073709551616 := by decide
      have e4 := H7.out
      unfold W64
      cases m
      · have e4 : z = va d := e4
        omega
      · have e4 : z = -va d := e4
        omega
    have HBG := Aside0.mk hbig
    obtain rfl : false = b := by rw [← HBZ.out]; exact (fits_false hbig).symm
    clear hbig
    go_enter Try.func44, Try.ntmps44
    go_wp2_with fail
    go_ret2
    exact ⟨0, rfl, fun q => absurd q HBG.out, al.out _⟩
  · have hl4 : l ≤ 4 := by omega
    go_enter Try.func44, Try.ntmps44
    go_wp2_with fail
    go_loopw [4, 5] (fun v4 v5 wr => ∃ (i : Nat) (t u : Int), v4 = .int .u64 u ∧ v5 = .int .i64 t ∧ Aside0 (t + 1 = ↑i ∧ i ≤ l ∧ va (d.drop i) = u) ∧ wr = w.alloc (.cells #[.slice A l c, .bool m] 47)) (fun _ v5 _ => (intOf v5 + 1).toNat)
    case atStart => exact ⟨l, _, 0, rfl, rfl, ⟨by omega, Nat.le_refl _, by rw [← HL.out, List.drop_length]; rfl⟩, rfl⟩
    case round =>
      obtain ⟨i, t, u, rfl, rfl, HI, rfl⟩ := hrel
      rcases i with _ | j
      · have ht : t = -1 := by have := HI.out.1; omega
        subst ht
        have hu : va d = u := by have := HI.out.2.2; rwa [List.drop_zero] at this
        have h0 : 0 ≤ u := by rw [← hu]; exact va_nonneg H5.out
        have h1 : u ≤ 18446744073709551615 := by
          have e := va_lt H5.out
          have e2 : (65536 : Int) ^ d.length ≤ 65536 ^ 4 := pw_mono (by rw [HL.out]; exact hl4)
          have e3 : (65536 : Int) ^ 4 = 18446744073709551616 := by decide
          omega
        have HU := Aside0.mk hu
        have HU2 := Aside0.mk (And.intro h0 h1)
        cases m
        · have hz : z = u := by have e : z = va d := H7.out; rw [e, hu]
          obtain ⟨r, hr⟩ : ∃ r, wrap64 u = r := ⟨_, rfl⟩
          have hr2 : u < 9223372036854775808 → r = u := fun q => by rw [← hr]; unfold wrap64; omega
          have HZ := Aside0.mk (And.intro hz hr2)
          have HR := Aside0.mk hr
          clear hu hz hr2 h0 h1
          by_cases pu : u < 9223372036854775808
          · obtain rfl : true = b := by rw [← HBZ.out]; exact (fits_true (by have := HZ.out.1; have := HU2.out; unfold W64; omega)).symm
            go_wp2_with fail
            go_ret2
            exact ⟨_, rfl, fun _ => by first | (rw [HZ.out.2 pu, HZ.out.1]; done) | (rw [HR.out, HZ.out.2 pu, HZ.out.1]; done), al.out _⟩
          · have hno : ¬ W64 z := by have := HZ.out.1; unfold W64; omega
            have HNO := Aside0.mk hno
            obtain rfl : false = b := by rw [← HBZ.out]; exact (fits_false hno).symm
            clear hno
            go_wp2_with fail
            go_ret2
            exact ⟨r, rfl, fun q => absurd q HNO.out, al.out _⟩
        · have hz : z = -u := by have e : z = -va d := H7.out; rw [e, hu]
          have hp : 0 < u := by
            have e := va_ge H5.out H6.out (H8.out rfl)
            have := pw_pos (d.length - 1)
            omega
          have gx := gx_not2 u h0 h1
          have g1 : IntKind.u64.wrap (18446744073709551615 - u + 1) = 18446744073709551616 - u := by simp [IntKind.wrap, IntKind.bits, IntKind.signed]; omega
          obtain ⟨r, hr⟩ : ∃ r, wrap64 (18446744073709551616 - u) = r := ⟨_, rfl⟩
          have hr2 : u ≤ 9223372036854775808 → r = -u := fun q => by rw [← hr]; unfold wrap64; omega
          have HZ := Aside0.mk (And.intro hz hr2)
          have HR := Aside0.mk hr
          clear hu hz hr2 h0 h1
          by_cases pu : u ≤ 9223372036854775808
          · obtain rfl : true = b := by rw [← HBZ.out]; exact (fits_true (by have := HZ.out.1; have := HU2.out; unfold W64; omega)).symm
            go_wp2_with fail
            go_ret2
            exact ⟨_, rfl, fun _ => by first | (rw [HZ.out.2 pu, HZ.out.1]; done) | (rw [HR.out, HZ.out.2 pu, HZ.out.1]; done), al.out _⟩
          · have hno : ¬ W64 z := by have := HZ.out.1; unfold W64; omega
            have HNO := Aside0.mk hno
            obtain rfl : false = b := by rw [← HBZ.out]; exact (fits_false hno).symm
            clear hno
            go_wp2_with fail
            go_ret2
            exact ⟨r, rfl, fun q => absurd q HNO.out, al.out _⟩
      · obtain rfl : t = ↑j := by have := HI.out.1; omega
        have jl : j < l := by have := HI.out.2.1; omega
        have gj : (↑j : Int) ≥ 0 := by omega
        have gl : (↑j : Int) < ↑l := by omega
        have gw : wrap64 (↑j - 1) = ↑j - 1 := by unfold wrap64; omega
        obtain ⟨x, hx⟩ : ∃ x, d[j]? = some x := ⟨d[j]'(by rw [HL.out]; exact jl), List.getElem?_eq_getElem _⟩
        have hxb := H5.out x (List.mem_of_getElem? hx)
        obtain ⟨ad, rfl, k0⟩ := (H2.out.below (al.out (.cells #[.slice A l c, .bool m] 47))) j x hx
        have hub : 0 ≤ u ∧ u ≤ 281474976710655 := by
          rw [← HI.out.2.2]
          exact ⟨va_nonneg (H5.out.drop _), va_bd (H5.out.drop _) (by rw [List.length_drop, HL.out]; omega)⟩
        obtain ⟨y, hy⟩ : ∃ y, u * 65536 = y := ⟨_, rfl⟩
        have g1 : IntKind.u64.wrap y = y := by simp [IntKind.wrap, IntKind.bits, IntKind.signed]; omega
        have g2 : IntKind.u64.wrap (y + x) = y + x := by simp [IntKind.wrap, IntKind.bits, IntKind.signed]; omega
        have HY := Aside0.mk (And.intro hy hx)
        clear hxb hub hx
        go_wp2_with fail
        refine ⟨⟨j, _, _, rfl, rfl, ⟨by omega, by have := HI.out.2.1; omega, ?_⟩, trivial⟩, by simp [intOf]⟩
        rw [va_drop HY.out.2, HI.out.2.2, ← HY.out.1]
        omega

open Go.Proofs.Ytcdhnglefldalaa.PBookPlays (S32 S34 S40 k32 k34 k40 z32 z34 z40 rd_T34 at_T34 rd_T40 at_T40 errEqI errEqL errEqR errNeI errNeL errNeR)
open Go.Maps
attribute [local go_sem high] errEqI errNeI errEqL errNeL errEqR errNeR
def mrow (M : List En) : List Value := M.map (fun x => .slice (some ⟨x.g, 0, none⟩) x.l.length x.c)
def mdon (M : List En) : List Value := M.map (fun x => .bool x.d)
def mown (mb : Nat) (lv dv : Value) (k : Nat) : Prop := k = mb ∨ lv.ownBlock = some k ∨ dv.ownBlock = some k
/-- The model's book. -/
structure Mb (w : World) (B mb : Nat) (lv dv : Value) (M : List En) : Prop where
  hb : B ≤ mb
  book : w.heap[mb]? = some (.cells #[lv, dv] 55 (0, 0))
  row : w.ownsRow B 22 1 lv M.length (mrow M)
  don : w.ownsRow B 4 1 dv M.length (mdon M)
  ent : ∀ x ∈ M, Eg w B x
  good : ∀ x ∈ M, WLs x.l
  few : M.length ≤ 4096
theorem Mb.turn {S : Nat → Prop} {w W : World} {B mb : Nat} {lv dv : Value} {M : List En} (h : Mb w B mb lv dv M) (t : Tn S w W) (hn : ∀ k cs, S k → w.heap[k]? ≠ some (.cells cs 34 (0, 0))) (ho : ∀ k, S k → ¬ mown mb lv dv k) : Mb W B mb lv dv M :=
  ⟨h.hb, t.blk h.book (fun q => ho _ q (Or.inl rfl)), own_turn h.row t (fun k hk q => ho _ q (Or.inr (Or.inl hk))), own_turn h.don t (fun k hk q => ho _ q (Or.inr (Or.inr hk))), fun x hx => (h.ent x hx).turn t hn, h.good, h.few⟩
theorem Mb.below {w W : World} {B mb : Nat} {lv dv : Value} {M : List En} (h : Mb w B mb lv dv M) (t : Below w.heap.size w W) : Mb W B mb lv dv M :=
  h.turn (S := fun _ => False) (Tn.of_below t) (fun _ _ q => q.elim) (fun _ q => q.elim)
theorem Mb.lower {w : World} {B B' mb : Nat} {lv dv : Value} {M : List En} (h : Mb w B mb lv dv M) (hb : B' ≤ B) : Mb w B' mb lv dv M :=
  ⟨Nat.le_trans hb h.hb, h.book, own_lower h.row hb, own_lower h.don hb, fun x hx => ⟨Nat.le_trans hb (h.ent x hx).1, (h.ent x hx).2⟩, h.good, h.few⟩
theorem Mb.cells {w : World} {B mb : Nat} {lv dv : Value} {M : List En} (h : Mb w B mb lv dv M) : w.cell? ⟨mb, 0, none⟩ = some lv ∧ w.cell? ⟨mb, 1, none⟩ = some dv ∧ w.frozen? ⟨mb, 0, none⟩ = false ∧ w.frozen? ⟨mb, 1, none⟩ = false :=
  ⟨(blk_cell h.book 0).trans rfl, (blk_cell h.book 1).trans rfl, blk_frozen h.book 0, blk_frozen h.book 1⟩
/-- What is own is of one of three types. -/
theorem Mb.own_ty {w : World} {B mb : Nat} {lv dv : Value} {M : List En} (h : Mb w B mb lv dv M) : ∀ k, mown mb lv dv k → ∃ cs T, w.heap[k]? = some (.cells cs T (0, 0)) ∧ (T = 55 ∨ T = 22 ∨ T = 4) := by
  intro k q
  rcases q with rfl | q | q
  · exact ⟨_, _, h.book, Or.inl rfl⟩
  · obtain ⟨cs, e⟩ := own_typed h.row q
    exact ⟨_, _, e, Or.inr (Or.inl rfl)⟩
  · obtain ⟨cs, e⟩ := own_typed h.don q
    exact ⟨_, _, e, Or.inr (Or.inr rfl)⟩
theorem Mb.own_ge {w : World} {B mb : Nat} {lv dv : Value} {M : List En} (h : Mb w B mb lv dv M) : ∀ k, mown mb lv dv k → B ≤ k := by
  intro k q
  rcases q with rfl | q | q
  · exact h.hb
  · exact own_base h.row q
  · exact own_base h.don q
theorem Mb.own_lt {w : World} {B mb : Nat} {lv dv : Value} {M : List En} (h : Mb w B mb lv dv M) : ∀ k, mown mb lv dv k → k < w.heap.size := by
  intro k q
  obtain ⟨cs, T, e, -⟩ := h.own_ty k q
  exact blk_lt e
theorem Mb.own_line {w : World} {B mb : Nat} {lv dv : Value} {M : List En} (h : Mb w B mb lv dv M) : ∀ k cs, mown mb lv dv k → w.heap[k]? ≠ some (.cells cs 34 (0, 0)) := by
  intro k cs q e
  obtain ⟨cs', T, e2, hT⟩ := h.own_ty k q
  rcases hT with rfl | rfl | rfl
  · exact ty_ne e2 e (by decide)
  · exact ty_ne e2 e (by decide)
  · exact ty_ne e2 e (by decide)
/-- A book and the model's one lie apart. -/
theorem mb_apart {w : World} {B B' mb bb bm : Nat} {lv dv ev : Value} {M R : List En} (h : Mb w B mb lv dv M) (k : Bk w B' bb bm ev R) : ∀ i, mown mb lv dv i → ¬ own bb bm ev i := by
  intro i q p
  obtain ⟨cs', T, e2, hT⟩ := h.own_ty i q
  obtain ⟨N, D, h1, h2⟩ := k.map
  obtain ⟨es, cl, h3⟩ := om_blk h1
  rcases p with rfl | rfl | p
  · rcases hT with rfl | rfl | rfl
    · exact ty_ne e2 k.book (by decide)
    · exact ty_ne e2 k.book (by decide)
    · exact ty_ne e2 k.book (by decide)
  · rw [h3] at e2; cases e2
  · obtain ⟨cs, h4⟩ := own_typed k.row p
    rcases hT with rfl | rfl | rfl
    · exact ty_ne e2 h4 (by decide)
    · exact ty_ne e2 h4 (by decide)
    · exact ty_ne e2 h4 (by decide)
theorem Mb.apart {w W : World} {B B' mb bb bm : Nat} {lv dv ev : Value} {M R : List En} (h : Mb w B mb lv dv M) (k : Bk w B' bb bm ev R) (t : Tn (own bb bm ev) w W) : Mb W B mb lv dv M :=
  h.turn t (fun i cs q => k.own_line i cs q) (fun i q p => mb_apart h k i p q)
theorem Bk.apartM {w W : World} {B B' mb bb bm : Nat} {lv dv ev : Value} {M R : List En} (k : Bk w B' bb bm ev R) (h : Mb w B mb lv dv M) (t : Tn (mown mb lv dv) w W) : Bk W B' bb bm ev R :=
  k.turn t (fun i cs q => h.own_line i cs q) (fun i q => mb_apart h k i q)
theorem row_at {w : World} {base e n : Nat} {v : Value} {xs : List Value} (h : w.ownsRow base e 1 v n xs) {i : Nat} {x : Value} (hn : n = xs.length) (hx : xs[i]? = some x) : ∃ g c, v = .slice (some ⟨g, 0, none⟩) n c ∧ w.cell? ⟨g, i, none⟩ = some x ∧ w.frozen? ⟨g, i, none⟩ = false ∧ base ≤ g ∧ g < w.heap.size := by
  have hi : i < xs.length := (List.getElem?_eq_some_iff.1 hx).1
  obtain ⟨hl, ⟨-, h0⟩ | ⟨g, cap, cur, e, hg, hb, hc, hcm, -, ht⟩⟩ := h
  · omega
  · refine ⟨g, cap, e, ?_, blk_frozen hb i, hg, blk_lt hb⟩
    rw [← ht, List.getElem?_take, if_pos (by omega)] at hx
    exact (blk_cell hb _).trans (by rw [← Array.getElem?_toList]; exact hx)
theorem mrow_at {M : List En} {i : Nat} {x : En} (hx : M[i]? = some x) : (mrow M)[i]? = some (.slice (some ⟨x.g, 0, none⟩) x.l.length x.c) := by unfold mrow; rw [List.getElem?_map, hx]; rfl
theorem mdon_at {M : List En} {i : Nat} {x : En} (hx : M[i]? = some x) : (mdon M)[i]? = some (.bool x.d) := by unfold mdon; rw [List.getElem?_map, hx]; rfl
theorem Mb.at {w : World} {B mb : Nat} {lv dv : Value} {M : List En} (h : Mb w B mb lv dv M) {i : Nat} {x : En} (hx : M[i]? = some x) : ∃ g c, lv = .slice (some ⟨g, 0, none⟩) M.length c ∧ w.cell? ⟨g, i, none⟩ = some (.slice (some ⟨x.g, 0, none⟩) x.l.length x.c) := by
  obtain ⟨g, c, e, a, -⟩ := row_at h.row (by simp [mrow]) (mrow_at hx)
  exact ⟨g, c, e, a⟩
theorem Mb.atd {w : World} {B mb : Nat} {lv dv : Value} {M : List En} (h : Mb w B mb lv dv M) {i : Nat} {x : En} (hx : M[i]? = some x) : ∃ g c, dv = .slice (some ⟨g, 0, none⟩) M.length c ∧ w.cell? ⟨g, i, none⟩ = some (.bool x.d) ∧ w.frozen? ⟨g, i, none⟩ = false ∧ B ≤ g := by
  obtain ⟨g, c, e, a, b, hB, -⟩ := row_at h.don (by simp [mdon]) (mdon_at hx)
  exact ⟨g, c, e, a, b, hB⟩
theorem adds_le {l : List S34} (h : WLs l) (a : S32) : -(9223372036854775808 * (l.length : Int)) ≤ adds l a ∧ adds l a ≤ 9223372036854775808 * (l.length : Int) := by
  induction l with
  | nil => simp [adds]
  | cons x t ih =>
    have e := ih (fun y hy => h y (by simp [hy]))
    have e2 := (h x (by simp)).2
    unfold W64 at e2
    show _ ≤ (if x.f0 = a then x.f1 else 0) + adds t a ∧ (if x.f0 = a then x.f1 else 0) + adds t a ≤ _
    simp only [List.length_cons]
    split <;> omega
theorem tot_nil (a : S32) : tot [] a = 0 := rfl
theorem tot_take {M : List En} {i : Nat} {x : En} (hx : M[i]? = some x) (a : S32) : tot (M.take (i + 1)) a = tot (M.take i) a + adds x.l a := by
  rw [List.take_add_one, hx]
  unfold tot
  simp
theorem tot_le {M : List En} (h : ∀ x ∈ M, WLs x.l ∧ x.l.length ≤ 32) (a : S32) : -(9223372036854775808 * (32 * M.length : Int)) ≤ tot M a ∧ tot M a ≤ 9223372036854775808 * (32 * M.length : Int) := by
  induction M with
  | nil => simp [tot]
  | cons x t ih =>
    have e := ih (fun y hy => h y (by simp [hy]))
    obtain ⟨h1, h2⟩ := h x (by simp)
    have e2 := adds_le h1 a
    have e3 : tot (x :: t) a = adds x.l a + tot t a := rfl
    rw [e3]
    simp only [List.length_cons]
    omega
theorem adds_takeM {l : List S34} {k : Nat} {y : S34} (hy : l[k]? = some y) (a : S32) : adds (l.take (k + 1)) a = adds (l.take k) a + (if y.f0 = a then y.f1 else 0) := by
  rw [List.take_add_one, hy, Option.toList_some, adds_append]
  show _ + ((if y.f0 = a then y.f1 else 0) + 0) = _
  omega
theorem Nm.sixn {w : World} {v : Value} {z : Int} {n : Nat} (h : Nm w v z n) (c : Nat) (hc : c ≤ 1000000) (hz : -(9223372036854775808 * (c : Int)) ≤ z ∧ z ≤ 9223372036854775808 * (c : Int)) : Nm w v z 6 := h.len 6 (by rw [p6]; omega)
theorem sumM_bd {M : List En} {i : Nat} (h : ∀ x ∈ M, WLs x.l ∧ x.l.length ≤ 32) (hl : M.length ≤ 4096) {l : List S34} (hw : WLs l) {k : Nat} (hk : l.length ≤ 65536) (a : S32) : -(9223372036854775808 * ((131072 + 65536 : Nat) : Int)) ≤ tot (M.take i) a + adds (l.take k) a ∧ tot (M.take i) a + adds (l.take k) a ≤ 9223372036854775808 * ((131072 + 65536 : Nat) : Int) := by
  have e1 := tot_le (M := M.take i) (fun x hx => h x (List.mem_of_mem_take hx)) a
  have e2 := adds_le (l := l.take k) (fun y hy => hw y (List.mem_of_mem_take hy)) a
  rw [List.length_take] at e1 e2
  omega
theorem Mb.at2 {w : World} {B mb n LC : Nat} {LA : Option Addr} {dv : Value} {M : List En} (h : Mb w B mb (.slice LA n LC) dv M) {i : Nat} {x : En} (hx : M[i]? = some x) : ∃ g, LA = some ⟨g, 0, none⟩ ∧ w.cell? ⟨g, i, none⟩ = some (.slice (some ⟨x.g, 0, none⟩) x.l.length x.c) := by
  obtain ⟨g, c, e, a⟩ := h.at hx
  injection e with e1 e2 e3
  exact ⟨g, e1, a⟩
theorem Mb.atg {w : World} {B mb n LC g : Nat} {dv : Value} {M : List En} (h : Mb w B mb (.slice (some ⟨g, 0, none⟩) n LC) dv M) {i : Nat} {x : En} (hx : M[i]? = some x) : w.cell? ⟨g, i, none⟩ = some (.slice (some ⟨x.g, 0, none⟩) x.l.length x.c) := by
  obtain ⟨g', e, a⟩ := h.at2 hx
  injection e with e
  injection e with e
  rw [e]
  exact a

open Go.Proofs.Ytcdhnglefldalaa.PBookPlays (S32 S34 S40 k32 k34 k40 z32 z34 z40 rd_T34 at_T34 rd_T40 at_T40 errEqI errEqL errEqR errNeI errNeL errNeR)
open Go.Maps
attribute [local go_sem high] errEqI errNeI errEqL errNeL errEqR errNeR
theorem eq32 (a b : S32) : ((a.f0 == b.f0) = false ∧ a ≠ b) ∨ ((a.f0 == b.f0) = true ∧ (a.f1 == b.f1) = false ∧ a ≠ b) ∨ a = b := by
  obtain ⟨a0, a1⟩ := a
  obtain ⟨b0, b1⟩ := b
  by_cases p0 : a0 = b0
  · by_cases p1 : a1 = b1
    · exact Or.inr (Or.inr (by rw [p0, p1]))
    · exact Or.inr (Or.inl ⟨by simpa using p0, beq_eq_false_iff_ne.2 p1, fun q => by cases q; exact p1 rfl⟩)
  · exact Or.inl ⟨beq_eq_false_iff_ne.2 p0, fun q => by cases q; exact p0 rfl⟩
set_option maxRecDepth 100000 in
set_option maxHeartbeats 8000000 in
theorem md_sum {w : World} {B mb : Nat} {lv dv : Value} {M : List En} (h : Mb w B mb lv dv M) (a : S32) (A : Option Addr) (cap : Nat) (more : List S34) (hA : Lr w A more) (hl : more.length ≤ 65536) (hw : WLs more) : Calls Try.prog 45 #[.pointer (some ⟨mb, 0, none⟩), .agg #[.int .i64 a.f0, .int .i64 a.f1], .slice A more.length cap] w fun e w' => ∃ v, e = .returned v ∧ Nm w' v (tot M a + adds more a) 6 ∧ Below w.heap.size w w' := by
  have HM := Aside0.mk h
  have HA := Aside0.mk hA
  have HW := Aside0.mk hw
  have HG := Aside0.mk (fun x (hx : x ∈ M) => And.intro (h.good x hx) (h.ent x hx).2.2.2)
  have hfew := h.few
  obtain ⟨N, hN⟩ : ∃ N, M.length = N := ⟨_, rfl⟩
  obtain ⟨mo, hmo⟩ : ∃ mo, more.length = mo := ⟨_, rfl⟩
  have HMO := Aside0.mk hmo
  have HN := Aside0.mk hN
  obtain ⟨LA, LC, rfl⟩ := own_sl h.row
  have hlv : Mb w B mb (.slice LA N LC) dv M := hN ▸ h
  have HM := Aside0.mk hlv
  rw [hN] at hfew
  rw [hmo] at hl ⊢
  clear h hA hw hN hmo hlv
  obtain ⟨c0, -⟩ := HM.out.cells
  go_enter Try.func45, Try.ntmps45
  go_wp2_with fail
  obtain ⟨z0, z1, z2, z3, z4⟩ := ba_three w (.cells #[.int .i64 a.f0, .int .i64 a.f1] 32) (.cells #[.slice none 0 0, .bool false] 47) (.cells #[.slice none 0 0, .bool false] 47)
  generalize ((w.alloc (.cells #[.int .i64 a.f0, .int .i64 a.f1] 32)).alloc (.cells #[.slice none 0 0, .bool false] 47)).alloc (.cells #[.slice none 0 0, .bool false] 47) = w0 at z0 z1 z2 z3 z4 ⊢
  have HD0 := Aside0.mk z0
  have HD1 := Aside0.mk z1
  have HCR := Aside0.mk z2
  have HB0 := Aside0.mk z3
  have HZ0 := Aside0.mk z4
  clear z0 z1 z2 z3 z4
  go_loopw [8] (fun v8 wr => ∃ (i : Nat) (As : Option Addr) (ns cs : Nat) (ms : Bool), v8 = .int .i64 ↑i ∧ Aside0 (i ≤ N ∧ Nm wr (.agg #[.slice As ns cs, .bool ms]) (tot (M.take i) a) 6 ∧ wr.heap[w.heap.size + 1 + 1]? = some (.cells #[.slice As ns cs, .bool ms] 47 (0, 0)) ∧ wr.heap[w.heap.size]? = some (.cells #[.int .i64 a.f0, .int .i64 a.f1] 32 (0, 0)) ∧ wr.heap[w.heap.size + 1]? = some (.cells #[.slice none 0 0, .bool false] 47 (0, 0)) ∧ Below w.heap.size w wr ∧ w.heap.size + 1 + 1 < wr.heap.size)) (fun v8 _ => (N - intOf v8).toNat)
  case atStart => exact ⟨0, none, 0, 0, false, rfl, ⟨Nat.zero_le _, Nm.zero _ 6, HCR.out, HD0.out, HD1.out, HB0.out, HZ0.out⟩⟩
  case round =>
    obtain ⟨i, As, ns, cs, ms, rfl, HI⟩ := hrel
    obtain ⟨c0, -⟩ := (HM.out.below HI.out.2.2.2.2.2.1).cells
    by_cases ci : i < N
    · have ci2 : (↑i : Int) < ↑N := by omega
      have i0 : (0 : Int) ≤ ↑i := by omega
      obtain ⟨x, hx⟩ : ∃ x, M[i]? = some x := ⟨M[i]'(by rw [HN.out]; exact ci), List.getElem?_eq_getElem _⟩
      have HX := Aside0.mk hx
      have hxm := List.mem_of_getElem? hx
      have HXG := Aside0.mk (HG.out x hxm)
      have hxl : x.l.length ≤ 32 := (HG.out x hxm).2
      obtain ⟨xl, hxe⟩ : ∃ xl, x.l.length = xl := ⟨_, rfl⟩
      have HXL := Aside0.mk hxe
      rw [hxe] at hxl
      obtain ⟨lg, rfl, r0⟩ := (HM.out.below HI.out.2.2.2.2.2.1).at2 hx
      rw [hxe] at r0
      clear hx hxm hxe
      go_wp2_with fail
      go_loopw [9] (fun v9 wr => ∃ (k : Nat) (As : Option Addr) (ns cs : Nat) (ms : Bool), v9 = .int .i64 ↑k ∧ Aside0 (k ≤ xl ∧ Nm wr (.agg #[.slice As ns cs, .bool ms]) (tot (M.take i) a + adds (x.l.take k) a) 6 ∧ wr.heap[w.heap.size + 1 + 1]? = some (.cells #[.slice As ns cs, .bool ms] 47 (0, 0)) ∧ wr.heap[w.heap.size]? = some (.cells #[.int .i64 a.f0, .int .i64 a.f1] 32 (0, 0)) ∧ wr.heap[w.heap.size + 1]? = some (.cells #[.slice none 0 0, .bool false] 47 (0, 0)) ∧ Below w.heap.size w wr ∧ w.heap.size + 1 + 1 < wr.heap.size)) (fun v9 _ => (xl - intOf v9).toNat)
      case atStart => exact ⟨0, As, ns, cs, ms, rfl, ⟨Nat.zero_le _, (by have := HI.out.2.1; rw [show tot (M.take i) a + adds (x.l.take 0) a = tot (M.take i) a from Int.add_zero _]; exact this), HI.out.2.2⟩⟩
      case round =>
        obtain ⟨k, As, ns, cs, ms, rfl, HJ⟩ := hrel
        have HMJ := Aside0.mk (HM.out.below HJ.out.2.2.2.2.2.1)
        obtain ⟨c0, -⟩ := HMJ.out.cells
        have r0 := HMJ.out.atg HX.out
        rw [HXL.out] at r0
        by_cases ck : k < xl
        · have ck2 : (↑k : Int) < ↑xl := by omega
          have k00 : (0 : Int) ≤ ↑k := by omega
          obtain ⟨y, hy⟩ : ∃ y, x.l[k]? = some y := ⟨x.l[k]'(by rw [HXL.out]; exact ck), List.getElem?_eq_getElem _⟩
          obtain ⟨k0, k1, k2⟩ := (HMJ.out.ent x (List.mem_of_getElem? HX.out)).2.1.cells hy
          have HY := Aside0.mk hy
          have a0 := fun p : GWrld wr => bb_cell k0 p
          have a1 := fun p : GWrld wr => bb_cell k1 p
          have a2 := fun p : GWrld wr => bb_cell k2 p
          have b0 := fun p : GWrld wr => gb_at ((blk_cell HJ.out.2.2.2.1 0).trans rfl) p
          have b1 := fun p : GWrld wr => gb_at ((blk_cell HJ.out.2.2.2.1 1).trans rfl) p
          have d0 := fun p : GWrld wr => bb_cell c0 p
          have d1 := fun p : GWrld wr => bb_cell r0 p
          clear hy k0 k1 k2
          go_wp2_with fail
          have hstep := adds_takeM (l := x.l) HY.out a
          have HST := Aside0.mk hstep
          clear hstep
          rcases eq32 y.f0 a with ⟨p0, hne⟩ | ⟨p0, p1, hne⟩ | heq
          iterate 2
            · have HNE := Aside0.mk hne
              clear hne
              refine gb_region (by kernel_rfl) (by kernel_rfl) ?_
              repeat (go_big_quiet_step (fail))
              refine wpQuiet_nil ?_
              intro _ hw'
              obtain ⟨gq, hw''⟩ := hw'
              subst hw''
              have B9 := Aside0.mk (below_then HJ.out.2.2.2.2.2.1 HJ.out.2.2.2.2.2.1.size gq.b)
              have C9 := Aside0.mk ((gq.b.block _ HJ.out.2.2.2.2.2.2).trans HJ.out.2.2.1)
              have O9a := Aside0.mk ((gq.b.block _ (blk_lt HJ.out.2.2.2.1)).trans HJ.out.2.2.2.1)
              have O9b := Aside0.mk ((gq.b.block _ (blk_lt HJ.out.2.2.2.2.1)).trans HJ.out.2.2.2.2.1)
              have N9 := Aside0.mk (HJ.out.2.1.below gq.b)
              have Z9 := Aside0.mk (Nat.lt_of_lt_of_le HJ.out.2.2.2.2.2.2 gq.b.size)
              clear a0 a1 a2 b0 b1 d0 d1 c0 r0
              go_wp2_with fail
              exact ⟨⟨k + 1, As, ns, cs, ms, rfl, ⟨by omega, (by rw [HST.out, if_neg HNE.out, Int.add_zero]; exact N9.out), C9.out, O9a.out, O9b.out, B9.out, Z9.out⟩⟩, by simp [intOf]; omega⟩
          · have HEQ := Aside0.mk heq
            have HYW := Aside0.mk ((HXG.out.1 y (List.mem_of_getElem? HY.out)).2)
            have q0 : (y.f0.f0 == a.f0) = true := by rw [heq]; exact beq_self_eq_true _
            have q1 : (y.f0.f1 == a.f1) = true := by rw [heq]; exact beq_self_eq_true _
            clear heq
            refine gb_region (by kernel_rfl) (by kernel_rfl) ?_
            repeat (go_big_quiet_step (fail))
            refine wpQuiet_nil ?_
            intro _ hw'
            obtain ⟨gq, hw''⟩ := hw'
            subst hw''
            have B9 := Aside0.mk (below_then HJ.out.2.2.2.2.2.1 HJ.out.2.2.2.2.2.1.size gq.b)
            have C9 := Aside0.mk ((gq.b.block _ HJ.out.2.2.2.2.2.2).trans HJ.out.2.2.1)
            have O9a := Aside0.mk ((gq.b.block _ (blk_lt HJ.out.2.2.2.1)).trans HJ.out.2.2.2.1)
            have O9b := Aside0.mk ((gq.b.block _ (blk_lt HJ.out.2.2.2.2.1)).trans HJ.out.2.2.2.2.1)
            have N9 := Aside0.mk (HJ.out.2.1.below gq.b)
            have Z9 := Aside0.mk (Nat.lt_of_lt_of_le HJ.out.2.2.2.2.2.2 gq.b.size)
            have k2 := a2 gq
            replace c0 := d0 gq
            replace r0 := d1 gq
            clear a0 a1 a2 b0 b1 d0 d1
            generalize gq.w' = w9 at k2 c0 r0 B9 C9 O9a O9b N9 Z9 ⊢
            go_wp2_with fail
            refine start_ (n := 15) (S := fun w' => w'.cell? ⟨w.heap.size + 1 + 1, 0, none⟩ = some (.slice As ns cs) ∧ w'.cell? ⟨w.heap.size + 1 + 1, 1, none⟩ = some (.bool ms) ∧ w'.cell? ⟨mb, 0, none⟩ = some (.slice (some ⟨lg, 0, none⟩) N LC) ∧ w'.cell? ⟨lg, i, none⟩ = some (.slice (some ⟨x.g, 0, none⟩) xl x.c) ∧ w'.cell? ⟨x.g, k * 3 + 2, none⟩ = some (.int .i64 y.f1)) (ds := [14]) #[false, false, false, false, false, false, false, false, false, false, false, false, false, false, false] (by kernel_rfl) rfl rfl ⟨(blk_cell C9.out 0).trans rfl, (blk_cell C9.out 1).trans rfl, c0, r0, k2⟩ (fun hHeld => ?_)
            have T9 := below_drew1 (Below.refl w9.heap.size w9)
            have B4 := Aside0.mk (below_then B9.out B9.out.size T9)
            have C4 := Aside0.mk (blk_drew C9.out)
            have N4 := Aside0.mk (N9.out.below T9)
            have Z4 := Aside0.mk Z9.out
            rw [show w9.heap.size = w9.drew.heap.size from rfl] at Z4
            have O4O9a := Aside0.mk (blk_drew O9a.out)
            have O4O9b := Aside0.mk (blk_drew O9b.out)
            clear T9 c0 r0 k2
            generalize w9.drew = wd at hHeld B4 C4 N4 Z4 O4O9a O4O9b ⊢
            refine pure_ (i := 1) (N := some 47) (v := ?_) (a' := ?_) #[false, true, false, false, false, false, false, false, false, false, false, false, false, false, false] rfl rfl (by kernel_rfl) (fun _ _ _ h => h) (Or.inl ⟨by rfl, ?_⟩) ?_ ?_
            rotate_left
            · intro w'
              go_simp
              with_reducible rfl
            rotate_left
            · simp only [Act.put, List.setIfInBounds_toArray, List.set_cons_zero, List.set_cons_succ, i64_w, i32_w]
              rfl
            refine pure_ (i := 2) (N := some 48) (v := ?_) (a' := ?_) #[false, true, true, false, false, false, false, false, false, false, false, false, false, false, false] rfl rfl (by kernel_rfl) (fun _ _ _ h => h) (Or.inl ⟨by rfl, ?_⟩) ?_ ?_
            rotate_left
            · intro w'
              go_simp
              with_reducible rfl
            rotate_left
            · simp only [Act.put, List.setIfInBounds_toArray, List.set_cons_zero, List.set_cons_succ, i64_w, i32_w]
              rfl
            refine pure_ (i := 3) (N := some 49) (v := ?_) (a' := ?_) #[false, true, true, true, false, false, false, false, false, false, false, false, false, false, false] rfl rfl (by kernel_rfl) (fun _ _ _ h => h) (Or.inl ⟨by rfl, ?_⟩) ?_ ?_
            rotate_left
            · intro w'
              go_simp
              with_reducible rfl
            rotate_left
            · simp only [Act.put, List.setIfInBounds_toArray, List.set_cons_zero, List.set_cons_succ, i64_w, i32_w]
              rfl
            refine pure_ (i := 5) (N := some 51) (v := ?_) (a' := ?_) #[false, true, true, true, false, true, false, false, false, false, false, false, false, false, false] rfl rfl (by kernel_rfl) (fun _ _ _ h => h) (Or.inl ⟨by rfl, ?_⟩) ?_ ?_
            rotate_left
            · intro w'
              go_simp
              with_reducible rfl
            rotate_left
            · simp only [Act.put, List.setIfInBounds_toArray, List.set_cons_zero, List.set_cons_succ, i64_w, i32_w]
              rfl
            refine pure_ (i := 8) (N := some 54) (v := ?_) (a' := ?_) #[false, true, true, true, false, true, false, false, true, false, false, false, false, false, false] rfl rfl (by kernel_rfl) (fun _ _ _ h => h) (Or.inl ⟨by rfl, ?_⟩) ?_ ?_
            rotate_left
            · intro w'
              go_simp
              with_reducible rfl
            rotate_left
            · simp only [Act.put, List.setIfInBounds_toArray, List.set_cons_zero, List.set_cons_succ, i64_w, i32_w]
              rfl
            refine take_ (i := 0) (N := some 46) (v := ?_) (a' := ?_) #[true, true, true, true, false, true, false, false, true, false, false, false, false, false, false] rfl rfl (by kernel_rfl) (fun _ _ _ h => h) (Or.inl ⟨by rfl, ?_⟩) hHeld ?_ ?_
            rotate_left
            · rintro w' ⟨s0, s1, s2, s3, s4⟩
              go_simp
              with_reducible rfl
            rotate_left
            · simp only [Act.put, List.setIfInBounds_toArray, List.set_cons_zero, List.set_cons_succ, i64_w, i32_w]
              rfl
            refine take_ (i := 4) (N := some 50) (v := ?_) (a' := ?_) #[true, true, true, true, true, true, false, false, true, false, false, false, false, false, false] rfl rfl (by kernel_rfl) (fun _ _ _ h => h) (Or.inl ⟨by rfl, ?_⟩) hHeld ?_ ?_
            rotate_left
            · rintro w' ⟨s0, s1, s2, s3, s4⟩
              go_simp
              with_reducible rfl
            rotate_left
            · simp only [Act.put, List.setIfInBounds_toArray, List.set_cons_zero, List.set_cons_succ, i64_w, i32_w]
              rfl
            refine pure_ (i := 6) (N := some 52) (v := ?_) (a' := ?_) #[true, true, true, true, true, true, true, false, true, false, false, false, false, false, false] rfl rfl (by kernel_rfl) (fun _ _ _ h => h) (Or.inl ⟨by rfl, ?_⟩) ?_ ?_
            rotate_left
            · intro w'
              go_simp
              with_reducible rfl
            rotate_left
            · simp only [Act.put, List.setIfInBounds_toArray, List.set_cons_zero, List.set_cons_succ, i64_w, i32_w]
              rfl
            refine take_ (i := 7) (N := some 53) (v := ?_) (a' := ?_) #[true, true, true, true, true, true, true, true, true, false, false, false, false, false, false] rfl rfl (by kernel_rfl) (fun _ _ _ h => h) (Or.inl ⟨by rfl, ?_⟩) hHeld ?_ ?_
            rotate_left
            · rintro w' ⟨s0, s1, s2, s3, s4⟩
              go_simp
              with_reducible rfl
            rotate_left
            · simp only [Act.put, List.setIfInBounds_toArray, List.set_cons_zero, List.set_cons_succ, i64_w, i32_w]
              rfl
            refine pure_ (i := 9) (N := some 55) (v := ?_) (a' := ?_) #[true, true, true, true, true, true, true, true, true, true, false, false, false, false, false] rfl rfl (by kernel_rfl) (fun _ _ _ h => h) (Or.inl ⟨by rfl, ?_⟩) ?_ ?_
            rotate_left
            · intro w'
              go_simp
              with_reducible rfl
            rotate_left
            · simp only [Act.put, List.setIfInBounds_toArray, List.set_cons_zero, List.set_cons_succ, i64_w, i32_w]
              rfl
            refine pure_ (i := 10) (N := some 56) (v := ?_) (a' := ?_) #[true, true, true, true, true, true, true, true, true, true, true, false, false, false, false] rfl rfl (by kernel_rfl) (fun _ _ _ h => h) (Or.inl ⟨by rfl, ?_⟩) ?_ ?_
            rotate_left
            · intro w'
              go_simp
              with_reducible rfl
            rotate_left
            · simp only [Act.put, List.setIfInBounds_toArray, List.set_cons_zero, List.set_cons_succ, i64_w, i32_w]
              rfl
            refine take_ (i := 11) (N := some 57) (v := ?_) (a' := ?_) #[true, true, true, true, true, true, true, true, true, true, true, true, false, false, false] rfl rfl (by kernel_rfl) (fun _ _ _ h => h) (Or.inl ⟨by rfl, ?_⟩) hHeld ?_ ?_
            rotate_left
            · rintro w' ⟨s0, s1, s2, s3, s4⟩
              go_simp
              with_reducible rfl
            rotate_left
            · simp only [Act.put, List.setIfInBounds_toArray, List.set_cons_zero, List.set_cons_succ, i64_w, i32_w]
              rfl
            refine one_ (i := 12) (N := some 58) #[true, true, true, true, true, true, true, true, true, true, true, true, true, false, false] rfl rfl (by kernel_rfl) (by decide) (fun K hK => ?_)
            refine goes_ Try.func21 (by kernel_rfl) rfl #[.int .i64 y.f1] (by rfl) rfl rfl (by simp only [List.map_toArray, List.map_cons, List.map_nil]; first | done | rfl) ?_
            refine (bof_of y.f1 wd (HYW.out)).mono ?_
            rintro e w6 ⟨v6, rfl, hn6, hb6⟩
            refine ⟨_, rfl, ?_⟩
            have X60 := Aside0.mk ((hHeld.2.2.1 |> fun h => (hb6.cell (World.block_lt_of_cell? _ _ h)).trans h))
            have X61 := Aside0.mk ((hHeld.2.2.2.1 |> fun h => (hb6.cell (World.block_lt_of_cell? _ _ h)).trans h))
            have X62 := Aside0.mk ((hHeld.2.2.2.2 |> fun h => (hb6.cell (World.block_lt_of_cell? _ _ h)).trans h))
            have V6 := Aside0.mk hn6
            have N6 := Aside0.mk (N4.out.below hb6)
            have B6 := Aside0.mk (below_then B4.out B4.out.size hb6)
            have C6 := Aside0.mk ((hb6.block _ Z4.out).trans C4.out)
            have Z6 := Aside0.mk (Nat.lt_of_lt_of_le Z4.out hb6.size)
            have O6O9a := Aside0.mk ((hb6.block _ (blk_lt O4O9a.out)).trans O4O9a.out)
            have O6O9b := Aside0.mk ((hb6.block _ (blk_lt O4O9b.out)).trans O4O9b.out)
            refine hK.out _ _ ⟨(blk_cell C6.out 0).trans rfl, (blk_cell C6.out 1).trans rfl, X60.out, X61.out, X62.out⟩ (fun hHeld => ?_)
            clear hK K hn6 hb6
            refine norm_ (a' := ?_) ?_ ?_
            rotate_left
            · show Act.put _ (some 58) _ = _
              simp only [Act.put, List.setIfInBounds_toArray, List.set_cons_zero, List.set_cons_succ, i64_w, i32_w]
              rfl
            refine one_ (i := 13) (N := some 59) #[true, true, true, true, true, true, true, true, true, true, true, true, true, true, false] rfl rfl (by kernel_rfl) (by decide) (fun K hK => ?_)
            refine goes_ Try.func20 (by kernel_rfl) rfl #[.agg #[.slice As ns cs, .bool ms], v6] (by rfl) rfl rfl (by simp only [List.map_toArray, List.map_cons, List.map_nil]; first | done | rfl) ?_
            refine (nm_add N6.out (V6.out.six64 (HYW.out)) (by omega)).mono ?_
            rintro e w7 ⟨r7, rfl, hn7, hb7⟩
            obtain ⟨A7, l7, c7, m7, rfl⟩ := hn7.shape
            refine ⟨_, rfl, ?_⟩
            have X70 := Aside0.mk ((hHeld.2.2.1 |> fun h => (hb7.cell (World.block_lt_of_cell? _ _ h)).trans h))
            have X71 := Aside0.mk ((hHeld.2.2.2.1 |> fun h => (hb7.cell (World.block_lt_of_cell? _ _ h)).trans h))
            have X72 := Aside0.mk ((hHeld.2.2.2.2 |> fun h => (hb7.cell (World.block_lt_of_cell? _ _ h)).trans h))
            have V7 := Aside0.mk hn7
            have B7 := Aside0.mk (below_then B6.out B6.out.size hb7)
            have C7 := Aside0.mk ((hb7.block _ Z6.out).trans C6.out)
            have Z7 := Aside0.mk (Nat.lt_of_lt_of_le Z6.out hb7.size)
            have O7O9a := Aside0.mk ((hb7.block _ (blk_lt O6O9a.out)).trans O6O9a.out)
            have O7O9b := Aside0.mk ((hb7.block _ (blk_lt O6O9b.out)).trans O6O9b.out)
            refine hK.out _ _ ⟨(blk_cell C7.out 0).trans rfl, (blk_cell C7.out 1).trans rfl, X70.out, X71.out, X72.out⟩ (fun hHeld => ?_)
            clear hK K hn7 hb7
            refine norm_ (a' := ?_) ?_ ?_
            rotate_left
            · show Act.put _ (some 59) _ = _
              simp only [Act.put, List.setIfInBounds_toArray, List.set_cons_zero, List.set_cons_succ, i64_w, i32_w]
              rfl
            refine last_ (i := 14) (N := none) #[true, true, true, true, true, true, true, true, true, true, true, true, true, true, true] rfl rfl (by kernel_rfl) (by decide) (fun K hK => ?_)
            have kc0 := (blk_cell C7.out 0).trans rfl
            have kc1 := (blk_cell C7.out 1).trans rfl
            have kf0 := blk_frozen C7.out 0
            have kf1 := blk_frozen C7.out 1
            go_simp
            refine hK.out _ _ ?_
            clear hK K
            refine done_ (by kernel_rfl) ?_
            clear hHeld kc0 kc1 kf0 kf1
            have s2 := Aside0.mk ((tn_set w7 (w.heap.size + 1 + 1) 0 (.slice A7 l7 c7)).trans (tn_set _ (w.heap.size + 1 + 1) 1 (.bool m7)))
            have C8 := Aside0.mk (blk_set (blk_set C7.out 0 (.slice A7 l7 c7)) 1 (.bool m7))
            have V8 := Aside0.mk (V7.out.turn C7.out s2.out)
            have Z8 := Aside0.mk (Nat.lt_of_lt_of_le Z7.out s2.out.size)
            have B8 := Aside0.mk (Tn.below B7.out s2.out B7.out.size (fun k q => by have q2 : k = w.heap.size + 1 + 1 := q; omega))
            have O8O9a := Aside0.mk (s2.out.blk O7O9a.out (by omega))
            have O8O9b := Aside0.mk (s2.out.blk O7O9b.out (by omega))
            go_wp2_with fail
            refine ⟨⟨k + 1, A7, l7, c7, m7, rfl, ⟨by omega, ?_, C8.out, O8O9a.out, O8O9b.out, B8.out, Z8.out⟩⟩, by simp [intOf]; omega⟩
            rw [HST.out, if_pos HEQ.out, ← Int.add_assoc]
            refine V8.out.sixn (131072 + 65536) (by decide) ?_
            have := sumM_bd (M := M) (i := i) HG.out (by rw [HN.out]; exact hfew) (l := x.l) HXG.out.1 (k := k + 1) (by have := HXL.out; omega) a
            rw [HST.out, if_pos HEQ.out, ← Int.add_assoc] at this
            exact this
        · have ck2 : ¬ (↑k : Int) < ↑xl := by omega
          have hk : k = xl := by have := HJ.out.1; omega
          go_wp2_with fail
          refine ⟨⟨i + 1, As, ns, cs, ms, rfl, ⟨by omega, ?_, HJ.out.2.2⟩⟩, by simp [intOf]; omega⟩
          have := HJ.out.2.1
          rw [hk, ← HXL.out, List.take_length] at this
          rw [tot_take HX.out]
          exact this
    · have ci2 : ¬ (↑i : Int) < ↑N := by omega
      have hi : M.take i = M := List.take_of_length_le (by rw [HN.out]; omega)
      have HIE := Aside0.mk hi
      have HI1 := Aside0.mk HI.out.2.1
      clear hi
      go_wp2_with fail
      go_loopw [10] (fun v10 wr => ∃ (k : Nat) (As : Option Addr) (ns cs : Nat) (ms : Bool), v10 = .int .i64 ↑k ∧ Aside0 (k ≤ mo ∧ Nm wr (.agg #[.slice As ns cs, .bool ms]) (tot M a + adds (more.take k) a) 6 ∧ wr.heap[w.heap.size + 1 + 1]? = some (.cells #[.slice As ns cs, .bool ms] 47 (0, 0)) ∧ wr.heap[w.heap.size]? = some (.cells #[.int .i64 a.f0, .int .i64 a.f1] 32 (0, 0)) ∧ wr.heap[w.heap.size + 1]? = some (.cells #[.slice none 0 0, .bool false] 47 (0, 0)) ∧ Below w.heap.size w wr ∧ w.heap.size + 1 + 1 < wr.heap.size)) (fun v10 _ => (mo - intOf v10).toNat)
      case atStart => exact ⟨0, As, ns, cs, ms, rfl, ⟨Nat.zero_le _, (by have := HI1.out; rw [HIE.out] at this; rw [show tot M a + adds (more.take 0) a = tot M a from Int.add_zero _]; exact this), HI.out.2.2⟩⟩
      case round =>
        obtain ⟨k, As, ns, cs, ms, rfl, HJ⟩ := hrel
        by_cases ck : k < mo
        · have ck2 : (↑k : Int) < ↑mo := by omega
          have k00 : (0 : Int) ≤ ↑k := by omega
          obtain ⟨y, hy⟩ : ∃ y, more[k]? = some y := ⟨more[k]'(by rw [HMO.out]; exact ck), List.getElem?_eq_getElem _⟩
          obtain ⟨ad, hAt, k0, k1, k2⟩ := (HA.out.below HJ.out.2.2.2.2.2.1) k y hy
          subst hAt
          have HY := Aside0.mk hy
          have a0 := fun p : GWrld wr => gb_at k0 p
          have a1 := fun p : GWrld wr => bb_cell k1 p
          have a2 := fun p : GWrld wr => bb_cell k2 p
          have b0 := fun p : GWrld wr => gb_at ((blk_cell HJ.out.2.2.2.1 0).trans rfl) p
          have b1 := fun p : GWrld wr => gb_at ((blk_cell HJ.out.2.2.2.1 1).trans rfl) p
          have HST := Aside0.mk (adds_takeM (l := more) hy a)
          clear hy k0 k1 k2 c0
          rcases eq32 y.f0 a with ⟨p0, hne⟩ | ⟨p0, p1, hne⟩ | heq
          iterate 2
            · have HNE := Aside0.mk hne
              clear hne
              go_wp2_with fail
              refine gb_region (by kernel_rfl) (by kernel_rfl) ?_
              repeat (go_big_quiet_step (fail))
              refine wpQuiet_nil ?_
              intro _ hw'
              obtain ⟨gq, hw''⟩ := hw'
              subst hw''
              have B9 := Aside0.mk (below_then HJ.out.2.2.2.2.2.1 HJ.out.2.2.2.2.2.1.size gq.b)
              have C9 := Aside0.mk ((gq.b.block _ HJ.out.2.2.2.2.2.2).trans HJ.out.2.2.1)
              have O9a := Aside0.mk ((gq.b.block _ (blk_lt HJ.out.2.2.2.1)).trans HJ.out.2.2.2.1)
              have O9b := Aside0.mk ((gq.b.block _ (blk_lt HJ.out.2.2.2.2.1)).trans HJ.out.2.2.2.2.1)
              have N9 := Aside0.mk (HJ.out.2.1.below gq.b)
              have Z9 := Aside0.mk (Nat.lt_of_lt_of_le HJ.out.2.2.2.2.2.2 gq.b.size)
              clear a0 a1 a2 b0 b1
              go_wp2_with fail
              exact ⟨⟨k + 1, As, ns, cs, ms, rfl, ⟨by omega, (by rw [HST.out, if_neg HNE.out, Int.add_zero]; exact N9.out), C9.out, O9a.out, O9b.out, B9.out, Z9.out⟩⟩, by simp [intOf]; omega⟩
          · have HEQ := Aside0.mk heq
            have HYW := Aside0.mk ((HW.out y (List.mem_of_getElem? HY.out)).2)
            have q0 : (y.f0.f0 == a.f0) = true := by rw [heq]; exact beq_self_eq_true _
            have q1 : (y.f0.f1 == a.f1) = true := by rw [heq]; exact beq_self_eq_true _
            clear heq
            go_wp2_with fail
            refine gb_region (by kernel_rfl) (by kernel_rfl) ?_
            repeat (go_big_quiet_step (fail))
            refine wpQuiet_nil ?_
            intro _ hw'
            obtain ⟨gq, hw''⟩ := hw'
            subst hw''
            have B9 := Aside0.mk (below_then HJ.out.2.2.2.2.2.1 HJ.out.2.2.2.2.2.1.size gq.b)
            have C9 := Aside0.mk ((gq.b.block _ HJ.out.2.2.2.2.2.2).trans HJ.out.2.2.1)
            have O9a := Aside0.mk ((gq.b.block _ (blk_lt HJ.out.2.2.2.1)).trans HJ.out.2.2.2.1)
            have O9b := Aside0.mk ((gq.b.block _ (blk_lt HJ.out.2.2.2.2.1)).trans HJ.out.2.2.2.2.1)
            have N9 := Aside0.mk (HJ.out.2.1.below gq.b)
            have Z9 := Aside0.mk (Nat.lt_of_lt_of_le HJ.out.2.2.2.2.2.2 gq.b.size)
            have k2 := a2 gq
            clear a0 a1 a2 b0 b1
            generalize gq.w' = w9 at k2 B9 C9 O9a O9b N9 Z9 ⊢
            go_wp2_with fail
            refine start_ (n := 9) (S := fun w' => w'.cell? ⟨w.heap.size + 1 + 1, 0, none⟩ = some (.slice As ns cs) ∧ w'.cell? ⟨w.heap.size + 1 + 1, 1, none⟩ = some (.bool ms) ∧ w'.cell? ⟨(ad.add (k * 3)).block, (ad.add (k * 3)).off + 2, none⟩ = some (.int .i64 y.f1)) (ds := [8]) #[false, false, false, false, false, false, false, false, false] (by kernel_rfl) rfl rfl ⟨(blk_cell C9.out 0).trans rfl, (blk_cell C9.out 1).trans rfl, k2⟩ (fun hHeld => ?_)
            have T9 := below_drew1 (Below.refl w9.heap.size w9)
            have B4 := Aside0.mk (below_then B9.out B9.out.size T9)
            have C4 := Aside0.mk (blk_drew C9.out)
            have N4 := Aside0.mk (N9.out.below T9)
            have Z4 := Aside0.mk Z9.out
            rw [show w9.heap.size = w9.drew.heap.size from rfl] at Z4
            have O4O9a := Aside0.mk (blk_drew O9a.out)
            have O4O9b := Aside0.mk (blk_drew O9b.out)
            clear T9 k2
            generalize w9.drew = wd at hHeld B4 C4 N4 Z4 O4O9a O4O9b ⊢
            refine pure_ (i := 1) (N := some 74) (v := ?_) (a' := ?_) #[false, true, false, false, false, false, false, false, false] rfl rfl (by kernel_rfl) (fun _ _ _ h => h) (Or.inl ⟨by rfl, ?_⟩) ?_ ?_
            rotate_left
            · intro w'
              go_simp
              with_reducible rfl
            rotate_left
            · simp only [Act.put, List.setIfInBounds_toArray, List.set_cons_zero, List.set_cons_succ, i64_w, i32_w]
              rfl
            refine pure_ (i := 2) (N := some 75) (v := ?_) (a' := ?_) #[false, true, true, false, false, false, false, false, false] rfl rfl (by kernel_rfl) (fun _ _ _ h => h) (Or.inl ⟨by rfl, ?_⟩) ?_ ?_
            rotate_left
            · intro w'
              go_simp
              with_reducible rfl
            rotate_left
            · simp only [Act.put, List.setIfInBounds_toArray, List.set_cons_zero, List.set_cons_succ, i64_w, i32_w]
              rfl
            refine pure_ (i := 3) (N := some 76) (v := ?_) (a' := ?_) #[false, true, true, true, false, false, false, false, false] rfl rfl (by kernel_rfl) (fun _ _ _ h => h) (Or.inl ⟨by rfl, ?_⟩) ?_ ?_
            rotate_left
            · intro w'
              go_simp
              with_reducible rfl
            rotate_left
            · simp only [Act.put, List.setIfInBounds_toArray, List.set_cons_zero, List.set_cons_succ, i64_w, i32_w]
              rfl
            refine pure_ (i := 4) (N := some 77) (v := ?_) (a' := ?_) #[false, true, true, true, true, false, false, false, false] rfl rfl (by kernel_rfl) (fun _ _ _ h => h) (Or.inl ⟨by rfl, ?_⟩) ?_ ?_
            rotate_left
            · intro w'
              go_simp
              with_reducible rfl
            rotate_left
            · simp only [Act.put, List.setIfInBounds_toArray, List.set_cons_zero, List.set_cons_succ, i64_w, i32_w]
              rfl
            refine take_ (i := 0) (N := some 73) (v := ?_) (a' := ?_) #[true, true, true, true, true, false, false, false, false] rfl rfl (by kernel_rfl) (fun _ _ _ h => h) (Or.inl ⟨by rfl, ?_⟩) hHeld ?_ ?_
            rotate_left
            · rintro w' ⟨s0, s1, s2⟩
              go_simp
              with_reducible rfl
            rotate_left
            · simp only [Act.put, List.setIfInBounds_toArray, List.set_cons_zero, List.set_cons_succ, i64_w, i32_w]
              rfl
            refine take_ (i := 5) (N := some 78) (v := ?_) (a' := ?_) #[true, true, true, true, true, true, false, false, false] rfl rfl (by kernel_rfl) (fun _ _ _ h => h) (Or.inl ⟨by rfl, ?_⟩) hHeld ?_ ?_
            rotate_left
            · rintro w' ⟨s0, s1, s2⟩
              go_simp
              with_reducible rfl
            rotate_left
            · simp only [Act.put, List.setIfInBounds_toArray, List.set_cons_zero, List.set_cons_succ, i64_w, i32_w]
              rfl
            refine one_ (i := 6) (N := some 79) #[true, true, true, true, true, true, true, false, false] rfl rfl (by kernel_rfl) (by decide) (fun K hK => ?_)
            refine goes_ Try.func21 (by kernel_rfl) rfl #[.int .i64 y.f1] (by rfl) rfl rfl (by simp only [List.map_toArray, List.map_cons, List.map_nil]; first | done | rfl) ?_
            refine (bof_of y.f1 wd (HYW.out)).mono ?_
            rintro e w6 ⟨v6, rfl, hn6, hb6⟩
            refine ⟨_, rfl, ?_⟩
            have X60 := Aside0.mk ((hHeld.2.2 |> fun h => (hb6.cell (World.block_lt_of_cell? _ _ h)).trans h))
            have V6 := Aside0.mk hn6
            have N6 := Aside0.mk (N4.out.below hb6)
            have B6 := Aside0.mk (below_then B4.out B4.out.size hb6)
            have C6 := Aside0.mk ((hb6.block _ Z4.out).trans C4.out)
            have Z6 := Aside0.mk (Nat.lt_of_lt_of_le Z4.out hb6.size)
            have O6O9a := Aside0.mk ((hb6.block _ (blk_lt O4O9a.out)).trans O4O9a.out)
            have O6O9b := Aside0.mk ((hb6.block _ (blk_lt O4O9b.out)).trans O4O9b.out)
            refine hK.out _ _ ⟨(blk_cell C6.out 0).trans rfl, (blk_cell C6.out 1).trans rfl, X60.out⟩ (fun hHeld => ?_)
            clear hK K hn6 hb6
            refine norm_ (a' := ?_) ?_ ?_
            rotate_left
            · show Act.put _ (some 79) _ = _
              simp only [Act.put, List.setIfInBounds_toArray, List.set_cons_zero, List.set_cons_succ, i64_w, i32_w]
              rfl
            refine one_ (i := 7) (N := some 80) #[true, true, true, true, true, true, true, true, false] rfl rfl (by kernel_rfl) (by decide) (fun K hK => ?_)
            refine goes_ Try.func20 (by kernel_rfl) rfl #[.agg #[.slice As ns cs, .bool ms], v6] (by rfl) rfl rfl (by simp only [List.map_toArray, List.map_cons, List.map_nil]; first | done | rfl) ?_
            refine (nm_add N6.out (V6.out.six64 (HYW.out)) (by omega)).mono ?_
            rintro e w7 ⟨r7, rfl, hn7, hb7⟩
            obtain ⟨A7, l7, c7, m7, rfl⟩ := hn7.shape
            refine ⟨_, rfl, ?_⟩
            have X70 := Aside0.mk ((hHeld.2.2 |> fun h => (hb7.cell (World.block_lt_of_cell? _ _ h)).trans h))
            have V7 := Aside0.mk hn7
            have B7 := Aside0.mk (below_then B6.out B6.out.size hb7)
            have C7 := Aside0.mk ((hb7.block _ Z6.out).trans C6.out)
            have Z7 := Aside0.mk (Nat.lt_of_lt_of_le Z6.out hb7.size)
            have O7O9a := Aside0.mk ((hb7.block _ (blk_lt O6O9a.out)).trans O6O9a.out)
            have O7O9b := Aside0.mk ((hb7.block _ (blk_lt O6O9b.out)).trans O6O9b.out)
            refine hK.out _ _ ⟨(blk_cell C7.out 0).trans rfl, (blk_cell C7.out 1).trans rfl, X70.out⟩ (fun hHeld => ?_)
            clear hK K hn7 hb7
            refine norm_ (a' := ?_) ?_ ?_
            rotate_left
            · show Act.put _ (some 80) _ = _
              simp only [Act.put, List.setIfInBounds_toArray, List.set_cons_zero, List.set_cons_succ, i64_w, i32_w]
              rfl
            refine last_ (i := 8) (N := none) #[true, true, true, true, true, true, true, true, true] rfl rfl (by kernel_rfl) (by decide) (fun K hK => ?_)
            have kc0 := (blk_cell C7.out 0).trans rfl
            have kc1 := (blk_cell C7.out 1).trans rfl
            have kf0 := blk_frozen C7.out 0
            have kf1 := blk_frozen C7.out 1
            go_simp
            refine hK.out _ _ ?_
            clear hK K
            refine done_ (by kernel_rfl) ?_
            clear hHeld kc0 kc1 kf0 kf1
            have s2 := Aside0.mk ((tn_set w7 (w.heap.size + 1 + 1) 0 (.slice A7 l7 c7)).trans (tn_set _ (w.heap.size + 1 + 1) 1 (.bool m7)))
            have C8 := Aside0.mk (blk_set (blk_set C7.out 0 (.slice A7 l7 c7)) 1 (.bool m7))
            have V8 := Aside0.mk (V7.out.turn C7.out s2.out)
            have Z8 := Aside0.mk (Nat.lt_of_lt_of_le Z7.out s2.out.size)
            have B8 := Aside0.mk (Tn.below B7.out s2.out B7.out.size (fun k q => by have q2 : k = w.heap.size + 1 + 1 := q; omega))
            have O8O9a := Aside0.mk (s2.out.blk O7O9a.out (by omega))
            have O8O9b := Aside0.mk (s2.out.blk O7O9b.out (by omega))
            go_wp2_with fail
            refine ⟨⟨k + 1, A7, l7, c7, m7, rfl, ⟨by omega, ?_, C8.out, O8O9a.out, O8O9b.out, B8.out, Z8.out⟩⟩, by simp [intOf]; omega⟩
            rw [HST.out, if_pos HEQ.out, ← Int.add_assoc]
            refine V8.out.sixn (131072 + 65536) (by decide) ?_
            have := sumM_bd (M := M) (i := M.length) HG.out (by rw [HN.out]; exact hfew) (l := more) HW.out (k := k + 1) (by rw [HMO.out]; exact hl) a
            rw [HST.out, if_pos HEQ.out, ← Int.add_assoc, List.take_length] at this
            exact this
        · have ck2 : ¬ (↑k : Int) < ↑mo := by omega
          have hk : k = mo := by have := HJ.out.1; omega
          have kc0 := (blk_cell HJ.out.2.2.1 0).trans rfl
          have kc1 := (blk_cell HJ.out.2.2.1 1).trans rfl
          have rc0 := (blk_cell HJ.out.2.2.2.2.1 0).trans rfl
          have rc1 := (blk_cell HJ.out.2.2.2.2.1 1).trans rfl
          have rf0 := blk_frozen HJ.out.2.2.2.2.1 0
          have rf1 := blk_frozen HJ.out.2.2.2.2.1 1
          go_wp2_with fail
          have s2 := (tn_set wr (w.heap.size + 1) 0 (.slice As ns cs)).trans (tn_set _ (w.heap.size + 1) 1 (.bool ms))
          refine bodyPost_ret (results_cell_row rfl _ _ (w.heap.size + 1) 47 #[.slice As ns cs, .bool ms] (0, 0) _ rfl (blk_set (blk_set HJ.out.2.2.2.2.1 0 (.slice As ns cs)) 1 (.bool ms)) Try.underlying47 rfl (by kernel_rfl)) rfl ?_
          refine ⟨_, rfl, ?_, Tn.below HJ.out.2.2.2.2.2.1 s2 HJ.out.2.2.2.2.2.1.size (fun k q => by rw [q]; omega)⟩
          have e := HJ.out.2.1
          rw [hk, ← HMO.out, List.take_length] at e
          exact e.turn HJ.out.2.2.2.2.1 s2


open Go.Proofs.Ytcdhnglefldalaa.PBookPlays (S32 S34 S40 k32 k34 k40 z32 z34 z40 rd_T34 at_T34 rd_T40 at_T40 errEqI errEqL errEqR errNeI errNeL errNeR)
open Go.Maps
attribute [local go_sem high] errEqI errNeI errEqL errNeL errEqR errNeR
theorem Lr.take {w : World} {A : Option Addr} {l : List S34} (h : Lr w A l) (k : Nat) : Lr w A (l.take k) := fun j x hx => by
  rw [List.getElem?_take] at hx
  split at hx
  · exact h j x hx
  · cases hx
theorem WLs.take {l : List S34} (h : WLs l) (k : Nat) : WLs (l.take k) := fun x hx => h x (List.mem_of_mem_take hx)
/-- What posting comes to. -/
def Mc (n : Nat) (f : S32 → Int) (l : List S34) (c : Int) : Prop := (c = 0 ∧ pgood n f l) ∨ pbad n f l c
theorem Nm.pos {w : World} {A : Option Addr} {l c k : Nat} {m : Bool} {z : Int} (h : Nm w (.agg #[.slice A l c, .bool m]) z k) (hz : z ≠ 0) : 0 < l := by
  obtain ⟨A', c', d, m', h1, h2, h3, h4, h5, h6, h7, -⟩ := h
  simp at h1
  obtain ⟨⟨rfl, rfl, rfl⟩, rfl⟩ := h1
  rcases Nat.eq_zero_or_pos d.length with q | q
  · have q := List.eq_nil_of_length_eq_zero q
    subst q
    exfalso
    apply hz
    rw [h7]
    cases m <;> rfl
  · exact q
theorem any_take {l : List S34} {i : Nat} {y : S34} (hy : l[i]? = some y) : (l.take (i + 1)).any odd1 = ((l.take i).any odd1 || odd1 y) := by
  rw [List.take_add_one, hy, List.any_append]
  simp
theorem amts_take {l : List S34} {i : Nat} {y : S34} (hy : l[i]? = some y) : (amts (l.take (i + 1))).sum = (amts (l.take i)).sum + y.f1 := by
  rw [List.take_add_one, hy]
  simp [amts]
theorem amts_le {l : List S34} (h : WLs l) : -(9223372036854775808 * (l.length : Int)) ≤ (amts l).sum ∧ (amts l).sum ≤ 9223372036854775808 * (l.length : Int) := by
  induction l with
  | nil => simp [amts]
  | cons x t ih =>
    have e := ih (fun y hy => h y (by simp [hy]))
    have e2 := (h x (by simp)).2
    unfold W64 at e2
    show _ ≤ x.f1 + (amts t).sum ∧ x.f1 + (amts t).sum ≤ _
    simp only [List.length_cons]
    omega
theorem okP_step {f : S32 → Int} {l : List S34} {k : Nat} {y : S34} (h : okP f l k) (hy : l[k]? = some y) (h1 : W64 (f y.f0 + adds (l.take (k + 1)) y.f0)) (h2 : y.f1 ≠ -9223372036854775808) : okP f l (k + 1) := by
  intro j x hj hx
  by_cases q : j = k
  · subst q
    rw [hy] at hx
    cases hx
    exact ⟨h1, h2⟩
  · exact h j x (by omega) hx
set_option maxRecDepth 100000 in
set_option maxHeartbeats 8000000 in
theorem me_may {w : World} {B mb : Nat} {lv dv : Value} {M : List En} (h : Mb w B mb lv dv M) (A : Option Addr) (cap : Nat) (l : List S34) (hA : Lr w A l) (hl : l.length ≤ 65536) (hc : l.length ≤ cap) (hw : WLs l) : Calls Try.prog 42 #[.pointer (some ⟨mb, 0, none⟩), .slice A l.length cap] w fun e w' => ∃ c, e = .returned (.int .i64 c) ∧ Mc M.length (tot M) l c ∧ Below w.heap.size w w' := by
  have HM := Aside0.mk h
  have HA := Aside0.mk hA
  have HW := Aside0.mk hw
  obtain ⟨N, hN⟩ : ∃ N, M.length = N := ⟨_, rfl⟩
  obtain ⟨ln, hln⟩ : ∃ ln, l.length = ln := ⟨_, rfl⟩
  have HLN := Aside0.mk hln
  have HN := Aside0.mk hN
  have hfew := h.few
  obtain ⟨LA, LC, rfl⟩ := own_sl h.row
  have HM := Aside0.mk (show Mb w B mb (.slice LA N LC) dv M from hN ▸ h)
  rw [hN] at hfew
  rw [hln] at hl hc ⊢
  obtain ⟨c0, -⟩ := HM.out.cells
  rw [hN]
  clear h hA hw hN hln
  by_cases p8 : 4096 ≤ N
  · have q8 : (↑N : Int) ≥ 4096 := by omega
    go_enter Try.func42, Try.ntmps42
    go_wp2_with fail
    go_ret
    exact ⟨8, rfl, Or.inr (Or.inl ⟨p8, rfl⟩), Below.refl _ _⟩
  have q8 : ¬ (↑N : Int) ≥ 4096 := by omega
  by_cases p1 : ln < 1 ∨ 32 < ln
  · have hsh : shapedB l = false := by
      unfold shapedB
      rw [HLN.out]
      rcases p1 with q | q
      · rw [decide_eq_false (show ¬ 1 ≤ ln by omega)]; rfl
      · rw [decide_eq_false (show ¬ ln ≤ 32 by omega)]; simp
    have HSH := Aside0.mk hsh
    have hcs : (↑ln : Int) < 1 ∨ (¬ (↑ln : Int) < 1 ∧ (↑ln : Int) > 32) := by omega
    clear hsh p1
    rcases hcs with q1 | ⟨q1, q2⟩
    all_goals
      go_enter Try.func42, Try.ntmps42
      go_wp2_with fail
      go_ret
      exact ⟨1, rfl, Or.inr (Or.inr (Or.inl ⟨by omega, HSH.out, rfl⟩)), Below.refl _ _⟩
  have q1 : ¬ (↑ln : Int) < 1 := by omega
  have q2 : ¬ (↑ln : Int) > 32 := by omega
  have hl32 : ln ≤ 32 := by omega
  go_enter Try.func42, Try.ntmps42
  go_wp2_with fail
  have z1 := blk_new w (.cells #[.slice none 0 0, .bool false] 47)
  have z2 := below_alloc (Below.refl w.heap.size w) (.cells #[.slice none 0 0, .bool false] 47)
  have z3 : w.heap.size < (w.alloc (.cells #[.slice none 0 0, .bool false] 47)).heap.size := by simp
  generalize w.alloc (.cells #[.slice none 0 0, .bool false] 47) = w0 at z1 z2 z3 ⊢
  have HCR := Aside0.mk z1
  have HB0 := Aside0.mk z2
  have HZ0 := Aside0.mk z3
  clear z1 z2 z3 c0
  go_loopw [6, 7] (fun v6 _ wr => ∃ (i : Nat) (As : Option Addr) (ns cs : Nat) (ms : Bool), v6 = .int .i64 ↑i ∧ Aside0 (i ≤ ln ∧ (l.take i).any odd1 = false ∧ Nm wr (.agg #[.slice As ns cs, .bool ms]) (amts (l.take i)).sum 6 ∧ wr.heap[w.heap.size]? = some (.cells #[.slice As ns cs, .bool ms] 47 (0, 0)) ∧ Below w.heap.size w wr ∧ w.heap.size < wr.heap.size)) (fun v6 _ _ => (ln - intOf v6).toNat)
  case atStart => exact ⟨0, none, 0, 0, false, rfl, ⟨Nat.zero_le _, rfl, Nm.zero _ 6, HCR.out, HB0.out, HZ0.out⟩⟩
  case round =>
    obtain ⟨i, As, ns, cs, ms, rfl, HI⟩ := hrel
    by_cases ci : i < ln
    · have ci2 : (↑i : Int) < ↑ln := by omega
      have i0 : (0 : Int) ≤ ↑i := by omega
      obtain ⟨y, hy⟩ : ∃ y, l[i]? = some y := ⟨l[i]'(by rw [HLN.out]; exact ci), List.getElem?_eq_getElem _⟩
      obtain ⟨ad, hAt, k0, k1, k2⟩ := (HA.out.below HI.out.2.2.2.2.1) i y hy
      subst hAt
      have HY := Aside0.mk hy
      have HYW := Aside0.mk ((HW.out y (List.mem_of_getElem? hy)).2)
      obtain ⟨mv, hmv⟩ : ∃ mv, cn_may y.f0.f0 y.f0.f1 = mv := ⟨_, rfl⟩
      have HMV := Aside0.mk hmv
      have HSH := Aside0.mk (fun (q : odd1 y = true) => show shapedB l = false by
        unfold shapedB
        rw [List.any_eq_true.2 ⟨y, List.mem_of_getElem? hy, q⟩]
        simp)
      have MAY := Aside0.mk (ma_may y.f0.f0 y.f0.f1 wr)
      rw [hmv] at MAY
      clear hy hmv
      go_wp2_with fail
      refine MAY.out.mono ?_
      rintro e w9 ⟨rfl, hb9⟩
      have B9 := Aside0.mk (below_then HI.out.2.2.2.2.1 HI.out.2.2.2.2.1.size hb9)
      have C9 := Aside0.mk ((hb9.block _ HI.out.2.2.2.2.2).trans HI.out.2.2.2.1)
      have N9 := Aside0.mk (HI.out.2.2.1.below hb9)
      have Z9 := Aside0.mk (Nat.lt_of_lt_of_le HI.out.2.2.2.2.2 hb9.size)
      replace k2 := bl_cell k2 hb9
      clear hb9 k0 k1
      cases mv with
      | false =>
        go_wp2_with fail
        go_ret
        exact ⟨1, rfl, Or.inr (Or.inr (Or.inl ⟨by omega, HSH.out (by unfold odd1 lmay; rw [HMV.out]; simp), rfl⟩)), B9.out⟩
      | true =>
        by_cases pz : y.f1 = 0
        · have b0 : (y.f1 == 0) = true := by rw [pz]; rfl
          have PZ := Aside0.mk pz
          clear pz
          go_wp2_with fail
          go_ret
          exact ⟨1, rfl, Or.inr (Or.inr (Or.inl ⟨by omega, HSH.out (by unfold odd1; rw [PZ.out]; rfl), rfl⟩)), B9.out⟩
        · have b0 : (y.f1 == 0) = false := beq_eq_false_iff_ne.2 pz
          have PZ := Aside0.mk pz
          clear pz
          go_wp2_with fail
          refine start_ (n := 9) (S := fun w' => w'.cell? ⟨w.heap.size, 0, none⟩ = some (.slice As ns cs) ∧ w'.cell? ⟨w.heap.size, 1, none⟩ = some (.bool ms) ∧ w'.cell? ⟨(ad.add (i * 3)).block, (ad.add (i * 3)).off + 2, none⟩ = some (.int .i64 y.f1)) (ds := [8]) #[false, false, false, false, false, false, false, false, false] (by kernel_rfl) rfl rfl ⟨(blk_cell C9.out 0).trans rfl, (blk_cell C9.out 1).trans rfl, k2⟩ (fun hHeld => ?_)
          have T9 := below_drew1 (Below.refl w9.heap.size w9)
          have B4 := Aside0.mk (below_then B9.out B9.out.size T9)
          have C4 := Aside0.mk (blk_drew C9.out)
          have N4 := Aside0.mk (N9.out.below T9)
          have Z4 := Aside0.mk Z9.out
          rw [show w9.heap.size = w9.drew.heap.size from rfl] at Z4
          clear T9 k2
          generalize w9.drew = wd at hHeld B4 C4 N4 Z4 ⊢
          refine pure_ (i := 1) (N := some 49) (v := ?_) (a' := ?_) #[false, true, false, false, false, false, false, false, false] rfl rfl (by kernel_rfl) (fun _ _ _ h => h) (Or.inl ⟨by rfl, ?_⟩) ?_ ?_
          rotate_left
          · intro w'
            go_simp
            with_reducible rfl
          rotate_left
          · simp only [Act.put, List.setIfInBounds_toArray, List.set_cons_zero, List.set_cons_succ, i64_w, i32_w]
            rfl
          refine pure_ (i := 2) (N := some 50) (v := ?_) (a' := ?_) #[false, true, true, false, false, false, false, false, false] rfl rfl (by kernel_rfl) (fun _ _ _ h => h) (Or.inl ⟨by rfl, ?_⟩) ?_ ?_
          rotate_left
          · intro w'
            go_simp
            with_reducible rfl
          rotate_left
          · simp only [Act.put, List.setIfInBounds_toArray, List.set_cons_zero, List.set_cons_succ, i64_w, i32_w]
            rfl
          refine pure_ (i := 3) (N := some 51) (v := ?_) (a' := ?_) #[false, true, true, true, false, false, false, false, false] rfl rfl (by kernel_rfl) (fun _ _ _ h => h) (Or.inl ⟨by rfl, ?_⟩) ?_ ?_
          rotate_left
          · intro w'
            go_simp
            with_reducible rfl
          rotate_left
          · simp only [Act.put, List.setIfInBounds_toArray, List.set_cons_zero, List.set_cons_succ, i64_w, i32_w]
            rfl
          refine pure_ (i := 4) (N := some 52) (v := ?_) (a' := ?_) #[false, true, true, true, true, false, false, false, false] rfl rfl (by kernel_rfl) (fun _ _ _ h => h) (Or.inl ⟨by rfl, ?_⟩) ?_ ?_
          rotate_left
          · intro w'
            go_simp
            with_reducible rfl
          rotate_left
          · simp only [Act.put, List.setIfInBounds_toArray, List.set_cons_zero, List.set_cons_succ, i64_w, i32_w]
            rfl
          refine take_ (i := 0) (N := some 48) (v := ?_) (a' := ?_) #[true, true, true, true, true, false, false, false, false] rfl rfl (by kernel_rfl) (fun _ _ _ h => h) (Or.inl ⟨by rfl, ?_⟩) hHeld ?_ ?_
          rotate_left
          · rintro w' ⟨s0, s1, s2⟩
            go_simp
            with_reducible rfl
          rotate_left
          · simp only [Act.put, List.setIfInBounds_toArray, List.set_cons_zero, List.set_cons_succ, i64_w, i32_w]
            rfl
          refine take_ (i := 5) (N := some 53) (v := ?_) (a' := ?_) #[true, true, true, true, true, true, false, false, false] rfl rfl (by kernel_rfl) (fun _ _ _ h => h) (Or.inl ⟨by rfl, ?_⟩) hHeld ?_ ?_
          rotate_left
          · rintro w' ⟨s0, s1, s2⟩
            go_simp
            with_reducible rfl
          rotate_left
          · simp only [Act.put, List.setIfInBounds_toArray, List.set_cons_zero, List.set_cons_succ, i64_w, i32_w]
            rfl
          refine one_ (i := 6) (N := some 54) #[true, true, true, true, true, true, true, false, false] rfl rfl (by kernel_rfl) (by decide) (fun K hK => ?_)
          refine goes_ Try.func21 (by kernel_rfl) rfl #[.int .i64 y.f1] (by rfl) rfl rfl (by simp only [List.map_toArray, List.map_cons, List.map_nil]; first | done | rfl) ?_
          refine (bof_of y.f1 wd (HYW.out)).mono ?_
          rintro e w6 ⟨v6, rfl, hn6, hb6⟩
          refine ⟨_, rfl, ?_⟩
          have X60 := Aside0.mk ((hHeld.2.2 |> fun h => (hb6.cell (World.block_lt_of_cell? _ _ h)).trans h))
          have V6 := Aside0.mk hn6
          have N6 := Aside0.mk (N4.out.below hb6)
          have B6 := Aside0.mk (below_then B4.out B4.out.size hb6)
          have C6 := Aside0.mk ((hb6.block _ Z4.out).trans C4.out)
          have Z6 := Aside0.mk (Nat.lt_of_lt_of_le Z4.out hb6.size)
          refine hK.out _ _ ⟨(blk_cell C6.out 0).trans rfl, (blk_cell C6.out 1).trans rfl, X60.out⟩ (fun hHeld => ?_)
          clear hK K hn6 hb6
          refine norm_ (a' := ?_) ?_ ?_
          rotate_left
          · show Act.put _ (some 54) _ = _
            simp only [Act.put, List.setIfInBounds_toArray, List.set_cons_zero, List.set_cons_succ, i64_w, i32_w]
            rfl
          refine one_ (i := 7) (N := some 55) #[true, true, true, true, true, true, true, true, false] rfl rfl (by kernel_rfl) (by decide) (fun K hK => ?_)
          refine goes_ Try.func20 (by kernel_rfl) rfl #[.agg #[.slice As ns cs, .bool ms], v6] (by rfl) rfl rfl (by simp only [List.map_toArray, List.map_cons, List.map_nil]; first | done | rfl) ?_
          refine (nm_add N6.out (V6.out.six64 (HYW.out)) (by omega)).mono ?_
          rintro e w7 ⟨r7, rfl, hn7, hb7⟩
          obtain ⟨A7, l7, c7, m7, rfl⟩ := hn7.shape
          refine ⟨_, rfl, ?_⟩
          have X70 := Aside0.mk ((hHeld.2.2 |> fun h => (hb7.cell (World.block_lt_of_cell? _ _ h)).trans h))
          have V7 := Aside0.mk hn7
          have B7 := Aside0.mk (below_then B6.out B6.out.size hb7)
          have C7 := Aside0.mk ((hb7.block _ Z6.out).trans C6.out)
          have Z7 := Aside0.mk (Nat.lt_of_lt_of_le Z6.out hb7.size)
          refine hK.out _ _ ⟨(blk_cell C7.out 0).trans rfl, (blk_cell C7.out 1).trans rfl, X70.out⟩ (fun hHeld => ?_)
          clear hK K hn7 hb7
          refine norm_ (a' := ?_) ?_ ?_
          rotate_left
          · show Act.put _ (some 55) _ = _
            simp only [Act.put, List.setIfInBounds_toArray, List.set_cons_zero, List.set_cons_succ, i64_w, i32_w]
            rfl
          refine last_ (i := 8) (N := none) #[true, true, true, true, true, true, true, true, true] rfl rfl (by kernel_rfl) (by decide) (fun K hK => ?_)
          have kc0 := (blk_cell C7.out 0).trans rfl
          have kc1 := (blk_cell C7.out 1).trans rfl
          have kf0 := blk_frozen C7.out 0
          have kf1 := blk_frozen C7.out 1
          go_simp
          refine hK.out _ _ ?_
          clear hK K
          refine done_ (by kernel_rfl) ?_
          clear hHeld kc0 kc1 kf0 kf1
          have s2 := Aside0.mk ((tn_set w7 (w.heap.size) 0 (.slice A7 l7 c7)).trans (tn_set _ (w.heap.size) 1 (.bool m7)))
          have C8 := Aside0.mk (blk_set (blk_set C7.out 0 (.slice A7 l7 c7)) 1 (.bool m7))
          have V8 := Aside0.mk (V7.out.turn C7.out s2.out)
          have Z8 := Aside0.mk (Nat.lt_of_lt_of_le Z7.out s2.out.size)
          have B8 := Aside0.mk (Tn.below B7.out s2.out B7.out.size (fun k q => by have q2 : k = w.heap.size := q; omega))
          go_wp2_with fail
          have HOD : odd1 y = false := by unfold odd1 lmay; rw [HMV.out, beq_eq_false_iff_ne.2 PZ.out]; rfl
          refine ⟨⟨i + 1, A7, l7, c7, m7, rfl, ⟨by omega, by rw [any_take HY.out, HI.out.2.1, HOD]; rfl, ?_, C8.out, B8.out, Z8.out⟩⟩, by simp [intOf]; omega⟩
          rw [amts_take HY.out]
          refine V8.out.sixn 65536 (by decide) ?_
          have := amts_le (HW.out.take (i + 1))
          rw [amts_take HY.out, List.length_take] at this
          have h2 := HLN.out
          omega
    · have ci2 : ¬ (↑i : Int) < ↑ln := by omega
      have hi : l.take i = l := List.take_of_length_le (by rw [HLN.out]; omega)
      have HI3 := HI.out
      rw [hi] at HI3
      have HSH := Aside0.mk (show shapedB l = true by
        unfold shapedB
        rw [HLN.out, HI3.2.1, decide_eq_true (show 1 ≤ ln by omega), decide_eq_true (show ln ≤ 32 by omega)]
        rfl)
      have HI4 := Aside0.mk HI3
      clear HI3 hi
      have kc0 := (blk_cell HI4.out.2.2.2.1 0).trans rfl
      by_cases ps : (amts l).sum = 0
      rotate_left
      · have hn := HI4.out.2.2.1.pos ps
        have g0 : (↑ns : Int) > 0 := by omega
        have PS := Aside0.mk ps
        clear ps hn
        go_wp2_with fail
        go_ret
        exact ⟨2, rfl, Or.inr (Or.inr (Or.inr (Or.inl ⟨by omega, HSH.out, PS.out, rfl⟩))), HI4.out.2.2.2.2.1⟩
      · have hnm := HI4.out.2.2.1
        rw [ps] at hnm
        obtain ⟨A', c', hv⟩ := hnm.isz
        simp at hv
        obtain ⟨⟨rfl, rfl, rfl⟩, rfl⟩ := hv
        have PS := Aside0.mk ps
        have HBW := Aside0.mk HI4.out.2.2.2.2.1
        clear hnm ps
        go_wp2_with fail
        go_loopw [8, 9, 10] (fun v8 _ _ wr => ∃ (k : Nat), v8 = .int .i64 ↑k ∧ Aside0 (k ≤ ln ∧ okP (tot M) l k ∧ Below w.heap.size w wr)) (fun v8 _ _ _ => (ln - intOf v8).toNat)
        case atStart => exact ⟨0, rfl, ⟨Nat.zero_le _, (fun j x hj => by omega), HBW.out⟩⟩
        case round =>
          obtain ⟨k, rfl, HJ⟩ := hrel
          by_cases ck : k < ln
          · have ck2 : (↑k : Int) < ↑ln := by omega
            have k00 : (0 : Int) ≤ ↑k := by omega
            have ck3 : (↑k : Int) + 1 ≤ ↑cap := by omega
            have ck4 : (0 : Int) ≤ ↑k + 1 := by omega
            have gw : wrap64 (↑k + 1) = ↑k + 1 := by unfold wrap64; omega
            have gt : (↑k + 1 : Int).toNat = k + 1 := by omega
            obtain ⟨y, hy⟩ : ∃ y, l[k]? = some y := ⟨l[k]'(by rw [HLN.out]; exact ck), List.getElem?_eq_getElem _⟩
            obtain ⟨ad, hAt, k0, k1, k2⟩ := (HA.out.below HJ.out.2.2) k y hy
            subst hAt
            have HY := Aside0.mk hy
            have hlt : (l.take (k + 1)).length = k + 1 := by rw [List.length_take, HLN.out]; omega
            have SM := Aside0.mk (fun (W : World) (hW : Below w.heap.size w W) => md_sum (HM.out.below hW) y.f0 (some ad) cap (l.take (k + 1)) ((HA.out.below hW).take _) (by rw [hlt]; omega) (HW.out.take _))
            rw [hlt] at SM
            obtain ⟨fz, hfz⟩ : ∃ fz, fits (tot M y.f0 + adds (l.take (k + 1)) y.f0) = fz := ⟨_, rfl⟩
            have HFZ := Aside0.mk hfz
            have K2 := Aside0.mk k2
            clear hy hlt hfz k2
            go_wp2_with fail
            refine start_ (n := 17) (S := fun w' => w'.cell? (ad.add (k * 3)) = some (.int .i64 y.f0.f0) ∧ w'.cell? ⟨(ad.add (k * 3)).block, (ad.add (k * 3)).off + 1, none⟩ = some (.int .i64 y.f0.f1)) (ds := []) #[false, false, false, false, false, false, false, false, false, false, false, false, false, false, false, false, false] (by kernel_rfl) rfl rfl ⟨k0, k1⟩ (fun hHeld => ?_)
            have B4 := Aside0.mk (below_then HJ.out.2.2 HJ.out.2.2.size (below_drew1 (Below.refl wr.heap.size wr)))
            have X4 := Aside0.mk (bl_cell K2.out (below_drew1 (Below.refl wr.heap.size wr)))
            clear k0 k1
            generalize wr.drew = wd at hHeld B4 X4 ⊢
            refine pure_ (i := 0) (N := some 67) (v := ?_) (a' := ?_) #[true, false, false, false, false, false, false, false, false, false, false, false, false, false, false, false, false] rfl rfl (by kernel_rfl) (fun _ _ _ h => h) (Or.inl ⟨by rfl, ?_⟩) ?_ ?_
            rotate_left
            · intro w'
              go_simp
              with_reducible rfl
            rotate_left
            · simp only [Act.put, List.setIfInBounds_toArray, List.set_cons_zero, List.set_cons_succ, i64_w, i32_w]
              rfl
            refine pure_ (i := 1) (N := some 68) (v := ?_) (a' := ?_) #[true, true, false, false, false, false, false, false, false, false, false, false, false, false, false, false, false] rfl rfl (by kernel_rfl) (fun _ _ _ h => h) (Or.inl ⟨by rfl, ?_⟩) ?_ ?_
            rotate_left
            · intro w'
              go_simp
              with_reducible rfl
            rotate_left
            · simp only [Act.put, List.setIfInBounds_toArray, List.set_cons_zero, List.set_cons_succ, i64_w, i32_w]
              rfl
            refine pure_ (i := 2) (N := some 69) (v := ?_) (a' := ?_) #[true, true, true, false, false, false, false, false, false, false, false, false, false, false, false, false, false] rfl rfl (by kernel_rfl) (fun _ _ _ h => h) (Or.inl ⟨by rfl, ?_⟩) ?_ ?_
            rotate_left
            · intro w'
              go_simp
              with_reducible rfl
            rotate_left
            · simp only [Act.put, List.setIfInBounds_toArray, List.set_cons_zero, List.set_cons_succ, i64_w, i32_w]
              rfl
            refine pure_ (i := 3) (N := some 70) (v := ?_) (a' := ?_) #[true, true, true, true, false, false, false, false, false, false, false, false, false, false, false, false, false] rfl rfl (by kernel_rfl) (fun _ _ _ h => h) (Or.inl ⟨by rfl, ?_⟩) ?_ ?_
            rotate_left
            · intro w'
              go_simp
              with_reducible rfl
            rotate_left
            · simp only [Act.put, List.setIfInBounds_toArray, List.set_cons_zero, List.set_cons_succ, i64_w, i32_w]
              rfl
            refine pure_ (i := 4) (N := some 71) (v := ?_) (a' := ?_) #[true, true, true, true, true, false, false, false, false, false, false, false, false, false, false, false, false] rfl rfl (by kernel_rfl) (fun _ _ _ h => h) (Or.inl ⟨by rfl, ?_⟩) ?_ ?_
            rotate_left
            · intro w'
              go_simp
              with_reducible rfl
            rotate_left
            · simp only [Act.put, List.setIfInBounds_toArray, List.set_cons_zero, List.set_cons_succ, i64_w, i32_w]
              rfl
            refine pure_ (i := 6) (N := some 73) (v := ?_) (a' := ?_) #[true, true, true, true, true, false, true, false, false, false, false, false, false, false, false, false, false] rfl rfl (by kernel_rfl) (fun _ _ _ h => h) (Or.inl ⟨by rfl, ?_⟩) ?_ ?_
            rotate_left
            · intro w'
              go_simp
              with_reducible rfl
            rotate_left
            · simp only [Act.put, List.setIfInBounds_toArray, List.set_cons_zero, List.set_cons_succ, i64_w, i32_w]
              rfl
            refine pure_ (i := 7) (N := some 74) (v := ?_) (a' := ?_) #[true, true, true, true, true, false, true, true, false, false, false, false, false, false, false, false, false] rfl rfl (by kernel_rfl) (fun _ _ _ h => h) (Or.inl ⟨by rfl, ?_⟩) ?_ ?_
            rotate_left
            · intro w'
              go_simp
              with_reducible rfl
            rotate_left
            · simp only [Act.put, List.setIfInBounds_toArray, List.set_cons_zero, List.set_cons_succ, i64_w, i32_w]
              rfl
            refine pure_ (i := 8) (N := some 75) (v := ?_) (a' := ?_) #[true, true, true, true, true, false, true, true, true, false, false, false, false, false, false, false, false] rfl rfl (by kernel_rfl) (fun _ _ _ h => h) (Or.inl ⟨by rfl, ?_⟩) ?_ ?_
            rotate_left
            · intro w'
              go_simp
              with_reducible rfl
            rotate_left
            · simp only [Act.put, List.setIfInBounds_toArray, List.set_cons_zero, List.set_cons_succ, i64_w, i32_w]
              rfl
            refine pure_ (i := 9) (N := some 76) (v := ?_) (a' := ?_) #[true, true, true, true, true, false, true, true, true, true, false, false, false, false, false, false, false] rfl rfl (by kernel_rfl) (fun _ _ _ h => h) (Or.inl ⟨by rfl, ?_⟩) ?_ ?_
            rotate_left
            · intro w'
              go_simp
              with_reducible rfl
            rotate_left
            · simp only [Act.put, List.setIfInBounds_toArray, List.set_cons_zero, List.set_cons_succ, i64_w, i32_w]
              rfl
            refine take_ (i := 5) (N := some 72) (v := ?_) (a' := ?_) #[true, true, true, true, true, true, true, true, true, true, false, false, false, false, false, false, false] rfl rfl (by kernel_rfl) (fun _ _ _ h => h) (Or.inl ⟨by rfl, ?_⟩) hHeld ?_ ?_
            rotate_left
            · rintro w' ⟨s0, s1⟩
              go_simp
              with_reducible rfl
            rotate_left
            · simp only [Act.put, List.setIfInBounds_toArray, List.set_cons_zero, List.set_cons_succ, i64_w, i32_w]
              rfl
            refine one_ (i := 10) (N := some 77) #[true, true, true, true, true, true, true, true, true, true, true, false, false, false, false, false, false] rfl rfl (by kernel_rfl) (by decide) (fun K hK => ?_)
            refine goes_ Try.func45 (by kernel_rfl) rfl #[.pointer (some ⟨mb, 0, none⟩), .agg #[.int .i64 y.f0.f0, .int .i64 y.f0.f1], .slice (some ad) (k + 1) cap] (by rfl) rfl rfl (by simp only [List.map_toArray, List.map_cons, List.map_nil]; first | done | rfl) ?_
            refine (SM.out wd B4.out).mono ?_
            rintro e w6 ⟨v6, rfl, hn6, hb6⟩
            refine ⟨_, rfl, ?_⟩
            have V6 := Aside0.mk hn6
            have B6 := Aside0.mk (below_then B4.out B4.out.size hb6)
            have X6 := Aside0.mk (bl_cell X4.out hb6)
            refine hK.out _ _ ⟨(hb6.cell (World.block_lt_of_cell? _ _ hHeld.1)).trans hHeld.1, bl_cell hHeld.2 hb6⟩ (fun hHeld => ?_)
            clear hK K hn6 hb6
            refine norm_ (a' := ?_) ?_ ?_
            rotate_left
            · show Act.put _ (some 77) _ = _
              simp only [Act.put, List.setIfInBounds_toArray, List.set_cons_zero, List.set_cons_succ, i64_w, i32_w]
              rfl
            refine one_ (i := 11) (N := some 78) #[true, true, true, true, true, true, true, true, true, true, true, true, false, false, false, false, false] rfl rfl (by kernel_rfl) (by decide) (fun K hK => ?_)
            refine goes_ Try.func44 (by kernel_rfl) rfl #[v6] (by rfl) rfl rfl (by simp only [List.map_toArray, List.map_cons, List.map_nil]; first | done | rfl) ?_
            refine (mb_to V6.out).mono ?_
            rintro e w7 ⟨r7, rfl, -, hb7⟩
            rw [HFZ.out]
            refine ⟨_, rfl, ?_⟩
            have B7 := Aside0.mk (below_then B6.out B6.out.size hb7)
            have X7 := Aside0.mk (bl_cell X6.out hb7)
            refine hK.out _ _ ⟨(hb7.cell (World.block_lt_of_cell? _ _ hHeld.1)).trans hHeld.1, bl_cell hHeld.2 hb7⟩ (fun hHeld => ?_)
            clear hK K hb7
            refine norm_ (a' := ?_) ?_ ?_
            rotate_left
            · show Act.put _ (some 78) _ = _
              simp only [Act.put, List.setIfInBounds_toArray, List.set_cons_zero, List.set_cons_succ, i64_w, i32_w]
              rfl
            refine pure_ (i := 12) (N := some 66) (v := ?_) (a' := ?_) #[true, true, true, true, true, true, true, true, true, true, true, true, true, false, false, false, false] rfl rfl (by kernel_rfl) (fun _ _ _ h => h) (Or.inl ⟨by rfl, ?_⟩) ?_ ?_
            rotate_left
            · intro w'
              go_simp
              with_reducible rfl
            rotate_left
            · simp only [Act.put, List.setIfInBounds_toArray, List.set_cons_zero, List.set_cons_succ, i64_w, i32_w]
              rfl
            refine pure_ (i := 13) (N := some 79) (v := ?_) (a' := ?_) #[true, true, true, true, true, true, true, true, true, true, true, true, true, true, false, false, false] rfl rfl (by kernel_rfl) (fun _ _ _ h => h) (Or.inl ⟨by rfl, ?_⟩) ?_ ?_
            rotate_left
            · intro w'
              go_simp
              with_reducible rfl
            rotate_left
            · simp only [Act.put, List.setIfInBounds_toArray, List.set_cons_zero, List.set_cons_succ, i64_w, i32_w]
              rfl
            refine pure_ (i := 14) (N := some 80) (v := ?_) (a' := ?_) #[true, true, true, true, true, true, true, true, true, true, true, true, true, true, true, false, false] rfl rfl (by kernel_rfl) (fun _ _ _ h => h) (Or.inl ⟨by rfl, ?_⟩) ?_ ?_
            rotate_left
            · intro w'
              go_simp
              with_reducible rfl
            rotate_left
            · simp only [Act.put, List.setIfInBounds_toArray, List.set_cons_zero, List.set_cons_succ, i64_w, i32_w]
              rfl
            refine pure_ (i := 15) (N := some 9) (v := ?_) (a' := ?_) #[true, true, true, true, true, true, true, true, true, true, true, true, true, true, true, true, false] rfl rfl (by kernel_rfl) (fun _ _ _ h => h) (Or.inl ⟨by rfl, ?_⟩) ?_ ?_
            rotate_left
            · intro w'
              go_simp
              with_reducible rfl
            rotate_left
            · simp only [Act.put, List.setIfInBounds_toArray, List.set_cons_zero, List.set_cons_succ, i64_w, i32_w]
              rfl
            refine pure_ (i := 16) (N := some 10) (v := ?_) (a' := ?_) #[true, true, true, true, true, true, true, true, true, true, true, true, true, true, true, true, true] rfl rfl (by kernel_rfl) (fun _ _ _ h => h) (Or.inl ⟨by rfl, ?_⟩) ?_ ?_
            rotate_left
            · intro w'
              go_simp
              with_reducible rfl
            rotate_left
            · simp only [Act.put, List.setIfInBounds_toArray, List.set_cons_zero, List.set_cons_succ, i64_w, i32_w]
              rfl
            refine done_ (by kernel_rfl) ?_
            clear hHeld
            clear hHeld
            have hbad : ¬ (W64 (tot M y.f0 + adds (l.take (k + 1)) y.f0) ∧ y.f1 ≠ -9223372036854775808) → Mc N (tot M) l 3 := fun q => Or.inr (Or.inr (Or.inr (Or.inr ⟨by omega, HSH.out, PS.out, (fun o => q (o k y (by rw [HLN.out]; exact ck) HY.out)), rfl⟩)))
            have HBAD := Aside0.mk hbad
            clear hbad
            have k2 := X7.out
            cases fz with
            | false =>
              go_wp2_with fail
              go_ret
              exact ⟨3, rfl, HBAD.out (fun q => by have := fits_true q.1; rw [HFZ.out] at this; cases this), B7.out⟩
            | true =>
              by_cases pz : y.f1 = -9223372036854775808
              · have b0 : (y.f1 == -9223372036854775808) = true := by rw [pz]; rfl
                have PZ := Aside0.mk pz
                clear pz
                go_wp2_with fail
                go_ret
                exact ⟨3, rfl, HBAD.out (fun q => q.2 PZ.out), B7.out⟩
              · have b0 : (y.f1 == -9223372036854775808) = false := beq_eq_false_iff_ne.2 pz
                have PZ := Aside0.mk pz
                clear pz
                go_wp2_with fail
                exact ⟨⟨k + 1, rfl, ⟨by omega, okP_step HJ.out.2.1 HY.out ((fits_iff _).1 HFZ.out) PZ.out, B7.out⟩⟩, by simp [intOf]; omega⟩
          · have ck2 : ¬ (↑k : Int) < ↑ln := by omega
            have hk : k = ln := by have := HJ.out.1; omega
            go_wp2_with fail
            go_ret
            exact ⟨0, rfl, Or.inl ⟨rfl, by omega, HSH.out, PS.out, by rw [HLN.out, ← hk]; exact HJ.out.2.1⟩, HJ.out.2.2⟩


end Go.Proofs.Ytcdhnglefldalaa.PBook
