-- written for this claim by a program of this session (wip/inject.py), which drives the kit's print
import Derived.Test.YtpacenloagepfaaPPackStaysx0
import Derived.Test.YtpacenloagepfaaPPackStaysx1
import Derived.Test.YtpacenloagepfaaPPackStaysx2
import Derived.Test.YtpacenloagepfaaPPackStaysx3
namespace Go.Proofs.Ytpacenloagepfaa.PPackStays
open Go.RowKit Go.Proofs.YtpacenloagepfaaW.PrintWords Go.Proofs.YtpacenloagepfaaW.PrintLast Go.Proofs.YtpacenloagepfaaW.PrintMore
attribute [local go_sem] max2_int min2_int max_two min_two max_three min_three max_four min_four   -- for this text's walks alone
set_option linter.unusedVariables false
set_option linter.unusedSimpArgs false

set_option linter.unnecessarySimpa false
attribute [local go_sem high] errEqI errNeI errEqL errNeL errEqR errNeR
/-! ### trivetlaw06_PackStays: function 6 -/
theorem u64_in (x : Int) (h0 : 0 ≤ x) (h1 : x < 18446744073709551616) : IntKind.u64.wrap x = x := by
  simp only [IntKind.wrap, IntKind.bits, IntKind.signed]
  simp
  omega
theorem u64_neg (x : Int) (h0 : -18446744073709551616 ≤ x) (h1 : x < 0) : IntKind.u64.wrap x = x + 18446744073709551616 := by
  simp only [IntKind.wrap, IntKind.bits, IntKind.signed]
  simp
  omega
theorem xor_ones (x : Int) (h0 : 0 ≤ x) (h1 : x < 18446744073709551616) : Go.bits .xor .u64 x 18446744073709551615 = 18446744073709551615 - x := by
  obtain ⟨a, rfl⟩ := Int.eq_ofNat_of_zero_le h0
  have e : BitVec.ofInt 64 18446744073709551615 = BitVec.allOnes 64 := by decide
  show IntKind.u64.wrap (((BitVec.ofInt 64 (a : Int) ^^^ BitVec.ofInt 64 18446744073709551615).toNat : Nat) : Int) = _
  rw [e, BitVec.xor_allOnes, BitVec.toNat_not, BitVec.ofInt_natCast, BitVec.toNat_ofNat]
  rw [u64_in] <;> omega
theorem xor_zero (x : Int) (h0 : 0 ≤ x) (h1 : x < 18446744073709551616) : Go.bits .xor .u64 x 0 = x := by
  obtain ⟨a, rfl⟩ := Int.eq_ofNat_of_zero_le h0
  have e : BitVec.ofInt 64 0 = 0#64 := by decide
  show IntKind.u64.wrap (((BitVec.ofInt 64 (a : Int) ^^^ BitVec.ofInt 64 0).toNat : Nat) : Int) = _
  rw [e, BitVec.xor_zero, BitVec.ofInt_natCast, BitVec.toNat_ofNat]
  rw [u64_in] <;> omega
/-- A whole number as one from 0 on. -/
def zz (n : Int) : Int := if n < 0 then -2 * n - 1 else 2 * n
theorem zz_pack (n : Int) (h0 : -9223372036854775808 ≤ n) (h1 : n ≤ 9223372036854775807) :
    Go.bits .xor .u64 (IntKind.u64.wrap ((IntKind.u64.wrap n) * 2)) (IntKind.u64.wrap (n / 9223372036854775808)) = zz n := by
  unfold zz
  by_cases h : n < 0
  · rw [if_pos h, show n / 9223372036854775808 = -1 by omega, u64_neg n (by omega) h, u64_neg (-1) (by omega) (by omega)]
    have e : IntKind.u64.wrap ((n + 18446744073709551616) * 2) = 2 * n + 18446744073709551616 := by
      simp only [IntKind.wrap, IntKind.bits, IntKind.signed]
      simp
      omega
    rw [e]
    have := xor_ones (2 * n + 18446744073709551616) (by omega) (by omega)
    rw [show (-1 + 18446744073709551616 : Int) = 18446744073709551615 by decide, this]
    omega
  · rw [if_neg h, show n / 9223372036854775808 = 0 by omega, u64_in n (by omega) (by omega), u64_in (n * 2) (by omega) (by omega), u64_in 0 (by omega) (by omega), xor_zero _ (by omega) (by omega)]
    omega
theorem or128 (x : Int) (h0 : 0 ≤ x) : Go.bits .or .u8 (x % 256) 128 = x % 128 + 128 := by
  have key : ∀ b : Fin 256, Go.bits .or .u8 ((b.val : Nat) : Int) 128 = ((b.val : Nat) : Int) % 128 + 128 := by decide +kernel
  have := key ⟨(x % 256).toNat, by omega⟩
  simp only [show (((x % 256).toNat : Nat) : Int) = x % 256 by omega] at this
  rw [this]
  omega
/-- A number's bytes. -/
def leb : Nat → Int → List Int
  | 0, u => [u]
  | k + 1, u => if 128 ≤ u then (u % 128 + 128) :: leb k (u / 128) else [u]
theorem leb_len : ∀ k u, (leb k u).length ≤ k + 1
  | 0, u => by simp [leb]
  | k + 1, u => by
    unfold leb
    split
    · have := leb_len k (u / 128)
      simp
      omega
    · simp

theorem w64 (x : Int) (h0 : -9223372036854775808 ≤ x) (h1 : x ≤ 9223372036854775807) : wrap64 x = x := by
  unfold wrap64
  omega
theorem leb_div (k : Nat) (u : Int) (h : u < 128 ^ (k + 1 + 1)) : u / 128 < 128 ^ (k + 1) := by
  have h2 : u < 128 ^ (k + 1) * 128 := by rw [← Int.pow_succ]; exact h
  generalize (128 : Int) ^ (k + 1) = q at *
  omega
theorem pn_l0 : ∀ (k m : Nat) (u : Int) (l : List Int), k < m → 0 ≤ u → u < 128 ^ (k + 1) → l.length + k < 140737488355328 → pack_number.l0 m l u = some (l ++ leb k u)
  | 0, m + 1, u, l, _, h0, h1, hl => by
    have h2 : u < 128 := by simpa using h1
    rw [pack_number.l0, if_neg (by omega), if_pos (by omega), leb, show u % 256 = u by omega]
  | k + 1, m + 1, u, l, hm, h0, h1, hl => by
    rw [pack_number.l0, leb]
    by_cases c : 128 ≤ u
    · rw [if_pos c, if_pos (by omega), if_pos c, or128 u h0, pn_l0 k m (u / 128) _ (by omega) (by omega) (leb_div k u h1) (by simp; omega), List.append_assoc]
      rfl
    · rw [if_neg c, if_pos (by omega), if_neg c, show u % 256 = u by omega]
def inI64 (n : Int) : Prop := -9223372036854775808 ≤ n ∧ n ≤ 9223372036854775807
/-- A number's bytes, of one below 0 too. -/
def nb (n : Int) : List Int := leb 9 (zz n)
theorem zz_lt (n : Int) (h : inI64 n) : 0 ≤ zz n ∧ zz n < 18446744073709551616 := by
  unfold zz
  obtain ⟨h0, h1⟩ := h
  split <;> omega
theorem nb_len (n : Int) : (nb n).length ≤ 10 := leb_len 9 _
theorem pn_f (m : Nat) (n : Int) (l : List Int) (hm : 9 < m) (h : inI64 n) (hl : l.length < 140737488000000) : pack_number.f m l n = some (l ++ nb n) := by
  unfold pack_number.f
  rw [zz_pack n h.1 h.2]
  obtain ⟨z0, z1⟩ := zz_lt n h
  exact pn_l0 9 m (zz n) l hm z0 (by omega) (by omega)
def nbs (l : List Int) : List Int := (l.map nb).flatten
theorem nbs_drop (l : List Int) (i : Int) (h0 : 0 ≤ i) (h1 : i < l.length) : nbs (l.drop i.toNat) = nb (rd l i) ++ nbs (l.drop (i + 1).toNat) := by
  have hl : i.toNat < l.length := by omega
  rw [List.drop_eq_getElem_cons hl, show (i + 1).toNat = i.toNat + 1 by omega]
  unfold nbs rd
  rw [List.map_cons, List.flatten_cons, List.getD_eq_getElem?_getD, List.getElem?_eq_getElem hl]
  rfl
theorem rd_i64 (l : List Int) (h : ∀ y ∈ l, inI64 y) (i : Int) (h0 : 0 ≤ i) (h1 : i < l.length) : inI64 (rd l i) := by
  unfold rd
  rw [List.getD_eq_getElem?_getD, List.getElem?_eq_getElem (show i.toNat < l.length by omega)]
  exact h _ (List.getElem_mem _)
theorem pp_l0 (N : List Int) (hN : ∀ y ∈ N, inI64 y) (hb : N.length ≤ 1000000) : ∀ (j m : Nat) (i : Int) (acc : List Int), i = N.length - j → 0 ≤ i → j + 10 < m → acc.length + 11 * j < 140737480000000 →
    pack_Put.l0 m acc N N.length i = some (acc ++ nbs (N.drop i.toNat), none)
  | 0, m + 1, i, acc, hi, h0, hm, hl => by
    rw [pack_Put.l0, if_neg (by omega), List.drop_of_length_le (by omega)]
    simp [nbs]
  | j + 1, m + 1, i, acc, hi, h0, hm, hl => by
    have hn := nb_len (rd N i)
    rw [pack_Put.l0, if_pos (by omega), if_pos h0, if_pos (by omega), pn_f m _ acc (by omega) (rd_i64 N hN i h0 (by omega)) (by omega), Option.bind_some,
      show wrap64 (i + 1) = i + 1 from w64 _ (by omega) (by omega), pp_l0 N hN hb j m (i + 1) _ (by omega) (by omega) (by omega) (by simp; omega), nbs_drop N i h0 (by omega), List.append_assoc]
/-- A command's bytes. -/
def cmdB (a b c : Int) (N : List Int) : List Int := nb a ++ nb b ++ nb c ++ nb N.length ++ nbs N
theorem pp_f (m : Nat) (a b c : Int) (N : List Int) (ha : inI64 a) (hb : inI64 b) (hc : inI64 c) (hN : ∀ y ∈ N, inI64 y) (hl : N.length ≤ 16) (hm : 40 < m) : pack_Put.f m a b c N = some (cmdB a b c N, none) := by
  have l1 := nb_len a
  have l2 := nb_len b
  have l3 := nb_len c
  have l4 := nb_len N.length
  unfold pack_Put.f
  rw [if_neg (by omega), pn_f m a [] (by omega) ha (by simp), Option.bind_some, pn_f m b _ (by omega) hb (by simp; omega), Option.bind_some, pn_f m c _ (by omega) hc (by simp; omega), Option.bind_some, pn_f m N.length _ (by omega) ⟨by omega, by omega⟩ (by simp; omega), Option.bind_some,
    pp_l0 N hN (by omega) N.length m 0 _ (by omega) (by omega) (by omega) (by simp; omega)]
  simp [cmdB]
theorem up_f (m : Nat) (hm : 40 < m) : trivetlaw06_up.f m = some true := by
  unfold trivetlaw06_up.f
  rw [pp_f m 2 (-1) 64 [3] ⟨by omega, by omega⟩ ⟨by omega, by omega⟩ ⟨by omega, by omega⟩ (by intro y hy; simp at hy; subst hy; exact ⟨by omega, by omega⟩) (by simp) hm]
  decide +kernel

theorem sm_l0 (a b c : Int) (N : List Int) (hN : N.length ≤ 1000) (a' b' c' : Int) : ∀ (j m : Nat) (i : Int), i = N.length - j → 0 ≤ i → j < m → trivetref06_Same.l0 m i a b c N a' b' c' N = some true
  | 0, m + 1, i, hi, h0, hm => by rw [trivetref06_Same.l0, if_neg (by omega)]
  | j + 1, m + 1, i, hi, h0, hm => by
    rw [trivetref06_Same.l0, if_pos (by omega), if_pos h0, if_pos (by omega), if_pos rfl, show wrap64 (i + 1) = i + 1 from w64 _ (by omega) (by omega), sm_l0 a b c N hN a' b' c' j m (i + 1) (by omega) (by omega) (by omega)]
theorem sm_f (m : Nat) (a b c : Int) (N : List Int) (hN : N.length ≤ 1000) (hm : N.length + 2 < m) : trivetref06_Same.f m a b c N a b c N = some true := by
  obtain ⟨m, rfl⟩ : ∃ j, m = j + 1 := ⟨m - 1, by omega⟩
  unfold trivetref06_Same.f
  rw [if_pos rfl, if_pos rfl, if_pos rfl, trivetref06_Same.j0, if_neg (by simp), sm_l0 a b c N hN a b c N.length m 0 (by omega) (by omega) (by omega)]

theorem many_len2 : ∀ (n : Nat) (b : Bool) (l acc : List Int), (pk_many n b l acc).1.length = acc.length + n
  | 0, b, l, acc => rfl
  | n + 1, b, l, acc => by
    rw [pk_many, many_len2 n]
    simp
    omega
theorem tail_len (b : Bool) (l : List Int) (v1 v2 v3 v4 : Int) : (pk_tail b l v1 v2 v3 v4).2.2.2.1.length ≤ 16 := by
  unfold pk_tail
  split
  · simp
  split
  · simp
  · rename_i h _
    simp only [many_len2]
    simp
    omega
theorem get_len (l : List Int) : (pk_get l).2.2.2.1.length ≤ 16 := by
  unfold pk_get
  exact tail_len _ _ _ _ _ _
theorem nbs_len : ∀ M : List Int, (nbs M).length ≤ 10 * M.length := by
  intro M
  induction M with
  | nil => simp [nbs]
  | cons y M ih =>
    have e : nbs (y :: M) = nb y ++ nbs M := by simp [nbs]
    have := nb_len y
    rw [e, List.length_append, List.length_cons]
    omega
theorem put_any (a b c : Int) (N : List Int) (ha : inI64 a) (hb : inI64 b) (hc : inI64 c) (hN : ∀ y ∈ N, inI64 y) : ∃ P E, pack_Put.f 50 a b c N = some (P, E) ∧ P.length ≤ 1000 := by
  by_cases hl : N.length ≤ 16
  · refine ⟨_, _, pp_f 50 a b c N ha hb hc hN hl (by omega), ?_⟩
    have h1 := nb_len a
    have h2 := nb_len b
    have h3 := nb_len c
    have h4 := nb_len N.length
    have h5 := nbs_len N
    simp only [cmdB, List.length_append]
    omega
  · refine ⟨[], some 1, ?_, by simp⟩
    unfold pack_Put.f
    rw [if_pos (by omega)]

structure GWrld (w : World) where
  w' : World
  b : Below w.heap.size w w'
instance (w : World) : Inhabited (GWrld w) := ⟨⟨w, Below.refl _ _⟩⟩
theorem gb_region {P : Program} {id : Nat} {Q : Exit → Act → World → Prop} {a : Act} {w : World} {l : List Oper} (hm : P.follows .mixedOrders = true) (hB : Region.lexB .any l.toArray = true)
    (h : wpQuiet P l.toArray (fun w' => ∃ p : GWrld w, w' = p.w') (fun a' => ∀ w', (∃ p : GWrld w, w' = p.w') → Q .normal a' w') l a) : (Code.region id l.toArray true).wp P Q a w :=
  wp_region_quiet (C := fun w' => ∃ p : GWrld w, w' = p.w') hm hB ⟨⟨{ w with drawn := w.drawn + 1 }, ⟨rfl, rfl, rfl, Nat.le_refl _, fun _ _ => rfl⟩⟩, rfl⟩ (by simpa using h)
theorem gb_cell {w : World} {b o : Nat} {v : Value} (hb : b < w.heap.size) (h : w.cell? ⟨b, o, none⟩ = some v) (p : GWrld w) : p.w'.cell? ⟨b, o, none⟩ = some v := (p.b.cell (p := ⟨b, o, none⟩) hb).trans h
theorem gb_calls {P : Program} {f : FuncId} {args : Array Value} {w : World} {p : GWrld w} {v : Value}
    (h : Calls P f args p.w' fun e w' => e = .returned v ∧ Below p.w'.heap.size p.w' w') : Calls P f args p.w' fun e w'' => e = .returned v ∧ ∃ q : GWrld w, w'' = q.w' :=
  h.mono fun _ w'' ⟨he, hb⟩ => ⟨he, ⟨w'', below_step p.b hb⟩, rfl⟩
set_option maxHeartbeats 8000000 in
set_option maxRecDepth 100000 in
theorem ps_main (a0_0 a0_1 a0_2 : Int) (A0_3 : Option Addr) (c0_3 : Nat) (l0_3 : List Int) (A1 : Option Addr) (c1 : Nat) (l1 : List Int) (w : World) (hr0_3 : (Kd.int .i64).C w A0_3 l0_3.length l0_3) (hc0_3 : l0_3.length ≤ c0_3) (hr1 : (Kd.int .u8).C w A1 l1.length l1) (hc1 : l1.length ≤ c1)
    (P : List Int) (E : Option Int) (x1 x2 x3 : Int) (X : List Int) (G : Option Int) (hput : pack_Put.f 50 a0_0 a0_1 a0_2 l0_3 = some (P, E)) (hget : pk_get l1 = (x1, x2, x3, X, G)) (hP : P.length ≤ 1000) (hX : X.length ≤ 16)
    (hl : l0_3.length ≤ 1000) (hm : l1.length ≤ 1000) :
    Calls Try.prog 6 #[.agg #[.int .i64 a0_0, .int .i64 a0_1, .int .i64 a0_2, .slice A0_3 l0_3.length c0_3], .slice A1 l1.length c1] w fun e w' => e = .returned (.bool true) ∧ Below w.heap.size w w' := by
  have U := Aside0.mk (fun W => trivetlaw06_up.calls 50 true W (up_f 50 (by omega)))
  have PUT : Aside0 (∀ (W : World) A c, (Kd.int .i64).C W A l0_3.length l0_3 → l0_3.length ≤ c → Calls Try.prog 8 #[.agg #[.int .i64 a0_0, .int .i64 a0_1, .int .i64 a0_2, .slice A l0_3.length c]] W fun e w' => ∃ v0_ : Value, e = .returned (.tuple #[v0_, errW E]) ∧ Kd.R (Kd.int .u8) 5 w' W.heap.size (fun _ => True) v0_ P ∧ Below W.heap.size W w') :=
    ⟨fun W A c hW hc => pack_Put.calls 50 a0_0 a0_1 a0_2 A c l0_3 P E W hW hc hput⟩
  have GET : Aside0 (∀ (W : World) A c, (Kd.int .u8).C W A l1.length l1 → l1.length ≤ c → Calls Try.prog 10 #[.slice A l1.length c] W fun e w' => ∃ v0_ : Value, e = .returned (.tuple #[.agg #[.int .i64 x1, .int .i64 x2, .int .i64 x3, v0_], errW G]) ∧ Kd.R (Kd.int .i64) 2 w' W.heap.size (fun _ => True) v0_ X ∧ Below W.heap.size W w') :=
    ⟨fun W A c hW hc => pack_Get.calls A c l1 x1 x2 x3 X G W hW hc (congrArg some hget)⟩
  have HR0 := Aside0.mk hr0_3
  have HC0 := Aside0.mk hc0_3
  have HR1 := Aside0.mk hr1
  have HC1 := Aside0.mk hc1
  clear hr0_3 hr1 hc0_3 hc1 hput hget
  have t0 : decide (1000 < (l0_3.length : Int)) = false := decide_eq_false (by omega)
  have t1 : decide (1000 < (l1.length : Int)) = false := decide_eq_false (by omega)
  rcases E with _ | E <;> rcases G with _ | G
  all_goals
    go_enter Try.func6, Try.ntmps6
    go_wp2_with fail
    refine (U.out _).mono ?_
    rintro e w1 ⟨rfl, hb1⟩
    have G1 := Aside0.mk (blk_below (blk_new w _) hb1)
    have B1 := Aside0.mk (below_step (below_alloc (Below.refl w.heap.size w) _) hb1)
    clear hb1
    have k0 := (blk_cell G1.out 0).trans rfl
    have k1 := (blk_cell G1.out 1).trans rfl
    have k2 := (blk_cell G1.out 2).trans rfl
    have k3 := (blk_cell G1.out 3).trans rfl
    have z1 : w.heap.size < w1.heap.size := blk_lt G1.out
    have O2 := Aside0.mk (blk_new w1 (.cells #[.int .i64 a0_0, .int .i64 a0_1, .int .i64 a0_2, .slice A0_3 l0_3.length c0_3] 24))
    have G2 := Aside0.mk (blk_alloc G1.out (.cells #[.int .i64 a0_0, .int .i64 a0_1, .int .i64 a0_2, .slice A0_3 l0_3.length c0_3] 24))
    have B2 := Aside0.mk (below_alloc B1.out (.cells #[.int .i64 a0_0, .int .i64 a0_1, .int .i64 a0_2, .slice A0_3 l0_3.length c0_3] 24))
    clear G1 B1
    go_upto_region 5 with (fail)
    generalize w1.alloc (.cells #[.int .i64 a0_0, .int .i64 a0_1, .int .i64 a0_2, .slice A0_3 l0_3.length c0_3] 24) = W2 at O2 G2 B2 ⊢
    clear k0 k1 k2 k3
    generalize w1.heap.size = o at O2 z1 ⊢
    have z2 : o < W2.heap.size := blk_lt O2.out
    have kc := (blk_cell G2.out 3).trans rfl
    have Z1 := Aside0.mk z1
    have Z2 := Aside0.mk z2
    clear z1 z2
    go_wp2_with (first
      | ((with_reducible refine gate_dst (N := 31) rfl ?_); refine Kd.R_lit (Kd.int .i64) W2.heap.size 2 ?hg (N := 31) ?hd (xs := ([] : List Int)) (inner := []) (ok := fun _ => True) (okp := fun _ => True) ?hr ?hp (fun _ hk => hk) trivial (Below.refl W2.heap.size W2) (Nat.le_refl _) (by simp) ?_; (case hd => rfl); (case hg => rfl); (case hr => first | (go_simp; done) | (go_simp; rfl)); (case hp => exact (Reps.none _ _)); intro v7 w7 ho7 hb7 hg7 hnew7; clear hg7 hnew7; have kc7 := (blk_cell (blk_below G2.out hb7) 3).trans rfl)
      | ((with_reducible refine gate_builtin (b := .append) (xs := #[.tmp 31, .tmp 33]) rfl ?_); at_builtin; refine Kd.R_append_rows (Kd.int .i64) (w0 := W2) W2.heap.size rfl (.tmp 31) (.tmp 33) 22 2 (.int .i64 0) 8 rfl Try.underlying22 info2 rfl (by decide) (by omega) v7 [] l0_3 _ _ _ (fun _ => True) (fun _ => False) rfl rfl ho7 ?aR (fun _ _ h => h) (fun _ h => h.elim) (fun _ _ => trivial) hb7 hb7.size ?aL ?_; (case aR => exact Kd.C_below HR0.out (below_step B2.out hb7)); (case aL => simp only [List.length_nil]; omega); intro v8 w8 ho8 hb8 hg8 hat8; rw [List.nil_append] at ho8; clear hg8 hat8 hb7 ho7 kc7; obtain ⟨A8, c8, e8⟩ := Kd.R_slice ho8; subst e8;
          have O8 := blk_below O2.out hb8; have f3 := blk_frozen O8 3; have O9 := blk_put O8 3 (.slice A8 l0_3.length c8) rfl;
          have k0 := (blk_cell O9 0).trans rfl; have k1 := (blk_cell O9 1).trans rfl; have k2 := (blk_cell O9 2).trans rfl; have k3 := (blk_cell O9 3).trans rfl; have k8 := (blk_cell O8 3).trans rfl)
      | fail)
    have R9 := Kd.R_far (p := ⟨o, 3, none⟩) (Kd.R_mono (Kd.R_bound ho8) (fun k hk => hk.2.1)) (fun k hk => by have := Z2.out; simp; omega) (.slice A8 l0_3.length c8)
    have C9 := Aside0.mk (Kd.R_reads' R9).2.2
    have L9 := Aside0.mk (Kd.R_reads' R9).2.1
    have G9 := Aside0.mk (blk_far (blk_below G2.out hb8) (p := ⟨o, 3, none⟩) (by have := Z1.out; simp; omega) (.slice A8 l0_3.length c8))
    have B9 := Aside0.mk ((below_step B2.out hb8).setCell (p := ⟨o, 3, none⟩) (by have := Z1.out; simp; omega) (.slice A8 l0_3.length c8))
    have O9' := Aside0.mk O9
    clear R9 ho8 hb8 O8 O9 f3 k0 k1 k2 k3 k8 kc G2 B2 O2
    generalize w8.setCell ⟨o, 3, none⟩ (.slice A8 l0_3.length c8) = w9 at C9 G9 B9 O9' ⊢
    refine (PUT.out _ A8 c8 C9.out L9.out).mono ?_
    rintro e w10 ⟨v10, rfl, R10, hb10⟩
    simp only [errW_none, errW_some]
    have sP := own_string (P := Try.prog) Try.underlying26 Try.underlying5 Try.underlying9 (Kd.own_of_R R10)
    obtain ⟨A10, c10, e10⟩ := Kd.R_slice R10
    subst e10
    have HR10 := Aside0.mk R10
    have HB10 := Aside0.mk hb10
    clear R10 hb10
    go_wp2_with fail
    clear sP
    go_loopw [10] (fun v10 wr => ∃ (i : Int) (xs : List Int), v10 = .int .i64 i ∧ Aside0 (0 ≤ i ∧ i ≤ P.length) ∧ Aside0 (xs.length = P.length) ∧ Aside0 (Kd.R (Kd.int .u8) 5 wr w9.heap.size (fun _ => True) (.slice A10 P.length c10) xs) ∧ Aside0 (Below w9.heap.size w9 wr)) (fun v10 _ => (P.length - (intOf v10)).toNat)
    case atStart => exact ⟨0, P, rfl, ⟨by omega⟩, ⟨rfl⟩, HR10, HB10⟩
    case round =>
      clear HR10 HB10
      obtain ⟨i, xs, rfl, HI, HX, HR, HB⟩ := hrel
      by_cases gi : i < P.length
      · have gib : decide (i < (P.length : Int)) = true := decide_eq_true gi
        have i0 := HI.out.1
        obtain ⟨g, cap, eg, gb, gl, -⟩ := Kd.R_form HR.out (by rw [HX.out]; omega)
        injection eg with ea en ec
        subst ea ec
        obtain ⟨hcell, hfro⟩ := Kd.R_celln (0 : Int) HR.out i i0 gi
        have HN := fun x => (Kd.R_putg HR.out i x).1
        have HB' := fun x => HB.out.setCell (p := ⟨g, i.toNat, none⟩) gb x
        have ew : wrap64 (i + 1) = i + 1 := w64 _ (by omega) (by omega)
        have HNa := Aside0.mk HN
        have HBa := Aside0.mk HB'
        clear en HN HB'
        go_wp2
        go_roundw
        case measure => simp [intOf]; omega
        case rel => exact ⟨i + 1, _, rfl, ⟨by omega⟩, ⟨by rw [List.length_set]; exact HX.out⟩, ⟨HNa.out _⟩, ⟨HBa.out _⟩⟩
      · have gib : decide (i < (P.length : Int)) = false := decide_eq_false gi
        have Cr := Kd.C_below C9.out HB.out
        have Or := blk_below O9'.out HB.out
        have Br := Aside0.mk (below_step B9.out HB.out)
        have Gr := Aside0.mk (blk_below G9.out HB.out)
        have k0 := (blk_cell Or 0).trans rfl
        have k1 := (blk_cell Or 1).trans rfl
        have k2 := (blk_cell Or 2).trans rfl
        have k3 := (blk_cell Or 3).trans rfl
        have CR := Aside0.mk Cr
        have OR := Aside0.mk Or
        clear Cr Or HR HX HB HI C9 O9' B9 G9
        go_wp2_with fail
        refine (PUT.out _ A8 c8 CR.out L9.out).mono ?_
        rintro e w11 ⟨v11, rfl, R11, hb11⟩
        simp only [errW_none, errW_some]
        clear k0 k1 k2 k3
        obtain ⟨A11, c11, e11, L11, C11'⟩ := Kd.R_reads R11
        subst e11
        have C11 := Aside0.mk C11'
        have B11 := Aside0.mk (below_step Br.out hb11)
        have C8 := Aside0.mk (Kd.C_below CR.out hb11)
        have O11 := Aside0.mk (blk_below OR.out hb11)
        have G11 := Aside0.mk (blk_below Gr.out hb11)
        have z3 : o < w11.heap.size := blk_lt O11.out
        have Z3 := Aside0.mk z3
        clear C11' R11 hb11 CR OR Gr Br z3 L11
        go_wp2_with (first
          | ((with_reducible refine gate_dst (N := 62) rfl ?_); refine Kd.R_lit (Kd.int .u8) w11.heap.size 5 ?hg (N := 62) ?hd (xs := ([] : List Int)) (inner := []) (ok := fun _ => True) (okp := fun _ => True) ?hr ?hp (fun _ hk => hk) trivial (Below.refl w11.heap.size w11) (Nat.le_refl _) (by simp) ?_; (case hd => rfl); (case hg => rfl); (case hr => first | (go_simp; done) | (go_simp; rfl)); (case hp => exact (Reps.none _ _)); intro v12 w12 ho12 hb12 hg12 hnew12; clear hg12 hnew12)
          | ((with_reducible refine gate_builtin (b := .append) (xs := #[.tmp 62, .tmp 63]) rfl ?_); at_builtin; refine Kd.R_append_rows (Kd.int .u8) (w0 := w11) w11.heap.size rfl (.tmp 62) (.tmp 63) 26 5 (.int .u8 0) 1 rfl Try.underlying26 info5 rfl (by decide) (by omega) v12 [] l1 _ _ _ (fun _ => True) (fun _ => False) rfl rfl ho12 ?aR (fun _ _ h => h) (fun _ h => h.elim) (fun _ _ => trivial) hb12 hb12.size ?aL ?_; (case aR => exact Kd.C_below HR1.out (below_step B11.out hb12)); (case aL => simp only [List.length_nil]; omega); intro v13 w13 ho13 hb13 hg13 hat13; rw [List.nil_append] at ho13; clear hg13 hat13 hb12 ho12; obtain ⟨A13, c13, e13⟩ := Kd.R_slice ho13; subst e13; have HR13 := Aside0.mk ho13; have HB13 := Aside0.mk hb13; clear ho13 hb13)
          | fail)
        have C13 := (Kd.R_reads' HR13.out).2.2
        have L13 := (Kd.R_reads' HR13.out).2.1
        refine (GET.out _ A13 c13 C13 L13).mono ?_
        rintro e w14 ⟨v14, rfl, R14, hb14⟩
        simp only [errW_none, errW_some]
        clear C13 L13
        obtain ⟨A14, c14, e14⟩ := Kd.R_slice R14
        subst e14
        obtain ⟨g, hg0, hg1, hg2⟩ : ∃ g, g < w13.heap.size ∧ w.heap.size ≤ g ∧ (0 < l1.length → A13 = some ⟨g, 0, none⟩ ∧ w11.heap.size ≤ g) := by
          by_cases c : 0 < l1.length
          · obtain ⟨g, cap, eg, gb, gl, -⟩ := Kd.R_form HR13.out c
            injection eg with ea en ec
            exact ⟨g, gl, by have := B11.out.size; omega, fun _ => ⟨ea, gb⟩⟩
          · exact ⟨o, by have := Z3.out; have := HB13.out.size; omega, by have := Z1.out; omega, fun h => absurd h c⟩
        have HR14 := Aside0.mk (Kd.R_alloc (Kd.R_mono (Kd.R_bound R14) (fun k hk => hk.2.1)) (.cells #[.int .i64 x1, .int .i64 x2, .int .i64 x3, .slice A14 X.length c14] 24))
        have HM14 := Aside0.mk (Kd.R_alloc (Kd.R_below HR13.out hb14) (.cells #[.int .i64 x1, .int .i64 x2, .int .i64 x3, .slice A14 X.length c14] 24))
        have HB14 := Aside0.mk (below_alloc (below_step HB13.out hb14) (.cells #[.int .i64 x1, .int .i64 x2, .int .i64 x3, .slice A14 X.length c14] 24))
        have D14 := Aside0.mk (blk_new w14 (.cells #[.int .i64 x1, .int .i64 x2, .int .i64 x3, .slice A14 X.length c14] 24))
        have z4 : w13.heap.size ≤ w14.heap.size := hb14.size
        have Z4 := Aside0.mk z4
        have HG := Aside0.mk (And.intro hg0 (And.intro hg1 hg2))
        clear R14 hb14 z4 hg0 hg1 hg2
        go_upto_region 15 with (fail)
        generalize w14.alloc (.cells #[.int .i64 x1, .int .i64 x2, .int .i64 x3, .slice A14 X.length c14] 24) = w15 at HR14 HM14 HB14 D14 ⊢
        generalize w14.heap.size = bx at D14 Z4 ⊢
        have z5 : bx < w15.heap.size := blk_lt D14.out
        have Z5 := Aside0.mk z5
        clear z5 HR13 HB13
        go_wp2_with fail
        go_loopw [16] (fun v16 wr => ∃ (i : Int) (xs : List Int), v16 = .int .i64 i ∧ Aside0 (0 ≤ i ∧ i ≤ l1.length) ∧ Aside0 (xs.length = l1.length) ∧ Aside0 (Kd.R (Kd.int .u8) 5 wr w11.heap.size (fun _ => True) (.slice A13 l1.length c13) xs) ∧ Aside0 (Below w11.heap.size w11 wr) ∧ Aside0 (KeepBut w15 wr g none)) (fun v16 _ => (l1.length - (intOf v16)).toNat)
        case atStart => exact ⟨0, l1, rfl, ⟨by omega⟩, ⟨rfl⟩, HM14, HB14, ⟨KeepBut.refl _ _ _⟩⟩
        case round =>
          clear HM14 HB14
          obtain ⟨i, xs, rfl, HI, HX, HR, HB, HK⟩ := hrel
          by_cases gi : i < l1.length
          · have gib : decide (i < (l1.length : Int)) = true := decide_eq_true gi
            have i0 := HI.out.1
            obtain ⟨eA, gb⟩ := HG.out.2.2 (by omega)
            subst eA
            obtain ⟨hcell, hfro⟩ := Kd.R_celln (0 : Int) HR.out i i0 gi
            have HNa := Aside0.mk (fun x => (Kd.R_putg HR.out i x).1)
            have HBa := Aside0.mk (fun x => HB.out.setCell (p := ⟨g, i.toNat, none⟩) gb x)
            have HKa := Aside0.mk (fun x => HK.out.set_ i.toNat x)
            have ew : wrap64 (i + 1) = i + 1 := w64 _ (by omega) (by omega)
            clear gb
            go_wp2
            go_roundw
            case measure => simp [intOf]; omega
            case rel => exact ⟨i + 1, _, rfl, ⟨by omega⟩, ⟨by rw [List.length_set]; exact HX.out⟩, ⟨HNa.out _⟩, ⟨HBa.out _⟩, ⟨HKa.out _⟩⟩
          · have gib : decide (i < (l1.length : Int)) = false := decide_eq_false gi
            have Bw := Aside0.mk (below_step B11.out HB.out)
            have g13 := HG.out.1
            have Cx := Aside0.mk (Kd.R_reads' (Kd.R_keep HR14.out HK.out (fun k hk => by omega))).2.2
            have Lx := Aside0.mk (Kd.R_reads' HR14.out).2.1
            have Dx := Aside0.mk (HK.out.blk D14.out (by have := Z4.out; omega) (by simp))
            clear g13 HR HX HI HK HR14 D14 HG
            go_wp2_with fail
            refine (GET.out _ A1 c1 (Kd.C_below HR1.out Bw.out) HC1.out).mono ?_
            rintro e w16 ⟨v16, rfl, R16, hb16⟩
            simp only [errW_none, errW_some]
            obtain ⟨A16, c16, e16, L16, C16⟩ := Kd.R_reads R16
            subst e16
            have HC16 := Aside0.mk C16
            have HL16 := Aside0.mk L16
            have HB16 := Aside0.mk hb16
            clear C16 L16 hb16 R16
            go_upto_region 20 with (fail)
            have T17 := Aside0.mk (below_alloc (below_step HB.out HB16.out) (.cells #[.int .i64 x1, .int .i64 x2, .int .i64 x3, .slice A16 X.length c16] 24))
            have Y17 := blk_new w16 (.cells #[.int .i64 x1, .int .i64 x2, .int .i64 x3, .slice A16 X.length c16] 24)
            have X17 := blk_alloc (blk_below Dx.out HB16.out) (.cells #[.int .i64 x1, .int .i64 x2, .int .i64 x3, .slice A16 X.length c16] 24)
            have O17 := blk_below O11.out T17.out
            have G17 := blk_below G11.out T17.out
            have E17 := Aside0.mk (Kd.C_alloc (Kd.C_below Cx.out HB16.out) (.cells #[.int .i64 x1, .int .i64 x2, .int .i64 x3, .slice A16 X.length c16] 24))
            have F17 := Aside0.mk (Kd.C_alloc HC16.out (.cells #[.int .i64 x1, .int .i64 x2, .int .i64 x3, .slice A16 X.length c16] 24))
            generalize w16.alloc (.cells #[.int .i64 x1, .int .i64 x2, .int .i64 x3, .slice A16 X.length c16] 24) = W at T17 Y17 X17 O17 G17 E17 F17 ⊢
            generalize w16.heap.size = yb at Y17 ⊢
            have a0 : ∀ p : GWrld W, p.w'.cell? ⟨w.heap.size, 0, none⟩ = some (.int .i64 a0_0) := gb_cell (blk_lt G17) ((blk_cell G17 0).trans rfl)
            have a1 : ∀ p : GWrld W, p.w'.cell? ⟨w.heap.size, 1, none⟩ = some (.int .i64 a0_1) := gb_cell (blk_lt G17) ((blk_cell G17 1).trans rfl)
            have a2 : ∀ p : GWrld W, p.w'.cell? ⟨w.heap.size, 2, none⟩ = some (.int .i64 a0_2) := gb_cell (blk_lt G17) ((blk_cell G17 2).trans rfl)
            have a3 : ∀ p : GWrld W, p.w'.cell? ⟨w.heap.size, 3, none⟩ = some (.slice A0_3 l0_3.length c0_3) := gb_cell (blk_lt G17) ((blk_cell G17 3).trans rfl)
            have b0 : ∀ p : GWrld W, p.w'.cell? ⟨o, 0, none⟩ = some (.int .i64 a0_0) := gb_cell (blk_lt O17) ((blk_cell O17 0).trans rfl)
            have b1 : ∀ p : GWrld W, p.w'.cell? ⟨o, 1, none⟩ = some (.int .i64 a0_1) := gb_cell (blk_lt O17) ((blk_cell O17 1).trans rfl)
            have b2 : ∀ p : GWrld W, p.w'.cell? ⟨o, 2, none⟩ = some (.int .i64 a0_2) := gb_cell (blk_lt O17) ((blk_cell O17 2).trans rfl)
            have b3 : ∀ p : GWrld W, p.w'.cell? ⟨o, 3, none⟩ = some (.slice A8 l0_3.length c8) := gb_cell (blk_lt O17) ((blk_cell O17 3).trans rfl)
            have d0 : ∀ p : GWrld W, p.w'.cell? ⟨bx, 0, none⟩ = some (.int .i64 x1) := gb_cell (blk_lt X17) ((blk_cell X17 0).trans rfl)
            have d1 : ∀ p : GWrld W, p.w'.cell? ⟨bx, 1, none⟩ = some (.int .i64 x2) := gb_cell (blk_lt X17) ((blk_cell X17 1).trans rfl)
            have d2 : ∀ p : GWrld W, p.w'.cell? ⟨bx, 2, none⟩ = some (.int .i64 x3) := gb_cell (blk_lt X17) ((blk_cell X17 2).trans rfl)
            have d3 : ∀ p : GWrld W, p.w'.cell? ⟨bx, 3, none⟩ = some (.slice A14 X.length c14) := gb_cell (blk_lt X17) ((blk_cell X17 3).trans rfl)
            have h0 : ∀ p : GWrld W, p.w'.cell? ⟨yb, 0, none⟩ = some (.int .i64 x1) := gb_cell (blk_lt Y17) ((blk_cell Y17 0).trans rfl)
            have h1 : ∀ p : GWrld W, p.w'.cell? ⟨yb, 1, none⟩ = some (.int .i64 x2) := gb_cell (blk_lt Y17) ((blk_cell Y17 1).trans rfl)
            have h2 : ∀ p : GWrld W, p.w'.cell? ⟨yb, 2, none⟩ = some (.int .i64 x3) := gb_cell (blk_lt Y17) ((blk_cell Y17 2).trans rfl)
            have h3 : ∀ p : GWrld W, p.w'.cell? ⟨yb, 3, none⟩ = some (.slice A16 X.length c16) := gb_cell (blk_lt Y17) ((blk_cell Y17 3).trans rfl)
            have sq : ∀ p : GWrld W, (convert 26 9 (.slice A11 P.length c11)).run Try.prog p.w' = .ok (.string (strOfNums P)) p.w' := fun p =>
              Kd.C_string (P := Try.prog) Try.underlying26 Try.underlying5 Try.underlying9 (Kd.C_below (Kd.C_below C11.out T17.out) p.b)
            have S1 : Aside0 (∀ p : GWrld W, Calls Try.prog 12 #[.agg #[.int .i64 a0_0, .int .i64 a0_1, .int .i64 a0_2, .slice A8 l0_3.length c8], .agg #[.int .i64 a0_0, .int .i64 a0_1, .int .i64 a0_2, .slice A0_3 l0_3.length c0_3]] p.w' fun e w' => e = .returned (.bool true) ∧ Below p.w'.heap.size p.w' w') :=
              ⟨fun p => trivetref06_Same.calls 1010 _ _ _ A8 c8 l0_3 _ _ _ A0_3 c0_3 l0_3 true _ (Kd.C_below (Kd.C_below C8.out T17.out) p.b) L9.out (Kd.C_below (Kd.C_below HR0.out (below_step B11.out T17.out)) p.b) HC0.out (sm_f 1010 _ _ _ l0_3 hl (by omega))⟩
            have S2 : Aside0 (∀ p : GWrld W, Calls Try.prog 12 #[.agg #[.int .i64 x1, .int .i64 x2, .int .i64 x3, .slice A14 X.length c14], .agg #[.int .i64 x1, .int .i64 x2, .int .i64 x3, .slice A16 X.length c16]] p.w' fun e w' => e = .returned (.bool true) ∧ Below p.w'.heap.size p.w' w') :=
              ⟨fun p => trivetref06_Same.calls 50 _ _ _ A14 c14 X _ _ _ A16 c16 X true _ (Kd.C_below E17.out p.b) Lx.out (Kd.C_below F17.out p.b) HL16.out (sm_f 50 _ _ _ X (by omega) (by omega))⟩
            have FIN := Aside0.mk (below_step B11.out T17.out)
            clear Y17 X17 O17 G17 E17 F17 T17 C11 C8 B11 O11 G11 Cx Dx HC16 HB16 HB Bw
            refine gb_region (by kernel_rfl) (by kernel_rfl) ?_
            repeat (go_big_quiet_step (first | with_reducible exact gb_calls (S1.out _) | with_reducible exact gb_calls (S2.out _)))
            refine wpQuiet_nil ?_
            intro _ hw'
            obtain ⟨gq, hw''⟩ := hw'
            subst hw''
            go_wp2
            go_ret
            exact ⟨rfl, below_step FIN.out gq.b⟩
set_option maxRecDepth 100000 in
theorem ps_far (a0_0 a0_1 a0_2 : Int) (A0_3 : Option Addr) (c0_3 : Nat) (l0_3 : List Int) (A1 : Option Addr) (c1 : Nat) (l1 : List Int) (w : World) (hl : ¬ (l0_3.length ≤ 1000 ∧ l1.length ≤ 1000)) :
    Calls Try.prog 6 #[.agg #[.int .i64 a0_0, .int .i64 a0_1, .int .i64 a0_2, .slice A0_3 l0_3.length c0_3], .slice A1 l1.length c1] w fun e w' => e = .returned (.bool true) ∧ Below w.heap.size w w' := by
  have U := Aside0.mk (fun W => trivetlaw06_up.calls 50 true W (up_f 50 (by omega)))
  obtain ⟨s, hs⟩ : ∃ s, decide (1000 < (l0_3.length : Int)) = s := ⟨_, rfl⟩
  have t1 : s = true ∨ decide (1000 < (l1.length : Int)) = true := by
    by_cases c : l0_3.length ≤ 1000
    · exact .inr (decide_eq_true (by omega))
    · exact .inl (by rw [← hs]; exact decide_eq_true (by omega))
  clear hl
  go_enter Try.func6, Try.ntmps6
  go_wp2_with fail
  refine (U.out _).mono ?_
  rintro e w1 ⟨rfl, hb1⟩
  have G1 := Aside0.mk (blk_below (blk_new w _) hb1)
  have B1 := Aside0.mk (below_step (below_alloc (Below.refl w.heap.size w) _) hb1)
  clear hb1
  have k3 := (blk_cell G1.out 3).trans rfl
  cases s with
  | true =>
    clear t1
    go_wp2
    go_ret
    exact ⟨rfl, B1.out⟩
  | false =>
    have t2 : decide (1000 < (l1.length : Int)) = true := by
      rcases t1 with h | h
      · cases h
      · exact h
    clear t1
    go_wp2
    go_ret
    exact ⟨rfl, B1.out⟩
def trivetlaw06_PackStays.f (a0_0 a0_1 a0_2 : Int) (l0_3 l1 : List Int) : Option Bool :=
  if (-9223372036854775808 ≤ a0_0 ∧ a0_0 ≤ 9223372036854775807) ∧ (-9223372036854775808 ≤ a0_1 ∧ a0_1 ≤ 9223372036854775807) ∧ (-9223372036854775808 ≤ a0_2 ∧ a0_2 ≤ 9223372036854775807) ∧ (∀ y ∈ l0_3, -9223372036854775808 ≤ y ∧ y ≤ 9223372036854775807) then some true else none
theorem trivetlaw06_PackStays.calls (a0_0 a0_1 a0_2 : Int) (A0_3 : Option Addr) (c0_3 : Nat) (l0_3 : List Int) (A1 : Option Addr) (c1 : Nat) (l1 : List Int) (r : Bool) (w : World) (hr0_3 : Kd.C (Kd.int .i64) w A0_3 l0_3.length l0_3) (hc0_3 : l0_3.length ≤ c0_3) (hr1 : Kd.C (Kd.int .u8) w A1 l1.length l1) (hc1 : l1.length ≤ c1) (h : trivetlaw06_PackStays.f a0_0 a0_1 a0_2 l0_3 l1 = some r) :
    Calls Try.prog 6 #[.agg #[.int .i64 a0_0, .int .i64 a0_1, .int .i64 a0_2, .slice A0_3 l0_3.length c0_3], .slice A1 l1.length c1] w fun e w' => e = .returned (.bool r) ∧ Below w.heap.size w w' := by
  unfold trivetlaw06_PackStays.f at h
  split at h
  · rename_i g
    obtain ⟨g0, g1, g2, g3⟩ := g
    obtain rfl := Option.some.inj h
    by_cases c : l0_3.length ≤ 1000 ∧ l1.length ≤ 1000
    · obtain ⟨P, E, hp, hP⟩ := put_any a0_0 a0_1 a0_2 l0_3 g0 g1 g2 g3
      have hX := get_len l1
      generalize hq : pk_get l1 = q at hX
      obtain ⟨x1, x2, x3, X, G⟩ := q
      exact ps_main a0_0 a0_1 a0_2 A0_3 c0_3 l0_3 A1 c1 l1 w hr0_3 hc0_3 hr1 hc1 P E x1 x2 x3 X G hp hq hP hX c.1 c.2
    · exact ps_far a0_0 a0_1 a0_2 A0_3 c0_3 l0_3 A1 c1 l1 w c
  · cases h

def good24 (x : S24) : Prop := ((Lit.int .i64 x.f0).wf = true) ∧ ((Lit.int .i64 x.f1).wf = true) ∧ ((Lit.int .i64 x.f2).wf = true) ∧ (x.f3.length ≤ maxLen ∧ ∀ y ∈ x.f3, (Lit.int .i64 y).wf = true)
/-- THE ONE PURE STATEMENT of trivetlaw06_PackStays. -/
def trivetlaw06_PackStays.Pure : Prop := ∀ (x0 : S24) (x1 : List Int), (good24 x0) → x1.length * 1 ≤ 140737488351232 → (x1.length ≤ maxLen ∧ ∀ y ∈ x1, (Lit.int .u8 y).wf = true) → trivetlaw06_PackStays.f x0.f0 x0.f1 x0.f2 x0.f3 x1 = some true

end Go.Proofs.Ytpacenloagepfaa.PPackStays
