-- written for this claim by a program of this session (wip/inject.py), which drives the kit's print
import Derived.Test.YtpacenloagepfaaPPackBackx0
import Derived.Test.YtpacenloagepfaaPPackBackx1
import Derived.Test.YtpacenloagepfaaPPackBackx2
import Derived.Test.YtpacenloagepfaaPPackBackx3
namespace Go.Proofs.Ytpacenloagepfaa.PPackBack
open Go.RowKit Go.Proofs.YtpacenloagepfaaW.PrintWords Go.Proofs.YtpacenloagepfaaW.PrintLast Go.Proofs.YtpacenloagepfaaW.PrintMore
attribute [local go_sem] max2_int min2_int max_two min_two max_three min_three max_four min_four   -- for this text's walks alone
set_option linter.unusedVariables false
set_option linter.unusedSimpArgs false

set_option linter.unnecessarySimpa false
attribute [local go_sem high] errEqI errNeI errEqL errNeL errEqR errNeR
/-! ### trivetlaw06_PackBack: function 5 -/
theorem u64_in (x : Int) (h0 : 0 ≤ x) (h1 : x < 18446744073709551616) : IntKind.u64.wrap x = x := by
  simp only [IntKind.wrap, IntKind.bits, IntKind.signed]
  simp
  omega
theorem u64_neg (x : Int) (h0 : -18446744073709551616 ≤ x) (h1 : x < 0) : IntKind.u64.wrap x = x + 18446744073709551616 := by
  simp only [IntKind.wrap, IntKind.bits, IntKind.signed]
  simp
  omega
theorem xor_ones (x : Int) (h0 : 0 ≤ x) (h1 : x < 18446744073709551616) : Go.bits .xor .u64 x 18446744073709551615 = 18446744073709551615 - x := by
  obtain ⟨a, rfl⟩ := Int.eq_ofNat_of_zero_le h0
  have e : BitVec.ofInt 64 18446744073709551615 = BitVec.allOnes 64 := by decide
  show IntKind.u64.wrap (((BitVec.ofInt 64 (a : Int) ^^^ BitVec.ofInt 64 18446744073709551615).toNat : Nat) : Int) = _
  rw [e, BitVec.xor_allOnes, BitVec.toNat_not, BitVec.ofInt_natCast, BitVec.toNat_ofNat]
  rw [u64_in] <;> omega
theorem xor_zero (x : Int) (h0 : 0 ≤ x) (h1 : x < 18446744073709551616) : Go.bits .xor .u64 x 0 = x := by
  obtain ⟨a, rfl⟩ := Int.eq_ofNat_of_zero_le h0
  have e : BitVec.ofInt 64 0 = 0#64 := by decide
  show IntKind.u64.wrap (((BitVec.ofInt 64 (a : Int) ^^^ BitVec.ofInt 64 0).toNat : Nat) : Int) = _
  rw [e, BitVec.xor_zero, BitVec.ofInt_natCast, BitVec.toNat_ofNat]
  rw [u64_in] <;> omega
/-- A whole number as one from 0 on. -/
def zz (n : Int) : Int := if n < 0 then -2 * n - 1 else 2 * n
theorem zz_pack (n : Int) (h0 : -9223372036854775808 ≤ n) (h1 : n ≤ 9223372036854775807) :
    Go.bits .xor .u64 (IntKind.u64.wrap ((IntKind.u64.wrap n) * 2)) (IntKind.u64.wrap (n / 9223372036854775808)) = zz n := by
  unfold zz
  by_cases h : n < 0
  · rw [if_pos h, show n / 9223372036854775808 = -1 by omega, u64_neg n (by omega) h, u64_neg (-1) (by omega) (by omega)]
    have e : IntKind.u64.wrap ((n + 18446744073709551616) * 2) = 2 * n + 18446744073709551616 := by
      simp only [IntKind.wrap, IntKind.bits, IntKind.signed]
      simp
      omega
    rw [e]
    have := xor_ones (2 * n + 18446744073709551616) (by omega) (by omega)
    rw [show (-1 + 18446744073709551616 : Int) = 18446744073709551615 by decide, this]
    omega
  · rw [if_neg h, show n / 9223372036854775808 = 0 by omega, u64_in n (by omega) (by omega), u64_in (n * 2) (by omega) (by omega), u64_in 0 (by omega) (by omega), xor_zero _ (by omega) (by omega)]
    omega
theorem or128 (x : Int) (h0 : 0 ≤ x) : Go.bits .or .u8 (x % 256) 128 = x % 128 + 128 := by
  have key : ∀ b : Fin 256, Go.bits .or .u8 ((b.val : Nat) : Int) 128 = ((b.val : Nat) : Int) % 128 + 128 := by decide +kernel
  have := key ⟨(x % 256).toNat, by omega⟩
  simp only [show (((x % 256).toNat : Nat) : Int) = x % 256 by omega] at this
  rw [this]
  omega
/-- A number's bytes. -/
def leb : Nat → Int → List Int
  | 0, u => [u]
  | k + 1, u => if 128 ≤ u then (u % 128 + 128) :: leb k (u / 128) else [u]
theorem leb_len : ∀ k u, (leb k u).length ≤ k + 1
  | 0, u => by simp [leb]
  | k + 1, u => by
    unfold leb
    split
    · have := leb_len k (u / 128)
      simp
      omega
    · simp

theorem w64 (x : Int) (h0 : -9223372036854775808 ≤ x) (h1 : x ≤ 9223372036854775807) : wrap64 x = x := by
  unfold wrap64
  omega
theorem leb_div (k : Nat) (u : Int) (h : u < 128 ^ (k + 1 + 1)) : u / 128 < 128 ^ (k + 1) := by
  have h2 : u < 128 ^ (k + 1) * 128 := by rw [← Int.pow_succ]; exact h
  generalize (128 : Int) ^ (k + 1) = q at *
  omega
theorem pn_l0 : ∀ (k m : Nat) (u : Int) (l : List Int), k < m → 0 ≤ u → u < 128 ^ (k + 1) → l.length + k < 140737488355328 → pack_number.l0 m l u = some (l ++ leb k u)
  | 0, m + 1, u, l, _, h0, h1, hl => by
    have h2 : u < 128 := by simpa using h1
    rw [pack_number.l0, if_neg (by omega), if_pos (by omega), leb, show u % 256 = u by omega]
  | k + 1, m + 1, u, l, hm, h0, h1, hl => by
    rw [pack_number.l0, leb]
    by_cases c : 128 ≤ u
    · rw [if_pos c, if_pos (by omega), if_pos c, or128 u h0, pn_l0 k m (u / 128) _ (by omega) (by omega) (leb_div k u h1) (by simp; omega), List.append_assoc]
      rfl
    · rw [if_neg c, if_pos (by omega), if_neg c, show u % 256 = u by omega]
def inI64 (n : Int) : Prop := -9223372036854775808 ≤ n ∧ n ≤ 9223372036854775807
/-- A number's bytes, of one below 0 too. -/
def nb (n : Int) : List Int := leb 9 (zz n)
theorem zz_lt (n : Int) (h : inI64 n) : 0 ≤ zz n ∧ zz n < 18446744073709551616 := by
  unfold zz
  obtain ⟨h0, h1⟩ := h
  split <;> omega
theorem nb_len (n : Int) : (nb n).length ≤ 10 := leb_len 9 _
theorem pn_f (m : Nat) (n : Int) (l : List Int) (hm : 9 < m) (h : inI64 n) (hl : l.length < 140737488000000) : pack_number.f m l n = some (l ++ nb n) := by
  unfold pack_number.f
  rw [zz_pack n h.1 h.2]
  obtain ⟨z0, z1⟩ := zz_lt n h
  exact pn_l0 9 m (zz n) l hm z0 (by omega) (by omega)
def nbs (l : List Int) : List Int := (l.map nb).flatten
theorem nbs_drop (l : List Int) (i : Int) (h0 : 0 ≤ i) (h1 : i < l.length) : nbs (l.drop i.toNat) = nb (rd l i) ++ nbs (l.drop (i + 1).toNat) := by
  have hl : i.toNat < l.length := by omega
  rw [List.drop_eq_getElem_cons hl, show (i + 1).toNat = i.toNat + 1 by omega]
  unfold nbs rd
  rw [List.map_cons, List.flatten_cons, List.getD_eq_getElem?_getD, List.getElem?_eq_getElem hl]
  rfl
theorem rd_i64 (l : List Int) (h : ∀ y ∈ l, inI64 y) (i : Int) (h0 : 0 ≤ i) (h1 : i < l.length) : inI64 (rd l i) := by
  unfold rd
  rw [List.getD_eq_getElem?_getD, List.getElem?_eq_getElem (show i.toNat < l.length by omega)]
  exact h _ (List.getElem_mem _)
theorem pp_l0 (N : List Int) (hN : ∀ y ∈ N, inI64 y) (hb : N.length ≤ 1000000) : ∀ (j m : Nat) (i : Int) (acc : List Int), i = N.length - j → 0 ≤ i → j + 10 < m → acc.length + 11 * j < 140737480000000 →
    pack_Put.l0 m acc N N.length i = some (acc ++ nbs (N.drop i.toNat), none)
  | 0, m + 1, i, acc, hi, h0, hm, hl => by
    rw [pack_Put.l0, if_neg (by omega), List.drop_of_length_le (by omega)]
    simp [nbs]
  | j + 1, m + 1, i, acc, hi, h0, hm, hl => by
    have hn := nb_len (rd N i)
    rw [pack_Put.l0, if_pos (by omega), if_pos h0, if_pos (by omega), pn_f m _ acc (by omega) (rd_i64 N hN i h0 (by omega)) (by omega), Option.bind_some,
      show wrap64 (i + 1) = i + 1 from w64 _ (by omega) (by omega), pp_l0 N hN hb j m (i + 1) _ (by omega) (by omega) (by omega) (by simp; omega), nbs_drop N i h0 (by omega), List.append_assoc]
/-- A command's bytes. -/
def cmdB (a b c : Int) (N : List Int) : List Int := nb a ++ nb b ++ nb c ++ nb N.length ++ nbs N
theorem pp_f (m : Nat) (a b c : Int) (N : List Int) (ha : inI64 a) (hb : inI64 b) (hc : inI64 c) (hN : ∀ y ∈ N, inI64 y) (hl : N.length ≤ 16) (hm : 40 < m) : pack_Put.f m a b c N = some (cmdB a b c N, none) := by
  have l1 := nb_len a
  have l2 := nb_len b
  have l3 := nb_len c
  have l4 := nb_len N.length
  unfold pack_Put.f
  rw [if_neg (by omega), pn_f m a [] (by omega) ha (by simp), Option.bind_some, pn_f m b _ (by omega) hb (by simp; omega), Option.bind_some, pn_f m c _ (by omega) hc (by simp; omega), Option.bind_some, pn_f m N.length _ (by omega) ⟨by omega, by omega⟩ (by simp; omega), Option.bind_some,
    pp_l0 N hN (by omega) N.length m 0 _ (by omega) (by omega) (by omega) (by simp; omega)]
  simp [cmdB]
theorem up_f (m : Nat) (hm : 40 < m) : trivetlaw06_up.f m = some true := by
  unfold trivetlaw06_up.f
  rw [pp_f m 2 (-1) 64 [3] ⟨by omega, by omega⟩ ⟨by omega, by omega⟩ ⟨by omega, by omega⟩ (by intro y hy; simp at hy; subst hy; exact ⟨by omega, by omega⟩) (by simp) hm]
  decide +kernel

theorem pow128 (j : Nat) : (2 : Int) ^ (7 * (j : Int)).toNat = 128 ^ j := by
  rw [show (7 * (j : Int)).toNat = 7 * j by omega]
  induction j with
  | zero => rfl
  | succ j ih => rw [show 7 * (j + 1) = 7 * j + 7 by omega, Int.pow_add, ih, Int.pow_succ]; rfl
theorem pow128_pos (j : Nat) : (0 : Int) < 128 ^ j := Int.pow_pos (by omega)
theorem and127 (x : Int) (h0 : 0 ≤ x) (h1 : x < 256) : Go.bits .and .u8 x 127 = x % 128 := by
  have key : ∀ b : Fin 256, Go.bits .and .u8 ((b.val : Nat) : Int) 127 = ((b.val : Nat) : Int) % 128 := by decide +kernel
  have := key ⟨x.toNat, by omega⟩
  simp only [show ((x.toNat : Nat) : Int) = x by omega] at this
  exact this
theorem or_far (j : Nat) (a b : Int) (ha : 0 ≤ a) (ha1 : a < 128 ^ j) (hb : 0 ≤ b) (h : b * 128 ^ j + a < 18446744073709551616) : Go.bits .or .u64 a (b * 128 ^ j) = b * 128 ^ j + a := by
  obtain ⟨a, rfl⟩ := Int.eq_ofNat_of_zero_le ha
  obtain ⟨b, rfl⟩ := Int.eq_ofNat_of_zero_le hb
  have e0 : ((b : Int) * 128 ^ j) = ((2 ^ (7 * j) * b : Nat) : Int) := by
    have := pow128 j
    rw [show (7 * (j : Int)).toNat = 7 * j by omega] at this
    rw [← this, Int.mul_comm]
    push_cast
    rfl
  have e1 : a < 2 ^ (7 * j) := by
    have := pow128 j
    rw [show (7 * (j : Int)).toNat = 7 * j by omega] at this
    rw [← this] at ha1
    have e : ((2 : Int) ^ (7 * j)) = ((2 ^ (7 * j) : Nat) : Int) := by push_cast; rfl
    rw [e] at ha1
    generalize 2 ^ (7 * j) = z at ha1 ⊢
    omega
  rw [e0] at h ⊢
  show IntKind.u64.wrap (((BitVec.ofInt 64 (a : Int) ||| BitVec.ofInt 64 ((2 ^ (7 * j) * b : Nat) : Int)).toNat : Nat) : Int) = _
  have h2 : 2 ^ (7 * j) * b + a < 18446744073709551616 := by
    generalize 2 ^ (7 * j) * b = z at h ⊢
    omega
  rw [BitVec.ofInt_natCast, BitVec.ofInt_natCast, BitVec.toNat_or, BitVec.toNat_ofNat, BitVec.toNat_ofNat, Nat.mod_eq_of_lt (by omega), Nat.mod_eq_of_lt (by omega), Nat.or_comm, ← Nat.two_pow_add_eq_or_of_lt e1]
  rw [u64_in] <;> omega
theorem acc_eq (u x : Int) (j : Nat) (hx0 : 0 ≤ x) (hx1 : x < 256) (h0 : 0 ≤ u) (h1 : u < 128 ^ j) (h2 : (x % 128) * 128 ^ j + u < 18446744073709551616) : pk_acc u j x = (x % 128) * 128 ^ j + u := by
  have q := pow128_pos j
  have m0 : 0 ≤ (x % 128) * 128 ^ j := Int.mul_nonneg (by omega) (by omega)
  unfold pk_acc
  rw [and127 x hx0 hx1, pow128, u64_in (x % 128) (by omega) (by omega), u64_in _ m0 (by omega), or_far j u _ h0 h1 (by omega) h2]
theorem and1 (v : Int) (h0 : 0 ≤ v) (h1 : v < 18446744073709551616) : Go.bits .and .u64 v 1 = v % 2 := by
  obtain ⟨a, rfl⟩ := Int.eq_ofNat_of_zero_le h0
  show IntKind.u64.wrap (((BitVec.ofInt 64 (a : Int) &&& BitVec.ofInt 64 1).toNat : Nat) : Int) = _
  have e : BitVec.ofInt 64 1 = 1#64 := by decide
  rw [e, BitVec.ofInt_natCast, BitVec.toNat_and, BitVec.toNat_ofNat, Nat.mod_eq_of_lt (show a < 2 ^ 64 by omega), show (1#64).toNat = 1 by rfl, Nat.and_one_is_mod, u64_in] <;> omega
theorem fin_zz (n : Int) (h : inI64 n) : pk_fin (zz n) = n := by
  obtain ⟨z0, z1⟩ := zz_lt n h
  obtain ⟨h0, h1⟩ := h
  unfold pk_fin
  rw [and1 _ z0 z1, w64 (zz n % 2) (by omega) (by omega), w64 (zz n / 2) (by omega) (by omega), w64 (-(zz n % 2)) (by omega) (by omega)]
  by_cases c : n < 0
  · have e : zz n = -2 * n - 1 := by unfold zz; rw [if_pos c]
    rw [show zz n / 2 = -n - 1 by omega, show -(zz n % 2) = -1 by omega]
    obtain ⟨a, ha⟩ := Int.eq_ofNat_of_zero_le (show 0 ≤ -n - 1 by omega)
    rw [ha]
    show IntKind.i64.wrap (((BitVec.ofInt 64 (a : Int) ^^^ BitVec.ofInt 64 (-1)).toNat : Nat) : Int) = _
    have e : BitVec.ofInt 64 (-1) = BitVec.allOnes 64 := by decide
    rw [e, BitVec.xor_allOnes, BitVec.toNat_not, BitVec.ofInt_natCast, BitVec.toNat_ofNat]
    simp only [IntKind.wrap, IntKind.bits, IntKind.signed]
    simp
    omega
  · have e : zz n = 2 * n := by unfold zz; rw [if_neg c]
    rw [show zz n / 2 = n by omega, show -(zz n % 2) = 0 by omega]
    obtain ⟨a, rfl⟩ := Int.eq_ofNat_of_zero_le (show 0 ≤ n by omega)
    show IntKind.i64.wrap (((BitVec.ofInt 64 (a : Int) ^^^ BitVec.ofInt 64 0).toNat : Nat) : Int) = _
    have e : BitVec.ofInt 64 0 = 0#64 := by decide
    rw [e, BitVec.xor_zero, BitVec.ofInt_natCast, BitVec.toNat_ofNat]
    simp only [IntKind.wrap, IntKind.bits, IntKind.signed]
    simp
    omega
theorem zz_all (U : Int) (h0 : 0 ≤ U) (h1 : U < 18446744073709551616) : ∃ n, inI64 n ∧ zz n = U := by
  by_cases c : U % 2 = 0
  · refine ⟨U / 2, ⟨by omega, by omega⟩, ?_⟩
    unfold zz
    rw [if_neg (by omega)]
    omega
  · refine ⟨-(U / 2) - 1, ⟨by omega, by omega⟩, ?_⟩
    unfold zz
    rw [if_pos (by omega)]
    omega
def byte (x : Int) : Prop := 0 ≤ x ∧ x < 256
theorem pow_i (k : Nat) (hk : k ≤ 9) : (128 : Int) ^ (9 - k) * 128 ^ k = 9223372036854775808 := by
  rw [← Int.pow_add, show 9 - k + k = 9 by omega]
  decide
/-- Read what was written. -/
theorem rd_leb : ∀ (k : Nat) (u z : Int) (t : List Int), k ≤ 9 → 0 ≤ u → u < 128 ^ (9 - k) → 0 ≤ z → z * 128 ^ (9 - k) + u < 18446744073709551616 → (k = 9 ∨ 0 < z) →
    pk_rd (k + 1) u ((9 - k : Nat) : Int) (leb k z ++ t) = (pk_fin (z * 128 ^ (9 - k) + u), false, t)
  | 0, u, z, t, hk, h0, h1, hz, h2, h3 => by
    have q : (128 : Int) ^ (9 - 0) = 9223372036854775808 := by decide
    rw [q] at h1 h2 ⊢
    have z1 : z = 1 := by omega
    subst z1
    rw [leb, List.singleton_append, pk_rd, if_neg (by omega), if_pos (by omega), acc_eq u 1 (9 - 0) (by omega) (by omega) h0 (by rw [q]; exact h1) (by rw [q]; omega), q]
    rfl
  | k + 1, u, z, t, hk, h0, h1, hz, h2, h3 => by
    have P := pow_i (k + 1) hk
    have hq := pow128_pos (9 - (k + 1))
    have e1 : (128 : Int) ^ (9 - k) = 128 ^ (9 - (k + 1)) * 128 := by rw [← Int.pow_succ]; congr 1; omega
    have ei : ((9 - (k + 1) : Nat) : Int) + 1 = ((9 - k : Nat) : Int) := by omega
    generalize hQ : (128 : Int) ^ (9 - (k + 1)) = q at *
    have dm : z * q = (z / 128) * (q * 128) + (z % 128) * q := by
      have := Int.emod_add_mul_ediv z 128
      calc z * q = (z % 128 + 128 * (z / 128)) * q := by rw [this]
        _ = _ := by rw [Int.add_mul, Int.mul_comm 128, Int.mul_assoc, Int.mul_comm 128 q]; omega
    have m0 : 0 ≤ (z / 128) * (q * 128) := Int.mul_nonneg (by omega) (by omega)
    have m1 : 0 ≤ (z % 128) * q := Int.mul_nonneg (by omega) (by omega)
    have m2 : (z % 128) * q ≤ 127 * q := Int.mul_le_mul_of_nonneg_right (by omega) (by omega)
    rw [leb]
    by_cases c : 128 ≤ z
    · rw [if_pos c, List.cons_append, pk_rd, if_neg (by omega), if_neg (by omega), ei, acc_eq u _ _ (by omega) (by omega) h0 (by rw [hQ]; exact h1) (by rw [hQ, show (z % 128 + 128) % 128 = z % 128 by omega]; omega), hQ, show (z % 128 + 128) % 128 = z % 128 by omega,
        rd_leb k _ (z / 128) t (by omega) (by omega) (by rw [e1]; omega) (by omega) (by rw [e1]; omega) (.inr (by omega)), e1, dm]
      congr 2
      omega
    · have zm : z % 128 = z := by omega
      rw [if_neg c, List.singleton_append, pk_rd, if_neg (by omega), if_pos (by omega), acc_eq u _ _ (by omega) (by omega) h0 (by rw [hQ]; exact h1) (by rw [hQ, zm]; omega), hQ, zm]
/-- What was read was written so. -/
theorem rd_back : ∀ (k : Nat) (u v : Int) (l t : List Int), k ≤ 9 → 0 ≤ u → u < 128 ^ (9 - k) → (∀ x ∈ l, byte x) → pk_rd (k + 1) u ((9 - k : Nat) : Int) l = (v, false, t) →
    ∃ z, 0 ≤ z ∧ z * 128 ^ (9 - k) + u < 18446744073709551616 ∧ (k = 9 ∨ 0 < z) ∧ l = leb k z ++ t ∧ v = pk_fin (z * 128 ^ (9 - k) + u)
  | 0, u, v, [], t, hk, h0, h1, hl, h => by simp [pk_rd] at h
  | k + 1, u, v, [], t, hk, h0, h1, hl, h => by simp [pk_rd] at h
  | 0, u, v, x :: s, t, hk, h0, h1, hl, h => by
    have q : (128 : Int) ^ (9 - 0) = 9223372036854775808 := by decide
    obtain ⟨x0, x1⟩ := hl x (by simp)
    rw [pk_rd] at h
    by_cases c1 : (x = 0 ∧ (0 : Int) < ((9 - 0 : Nat) : Int)) ∨ (1 < x ∧ ((9 - 0 : Nat) : Int) = 9)
    · rw [if_pos c1] at h
      simp at h
    rw [if_neg c1] at h
    have z1 : x = 1 := by omega
    subst z1
    rw [if_pos (by omega), acc_eq u 1 (9 - 0) (by omega) (by omega) h0 h1 (by rw [q] at h1 ⊢; omega), q] at h
    rw [q] at h1 ⊢
    simp only [Prod.mk.injEq, true_and] at h
    obtain ⟨rfl, rfl⟩ := h
    exact ⟨1, by omega, by omega, .inr (by omega), rfl, rfl⟩
  | k + 1, u, v, x :: s, t, hk, h0, h1, hl, h => by
    have P := pow_i (k + 1) hk
    have hq := pow128_pos (9 - (k + 1))
    have hp : (128 : Int) ≤ 128 ^ (k + 1) := by
      have := pow128_pos k
      rw [Int.pow_succ]
      omega
    have e1 : (128 : Int) ^ (9 - k) = 128 ^ (9 - (k + 1)) * 128 := by rw [← Int.pow_succ]; congr 1; omega
    have ei : ((9 - (k + 1) : Nat) : Int) + 1 = ((9 - k : Nat) : Int) := by omega
    obtain ⟨x0, x1⟩ := hl x (by simp)
    have hqP : (128 : Int) ^ (9 - (k + 1)) * 128 ≤ 9223372036854775808 := by
      rw [← P]
      exact Int.mul_le_mul_of_nonneg_left hp (by omega)
    have m1 : 0 ≤ (x % 128) * (128 : Int) ^ (9 - (k + 1)) := Int.mul_nonneg (by omega) (by omega)
    have m2 : (x % 128) * (128 : Int) ^ (9 - (k + 1)) ≤ 127 * 128 ^ (9 - (k + 1)) := Int.mul_le_mul_of_nonneg_right (by omega) (by omega)
    rw [pk_rd] at h
    by_cases c1 : (x = 0 ∧ (0 : Int) < ((9 - (k + 1) : Nat) : Int)) ∨ (1 < x ∧ ((9 - (k + 1) : Nat) : Int) = 9)
    · rw [if_pos c1] at h
      simp at h
    rw [if_neg c1, acc_eq u x _ x0 x1 h0 h1 (by omega)] at h
    by_cases c2 : x < 128
    · have zm : x % 128 = x := by omega
      rw [if_pos c2, zm] at h
      simp only [Prod.mk.injEq, true_and] at h
      obtain ⟨rfl, rfl⟩ := h
      rw [zm] at m1 m2
      refine ⟨x, x0, by omega, ?_, ?_, rfl⟩
      · by_cases k8 : k + 1 = 9
        · exact .inl k8
        · exact .inr (by omega)
      · rw [leb, if_neg (by omega)]
        rfl
    · rw [if_neg c2, ei] at h
      obtain ⟨z, a0, a1, a2, a3, a4⟩ := rd_back k _ v s t (by omega) (by omega) (by rw [e1]; omega) (fun y hy => hl y (by simp [hy])) h
      have z1 : 0 < z := by
        rcases a2 with a2 | a2
        · omega
        · exact a2
      generalize hQ : (128 : Int) ^ (9 - (k + 1)) = q at *
      have dm : (z * 128 + x % 128) * q = z * (q * 128) + (x % 128) * q := by
        rw [Int.add_mul, Int.mul_assoc, Int.mul_comm 128 q]
      rw [e1] at a1 a4
      refine ⟨z * 128 + x % 128, by omega, by omega, .inr (by omega), ?_, ?_⟩
      · rw [leb, if_pos (by omega), a3, show (z * 128 + x % 128) % 128 + 128 = x by omega, show (z * 128 + x % 128) / 128 = z by omega]
        rfl
      · rw [a4, dm]
        congr 1
        omega
/-- L1, L2: the reader's number and a number's bytes. -/
theorem num_nb (n : Int) (h : inI64 n) (t : List Int) : pk_num false (nb n ++ t) = (n, false, t) := by
  obtain ⟨z0, z1⟩ := zz_lt n h
  have := rd_leb 9 0 (zz n) t (by omega) (by omega) (by decide) z0 (by simpa using z1) (.inl rfl)
  simp only [Nat.sub_self, Int.pow_zero, Int.mul_one, Int.add_zero, fin_zz n h] at this
  exact this
theorem num_back (v : Int) (l t : List Int) (hl : ∀ x ∈ l, byte x) (h : pk_num false l = (v, false, t)) : inI64 v ∧ l = nb v ++ t := by
  obtain ⟨z, a0, a1, a2, a3, a4⟩ := rd_back 9 0 v l t (by omega) (by omega) (by decide) hl h
  simp only [Nat.sub_self, Int.pow_zero, Int.mul_one, Int.add_zero] at a1 a4
  obtain ⟨n, hn, rfl⟩ := zz_all z a0 a1
  rw [fin_zz n hn] at a4
  subst a4
  exact ⟨hn, a3⟩

theorem leb_byte : ∀ (k : Nat) (z : Int), 0 ≤ z → z < 128 ^ (k + 1) → ∀ x ∈ leb k z, byte x
  | 0, z, h0, h1 => by
    have : z < 128 := by simpa using h1
    simp [leb, byte]
    omega
  | k + 1, z, h0, h1 => by
    rw [leb]
    by_cases c : 128 ≤ z
    · rw [if_pos c]
      intro x hx
      rcases List.mem_cons.1 hx with rfl | hx
      · exact ⟨by omega, by omega⟩
      · exact leb_byte k (z / 128) (by omega) (leb_div k z h1) x hx
    · rw [if_neg c]
      intro x hx
      simp at hx
      subst hx
      exact ⟨by omega, by omega⟩
theorem nb_byte (n : Int) (h : inI64 n) : ∀ x ∈ nb n, byte x := by
  obtain ⟨z0, z1⟩ := zz_lt n h
  exact leb_byte 9 (zz n) z0 (by omega)

theorem many_bad : ∀ (n : Nat) (l acc : List Int), (pk_many n true l acc).2.1 = true
  | 0, l, acc => rfl
  | n + 1, l, acc => many_bad n l _
theorem rd_bad : ∀ (k : Nat) (u i : Int) (l : List Int) (v : Int) (t : List Int), pk_rd k u i l = (v, true, t) → v = 0
  | 0, u, i, l, v, t, h => by
    simp only [pk_rd, Prod.mk.injEq] at h
    omega
  | k + 1, u, i, [], v, t, h => by
    simp only [pk_rd, Prod.mk.injEq] at h
    omega
  | k + 1, u, i, x :: s, v, t, h => by
    rw [pk_rd] at h
    split at h
    · simp only [Prod.mk.injEq] at h
      omega
    split at h
    · simp at h
    · exact rd_bad k _ _ _ v t h
theorem many_len : ∀ (n : Nat) (b : Bool) (l acc : List Int), (pk_many n b l acc).1.length = acc.length + n
  | 0, b, l, acc => rfl
  | n + 1, b, l, acc => by
    rw [pk_many, many_len n]
    simp
    omega
theorem tail_bad (l : List Int) (a b c : Int) : pk_tail true l a b c 0 = (0, 0, 0, [], some 2) := by
  simp [pk_tail, pk_many]
theorem tail_cases (b : Bool) (l : List Int) (v1 v2 v3 v4 : Int) : pk_tail b l v1 v2 v3 v4 = (0, 0, 0, [], some 2) ∨ ∃ N, pk_tail b l v1 v2 v3 v4 = (v1, v2, v3, N, none) := by
  unfold pk_tail
  split
  · exact .inl rfl
  split
  · exact .inl rfl
  · exact .inr ⟨_, rfl⟩
theorem get_cases (l : List Int) : pk_get l = (0, 0, 0, [], some 2) ∨ ∃ a b c N, pk_get l = (a, b, c, N, none) := by
  unfold pk_get
  rcases tail_cases (pk_num (pk_num (pk_num (pk_num false l).2.1 (pk_num false l).2.2).2.1 (pk_num (pk_num false l).2.1 (pk_num false l).2.2).2.2).2.1 (pk_num (pk_num (pk_num false l).2.1 (pk_num false l).2.2).2.1 (pk_num (pk_num false l).2.1 (pk_num false l).2.2).2.2).2.2).2.1 _ _ _ _ _ with h | ⟨N, h⟩
  · exact .inl h
  · exact .inr ⟨_, _, _, N, h⟩
theorem many_nbs : ∀ (N acc t : List Int), (∀ y ∈ N, inI64 y) → pk_many N.length false (nbs N ++ t) acc = (acc ++ N, false, t)
  | [], acc, t, h => by simp [pk_many, nbs]
  | x :: N, acc, t, h => by
    have e : nbs (x :: N) ++ t = nb x ++ (nbs N ++ t) := by simp [nbs]
    rw [e, List.length_cons, pk_many, num_nb x (h x (by simp))]
    simp only
    rw [many_nbs N _ t (fun y hy => h y (by simp [hy]))]
    simp
theorem get_cb (a b c : Int) (N t : List Int) (ha : inI64 a) (hb : inI64 b) (hc : inI64 c) (hN : ∀ y ∈ N, inI64 y) (hl : N.length ≤ 16) : pk_get (cmdB a b c N ++ t) = if t = [] then (a, b, c, N, none) else (0, 0, 0, [], some 2) := by
  have e : cmdB a b c N ++ t = nb a ++ (nb b ++ (nb c ++ (nb N.length ++ (nbs N ++ t)))) := by simp [cmdB]
  unfold pk_get
  rw [e, num_nb a ha]
  simp only
  rw [num_nb b hb]
  simp only
  rw [num_nb c hc]
  simp only
  rw [num_nb N.length ⟨by omega, by omega⟩]
  simp only
  unfold pk_tail
  rw [if_neg (by omega), Int.toNat_natCast, many_nbs N [] t hN]
  simp only [List.nil_append]
  by_cases h : t = []
  · subst h
    simp
  · have : 0 < t.length := List.length_pos_iff.mpr h
    rw [if_pos (.inr this), if_neg h]
theorem num_byte (v : Int) (l t : List Int) (hl : ∀ x ∈ l, byte x) (h : pk_num false l = (v, false, t)) : ∀ x ∈ t, byte x := by
  obtain ⟨_, rfl⟩ := num_back v l t hl h
  exact fun x hx => hl x (by simp [hx])
theorem many_back : ∀ (n : Nat) (l acc r t : List Int), (∀ x ∈ l, byte x) → pk_many n false l acc = (r, false, t) → ∃ M, r = acc ++ M ∧ M.length = n ∧ (∀ y ∈ M, inI64 y) ∧ l = nbs M ++ t
  | 0, l, acc, r, t, hl, h => by
    simp only [pk_many, Prod.mk.injEq, true_and] at h
    obtain ⟨rfl, rfl⟩ := h
    exact ⟨[], by simp, rfl, by simp, rfl⟩
  | n + 1, l, acc, r, t, hl, h => by
    rw [pk_many] at h
    generalize hq : pk_num false l = w at h
    obtain ⟨v, b, s⟩ := w
    simp only at h
    cases b with
    | true =>
      have := many_bad n s (acc ++ [v])
      rw [h] at this
      simp at this
    | false =>
      obtain ⟨hv, hs⟩ := num_back v l s hl hq
      obtain ⟨M, h1, h2, h3, h4⟩ := many_back n s _ r t (num_byte v l s hl hq) h
      refine ⟨v :: M, by rw [h1]; simp, by simp [h2], ?_, ?_⟩
      · intro y hy
        rcases List.mem_cons.1 hy with rfl | hy
        · exact hv
        · exact h3 y hy
      · rw [hs, h4]
        simp [nbs]
theorem get_back (l : List Int) (a b c : Int) (N : List Int) (hl : ∀ x ∈ l, byte x) (h : pk_get l = (a, b, c, N, none)) : inI64 a ∧ inI64 b ∧ inI64 c ∧ (∀ y ∈ N, inI64 y) ∧ N.length ≤ 16 ∧ l = cmdB a b c N := by
  have bad : ∀ (u : List Int), pk_num true u = (0, true, u) := fun _ => rfl
  unfold pk_get at h
  generalize h1 : pk_num false l = w1 at h
  obtain ⟨v1, b1, t1⟩ := w1
  cases b1 with
  | true => simp [bad, tail_bad] at h
  | false =>
  simp only at h
  generalize h2 : pk_num false t1 = w2 at h
  obtain ⟨v2, b2, t2⟩ := w2
  cases b2 with
  | true => simp [bad, tail_bad] at h
  | false =>
  simp only at h
  generalize h3 : pk_num false t2 = w3 at h
  obtain ⟨v3, b3, t3⟩ := w3
  cases b3 with
  | true => simp [bad, tail_bad] at h
  | false =>
  simp only at h
  generalize h4 : pk_num false t3 = w4 at h
  obtain ⟨v4, b4, t4⟩ := w4
  cases b4 with
  | true =>
    have z : v4 = 0 := rd_bad 10 0 0 t3 v4 t4 h4
    subst z
    simp [tail_bad] at h
  | false =>
  simp only at h
  have y1 := num_byte v1 l t1 hl h1
  have y2 := num_byte v2 t1 t2 y1 h2
  have y3 := num_byte v3 t2 t3 y2 h3
  have y4 := num_byte v4 t3 t4 y3 h4
  obtain ⟨i1, e1⟩ := num_back v1 l t1 hl h1
  obtain ⟨i2, e2⟩ := num_back v2 t1 t2 y1 h2
  obtain ⟨i3, e3⟩ := num_back v3 t2 t3 y2 h3
  obtain ⟨i4, e4⟩ := num_back v4 t3 t4 y3 h4
  unfold pk_tail at h
  split at h
  · simp at h
  rename_i g0
  generalize h5 : pk_many v4.toNat false t4 [] = w5 at h
  obtain ⟨r, b5, t5⟩ := w5
  simp only at h
  split at h
  · simp at h
  rename_i g1
  simp only [Prod.mk.injEq] at h
  obtain ⟨rfl, rfl, rfl, rfl, -⟩ := h
  have g2 : b5 = false := by
    cases b5
    · rfl
    · exact absurd (.inl rfl) g1
  subst g2
  have g3 : t5 = [] := by
    cases t5
    · rfl
    · exact absurd (.inr (by simp)) g1
  subst g3
  obtain ⟨M, m1, m2, m3, m4⟩ := many_back v4.toNat t4 [] r [] y4 h5
  simp only [List.nil_append] at m1
  subst m1
  refine ⟨i1, i2, i3, m3, by omega, ?_⟩
  have e5 : v4 = r.length := by omega
  rw [e1, e2, e3, e4, m4, e5]
  simp [cmdB]
theorem nbs_byte : ∀ (N : List Int), (∀ y ∈ N, inI64 y) → ∀ x ∈ nbs N, byte x
  | [], h, x, hx => by simp [nbs] at hx
  | y :: N, h, x, hx => by
    have e : nbs (y :: N) = nb y ++ nbs N := by simp [nbs]
    rw [e] at hx
    rcases List.mem_append.1 hx with hx | hx
    · exact nb_byte y (h y (by simp)) x hx
    · exact nbs_byte N (fun z hz => h z (by simp [hz])) x hx
theorem cb_byte (a b c : Int) (N : List Int) (ha : inI64 a) (hb : inI64 b) (hc : inI64 c) (hN : ∀ y ∈ N, inI64 y) (hl : N.length ≤ 16) : ∀ x ∈ cmdB a b c N, byte x := by
  intro x hx
  simp only [cmdB, List.mem_append] at hx
  rcases hx with (((hx | hx) | hx) | hx) | hx
  · exact nb_byte a ha x hx
  · exact nb_byte b hb x hx
  · exact nb_byte c hc x hx
  · exact nb_byte N.length ⟨by omega, by omega⟩ x hx
  · exact nbs_byte N hN x hx
theorem nb_pos (n : Int) : 0 < (nb n).length := by
  unfold nb leb
  split <;> simp
theorem cb_pos (a b c : Int) (N : List Int) : 0 < (cmdB a b c N).length := by
  have := nb_pos a
  simp only [cmdB, List.length_append]
  omega
theorem cb_len (a b c : Int) (N : List Int) (hl : N.length ≤ 16) : (cmdB a b c N).length ≤ 200 := by
  have h1 := nb_len a
  have h2 := nb_len b
  have h3 := nb_len c
  have h4 := nb_len N.length
  have h5 : ∀ M : List Int, (nbs M).length ≤ 10 * M.length := by
    intro M
    induction M with
    | nil => simp [nbs]
    | cons y M ih =>
      have e : nbs (y :: M) = nb y ++ nbs M := by simp [nbs]
      have := nb_len y
      rw [e, List.length_append, List.length_cons]
      omega
  have := h5 N
  simp only [cmdB, List.length_append]
  omega
theorem get_prefix (a b c : Int) (N : List Int) (ha : inI64 a) (hb : inI64 b) (hc : inI64 c) (hN : ∀ y ∈ N, inI64 y) (hl : N.length ≤ 16) (j : Nat) (hj : j < (cmdB a b c N).length) : pk_get ((cmdB a b c N).take j) = (0, 0, 0, [], some 2) := by
  rcases get_cases ((cmdB a b c N).take j) with h | ⟨a', b', c', N', h⟩
  · exact h
  · obtain ⟨i1, i2, i3, i4, i5, e⟩ := get_back _ a' b' c' N' (fun x hx => cb_byte a b c N ha hb hc hN hl x (List.mem_of_mem_take hx)) h
    have k1 := get_cb a' b' c' N' ((cmdB a b c N).drop j) i1 i2 i3 i4 i5
    rw [← e, List.take_append_drop] at k1
    have k2 := get_cb a b c N [] ha hb hc hN hl
    rw [List.append_nil, if_pos rfl] at k2
    have : (cmdB a b c N).drop j ≠ [] := by
      intro hh
      have := congrArg List.length hh
      simp at this
      omega
    rw [if_neg this, k2] at k1
    simp at k1

theorem sm_l0 (a b c : Int) (N : List Int) (hN : N.length ≤ 1000) (a' b' c' : Int) : ∀ (j m : Nat) (i : Int), i = N.length - j → 0 ≤ i → j < m → trivetref06_Same.l0 m i a b c N a' b' c' N = some true
  | 0, m + 1, i, hi, h0, hm => by rw [trivetref06_Same.l0, if_neg (by omega)]
  | j + 1, m + 1, i, hi, h0, hm => by
    rw [trivetref06_Same.l0, if_pos (by omega), if_pos h0, if_pos (by omega), if_pos rfl, show wrap64 (i + 1) = i + 1 from w64 _ (by omega) (by omega), sm_l0 a b c N hN a' b' c' j m (i + 1) (by omega) (by omega) (by omega)]
theorem sm_f (m : Nat) (a b c : Int) (N : List Int) (hN : N.length ≤ 1000) (hm : N.length + 2 < m) : trivetref06_Same.f m a b c N a b c N = some true := by
  obtain ⟨m, rfl⟩ : ∃ j, m = j + 1 := ⟨m - 1, by omega⟩
  unfold trivetref06_Same.f
  rw [if_pos rfl, if_pos rfl, if_pos rfl, trivetref06_Same.j0, if_neg (by simp), sm_l0 a b c N hN a b c N.length m 0 (by omega) (by omega) (by omega)]

def trivetlaw06_PackBack.f (a0_0 a0_1 a0_2 : Int) (l0_3 l1 : List Int) (a2 a3 : Int) : Option Bool :=
  if (-9223372036854775808 ≤ a0_0 ∧ a0_0 ≤ 9223372036854775807) ∧ (-9223372036854775808 ≤ a0_1 ∧ a0_1 ≤ 9223372036854775807) ∧ (-9223372036854775808 ≤ a0_2 ∧ a0_2 ≤ 9223372036854775807) ∧ (∀ y ∈ l0_3, -9223372036854775808 ≤ y ∧ y ≤ 9223372036854775807) ∧ (∀ y ∈ l1, 0 ≤ y ∧ y < 256) ∧ (-9223372036854775808 ≤ a2 ∧ a2 ≤ 9223372036854775807) ∧ (0 ≤ a3 ∧ a3 < 256) then some true else none
set_option maxHeartbeats 1000000 in
set_option maxRecDepth 100000 in
theorem pb_main (a0_0 a0_1 a0_2 : Int) (A0_3 : Option Addr) (c0_3 : Nat) (l0_3 : List Int) (A1 : Option Addr) (c1 : Nat) (l1 : List Int) (a2 a3 : Int) (w : World) (hr0_3 : (Kd.int .i64).C w A0_3 l0_3.length l0_3) (hc0_3 : l0_3.length ≤ c0_3) (hr1 : (Kd.int .u8).C w A1 l1.length l1) (hc1 : l1.length ≤ c1)
    (h0 : inI64 a0_0) (h1 : inI64 a0_1) (h2 : inI64 a0_2) (hN : ∀ y ∈ l0_3, inI64 y) (hb : ∀ y ∈ l1, byte y) (h4 : inI64 a2) (h5 : byte a3) (hl : l0_3.length ≤ 16) (hm : l1.length ≤ 1000) :
    Calls Try.prog 5 #[.agg #[.int .i64 a0_0, .int .i64 a0_1, .int .i64 a0_2, .slice A0_3 l0_3.length c0_3], .slice A1 l1.length c1, .int .i64 a2, .int .u8 a3] w fun e w' => e = .returned (.bool true) ∧ Below w.heap.size w w' := by
  have U := Aside0.mk (fun W => trivetlaw06_up.calls 50 true W (up_f 50 (by omega)))
  generalize hp : cmdB a0_0 a0_1 a0_2 l0_3 = p
  have P : Aside0 (∀ W : World, (Kd.int .i64).C W A0_3 l0_3.length l0_3 → Calls Try.prog 8 #[.agg #[.int .i64 a0_0, .int .i64 a0_1, .int .i64 a0_2, .slice A0_3 l0_3.length c0_3]] W fun e w' => ∃ v0_ : Value, e = .returned (.tuple #[v0_, .nilIface]) ∧ Kd.R (Kd.int .u8) 5 w' W.heap.size (fun _ => True) v0_ p ∧ Below W.heap.size W w') :=
    ⟨fun W hW => pack_Put.calls 50 a0_0 a0_1 a0_2 A0_3 c0_3 l0_3 p none W hW hc0_3 (by rw [← hp]; exact pp_f 50 a0_0 a0_1 a0_2 l0_3 h0 h1 h2 hN hl (by omega))⟩
  have hbp : ∀ y ∈ p, byte y := by rw [← hp]; exact cb_byte a0_0 a0_1 a0_2 l0_3 h0 h1 h2 hN hl
  have hlp : p.length ≤ 200 := by rw [← hp]; exact cb_len a0_0 a0_1 a0_2 l0_3 hl
  have hpp : 0 < p.length := by rw [← hp]; exact cb_pos a0_0 a0_1 a0_2 l0_3
  have GP : Aside0 (∀ (W : World) A c, (Kd.int .u8).C W A p.length p → p.length ≤ c → Calls Try.prog 10 #[.slice A p.length c] W fun e w' => ∃ v0_ : Value, e = .returned (.tuple #[.agg #[.int .i64 a0_0, .int .i64 a0_1, .int .i64 a0_2, v0_], .nilIface]) ∧ Kd.R (Kd.int .i64) 2 w' W.heap.size (fun _ => True) v0_ l0_3 ∧ Below W.heap.size W w') :=
    ⟨fun W A c hW hc => pack_Get.calls A c p a0_0 a0_1 a0_2 l0_3 none W hW hc (by
      have := get_cb a0_0 a0_1 a0_2 l0_3 [] h0 h1 h2 hN hl
      rw [List.append_nil, if_pos rfl, hp] at this
      exact congrArg some this)⟩
  have HR0 := Aside0.mk hr0_3
  have HC0 := Aside0.mk hc0_3
  have HR1 := Aside0.mk hr1
  have HC1 := Aside0.mk hc1
  clear hr0_3 hr1 hc0_3 hc1
  have t0 : decide (16 < (l0_3.length : Int)) = false := decide_eq_false (by omega)
  have t1 : decide (1000 < (l1.length : Int)) = false := decide_eq_false (by omega)
  go_enter Try.func5, Try.ntmps5
  go_wp2_with fail
  refine (U.out _).mono ?_
  rintro e w1 ⟨rfl, hb1⟩
  have G1 := Aside0.mk (blk_below (blk_new w _) hb1)
  have B1 := Aside0.mk (below_step (below_alloc (Below.refl w.heap.size w) _) hb1)
  clear hb1
  have k0 := (blk_cell G1.out 0).trans rfl
  have k1 := (blk_cell G1.out 1).trans rfl
  have k2 := (blk_cell G1.out 2).trans rfl
  have k3 := (blk_cell G1.out 3).trans rfl
  go_wp2_with fail
  refine (P.out _ (Kd.C_below HR0.out B1.out)).mono ?_
  rintro e w2 ⟨v2, rfl, R2, hb2⟩
  obtain ⟨A2, c2, e2, L2, C2⟩ := Kd.R_reads R2
  subst e2
  have HC2 := Aside0.mk C2
  have HL2 := Aside0.mk L2
  have G2 := Aside0.mk (blk_below G1.out hb2)
  have B2 := Aside0.mk (below_step B1.out hb2)
  clear hb2 C2 L2 R2 k0 k1 k2 k3 G1 B1
  go_wp2_with fail
  refine (GP.out _ A2 c2 HC2.out HL2.out).mono ?_
  rintro e w3 ⟨v3, rfl, R3, hb3⟩
  obtain ⟨A3, c3, e3, L3, C3⟩ := Kd.R_reads R3
  subst e3
  have HC3 := Aside0.mk C3
  have HL3 := Aside0.mk L3
  have B3 := Aside0.mk hb3
  have G3 := Aside0.mk (blk_below G2.out hb3)
  clear hb3 C3 L3 R3 G2
  have k0 := fun o => (blk_cell (blk_alloc G3.out o) 0).trans rfl
  have k1 := fun o => (blk_cell (blk_alloc G3.out o) 1).trans rfl
  have k2 := fun o => (blk_cell (blk_alloc G3.out o) 2).trans rfl
  have k3 := fun o => (blk_cell (blk_alloc G3.out o) 3).trans rfl
  have S1 : Aside0 (∀ o, Calls Try.prog 12 #[.agg #[.int .i64 a0_0, .int .i64 a0_1, .int .i64 a0_2, .slice A0_3 l0_3.length c0_3], .agg #[.int .i64 a0_0, .int .i64 a0_1, .int .i64 a0_2, .slice A3 l0_3.length c3]] (w3.alloc o) fun e w' => e = .returned (.bool true) ∧ Below (w3.alloc o).heap.size (w3.alloc o) w') :=
    ⟨fun o => trivetref06_Same.calls 50 _ _ _ A0_3 c0_3 l0_3 _ _ _ A3 c3 l0_3 true _ (Kd.C_alloc (Kd.C_below (Kd.C_below HR0.out B2.out) B3.out) o) HC0.out (Kd.C_alloc HC3.out o) HL3.out (sm_f 50 _ _ _ l0_3 (by omega) (by omega))⟩
  have q0 : ((p.length : Int) == 0) = false := beq_eq_false_iff_ne.mpr (by omega)
  go_wp2_with fail
  refine (S1.out _).mono ?_
  rintro e w4 ⟨rfl, hb4⟩
  have B4 := Aside0.mk hb4
  have G4 := Aside0.mk (blk_below (blk_alloc G3.out _) hb4)
  have D4 := Aside0.mk (blk_below (blk_new w3 _) hb4)
  clear hb4 G3 k0 k1 k2 k3
  obtain ⟨n, m, hn0, hsel⟩ : ∃ n m : Int, 0 ≤ n ∧ ((decide (a2 < 0) = true ∧ wrap64 (a2 + 1) = m ∧ wrap64 (-m) = n) ∨ (decide (a2 < 0) = false ∧ a2 = n)) := by
    by_cases c : a2 < 0
    · exact ⟨-(a2 + 1), a2 + 1, by omega, .inl ⟨decide_eq_true c, w64 _ (by have := h4.1; omega) (by omega), w64 _ (by omega) (by have := h4.1; omega)⟩⟩
    · exact ⟨a2, 0, by omega, .inr ⟨decide_eq_false c, rfl⟩⟩
  have j0 : 0 ≤ n.tmod p.length := Int.tmod_nonneg _ hn0
  have j1 : n.tmod p.length < p.length := Int.tmod_lt_of_pos _ (by omega)
  generalize hj : n.tmod p.length = j at j0 j1
  obtain ⟨hc0, hc1, hc2⟩ := print_take_of (P := Try.prog) (Value.int .u8) (0 : Int) 26 5 .i64 Try.underlying26 (i := _) rfl rfl A2 c2 p j j0 (by omega) HL2.out
  have HC5 := Aside0.mk (Kd.C_of_reads (h1 := fun _ => rfl) (hc1 _ (Kd.reads_of_C HC2.out)))
  have HL5 := Aside0.mk hc2
  clear hc1 hc2
  have hq : pk_get (p.take j.toNat) = (0, 0, 0, [], some 2) := by
    rw [← hp]
    exact get_prefix a0_0 a0_1 a0_2 l0_3 h0 h1 h2 hN hl _ (by rw [hp]; omega)
  generalize p.take j.toNat = q at hc0 HC5 HL5 hq
  have GQ : Aside0 (∀ (W : World), (Kd.int .u8).C W A2 q.length q → Calls Try.prog 10 #[.slice A2 q.length c2] W fun e w' => ∃ A c, e = .returned (.tuple #[.agg #[.int .i64 0, .int .i64 0, .int .i64 0, .slice A 0 c], .iface 31 (.int .i64 2)]) ∧ Below W.heap.size W w') :=
    ⟨fun W hW => (pack_Get.calls A2 c2 q 0 0 0 [] (some 2) W hW HL5.out (congrArg some hq)).mono (by
      rintro e w' ⟨v, rfl, R, hb⟩
      obtain ⟨A, c, rfl, -, -⟩ := Kd.R_reads R
      exact ⟨A, c, rfl, hb⟩)⟩
  clear hq
  have hgm : pk_get (p ++ [a3]) = (0, 0, 0, [], some 2) := by
    have := get_cb a0_0 a0_1 a0_2 l0_3 [a3] h0 h1 h2 hN hl
    rw [hp, if_neg (by simp)] at this
    exact this
  obtain ⟨pm, hpm⟩ : ∃ pm, p ++ [a3] = pm := ⟨_, rfl⟩
  rw [hpm] at hgm
  have GM : Aside0 (∀ (W : World) A c, (Kd.int .u8).C W A pm.length pm → pm.length ≤ c → Calls Try.prog 10 #[.slice A pm.length c] W fun e w' => ∃ A c, e = .returned (.tuple #[.agg #[.int .i64 0, .int .i64 0, .int .i64 0, .slice A 0 c], .iface 31 (.int .i64 2)]) ∧ Below W.heap.size W w') :=
    ⟨fun W A c hW hc => (pack_Get.calls A c pm 0 0 0 [] (some 2) W hW hc (congrArg some hgm)).mono (by
      rintro e w' ⟨v, rfl, R, hb⟩
      obtain ⟨A, c, rfl, -, -⟩ := Kd.R_reads R
      exact ⟨A, c, rfl, hb⟩)⟩
  clear hgm
  rcases hsel with ⟨hsb, e1, e2⟩ | ⟨hsb, rfl⟩
  all_goals
    go_wp2_with fail
    refine (GQ.out _ (Kd.C_below (Kd.C_alloc (Kd.C_below HC5.out B3.out) _) B4.out)).mono ?_
    rintro e w5 ⟨A5, c5, rfl, hb5⟩
    have B5 := Aside0.mk hb5
    have D5 := Aside0.mk (blk_below D4.out hb5)
    have P5 := Aside0.mk (Kd.C_below (Kd.C_below (Kd.C_alloc (Kd.C_below HC2.out B3.out) _) B4.out) hb5)
    have T5 := Aside0.mk (below_step (below_step (below_alloc (below_step B2.out B3.out) _) B4.out) hb5)
    clear hb5 B5 B4 B3 B2 HC5 HL5 HC2 D4 G4 hc0 HC3
    clear D5
    go_upto_region 11 with (fail)
    have P6 := Aside0.mk (Kd.C_alloc P5.out (.cells #[.int .i64 0, .int .i64 0, .int .i64 0, .slice A5 0 c5] 24))
    have T6 := Aside0.mk (below_alloc T5.out (.cells #[.int .i64 0, .int .i64 0, .int .i64 0, .slice A5 0 c5] 24))
    generalize w5.alloc (.cells #[.int .i64 0, .int .i64 0, .int .i64 0, .slice A5 0 c5] 24) = w6 at P6 T6 ⊢
    clear P5 T5
    go_wp2_with (first
      | ((with_reducible refine gate_dst (N := 76) rfl ?_); refine Kd.R_lit (Kd.int .u8) w6.heap.size 5 ?hg (N := 76) ?hd (xs := ([] : List Int)) (inner := []) (ok := fun _ => True) (okp := fun _ => True) ?hr ?hp (fun _ hk => hk) trivial (Below.refl w6.heap.size w6) (Nat.le_refl _) (by simp) ?_; (case hd => rfl); (case hg => rfl); (case hr => first | (go_simp; done) | (go_simp; rfl)); (case hp => exact (Reps.none _ _)); intro v7 w7 ho7 hb7 hg7 hnew7; clear hg7 hnew7)
      | ((with_reducible refine gate_builtin (b := .append) (xs := #[.tmp 76, .tmp 77]) rfl ?_); at_builtin; refine Kd.R_append_rows (Kd.int .u8) (w0 := w6) w6.heap.size rfl (.tmp 76) (.tmp 77) 26 5 (.int .u8 0) 1 rfl Try.underlying26 info5 rfl (by decide) (by omega) v7 [] p _ _ _ (fun _ => True) (fun _ => False) rfl rfl ho7 ?aR (fun _ _ h => h) (fun _ h => h.elim) (fun _ _ => trivial) hb7 hb7.size ?aL ?_; (case aR => exact Kd.C_below P6.out hb7); (case aL => simp only [List.length_nil]; omega); intro v8 w8 ho8 hb8 hg8 hat8; rw [List.nil_append] at ho8; clear hg8 hat8 hb7 ho7)
      | ((with_reducible refine gate_builtin (b := .append) (xs := #[.tmp 78, .tmp 80]) rfl ?_); at_builtin; refine Kd.R_append (Kd.int .u8) (w0 := w6) w6.heap.size rfl (.tmp 78) (.tmp 80) 26 5 (.int .u8 0) 1 rfl Try.underlying26 info5 rfl (by decide) (by omega) v8 p a3 [.int .u8 a3] (fun _ => True) (fun _ => False) rfl rfl rfl (fun _ hk => hk.elim) (fun _ _ => trivial) ho8 hb8 hb8.size (by omega) ?_; intro v9 w9 ho9 hb9 hg9 hat9; clear hg9 hat9 hb8 ho8; rw [hpm] at ho9; obtain ⟨A9, c9, e9, L9, C9⟩ := Kd.R_reads ho9; subst e9; have C9 := Aside0.mk C9; have L9 := Aside0.mk L9; have T9 := Aside0.mk (below_step T6.out hb9); clear ho9 hb9 T6)
      | fail)
    refine (GM.out _ A9 c9 C9.out L9.out).mono ?_
    rintro e w10 ⟨A10, c10, rfl, hb10⟩
    have T10 := Aside0.mk (below_step T9.out hb10)
    clear hb10 T9 C9 L9
    go_upto_region 12 with (fail)
    have T11 := Aside0.mk (below_alloc T10.out (.cells #[.int .i64 0, .int .i64 0, .int .i64 0, .slice A10 0 c10] 24))
    generalize w10.alloc (.cells #[.int .i64 0, .int .i64 0, .int .i64 0, .slice A10 0 c10] 24) = w11 at T11 ⊢
    clear T10
    rcases get_cases l1 with hg | ⟨x1, x2, x3, N, hg⟩
    · have GX := Aside0.mk (pack_Get.calls A1 c1 l1 0 0 0 [] (some 2) w11 (Kd.C_below HR1.out T11.out) HC1.out (congrArg some hg))
      go_wp2_with fail
      refine GX.out.mono ?_
      rintro e w12 ⟨v12, rfl, R12, hb12⟩
      simp only [errW_none, errW_some]
      obtain ⟨A12, c12, e12, -, -⟩ := Kd.R_reads R12
      subst e12
      have T12 := Aside0.mk (below_alloc (below_step T11.out hb12) (.cells #[.int .i64 0, .int .i64 0, .int .i64 0, .slice A12 0 c12] 24))
      clear R12 hb12 T11
      go_wp2
      go_ret
      exact ⟨rfl, T12.out⟩
    · obtain ⟨i1, i2, i3, i4, i5, ec⟩ := get_back l1 x1 x2 x3 N hb hg
      have EC := Aside0.mk ec
      clear ec
      have GX := Aside0.mk (pack_Get.calls A1 c1 l1 x1 x2 x3 N none w11 (Kd.C_below HR1.out T11.out) HC1.out (congrArg some hg))
      go_wp2_with fail
      refine GX.out.mono ?_
      rintro e w12 ⟨v12, rfl, R12, hb12⟩
      simp only [errW_none, errW_some]
      obtain ⟨A12, c12, e12, L12, C12⟩ := Kd.R_reads R12
      subst e12
      have T12 := Aside0.mk (below_alloc (below_step T11.out hb12) (.cells #[.int .i64 x1, .int .i64 x2, .int .i64 x3, .slice A12 N.length c12] 24))
      have PX := Aside0.mk (pack_Put.calls 50 x1 x2 x3 A12 c12 N l1 none (w12.alloc (.cells #[.int .i64 x1, .int .i64 x2, .int .i64 x3, .slice A12 N.length c12] 24)) (Kd.C_alloc C12 _) L12 (by
        rw [EC.out]; exact pp_f 50 x1 x2 x3 N i1 i2 i3 i4 i5 (by omega)))
      clear R12 hb12 T11 C12
      go_wp2_with fail
      refine PX.out.mono ?_
      rintro e w13 ⟨v13, rfl, R13, hb13⟩
      simp only [errW_none, errW_some]
      have z1 := own_string (P := Try.prog) Try.underlying26 Try.underlying5 Try.underlying9 (Kd.own_of_R R13)
      have T13 := Aside0.mk (below_step T12.out hb13)
      have z2 := Kd.C_string (P := Try.prog) (A := A1) (c := c1) Try.underlying26 Try.underlying5 Try.underlying9 (Kd.C_below HR1.out T13.out)
      clear hb13 R13 T12
      go_wp2
      go_ret
      exact ⟨rfl, T13.out⟩
set_option maxRecDepth 100000 in
theorem pb_far (a0_0 a0_1 a0_2 : Int) (A0_3 : Option Addr) (c0_3 : Nat) (l0_3 : List Int) (A1 : Option Addr) (c1 : Nat) (l1 : List Int) (a2 a3 : Int) (w : World) (hl : ¬ (l0_3.length ≤ 16 ∧ l1.length ≤ 1000)) :
    Calls Try.prog 5 #[.agg #[.int .i64 a0_0, .int .i64 a0_1, .int .i64 a0_2, .slice A0_3 l0_3.length c0_3], .slice A1 l1.length c1, .int .i64 a2, .int .u8 a3] w fun e w' => e = .returned (.bool true) ∧ Below w.heap.size w w' := by
  have U := Aside0.mk (fun W => trivetlaw06_up.calls 50 true W (up_f 50 (by omega)))
  obtain ⟨s, hs⟩ : ∃ s, decide (16 < (l0_3.length : Int)) = s := ⟨_, rfl⟩
  have t1 : s = true ∨ decide (1000 < (l1.length : Int)) = true := by
    by_cases c : l0_3.length ≤ 16
    · exact .inr (decide_eq_true (by omega))
    · exact .inl (by rw [← hs]; exact decide_eq_true (by omega))
  clear hl
  go_enter Try.func5, Try.ntmps5
  go_wp2_with fail
  refine (U.out _).mono ?_
  rintro e w1 ⟨rfl, hb1⟩
  have G1 := Aside0.mk (blk_below (blk_new w _) hb1)
  have B1 := Aside0.mk (below_step (below_alloc (Below.refl w.heap.size w) _) hb1)
  clear hb1
  have k3 := (blk_cell G1.out 3).trans rfl
  cases s with
  | true =>
    clear t1
    go_wp2
    go_ret
    exact ⟨rfl, B1.out⟩
  | false =>
    have t2 : decide (1000 < (l1.length : Int)) = true := by
      rcases t1 with h | h
      · cases h
      · exact h
    clear t1
    go_wp2
    go_ret
    exact ⟨rfl, B1.out⟩
theorem trivetlaw06_PackBack.calls (a0_0 a0_1 a0_2 : Int) (A0_3 : Option Addr) (c0_3 : Nat) (l0_3 : List Int) (A1 : Option Addr) (c1 : Nat) (l1 : List Int) (a2 a3 : Int) (r : Bool) (w : World) (hr0_3 : Kd.C (Kd.int .i64) w A0_3 l0_3.length l0_3) (hc0_3 : l0_3.length ≤ c0_3) (hr1 : Kd.C (Kd.int .u8) w A1 l1.length l1) (hc1 : l1.length ≤ c1) (h : trivetlaw06_PackBack.f a0_0 a0_1 a0_2 l0_3 l1 a2 a3 = some r) :
    Calls Try.prog 5 #[.agg #[.int .i64 a0_0, .int .i64 a0_1, .int .i64 a0_2, .slice A0_3 l0_3.length c0_3], .slice A1 l1.length c1, .int .i64 a2, .int .u8 a3] w fun e w' => e = .returned (.bool r) ∧ Below w.heap.size w w' := by
  unfold trivetlaw06_PackBack.f at h
  split at h
  · rename_i g
    obtain ⟨g0, g1, g2, g3, g4, g5, g6⟩ := g
    obtain rfl := Option.some.inj h
    by_cases c : l0_3.length ≤ 16 ∧ l1.length ≤ 1000
    · exact pb_main a0_0 a0_1 a0_2 A0_3 c0_3 l0_3 A1 c1 l1 a2 a3 w hr0_3 hc0_3 hr1 hc1 g0 g1 g2 g3 g4 g5 g6 c.1 c.2
    · exact pb_far a0_0 a0_1 a0_2 A0_3 c0_3 l0_3 A1 c1 l1 a2 a3 w c
  · cases h

def good24 (x : S24) : Prop := ((Lit.int .i64 x.f0).wf = true) ∧ ((Lit.int .i64 x.f1).wf = true) ∧ ((Lit.int .i64 x.f2).wf = true) ∧ (x.f3.length ≤ maxLen ∧ ∀ y ∈ x.f3, (Lit.int .i64 y).wf = true)
/-- THE ONE PURE STATEMENT of trivetlaw06_PackBack. -/
def trivetlaw06_PackBack.Pure : Prop := ∀ (x0 : S24) (x1 : List Int) (x2 : Int) (x3 : Int), (good24 x0) → x1.length * 1 ≤ 140737488351232 → (x1.length ≤ maxLen ∧ ∀ y ∈ x1, (Lit.int .u8 y).wf = true) → ((Lit.int .i64 x2).wf = true) → ((Lit.int .u8 x3).wf = true) → trivetlaw06_PackBack.f x0.f0 x0.f1 x0.f2 x0.f3 x1 x2 x3 = some true

end Go.Proofs.Ytpacenloagepfaa.PPackBack
