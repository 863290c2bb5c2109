/- Get reads any bytes as the document does, the command or that they are none's: the law PackGets returns true for every input; no condition of its own. -/
import Derived.Test.YtpacenloagepfaaPPackGetsx5
import Derived.Lib.Bytes
namespace Go.Proofs.Ytpacenloagepfaa.Pure
open Go.RowKit Go.Proofs.Ytpacenloagepfaa.PPackGets Go.Proofs.YtpacenloagepfaaW.PrintWords Go.Proofs.YtpacenloagepfaaW.PrintLast Go.Proofs.YtpacenloagepfaaW.PrintMore
set_option linter.unusedVariables false
set_option linter.unusedSimpArgs false

theorem u64_in (x : Int) (h0 : 0 ≤ x) (h1 : x < 18446744073709551616) : IntKind.u64.wrap x = x := by
  simp only [IntKind.wrap, IntKind.bits, IntKind.signed]
  simp
  omega
theorem u64_neg (x : Int) (h0 : -18446744073709551616 ≤ x) (h1 : x < 0) : IntKind.u64.wrap x = x + 18446744073709551616 := by
  simp only [IntKind.wrap, IntKind.bits, IntKind.signed]
  simp
  omega
theorem xor_ones (x : Int) (h0 : 0 ≤ x) (h1 : x < 18446744073709551616) : Go.bits .xor .u64 x 18446744073709551615 = 18446744073709551615 - x := by
  obtain ⟨a, rfl⟩ := Int.eq_ofNat_of_zero_le h0
  have e : BitVec.ofInt 64 18446744073709551615 = BitVec.allOnes 64 := by decide
  show IntKind.u64.wrap (((BitVec.ofInt 64 (a : Int) ^^^ BitVec.ofInt 64 18446744073709551615).toNat : Nat) : Int) = _
  rw [e, BitVec.xor_allOnes, BitVec.toNat_not, BitVec.ofInt_natCast, BitVec.toNat_ofNat]
  rw [u64_in] <;> omega
theorem xor_zero (x : Int) (h0 : 0 ≤ x) (h1 : x < 18446744073709551616) : Go.bits .xor .u64 x 0 = x := by
  obtain ⟨a, rfl⟩ := Int.eq_ofNat_of_zero_le h0
  have e : BitVec.ofInt 64 0 = 0#64 := by decide
  show IntKind.u64.wrap (((BitVec.ofInt 64 (a : Int) ^^^ BitVec.ofInt 64 0).toNat : Nat) : Int) = _
  rw [e, BitVec.xor_zero, BitVec.ofInt_natCast, BitVec.toNat_ofNat]
  rw [u64_in] <;> omega
/-- A whole number as one from 0 on. -/
def zz (n : Int) : Int := if n < 0 then -2 * n - 1 else 2 * n
theorem zz_pack (n : Int) (h0 : -9223372036854775808 ≤ n) (h1 : n ≤ 9223372036854775807) :
    Go.bits .xor .u64 (IntKind.u64.wrap ((IntKind.u64.wrap n) * 2)) (IntKind.u64.wrap (n / 9223372036854775808)) = zz n := by
  unfold zz
  by_cases h : n < 0
  · rw [if_pos h, show n / 9223372036854775808 = -1 by omega, u64_neg n (by omega) h, u64_neg (-1) (by omega) (by omega)]
    have e : IntKind.u64.wrap ((n + 18446744073709551616) * 2) = 2 * n + 18446744073709551616 := by
      simp only [IntKind.wrap, IntKind.bits, IntKind.signed]
      simp
      omega
    rw [e]
    have := xor_ones (2 * n + 18446744073709551616) (by omega) (by omega)
    rw [show (-1 + 18446744073709551616 : Int) = 18446744073709551615 by decide, this]
    omega
  · rw [if_neg h, show n / 9223372036854775808 = 0 by omega, u64_in n (by omega) (by omega), u64_in (n * 2) (by omega) (by omega), u64_in 0 (by omega) (by omega), xor_zero _ (by omega) (by omega)]
    omega
theorem or128 (x : Int) (h0 : 0 ≤ x) : Go.bits .or .u8 (x % 256) 128 = x % 128 + 128 := by
  have key : ∀ b : Fin 256, Go.bits .or .u8 ((b.val : Nat) : Int) 128 = ((b.val : Nat) : Int) % 128 + 128 := by decide +kernel
  have := key ⟨(x % 256).toNat, by omega⟩
  simp only [show (((x % 256).toNat : Nat) : Int) = x % 256 by omega] at this
  rw [this]
  omega
/-- A number's bytes. -/
def leb : Nat → Int → List Int
  | 0, u => [u]
  | k + 1, u => if 128 ≤ u then (u % 128 + 128) :: leb k (u / 128) else [u]
theorem leb_len : ∀ k u, (leb k u).length ≤ k + 1
  | 0, u => by simp [leb]
  | k + 1, u => by
    unfold leb
    split
    · have := leb_len k (u / 128)
      simp
      omega
    · simp

theorem w64 (x : Int) (h0 : -9223372036854775808 ≤ x) (h1 : x ≤ 9223372036854775807) : wrap64 x = x := by
  unfold wrap64
  omega
theorem leb_div (k : Nat) (u : Int) (h : u < 128 ^ (k + 1 + 1)) : u / 128 < 128 ^ (k + 1) := by
  have h2 : u < 128 ^ (k + 1) * 128 := by rw [← Int.pow_succ]; exact h
  generalize (128 : Int) ^ (k + 1) = q at *
  omega
theorem pn_l0 : ∀ (k m : Nat) (u : Int) (l : List Int), k < m → 0 ≤ u → u < 128 ^ (k + 1) → l.length + k < 140737488355328 → pack_number.l0 m l u = some (l ++ leb k u)
  | 0, m + 1, u, l, _, h0, h1, hl => by
    have h2 : u < 128 := by simpa using h1
    rw [pack_number.l0, if_neg (by omega), if_pos (by omega), leb, show u % 256 = u by omega]
  | k + 1, m + 1, u, l, hm, h0, h1, hl => by
    rw [pack_number.l0, leb]
    by_cases c : 128 ≤ u
    · rw [if_pos c, if_pos (by omega), if_pos c, or128 u h0, pn_l0 k m (u / 128) _ (by omega) (by omega) (leb_div k u h1) (by simp; omega), List.append_assoc]
      rfl
    · rw [if_neg c, if_pos (by omega), if_neg c, show u % 256 = u by omega]
theorem rn_l0 : ∀ (k m : Nat) (u : Int) (l : List Int), k < m → 0 ≤ u → u < 128 ^ (k + 1) → u < 18446744073709551616 → l.length + k < 140737488355328 → trivetref06_number.l0 m u l = some (l ++ leb k u)
  | 0, m + 1, u, l, _, h0, h1, _, hl => by
    have h2 : u < 128 := by simpa using h1
    rw [trivetref06_number.l0, if_neg (by omega), if_pos (by omega), leb, show u % 256 = u by omega]
  | k + 1, m + 1, u, l, hm, h0, h1, h3, hl => by
    rw [trivetref06_number.l0, leb]
    by_cases c : 128 ≤ u
    · have e1 : IntKind.u64.wrap (Int.tdiv u 128) = u / 128 := by rw [Int.tdiv_eq_ediv_of_nonneg h0]; exact u64_in _ (by omega) (by omega)
      have e2 : (IntKind.u64.wrap ((Int.tmod u 128) + 128)) % 256 = u % 128 + 128 := by rw [Int.tmod_eq_emod_of_nonneg h0, u64_in _ (by omega) (by omega)]; omega
      rw [if_pos (by omega), if_pos (by omega), if_pos c, e1, e2, rn_l0 k m (u / 128) _ (by omega) (by omega) (leb_div k u h1) (by omega) (by simp; omega), List.append_assoc]
      rfl
    · rw [if_neg (by omega), if_pos (by omega), if_neg c, show u % 256 = u by omega]
def i64 (n : Int) : Prop := -9223372036854775808 ≤ n ∧ n ≤ 9223372036854775807
/-- A number's bytes, of one below 0 too. -/
def nb (n : Int) : List Int := leb 9 (zz n)
theorem zz_lt (n : Int) (h : i64 n) : 0 ≤ zz n ∧ zz n < 18446744073709551616 := by
  unfold zz
  obtain ⟨h0, h1⟩ := h
  split <;> omega
theorem nb_len (n : Int) : (nb n).length ≤ 10 := leb_len 9 _
theorem pn_f (m : Nat) (n : Int) (l : List Int) (hm : 9 < m) (h : i64 n) (hl : l.length < 140737488000000) : pack_number.f m l n = some (l ++ nb n) := by
  unfold pack_number.f
  rw [zz_pack n h.1 h.2]
  obtain ⟨z0, z1⟩ := zz_lt n h
  exact pn_l0 9 m (zz n) l hm z0 (by omega) (by omega)
theorem rn_f (m : Nat) (n : Int) (hm : 10 < m) (h : i64 n) : trivetref06_number.f m n = some (nb n) := by
  obtain ⟨z0, z1⟩ := zz_lt n h
  obtain ⟨h0, h1⟩ := h
  obtain ⟨m, rfl⟩ : ∃ j, m = j + 1 := ⟨m - 1, by omega⟩
  have key : trivetref06_number.l0 m (zz n) [] = some (nb n) := by
    have := rn_l0 9 m (zz n) [] (by omega) z0 (by omega) z1 (by simp)
    rw [this]
    rfl
  unfold trivetref06_number.f
  by_cases c : n < 0
  · have e1 : wrap64 (n + 1) = n + 1 := w64 _ (by omega) (by omega)
    have e2 : wrap64 (-(n + 1)) = -(n + 1) := w64 _ (by omega) (by omega)
    rw [if_pos c, e1, e2, u64_in (-(n + 1)) (by omega) (by omega), u64_in (-(n + 1) * 2) (by omega) (by omega), u64_in (-(n + 1) * 2 + 1) (by omega) (by omega), trivetref06_number.j0]
    rw [show -(n + 1) * 2 + 1 = zz n by unfold zz; rw [if_pos c]; omega]
    exact key
  · rw [if_neg c, u64_in n (by omega) (by omega), u64_in (n * 2) (by omega) (by omega), trivetref06_number.j0]
    rw [show n * 2 = zz n by unfold zz; rw [if_neg c]; omega]
    exact key
def nbs (l : List Int) : List Int := (l.map nb).flatten
theorem nbs_drop (l : List Int) (i : Int) (h0 : 0 ≤ i) (h1 : i < l.length) : nbs (l.drop i.toNat) = nb (rd l i) ++ nbs (l.drop (i + 1).toNat) := by
  have hl : i.toNat < l.length := by omega
  rw [List.drop_eq_getElem_cons hl, show (i + 1).toNat = i.toNat + 1 by omega]
  unfold nbs rd
  rw [List.map_cons, List.flatten_cons, List.getD_eq_getElem?_getD, List.getElem?_eq_getElem hl]
  rfl
theorem rd_i64 (l : List Int) (h : ∀ y ∈ l, i64 y) (i : Int) (h0 : 0 ≤ i) (h1 : i < l.length) : i64 (rd l i) := by
  unfold rd
  rw [List.getD_eq_getElem?_getD, List.getElem?_eq_getElem (show i.toNat < l.length by omega)]
  exact h _ (List.getElem_mem _)
theorem pp_l0 (N : List Int) (hN : ∀ y ∈ N, i64 y) (hb : N.length ≤ 1000000) : ∀ (j m : Nat) (i : Int) (acc : List Int), i = N.length - j → 0 ≤ i → j + 10 < m → acc.length + 11 * j < 140737480000000 →
    pack_Put.l0 m acc N N.length i = some (acc ++ nbs (N.drop i.toNat), none)
  | 0, m + 1, i, acc, hi, h0, hm, hl => by
    rw [pack_Put.l0, if_neg (by omega), List.drop_of_length_le (by omega)]
    simp [nbs]
  | j + 1, m + 1, i, acc, hi, h0, hm, hl => by
    have hn := nb_len (rd N i)
    rw [pack_Put.l0, if_pos (by omega), if_pos h0, if_pos (by omega), pn_f m _ acc (by omega) (rd_i64 N hN i h0 (by omega)) (by omega), Option.bind_some,
      show wrap64 (i + 1) = i + 1 from w64 _ (by omega) (by omega), pp_l0 N hN hb j m (i + 1) _ (by omega) (by omega) (by omega) (by simp; omega), nbs_drop N i h0 (by omega), List.append_assoc]
/-- A command's bytes. -/
def cb (a b c : Int) (N : List Int) : List Int := nb a ++ nb b ++ nb c ++ nb N.length ++ nbs N
theorem pp_f (m : Nat) (a b c : Int) (N : List Int) (ha : i64 a) (hb : i64 b) (hc : i64 c) (hN : ∀ y ∈ N, i64 y) (hl : N.length ≤ 16) (hm : 40 < m) : pack_Put.f m a b c N = some (cb a b c N, none) := by
  have l1 := nb_len a
  have l2 := nb_len b
  have l3 := nb_len c
  have l4 := nb_len N.length
  unfold pack_Put.f
  rw [if_neg (by omega), pn_f m a [] (by omega) ha (by simp), Option.bind_some, pn_f m b _ (by omega) hb (by simp; omega), Option.bind_some, pn_f m c _ (by omega) hc (by simp; omega), Option.bind_some, pn_f m N.length _ (by omega) ⟨by omega, by omega⟩ (by simp; omega), Option.bind_some,
    pp_l0 N hN (by omega) N.length m 0 _ (by omega) (by omega) (by omega) (by simp; omega)]
  simp [cb]
theorem up_f (m : Nat) (hm : 40 < m) : trivetlaw06_up.f m = some true := by
  unfold trivetlaw06_up.f
  rw [pp_f m 2 (-1) 64 [3] ⟨by omega, by omega⟩ ⟨by omega, by omega⟩ ⟨by omega, by omega⟩ (by intro y hy; simp at hy; subst hy; exact ⟨by omega, by omega⟩) (by simp) hm]
  decide +kernel

theorem pow128 (j : Nat) : (2 : Int) ^ (7 * (j : Int)).toNat = 128 ^ j := by
  rw [show (7 * (j : Int)).toNat = 7 * j by omega]
  induction j with
  | zero => rfl
  | succ j ih => rw [show 7 * (j + 1) = 7 * j + 7 by omega, Int.pow_add, ih, Int.pow_succ]; rfl
theorem pow128_pos (j : Nat) : (0 : Int) < 128 ^ j := Int.pow_pos (by omega)
theorem and127 (x : Int) (h0 : 0 ≤ x) (h1 : x < 256) : Go.bits .and .u8 x 127 = x % 128 := by
  have key : ∀ b : Fin 256, Go.bits .and .u8 ((b.val : Nat) : Int) 127 = ((b.val : Nat) : Int) % 128 := by decide +kernel
  have := key ⟨x.toNat, by omega⟩
  simp only [show ((x.toNat : Nat) : Int) = x by omega] at this
  exact this
theorem or_far (j : Nat) (a b : Int) (ha : 0 ≤ a) (ha1 : a < 128 ^ j) (hb : 0 ≤ b) (h : b * 128 ^ j + a < 18446744073709551616) : Go.bits .or .u64 a (b * 128 ^ j) = b * 128 ^ j + a := by
  obtain ⟨a, rfl⟩ := Int.eq_ofNat_of_zero_le ha
  obtain ⟨b, rfl⟩ := Int.eq_ofNat_of_zero_le hb
  have e0 : ((b : Int) * 128 ^ j) = ((2 ^ (7 * j) * b : Nat) : Int) := by
    have := pow128 j
    rw [show (7 * (j : Int)).toNat = 7 * j by omega] at this
    rw [← this, Int.mul_comm]
    push_cast
    rfl
  have e1 : a < 2 ^ (7 * j) := by
    have := pow128 j
    rw [show (7 * (j : Int)).toNat = 7 * j by omega] at this
    rw [← this] at ha1
    have e : ((2 : Int) ^ (7 * j)) = ((2 ^ (7 * j) : Nat) : Int) := by push_cast; rfl
    rw [e] at ha1
    generalize 2 ^ (7 * j) = z at ha1 ⊢
    omega
  rw [e0] at h ⊢
  show IntKind.u64.wrap (((BitVec.ofInt 64 (a : Int) ||| BitVec.ofInt 64 ((2 ^ (7 * j) * b : Nat) : Int)).toNat : Nat) : Int) = _
  have h2 : 2 ^ (7 * j) * b + a < 18446744073709551616 := by
    generalize 2 ^ (7 * j) * b = z at h ⊢
    omega
  rw [BitVec.ofInt_natCast, BitVec.ofInt_natCast, BitVec.toNat_or, BitVec.toNat_ofNat, BitVec.toNat_ofNat, Nat.mod_eq_of_lt (by omega), Nat.mod_eq_of_lt (by omega), Nat.or_comm, ← Nat.two_pow_add_eq_or_of_lt e1]
  rw [u64_in] <;> omega
theorem acc_eq (u x : Int) (j : Nat) (hx0 : 0 ≤ x) (hx1 : x < 256) (h0 : 0 ≤ u) (h1 : u < 128 ^ j) (h2 : (x % 128) * 128 ^ j + u < 18446744073709551616) : pk_acc u j x = (x % 128) * 128 ^ j + u := by
  have q := pow128_pos j
  have m0 : 0 ≤ (x % 128) * 128 ^ j := Int.mul_nonneg (by omega) (by omega)
  unfold pk_acc
  rw [and127 x hx0 hx1, pow128, u64_in (x % 128) (by omega) (by omega), u64_in _ m0 (by omega), or_far j u _ h0 h1 (by omega) h2]
theorem and1 (v : Int) (h0 : 0 ≤ v) (h1 : v < 18446744073709551616) : Go.bits .and .u64 v 1 = v % 2 := by
  obtain ⟨a, rfl⟩ := Int.eq_ofNat_of_zero_le h0
  show IntKind.u64.wrap (((BitVec.ofInt 64 (a : Int) &&& BitVec.ofInt 64 1).toNat : Nat) : Int) = _
  have e : BitVec.ofInt 64 1 = 1#64 := by decide
  rw [e, BitVec.ofInt_natCast, BitVec.toNat_and, BitVec.toNat_ofNat, Nat.mod_eq_of_lt (show a < 2 ^ 64 by omega), show (1#64).toNat = 1 by rfl, Nat.and_one_is_mod, u64_in] <;> omega
theorem fin_zz (n : Int) (h : i64 n) : pk_fin (zz n) = n := by
  obtain ⟨z0, z1⟩ := zz_lt n h
  obtain ⟨h0, h1⟩ := h
  unfold pk_fin
  rw [and1 _ z0 z1, w64 (zz n % 2) (by omega) (by omega), w64 (zz n / 2) (by omega) (by omega), w64 (-(zz n % 2)) (by omega) (by omega)]
  by_cases c : n < 0
  · have e : zz n = -2 * n - 1 := by unfold zz; rw [if_pos c]
    rw [show zz n / 2 = -n - 1 by omega, show -(zz n % 2) = -1 by omega]
    obtain ⟨a, ha⟩ := Int.eq_ofNat_of_zero_le (show 0 ≤ -n - 1 by omega)
    rw [ha]
    show IntKind.i64.wrap (((BitVec.ofInt 64 (a : Int) ^^^ BitVec.ofInt 64 (-1)).toNat : Nat) : Int) = _
    have e : BitVec.ofInt 64 (-1) = BitVec.allOnes 64 := by decide
    rw [e, BitVec.xor_allOnes, BitVec.toNat_not, BitVec.ofInt_natCast, BitVec.toNat_ofNat]
    simp only [IntKind.wrap, IntKind.bits, IntKind.signed]
    simp
    omega
  · have e : zz n = 2 * n := by unfold zz; rw [if_neg c]
    rw [show zz n / 2 = n by omega, show -(zz n % 2) = 0 by omega]
    obtain ⟨a, rfl⟩ := Int.eq_ofNat_of_zero_le (show 0 ≤ n by omega)
    show IntKind.i64.wrap (((BitVec.ofInt 64 (a : Int) ^^^ BitVec.ofInt 64 0).toNat : Nat) : Int) = _
    have e : BitVec.ofInt 64 0 = 0#64 := by decide
    rw [e, BitVec.xor_zero, BitVec.ofInt_natCast, BitVec.toNat_ofNat]
    simp only [IntKind.wrap, IntKind.bits, IntKind.signed]
    simp
    omega
theorem zz_all (U : Int) (h0 : 0 ≤ U) (h1 : U < 18446744073709551616) : ∃ n, i64 n ∧ zz n = U := by
  by_cases c : U % 2 = 0
  · refine ⟨U / 2, ⟨by omega, by omega⟩, ?_⟩
    unfold zz
    rw [if_neg (by omega)]
    omega
  · refine ⟨-(U / 2) - 1, ⟨by omega, by omega⟩, ?_⟩
    unfold zz
    rw [if_pos (by omega)]
    omega
def byte (x : Int) : Prop := 0 ≤ x ∧ x < 256
theorem pow_i (k : Nat) (hk : k ≤ 9) : (128 : Int) ^ (9 - k) * 128 ^ k = 9223372036854775808 := by
  rw [← Int.pow_add, show 9 - k + k = 9 by omega]
  decide
/-- Read what was written. -/
theorem rd_leb : ∀ (k : Nat) (u z : Int) (t : List Int), k ≤ 9 → 0 ≤ u → u < 128 ^ (9 - k) → 0 ≤ z → z * 128 ^ (9 - k) + u < 18446744073709551616 → (k = 9 ∨ 0 < z) →
    pk_rd (k + 1) u ((9 - k : Nat) : Int) (leb k z ++ t) = (pk_fin (z * 128 ^ (9 - k) + u), false, t)
  | 0, u, z, t, hk, h0, h1, hz, h2, h3 => by
    have q : (128 : Int) ^ (9 - 0) = 9223372036854775808 := by decide
    rw [q] at h1 h2 ⊢
    have z1 : z = 1 := by omega
    subst z1
    rw [leb, List.singleton_append, pk_rd, if_neg (by omega), if_pos (by omega), acc_eq u 1 (9 - 0) (by omega) (by omega) h0 (by rw [q]; exact h1) (by rw [q]; omega), q]
    rfl
  | k + 1, u, z, t, hk, h0, h1, hz, h2, h3 => by
    have P := pow_i (k + 1) hk
    have hq := pow128_pos (9 - (k + 1))
    have e1 : (128 : Int) ^ (9 - k) = 128 ^ (9 - (k + 1)) * 128 := by rw [← Int.pow_succ]; congr 1; omega
    have ei : ((9 - (k + 1) : Nat) : Int) + 1 = ((9 - k : Nat) : Int) := by omega
    generalize hQ : (128 : Int) ^ (9 - (k + 1)) = q at *
    have dm : z * q = (z / 128) * (q * 128) + (z % 128) * q := by
      have := Int.emod_add_mul_ediv z 128
      calc z * q = (z % 128 + 128 * (z / 128)) * q := by rw [this]
        _ = _ := by rw [Int.add_mul, Int.mul_comm 128, Int.mul_assoc, Int.mul_comm 128 q]; omega
    have m0 : 0 ≤ (z / 128) * (q * 128) := Int.mul_nonneg (by omega) (by omega)
    have m1 : 0 ≤ (z % 128) * q := Int.mul_nonneg (by omega) (by omega)
    have m2 : (z % 128) * q ≤ 127 * q := Int.mul_le_mul_of_nonneg_right (by omega) (by omega)
    rw [leb]
    by_cases c : 128 ≤ z
    · rw [if_pos c, List.cons_append, pk_rd, if_neg (by omega), if_neg (by omega), ei, acc_eq u _ _ (by omega) (by omega) h0 (by rw [hQ]; exact h1) (by rw [hQ, show (z % 128 + 128) % 128 = z % 128 by omega]; omega), hQ, show (z % 128 + 128) % 128 = z % 128 by omega,
        rd_leb k _ (z / 128) t (by omega) (by omega) (by rw [e1]; omega) (by omega) (by rw [e1]; omega) (.inr (by omega)), e1, dm]
      congr 2
      omega
    · have zm : z % 128 = z := by omega
      rw [if_neg c, List.singleton_append, pk_rd, if_neg (by omega), if_pos (by omega), acc_eq u _ _ (by omega) (by omega) h0 (by rw [hQ]; exact h1) (by rw [hQ, zm]; omega), hQ, zm]
/-- What was read was written so. -/
theorem rd_back : ∀ (k : Nat) (u v : Int) (l t : List Int), k ≤ 9 → 0 ≤ u → u < 128 ^ (9 - k) → (∀ x ∈ l, byte x) → pk_rd (k + 1) u ((9 - k : Nat) : Int) l = (v, false, t) →
    ∃ z, 0 ≤ z ∧ z * 128 ^ (9 - k) + u < 18446744073709551616 ∧ (k = 9 ∨ 0 < z) ∧ l = leb k z ++ t ∧ v = pk_fin (z * 128 ^ (9 - k) + u)
  | 0, u, v, [], t, hk, h0, h1, hl, h => by simp [pk_rd] at h
  | k + 1, u, v, [], t, hk, h0, h1, hl, h => by simp [pk_rd] at h
  | 0, u, v, x :: s, t, hk, h0, h1, hl, h => by
    have q : (128 : Int) ^ (9 - 0) = 9223372036854775808 := by decide
    obtain ⟨x0, x1⟩ := hl x (by simp)
    rw [pk_rd] at h
    by_cases c1 : (x = 0 ∧ (0 : Int) < ((9 - 0 : Nat) : Int)) ∨ (1 < x ∧ ((9 - 0 : Nat) : Int) = 9)
    · rw [if_pos c1] at h
      simp at h
    rw [if_neg c1] at h
    have z1 : x = 1 := by omega
    subst z1
    rw [if_pos (by omega), acc_eq u 1 (9 - 0) (by omega) (by omega) h0 h1 (by rw [q] at h1 ⊢; omega), q] at h
    rw [q] at h1 ⊢
    simp only [Prod.mk.injEq, true_and] at h
    obtain ⟨rfl, rfl⟩ := h
    exact ⟨1, by omega, by omega, .inr (by omega), rfl, rfl⟩
  | k + 1, u, v, x :: s, t, hk, h0, h1, hl, h => by
    have P := pow_i (k + 1) hk
    have hq := pow128_pos (9 - (k + 1))
    have hp : (128 : Int) ≤ 128 ^ (k + 1) := by
      have := pow128_pos k
      rw [Int.pow_succ]
      omega
    have e1 : (128 : Int) ^ (9 - k) = 128 ^ (9 - (k + 1)) * 128 := by rw [← Int.pow_succ]; congr 1; omega
    have ei : ((9 - (k + 1) : Nat) : Int) + 1 = ((9 - k : Nat) : Int) := by omega
    obtain ⟨x0, x1⟩ := hl x (by simp)
    have hqP : (128 : Int) ^ (9 - (k + 1)) * 128 ≤ 9223372036854775808 := by
      rw [← P]
      exact Int.mul_le_mul_of_nonneg_left hp (by omega)
    have m1 : 0 ≤ (x % 128) * (128 : Int) ^ (9 - (k + 1)) := Int.mul_nonneg (by omega) (by omega)
    have m2 : (x % 128) * (128 : Int) ^ (9 - (k + 1)) ≤ 127 * 128 ^ (9 - (k + 1)) := Int.mul_le_mul_of_nonneg_right (by omega) (by omega)
    rw [pk_rd] at h
    by_cases c1 : (x = 0 ∧ (0 : Int) < ((9 - (k + 1) : Nat) : Int)) ∨ (1 < x ∧ ((9 - (k + 1) : Nat) : Int) = 9)
    · rw [if_pos c1] at h
      simp at h
    rw [if_neg c1, acc_eq u x _ x0 x1 h0 h1 (by omega)] at h
    by_cases c2 : x < 128
    · have zm : x % 128 = x := by omega
      rw [if_pos c2, zm] at h
      simp only [Prod.mk.injEq, true_and] at h
      obtain ⟨rfl, rfl⟩ := h
      rw [zm] at m1 m2
      refine ⟨x, x0, by omega, ?_, ?_, rfl⟩
      · by_cases k8 : k + 1 = 9
        · exact .inl k8
        · exact .inr (by omega)
      · rw [leb, if_neg (by omega)]
        rfl
    · rw [if_neg c2, ei] at h
      obtain ⟨z, a0, a1, a2, a3, a4⟩ := rd_back k _ v s t (by omega) (by omega) (by rw [e1]; omega) (fun y hy => hl y (by simp [hy])) h
      have z1 : 0 < z := by
        rcases a2 with a2 | a2
        · omega
        · exact a2
      generalize hQ : (128 : Int) ^ (9 - (k + 1)) = q at *
      have dm : (z * 128 + x % 128) * q = z * (q * 128) + (x % 128) * q := by
        rw [Int.add_mul, Int.mul_assoc, Int.mul_comm 128 q]
      rw [e1] at a1 a4
      refine ⟨z * 128 + x % 128, by omega, by omega, .inr (by omega), ?_, ?_⟩
      · rw [leb, if_pos (by omega), a3, show (z * 128 + x % 128) % 128 + 128 = x by omega, show (z * 128 + x % 128) / 128 = z by omega]
        rfl
      · rw [a4, dm]
        congr 1
        omega
/-- L1, L2: the reader's number and a number's bytes. -/
theorem num_nb (n : Int) (h : i64 n) (t : List Int) : pk_num false (nb n ++ t) = (n, false, t) := by
  obtain ⟨z0, z1⟩ := zz_lt n h
  have := rd_leb 9 0 (zz n) t (by omega) (by omega) (by decide) z0 (by simpa using z1) (.inl rfl)
  simp only [Nat.sub_self, Int.pow_zero, Int.mul_one, Int.add_zero, fin_zz n h] at this
  exact this
theorem num_back (v : Int) (l t : List Int) (hl : ∀ x ∈ l, byte x) (h : pk_num false l = (v, false, t)) : i64 v ∧ l = nb v ++ t := by
  obtain ⟨z, a0, a1, a2, a3, a4⟩ := rd_back 9 0 v l t (by omega) (by omega) (by decide) hl h
  simp only [Nat.sub_self, Int.pow_zero, Int.mul_one, Int.add_zero] at a1 a4
  obtain ⟨n, hn, rfl⟩ := zz_all z a0 a1
  rw [fin_zz n hn] at a4
  subst a4
  exact ⟨hn, a3⟩

/-- How many bytes above 127 stand ahead, of so many. -/
def cnt : Nat → List Int → Nat
  | 0, _ => 0
  | _ + 1, [] => 0
  | k + 1, x :: t => if 127 < x then cnt k t + 1 else 0
theorem cnt_le : ∀ k l, cnt k l ≤ k ∧ cnt k l ≤ l.length
  | 0, l => by simp [cnt]
  | k + 1, [] => by simp [cnt]
  | k + 1, x :: t => by
    have := cnt_le k t
    unfold cnt
    split <;> simp <;> omega
theorem cnt_leb : ∀ (k : Nat) (z : Int) (t : List Int), 0 ≤ z → z < 128 ^ (k + 1) → cnt (k + 1) (leb k z ++ t) + 1 = (leb k z).length
  | 0, z, t, h0, h1 => by
    have : z < 128 := by simpa using h1
    simp [leb, cnt]
    omega
  | k + 1, z, t, h0, h1 => by
    rw [leb]
    by_cases c : 128 ≤ z
    · have := cnt_leb k (z / 128) t (by omega) (leb_div k z h1)
      rw [if_pos c, List.cons_append, cnt, if_pos (by omega), List.length_cons, this]
    · rw [if_neg c, List.singleton_append, cnt, if_neg (by omega)]
      rfl
/-- A row of bytes' value. -/
def val : List Int → Int
  | [] => 0
  | x :: t => x % 128 + 128 * val t
theorem val_leb : ∀ (k : Nat) (z : Int), 0 ≤ z → z < 128 ^ (k + 1) → val (leb k z) = z
  | 0, z, h0, h1 => by
    have : z < 128 := by simpa using h1
    simp [leb, val]
    omega
  | k + 1, z, h0, h1 => by
    rw [leb]
    by_cases c : 128 ≤ z
    · rw [if_pos c, val, val_leb k (z / 128) (by omega) (leb_div k z h1)]
      omega
    · rw [if_neg c]
      simp [val]
      omega
theorem u64_mod (x : Int) : IntKind.u64.wrap x = x % 18446744073709551616 := by
  simp only [IntKind.wrap, IntKind.bits, IntKind.signed]
  simp
theorem rd_drop (l : List Int) (i : Int) (a : Nat) (j : Nat) (hi : i = (a + j : Nat)) : rd l i = (l.drop a).getD j 0 := by
  subst hi
  unfold rd
  rw [Int.toNat_natCast, List.getD_eq_getElem?_getD, List.getD_eq_getElem?_getD, List.getElem?_drop]
theorem byte_at {l : List Int} (h : ∀ x ∈ l, byte x) (i : Nat) (hi : i < l.length) : byte (l.getD i 0) := by
  rw [List.getD_eq_getElem?_getD, List.getElem?_eq_getElem hi]
  exact h _ (List.getElem_mem _)
theorem rr_l0 (x0 : List Int) (a : Nat) (ha : a ≤ x0.length) (hl : x0.length ≤ 1000) : ∀ (j n m : Nat), n + j = 10 → n ≤ (x0.drop a).length → j + 4 ≤ m → ∃ k, m ≤ k + j + 3 ∧
    trivetref06_read.l0 m x0 a n = (if n + cnt j ((x0.drop a).drop n) < (x0.drop a).length ∧ n + cnt j ((x0.drop a).drop n) < 10 then trivetref06_read.l1 k x0 a ((n + cnt j ((x0.drop a).drop n) : Nat) : Int) 0 ((n + cnt j ((x0.drop a).drop n) : Nat) : Int) else some (0, -1))
  | 0, n, m, hn, hd, hm2 => by
    obtain ⟨m, rfl⟩ : ∃ j, m = j + 1 + 1 + 1 := ⟨m - 3, by omega⟩
    have hn : n = 10 := by omega
    subst hn
    have hd' : 10 + a ≤ x0.length := by simp at hd; omega
    have e : wrap64 ((a : Int) + (10 : Nat)) = a + 10 := (w64 _ (by omega) (by omega)).trans (by omega)
    refine ⟨m, by omega, ?_⟩
    have ec : cnt 0 ((x0.drop a).drop 10) = 0 := rfl
    rw [ec, Nat.add_zero, if_neg (by omega), trivetref06_read.l0, e]
    split
    · rw [if_neg (by omega), trivetref06_read.j1, e, if_neg (by omega), trivetref06_read.j2, if_pos (by simp)]
    · rw [trivetref06_read.j1, e, if_pos (by omega), trivetref06_read.j2, if_pos rfl]
  | j + 1, n, m, hn, hd, hm2 => by
    obtain ⟨m, rfl⟩ : ∃ j, m = j + 1 + 1 + 1 := ⟨m - 3, by omega⟩
    have hdl : (x0.drop a).length = x0.length - a := by simp
    have h10 : (n : Int) < 10 := by omega
    have h10b : decide ((n : Int) ≥ 10) = false := decide_eq_false (by omega)
    have pa : (0 : Int) ≤ ((a + n : Nat) : Int) := Int.natCast_nonneg _
    have e : wrap64 ((a : Int) + (n : Nat)) = ((a + n : Nat) : Int) := (w64 _ (by omega) (by omega)).trans (by omega)
    by_cases c : n < (x0.drop a).length
    · have pc : ((a + n : Nat) : Int) < (x0.length : Int) := by clear e; omega
      have pd : ¬ (((a + n : Nat) : Int) ≥ (x0.length : Int)) := by clear e; omega
      have hg : (x0.drop a).drop n = (x0.drop a).getD n 0 :: (x0.drop a).drop (n + 1) := by
        rw [List.drop_eq_getElem_cons c, List.getD_eq_getElem?_getD, List.getElem?_eq_getElem c]
        rfl
      by_cases c2 : 127 < (x0.drop a).getD n 0
      · have e2 : wrap64 ((n : Int) + 1) = ((n + 1 : Nat) : Int) := by clear e; exact (w64 _ (by omega) (by omega)).trans (by omega)
        have q1 : n + 1 + j = 10 := by clear e e2; omega
        have q2 : j + 4 ≤ m + 2 := by clear e e2; omega
        obtain ⟨k, hk, hf⟩ := rr_l0 x0 a ha hl j (n + 1) (m + 2) q1 c q2
        refine ⟨k, by clear e e2; omega, ?_⟩
        rw [trivetref06_read.l0, e, if_pos pc, if_pos h10, if_pos pa, rd_drop x0 _ a n rfl, if_pos c2, e2, hf, hg, cnt, if_pos c2]
        rw [show n + 1 + cnt j ((x0.drop a).drop (n + 1)) = n + (cnt j ((x0.drop a).drop (n + 1)) + 1) by rw [Nat.add_assoc, Nat.add_comm 1]]
      · refine ⟨m, by clear e; omega, ?_⟩
        have c3 : n < (x0.drop a).length ∧ n < 10 := ⟨c, by clear e; omega⟩
        rw [hg, cnt, if_neg c2, show n + 0 = n from Nat.add_zero n, if_pos c3, trivetref06_read.l0, e, if_pos pc, if_pos h10, if_pos pa, rd_drop x0 _ a n rfl, if_neg c2, trivetref06_read.j1, e, if_neg pd, trivetref06_read.j2, if_neg (by rw [h10b]; simp)]
    · have pc : ¬ (((a + n : Nat) : Int) < (x0.length : Int)) := by clear e; omega
      have pd : ((a + n : Nat) : Int) ≥ (x0.length : Int) := by clear e; omega
      have c3 : ¬ (n < (x0.drop a).length ∧ n < 10) := fun h => c h.1
      refine ⟨m, by clear e; omega, ?_⟩
      rw [List.drop_of_length_le (Nat.le_of_not_lt c), cnt, show n + 0 = n from Nat.add_zero n, if_neg c3, trivetref06_read.l0, e, if_neg pc, trivetref06_read.j1, e, if_pos pd, trivetref06_read.j2, if_pos rfl]
/-- A number's end: the number of a value, and whether its bytes are these. -/
def uz (U : Int) : Int := if U % 2 = 1 then -(U / 2) - 1 else U / 2
theorem uz_zz (U : Int) (h0 : 0 ≤ U) (h1 : U < 18446744073709551616) : i64 (uz U) ∧ zz (uz U) = U := by
  unfold uz zz i64
  split <;> split <;> omega
theorem zz_uz (n : Int) : uz (zz n) = n := by
  unfold uz zz
  split <;> split <;> omega
theorem bytes_eq (a b : List Int) (ha : ∀ x ∈ a, byte x) (hb : ∀ x ∈ b, byte x) : (strOfNums a).toList = (strOfNums b).toList ↔ a = b := by
  refine ⟨fun h => ?_, fun h => by rw [h]⟩
  rw [Lib.strOfNums_toList, Lib.strOfNums_toList] at h
  unfold Lib.bytesOf at h
  have back : ∀ l : List Int, (∀ x ∈ l, byte x) → (l.map fun n => UInt8.ofNat n.toNat).map (fun u => (u.toNat : Int)) = l := by
    intro l hl
    rw [List.map_map]
    conv => rhs; rw [← List.map_id l]
    apply List.map_congr_left
    intro x hx
    obtain ⟨h0, h1⟩ := hl x hx
    simp
    omega
  rw [← back a ha, ← back b hb, h]
theorem leb_byte : ∀ (k : Nat) (z : Int), 0 ≤ z → z < 128 ^ (k + 1) → ∀ x ∈ leb k z, byte x
  | 0, z, h0, h1 => by
    have : z < 128 := by simpa using h1
    simp [leb, byte]
    omega
  | k + 1, z, h0, h1 => by
    rw [leb]
    by_cases c : 128 ≤ z
    · rw [if_pos c]
      intro x hx
      rcases List.mem_cons.1 hx with rfl | hx
      · exact ⟨by omega, by omega⟩
      · exact leb_byte k (z / 128) (by omega) (leb_div k z h1) x hx
    · rw [if_neg c]
      intro x hx
      simp at hx
      subst hx
      exact ⟨by omega, by omega⟩
theorem nb_byte (n : Int) (h : i64 n) : ∀ x ∈ nb n, byte x := by
  obtain ⟨z0, z1⟩ := zz_lt n h
  exact leb_byte 9 (zz n) z0 (by omega)
theorem half (U : Int) (U0 : 0 ≤ U) (U1 : U < 18446744073709551616) : IntKind.u64.wrap (Int.tdiv U 2) = U / 2 ∧ wrap64 (U / 2) = U / 2 ∧ wrap64 (-(U / 2)) = -(U / 2) ∧ wrap64 (-(U / 2) - 1) = -(U / 2) - 1 := by
  have e1 : Int.tdiv U 2 = U / 2 := Int.tdiv_eq_ediv_of_nonneg U0
  refine ⟨?_, w64 _ (by omega) (by omega), w64 _ (by omega) (by omega), w64 _ (by omega) (by omega)⟩
  rw [e1]
  exact u64_in _ (by omega) (by omega)
theorem rr_end (x0 : List Int) (a N m : Nat) (U : Int) (hx : ∀ x ∈ x0, byte x) (hN : N < (x0.drop a).length) (hl : x0.length ≤ 1000) (hm : 11 ≤ m) (U0 : 0 ≤ U) (U1 : U < 18446744073709551616) :
    trivetref06_read.l1 (m + 1) x0 a N U (-1) = some (if nb (uz U) = (x0.drop a).take (N + 1) then (uz U, ((a + N + 1 : Nat) : Int)) else (0, -1)) := by
  have hdl : (x0.drop a).length = x0.length - a := by simp
  have p1 : (0 : Int) ≤ (a : Int) := Int.natCast_nonneg a
  have p2 : (a : Int) ≤ ((a + N + 1 : Nat) : Int) := by omega
  have p3 : ((a + N + 1 : Nat) : Int) ≤ (x0.length : Int) := by omega
  have e5 : wrap64 ((a : Int) + N) = ((a + N : Nat) : Int) := (w64 _ (by omega) (by omega)).trans (by omega)
  have e6 : wrap64 (((a + N : Nat) : Int) + 1) = ((a + N + 1 : Nat) : Int) := (w64 _ (by omega) (by omega)).trans (by omega)
  have e9 : (x0.take ((a + N + 1 : Nat) : Int).toNat).drop (a : Int).toNat = (x0.drop a).take (N + 1) := by
    rw [Int.toNat_natCast, Int.toNat_natCast, List.drop_take]
    congr 1
    omega
  have hb : ∀ x ∈ (x0.drop a).take (N + 1), byte x := fun x h => hx x (List.mem_of_mem_drop (List.mem_of_mem_take h))
  have hm' : 10 < m := hm
  have n1 : ¬ ((-1 : Int) ≥ 0) := by decide
  obtain ⟨z1, z2⟩ := uz_zz U U0 U1
  have e2 : Int.tmod U 2 = U % 2 := Int.tmod_eq_emod_of_nonneg U0
  obtain ⟨f1, f2, f3, f4⟩ := half U U0 U1
  have key := bytes_eq (nb (uz U)) _ (nb_byte _ z1) hb
  rw [trivetref06_read.l1, if_neg n1, e2, f1, f2, f3, f4, e5, e6, e9]
  clear e2 f1 f2 f3 f4 e5 e6 e9 z2
  by_cases c : U % 2 = 1
  · have e : uz U = -(U / 2) - 1 := by unfold uz; rw [if_pos c]
    rw [e] at key z1 ⊢
    rw [if_pos c, rn_f m _ hm' z1, Option.bind_some, if_pos p1, if_pos p2, if_pos p3]
    by_cases d : nb (-(U / 2) - 1) = (x0.drop a).take (N + 1)
    · rw [if_pos (key.2 d), if_pos d]
    · rw [if_neg (fun h => d (key.1 h)), if_neg d]
  · have e : uz U = U / 2 := by unfold uz; rw [if_neg c]
    rw [e] at key z1 ⊢
    rw [if_neg c, rn_f m _ hm' z1, Option.bind_some, if_pos p1, if_pos p2, if_pos p3]
    by_cases d : nb (U / 2) = (x0.drop a).take (N + 1)
    · rw [if_pos (key.2 d), if_pos d]
    · rw [if_neg (fun h => d (key.1 h)), if_neg d]
theorem u64_step (x V : Int) : IntKind.u64.wrap (IntKind.u64.wrap (V % 18446744073709551616 * 128) + IntKind.u64.wrap (x % 128)) = (x % 128 + 128 * V) % 18446744073709551616 := by
  rw [u64_mod, u64_mod, u64_mod]
  omega
theorem rr_l1 (x0 : List Int) (a N : Nat) (hx : ∀ x ∈ x0, byte x) (hN : N < (x0.drop a).length) (hl : x0.length ≤ 1000) : ∀ (i m : Nat), i ≤ N + 1 → i + 13 ≤ m → 
    trivetref06_read.l1 m x0 a N ((val (((x0.drop a).take (N + 1)).drop i)) % 18446744073709551616) ((i : Int) - 1) = some (if nb (uz ((val ((x0.drop a).take (N + 1))) % 18446744073709551616)) = (x0.drop a).take (N + 1) then (uz ((val ((x0.drop a).take (N + 1))) % 18446744073709551616), ((a + N + 1 : Nat) : Int)) else (0, -1))
  | 0, m, hi, hm => by
    obtain ⟨m, rfl⟩ : ∃ j, m = j + 1 := ⟨m - 1, by omega⟩
    rw [List.drop_zero, show ((0 : Nat) : Int) - 1 = -1 by rfl]
    exact rr_end x0 a N m _ hx hN hl (by omega) (Int.emod_nonneg _ (by decide)) (Int.emod_lt_of_pos _ (by decide))
  | i + 1, m, hi, hm => by
    obtain ⟨m, rfl⟩ : ∃ j, m = j + 1 := ⟨m - 1, by omega⟩
    have hdl : (x0.drop a).length = x0.length - a := by simp
    have ih := rr_l1 x0 a N hx hN hl i m (by omega) (by omega)
    have hq : i < ((x0.drop a).take (N + 1)).length := by simp; omega
    have hgd : ((x0.drop a).take (N + 1))[i] = (x0.drop a).getD i 0 := by
      rw [List.getElem_take, List.getD_eq_getElem?_getD, List.getElem?_eq_getElem (by omega)]
      rfl
    have hb := byte_at (fun x h => hx x (List.mem_of_mem_drop h)) i (show i < (x0.drop a).length by omega)
    have hr := rd_drop x0 ((a + i : Nat) : Int) a i rfl
    have e5 : wrap64 ((a : Int) + (((i + 1 : Nat) : Int) - 1)) = ((a + i : Nat) : Int) := (w64 _ (by omega) (by omega)).trans (by omega)
    have e6 : wrap64 (((i + 1 : Nat) : Int) - 1 - 1) = (i : Int) - 1 := (w64 _ (by omega) (by omega)).trans (by omega)
    have p1 : ((i + 1 : Nat) : Int) - 1 ≥ 0 := by omega
    have p2 : (0 : Int) ≤ ((a + i : Nat) : Int) := Int.natCast_nonneg _
    have p3 : ((a + i : Nat) : Int) < (x0.length : Int) := by omega
    rw [trivetref06_read.l1, if_pos p1, e5, if_pos p2, if_pos p3, hr, e6]
    rw [List.drop_eq_getElem_cons hq, val, hgd] at ih
    obtain ⟨b0, b1⟩ := hb
    generalize (x0.drop a).getD i 0 = x at *
    rw [Int.tmod_eq_emod_of_nonneg b0, u64_step]
    exact ih
theorem pref_len {p q t : List Int} {n : Nat} (h : p = q ++ t) (hn : q.length = n) : p.take n = q := by
  subst h hn
  simp
/-- The document's read is the reader's number. -/
theorem rr_f (x0 : List Int) (a m : Nat) (ha : a ≤ x0.length) (hx : ∀ x ∈ x0, byte x) (hl : x0.length ≤ 1000) (hm : 50 ≤ m) (v : Int) (b : Bool) (t : List Int) (h : pk_num false (x0.drop a) = (v, b, t)) :
    trivetref06_read.f m x0 a = some (if b = true then (0, -1) else (v, ((x0.length - t.length : Nat) : Int))) ∧ (b = false → t.length ≤ x0.length ∧ x0.drop (x0.length - t.length) = t) := by
  have hp : ∀ x ∈ x0.drop a, byte x := fun x hh => hx x (List.mem_of_mem_drop hh)
  obtain ⟨k, hk, hf⟩ := rr_l0 x0 a ha hl 10 0 m (by omega) (by omega) (by omega)
  rw [List.drop_zero, Nat.zero_add] at hf
  generalize hC : cnt 10 (x0.drop a) = N at hf
  have hf' : trivetref06_read.f m x0 a = _ := hf
  rw [hf']
  clear hf hf'
  cases b with
  | false =>
    obtain ⟨hv, hs⟩ := num_back v _ t hp h
    obtain ⟨z0, z1⟩ := zz_lt v hv
    have hc := cnt_leb 9 (zz v) t z0 (by omega)
    have hs' : x0.drop a = leb 9 (zz v) ++ t := hs
    rw [← hs', hC] at hc
    have hn : (nb v).length = N + 1 := hc.symm
    have hnl := nb_len v
    have hL : x0.length - a = N + 1 + t.length := by
      have := congrArg List.length hs
      simp [hn] at this
      omega
    have hN : N < (x0.drop a).length := by simp; omega
    have := rr_l1 x0 a N hx hN hl (N + 1) k (by omega) (by omega)
    rw [List.drop_of_length_le (by simp; omega), pref_len hs hn, show val (nb v) = zz v from val_leb 9 (zz v) z0 (by omega)] at this
    rw [Int.emod_eq_of_lt z0 z1, zz_uz, if_pos rfl] at this
    simp only [val] at this
    have e : ((N + 1 : Nat) : Int) - 1 = N := by omega
    rw [e] at this
    rw [if_pos ⟨hN, by omega⟩]
    refine ⟨?_, fun _ => ⟨by omega, ?_⟩⟩
    · rw [if_neg (by simp)]
      have e2 : x0.length - t.length = a + N + 1 := by omega
      rw [e2]
      exact this
    · rw [show x0.length - t.length = a + (N + 1) by omega, ← List.drop_drop, hs, ← hn]
      simp
  | true =>
    refine ⟨?_, fun h => by cases h⟩
    rw [if_pos rfl]
    have no : ∀ n t', i64 n → x0.drop a ≠ nb n ++ t' := by
      intro n t' hn hs
      rw [hs, num_nb n hn] at h
      simp at h
    split
    · rename_i hN
      have := rr_l1 x0 a N hx hN.1 hl (N + 1) k (by omega) (by omega)
      rw [List.drop_of_length_le (by simp; omega)] at this
      simp only [val] at this
      have e : ((N + 1 : Nat) : Int) - 1 = N := by omega
      rw [e] at this
      have U0 : 0 ≤ val ((x0.drop a).take (N + 1)) % 18446744073709551616 := Int.emod_nonneg _ (by omega)
      have U1 : val ((x0.drop a).take (N + 1)) % 18446744073709551616 < 18446744073709551616 := Int.emod_lt_of_pos _ (by omega)
      rw [if_neg (fun hh => no _ ((x0.drop a).drop (N + 1)) (uz_zz _ U0 U1).1 (by rw [hh, List.take_append_drop]))] at this
      exact this
    · rfl
theorem many_bad : ∀ (n : Nat) (l acc : List Int), (pk_many n true l acc).2.1 = true
  | 0, l, acc => rfl
  | n + 1, l, acc => many_bad n l _
theorem rg_l1 (x0 : List Int) (hx : ∀ x ∈ x0, byte x) (hl : x0.length ≤ 1000) (v1 v2 v3 v4 p q r : Int) (h4 : v4 ≤ 16) : ∀ (n m a : Nat) (acc : List Int), (acc.length : Int) + n = v4 → a ≤ x0.length → n + 60 ≤ m →
    ∃ y, trivetref06_Get.l1 m x0 [v1, v2, v3, v4] a p q r acc = some y ∧ (y.2.2.2.2 = true → y = (p, q, r, (pk_many n false (x0.drop a) acc).1, true) ∧ (pk_many n false (x0.drop a) acc).2 = (false, [])) ∧ (y.2.2.2.2 = false → (pk_many n false (x0.drop a) acc).2.1 = true ∨ 0 < (pk_many n false (x0.drop a) acc).2.2.length)
  | 0, m, a, acc, h, ha, hm => by
    obtain ⟨m, rfl⟩ : ∃ j, m = j + 1 := ⟨m - 1, by omega⟩
    refine ⟨(p, q, r, acc, ((a : Int) == (x0.length : Int))), ?_, ?_, ?_⟩
    · rw [trivetref06_Get.l1, if_pos (by simp), if_neg (by simp [rd]; omega)]
    · intro e
      simp only [beq_iff_eq] at e
      simp only [pk_many]
      refine ⟨by simp [e], ?_⟩
      rw [List.drop_of_length_le (by omega)]
    · intro e
      simp only [beq_eq_false_iff_ne] at e
      right
      simp only [pk_many, List.length_drop]
      omega
  | n + 1, m, a, acc, h, ha, hm => by
    obtain ⟨m, rfl⟩ : ∃ j, m = j + 1 := ⟨m - 1, by omega⟩
    generalize hq : pk_num false (x0.drop a) = w
    obtain ⟨v, b, t⟩ := w
    obtain ⟨f1, f2⟩ := rr_f x0 a m ha hx hl (by omega) v b t hq
    rw [trivetref06_Get.l1, if_pos (by simp), if_pos (by simp [rd]; omega), f1, Option.bind_some]
    simp only [pk_many, hq]
    cases b with
    | true =>
      refine ⟨(0, 0, 0, [], false), by simp, by simp, fun _ => .inl (many_bad _ _ _)⟩
    | false =>
      obtain ⟨g1, g2⟩ := f2 rfl
      have ih := rg_l1 x0 hx hl v1 v2 v3 v4 p q r h4 n m (x0.length - t.length) (acc ++ [v]) (by simp; omega) (by omega) (by omega)
      rw [g2] at ih
      simp only [Bool.false_eq_true, if_false]
      rw [if_neg (by omega), if_pos (by omega)]
      exact ih
theorem rd_bad : ∀ (k : Nat) (u i : Int) (l : List Int) (v : Int) (t : List Int), pk_rd k u i l = (v, true, t) → v = 0
  | 0, u, i, l, v, t, h => by
    simp only [pk_rd, Prod.mk.injEq] at h
    omega
  | k + 1, u, i, [], v, t, h => by
    simp only [pk_rd, Prod.mk.injEq] at h
    omega
  | k + 1, u, i, x :: s, v, t, h => by
    rw [pk_rd] at h
    split at h
    · simp only [Prod.mk.injEq] at h
      omega
    split at h
    · simp at h
    · exact rd_bad k _ _ _ v t h
theorem many_len : ∀ (n : Nat) (b : Bool) (l acc : List Int), (pk_many n b l acc).1.length = acc.length + n
  | 0, b, l, acc => rfl
  | n + 1, b, l, acc => by
    rw [pk_many, many_len n]
    simp
    omega
theorem tail_bad (l : List Int) (a b c : Int) : pk_tail true l a b c 0 = (0, 0, 0, [], some 2) := by
  simp [pk_tail, pk_many]
theorem rg_f (x0 : List Int) (m : Nat) (hx : ∀ x ∈ x0, byte x) (hl : x0.length ≤ 1000) (hm : 100 ≤ m) :
    ∃ y, trivetref06_Get.f m x0 = some y ∧ (y.2.2.2.2 = true → pk_get x0 = (y.1, y.2.1, y.2.2.1, y.2.2.2.1, none) ∧ y.2.2.2.1.length ≤ 16) ∧ (y.2.2.2.2 = false → pk_get x0 = (0, 0, 0, [], some 2)) := by
  obtain ⟨m, rfl⟩ : ∃ j, m = j + 1 + 1 + 1 + 1 + 1 + 1 := ⟨m - 6, by omega⟩
  have step : ∀ (k a : Nat) (acc : List Int) (v : Int) (b : Bool) (t : List Int), 50 ≤ k → a ≤ x0.length → acc.length < 4 → pk_num false (x0.drop a) = (v, b, t) →
      trivetref06_Get.l0 (k + 1) x0 acc a = (if b = true then some (0, 0, 0, [], false) else trivetref06_Get.l0 k x0 (acc ++ [v]) ((x0.length - t.length : Nat) : Int)) ∧ (b = false → x0.drop (x0.length - t.length) = t) := by
    intro k a acc v b t hk ha hacc hq
    obtain ⟨f1, f2⟩ := rr_f x0 a k ha hx hl hk v b t hq
    refine ⟨?_, fun h => (f2 h).2⟩
    rw [trivetref06_Get.l0, if_pos (by omega), f1, Option.bind_some]
    cases b with
    | true => simp
    | false =>
      simp only [Bool.false_eq_true, if_false]
      rw [if_neg (by omega), if_pos (by omega)]
  have bad : ∀ (u : List Int), pk_num true u = (0, true, u) := fun _ => rfl
  unfold trivetref06_Get.f pk_get
  generalize h1 : pk_num false x0 = w1
  obtain ⟨v1, b1, t1⟩ := w1
  obtain ⟨e1, d1⟩ := step (m + 5) 0 [] v1 b1 t1 (by omega) (by omega) (by simp) (by simpa using h1)
  rw [show ((0 : Nat) : Int) = 0 by rfl] at e1
  rw [e1]
  cases b1 with
  | true =>
    refine ⟨_, rfl, by simp, fun _ => ?_⟩
    simp only [bad, tail_bad]
  | false =>
  simp only [Bool.false_eq_true, if_false]
  have d1 := d1 rfl
  generalize h2 : pk_num false t1 = w2
  obtain ⟨v2, b2, t2⟩ := w2
  obtain ⟨e2, d2⟩ := step (m + 4) (x0.length - t1.length) [v1] v2 b2 t2 (by omega) (by omega) (by simp) (by rw [d1]; exact h2)
  rw [List.nil_append, e2]
  cases b2 with
  | true =>
    refine ⟨_, rfl, by simp, fun _ => ?_⟩
    simp only [bad, tail_bad]
  | false =>
  simp only [Bool.false_eq_true, if_false]
  have d2 := d2 rfl
  generalize h3 : pk_num false t2 = w3
  obtain ⟨v3, b3, t3⟩ := w3
  obtain ⟨e3, d3⟩ := step (m + 3) (x0.length - t2.length) [v1, v2] v3 b3 t3 (by omega) (by omega) (by simp) (by rw [d2]; exact h3)
  rw [show [v1] ++ [v2] = [v1, v2] by rfl, e3]
  cases b3 with
  | true =>
    refine ⟨_, rfl, by simp, fun _ => ?_⟩
    simp only [bad, tail_bad]
  | false =>
  simp only [Bool.false_eq_true, if_false]
  have d3 := d3 rfl
  generalize h4 : pk_num false t3 = w4
  obtain ⟨v4, b4, t4⟩ := w4
  obtain ⟨e4, d4⟩ := step (m + 2) (x0.length - t3.length) [v1, v2, v3] v4 b4 t4 (by omega) (by omega) (by simp) (by rw [d3]; exact h4)
  rw [show [v1, v2] ++ [v3] = [v1, v2, v3] by rfl, e4]
  cases b4 with
  | true =>
    have z : v4 = 0 := by
      unfold pk_num at h4
      simp only [Bool.false_eq_true, if_false] at h4
      exact rd_bad 10 0 0 t3 v4 t4 h4
    subst z
    refine ⟨_, rfl, by simp, fun _ => ?_⟩
    simp only [tail_bad]
  | false =>
  simp only [Bool.false_eq_true, if_false]
  have d4 := d4 rfl
  rw [show [v1, v2, v3] ++ [v4] = [v1, v2, v3, v4] by rfl, trivetref06_Get.l0, if_neg (by simp), if_pos (by simp)]
  have r4 : rd [v1, v2, v3, v4] 3 = v4 := rfl
  have r0 : rd [v1, v2, v3, v4] 0 = v1 := rfl
  have r1 : rd [v1, v2, v3, v4] 1 = v2 := rfl
  have r2 : rd [v1, v2, v3, v4] 2 = v3 := rfl
  rw [r4]
  unfold pk_tail
  by_cases c1 : v4 < 0
  · rw [if_pos c1, trivetref06_Get.j1, if_pos rfl]
    exact ⟨_, rfl, by simp, fun _ => by rw [if_pos (.inl c1)]⟩
  by_cases c2 : 16 < v4
  · rw [if_neg c1, trivetref06_Get.j1, if_pos (by simp; omega)]
    exact ⟨_, rfl, by simp, fun _ => by rw [if_pos (.inr c2)]⟩
  rw [if_neg c1, trivetref06_Get.j1, if_neg (by simp; omega), if_pos (by simp), if_pos (by simp), if_pos (by simp), r0, r1, r2]
  obtain ⟨y, y1, y2, y3⟩ := rg_l1 x0 hx hl v1 v2 v3 v4 v1 v2 v3 (by omega) v4.toNat m (x0.length - t4.length) [] (by simp; omega) (by omega) (by omega)
  rw [d4] at y2 y3
  refine ⟨y, y1, fun h => ?_, fun h => ?_⟩
  · obtain ⟨g1, g2⟩ := y2 h
    rw [if_neg (by omega), if_neg (by rw [g2]; simp), g1]
    refine ⟨rfl, ?_⟩
    simp only
    rw [many_len]
    simp
    omega
  · rw [if_neg (by omega), if_pos (y3 h)]
theorem sm_l0 (a b c : Int) (N : List Int) (hN : N.length ≤ 1000) (a' b' c' : Int) : ∀ (j m : Nat) (i : Int), i = N.length - j → 0 ≤ i → j < m → trivetref06_Same.l0 m i a b c N a' b' c' N = some true
  | 0, m + 1, i, hi, h0, hm => by rw [trivetref06_Same.l0, if_neg (by omega)]
  | j + 1, m + 1, i, hi, h0, hm => by
    rw [trivetref06_Same.l0, if_pos (by omega), if_pos h0, if_pos (by omega), if_pos rfl, show wrap64 (i + 1) = i + 1 from w64 _ (by omega) (by omega), sm_l0 a b c N hN a' b' c' j m (i + 1) (by omega) (by omega) (by omega)]
theorem sm_f (m : Nat) (a b c : Int) (N : List Int) (hN : N.length ≤ 1000) (hm : N.length + 2 < m) : trivetref06_Same.f m a b c N a b c N = some true := by
  obtain ⟨m, rfl⟩ : ∃ j, m = j + 1 := ⟨m - 1, by omega⟩
  unfold trivetref06_Same.f
  rw [if_pos rfl, if_pos rfl, if_pos rfl, trivetref06_Same.j0, if_neg (by simp), sm_l0 a b c N hN a b c N.length m 0 (by omega) (by omega) (by omega)]

theorem PackGets : trivetlaw06_PackGets.Pure := by
  intro x _ _ hw
  have hx : ∀ y ∈ x, byte y := fun y hy => by
    have h := hw y hy
    simp [Lit.wf, IntKind.min, IntKind.max, IntKind.bits, IntKind.signed] at h
    exact ⟨by omega, by omega⟩
  refine ⟨100, ?_⟩
  unfold trivetlaw06_PackGets.f
  rw [up_f 100 (by omega), Option.bind_some]
  by_cases c : (x.length : Int) > 1000
  · rw [if_pos c]
  rw [if_neg c]
  obtain ⟨⟨y1, y2, y3, y4, y5⟩, e, h1, h2⟩ := rg_f x 100 hx (by omega) (by omega)
  rw [e, show pack_Get.f x = some (pk_get x) from rfl, Option.bind_some, Option.bind_some]
  cases y5 with
  | true =>
    obtain ⟨g1, g2⟩ := h1 rfl
    simp only at g1 g2
    rw [g1]
    simp only [if_true, Option.isNone_none]
    rw [sm_f 100 _ _ _ _ (by omega) (by omega)]
    rfl
  | false =>
    rw [h2 rfl]
    rfl

end Go.Proofs.Ytpacenloagepfaa.Pure
