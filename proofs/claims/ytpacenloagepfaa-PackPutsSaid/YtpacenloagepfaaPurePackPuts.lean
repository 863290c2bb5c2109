/- Put writes any command of at most 16 numbers as the document does, and tells of more what is amiss: the law PackPuts returns true for every input; no condition of its own. -/
import Derived.Test.YtpacenloagepfaaPPackPutsx3
namespace Go.Proofs.Ytpacenloagepfaa.Pure
open Go.RowKit Go.Proofs.Ytpacenloagepfaa.PPackPuts Go.Proofs.YtpacenloagepfaaW.PrintWords Go.Proofs.YtpacenloagepfaaW.PrintLast Go.Proofs.YtpacenloagepfaaW.PrintMore
set_option linter.unusedVariables false
set_option linter.unusedSimpArgs false

theorem u64_in (x : Int) (h0 : 0 ≤ x) (h1 : x < 18446744073709551616) : IntKind.u64.wrap x = x := by
  simp only [IntKind.wrap, IntKind.bits, IntKind.signed]
  simp
  omega
theorem u64_neg (x : Int) (h0 : -18446744073709551616 ≤ x) (h1 : x < 0) : IntKind.u64.wrap x = x + 18446744073709551616 := by
  simp only [IntKind.wrap, IntKind.bits, IntKind.signed]
  simp
  omega
theorem xor_ones (x : Int) (h0 : 0 ≤ x) (h1 : x < 18446744073709551616) : Go.bits .xor .u64 x 18446744073709551615 = 18446744073709551615 - x := by
  obtain ⟨a, rfl⟩ := Int.eq_ofNat_of_zero_le h0
  have e : BitVec.ofInt 64 18446744073709551615 = BitVec.allOnes 64 := by decide
  show IntKind.u64.wrap (((BitVec.ofInt 64 (a : Int) ^^^ BitVec.ofInt 64 18446744073709551615).toNat : Nat) : Int) = _
  rw [e, BitVec.xor_allOnes, BitVec.toNat_not, BitVec.ofInt_natCast, BitVec.toNat_ofNat]
  rw [u64_in] <;> omega
theorem xor_zero (x : Int) (h0 : 0 ≤ x) (h1 : x < 18446744073709551616) : Go.bits .xor .u64 x 0 = x := by
  obtain ⟨a, rfl⟩ := Int.eq_ofNat_of_zero_le h0
  have e : BitVec.ofInt 64 0 = 0#64 := by decide
  show IntKind.u64.wrap (((BitVec.ofInt 64 (a : Int) ^^^ BitVec.ofInt 64 0).toNat : Nat) : Int) = _
  rw [e, BitVec.xor_zero, BitVec.ofInt_natCast, BitVec.toNat_ofNat]
  rw [u64_in] <;> omega
/-- A whole number as one from 0 on. -/
def zz (n : Int) : Int := if n < 0 then -2 * n - 1 else 2 * n
theorem zz_pack (n : Int) (h0 : -9223372036854775808 ≤ n) (h1 : n ≤ 9223372036854775807) :
    Go.bits .xor .u64 (IntKind.u64.wrap ((IntKind.u64.wrap n) * 2)) (IntKind.u64.wrap (n / 9223372036854775808)) = zz n := by
  unfold zz
  by_cases h : n < 0
  · rw [if_pos h, show n / 9223372036854775808 = -1 by omega, u64_neg n (by omega) h, u64_neg (-1) (by omega) (by omega)]
    have e : IntKind.u64.wrap ((n + 18446744073709551616) * 2) = 2 * n + 18446744073709551616 := by
      simp only [IntKind.wrap, IntKind.bits, IntKind.signed]
      simp
      omega
    rw [e]
    have := xor_ones (2 * n + 18446744073709551616) (by omega) (by omega)
    rw [show (-1 + 18446744073709551616 : Int) = 18446744073709551615 by decide, this]
    omega
  · rw [if_neg h, show n / 9223372036854775808 = 0 by omega, u64_in n (by omega) (by omega), u64_in (n * 2) (by omega) (by omega), u64_in 0 (by omega) (by omega), xor_zero _ (by omega) (by omega)]
    omega
theorem or128 (x : Int) (h0 : 0 ≤ x) : Go.bits .or .u8 (x % 256) 128 = x % 128 + 128 := by
  have key : ∀ b : Fin 256, Go.bits .or .u8 ((b.val : Nat) : Int) 128 = ((b.val : Nat) : Int) % 128 + 128 := by decide +kernel
  have := key ⟨(x % 256).toNat, by omega⟩
  simp only [show (((x % 256).toNat : Nat) : Int) = x % 256 by omega] at this
  rw [this]
  omega
/-- A number's bytes. -/
def leb : Nat → Int → List Int
  | 0, u => [u]
  | k + 1, u => if 128 ≤ u then (u % 128 + 128) :: leb k (u / 128) else [u]
theorem leb_len : ∀ k u, (leb k u).length ≤ k + 1
  | 0, u => by simp [leb]
  | k + 1, u => by
    unfold leb
    split
    · have := leb_len k (u / 128)
      simp
      omega
    · simp

theorem w64 (x : Int) (h0 : -9223372036854775808 ≤ x) (h1 : x ≤ 9223372036854775807) : wrap64 x = x := by
  unfold wrap64
  omega
theorem leb_div (k : Nat) (u : Int) (h : u < 128 ^ (k + 1 + 1)) : u / 128 < 128 ^ (k + 1) := by
  have h2 : u < 128 ^ (k + 1) * 128 := by rw [← Int.pow_succ]; exact h
  generalize (128 : Int) ^ (k + 1) = q at *
  omega
theorem pn_l0 : ∀ (k m : Nat) (u : Int) (l : List Int), k < m → 0 ≤ u → u < 128 ^ (k + 1) → l.length + k < 140737488355328 → pack_number.l0 m l u = some (l ++ leb k u)
  | 0, m + 1, u, l, _, h0, h1, hl => by
    have h2 : u < 128 := by simpa using h1
    rw [pack_number.l0, if_neg (by omega), if_pos (by omega), leb, show u % 256 = u by omega]
  | k + 1, m + 1, u, l, hm, h0, h1, hl => by
    rw [pack_number.l0, leb]
    by_cases c : 128 ≤ u
    · rw [if_pos c, if_pos (by omega), if_pos c, or128 u h0, pn_l0 k m (u / 128) _ (by omega) (by omega) (leb_div k u h1) (by simp; omega), List.append_assoc]
      rfl
    · rw [if_neg c, if_pos (by omega), if_neg c, show u % 256 = u by omega]
theorem rn_l0 : ∀ (k m : Nat) (u : Int) (l : List Int), k < m → 0 ≤ u → u < 128 ^ (k + 1) → u < 18446744073709551616 → l.length + k < 140737488355328 → trivetref06_number.l0 m u l = some (l ++ leb k u)
  | 0, m + 1, u, l, _, h0, h1, _, hl => by
    have h2 : u < 128 := by simpa using h1
    rw [trivetref06_number.l0, if_neg (by omega), if_pos (by omega), leb, show u % 256 = u by omega]
  | k + 1, m + 1, u, l, hm, h0, h1, h3, hl => by
    rw [trivetref06_number.l0, leb]
    by_cases c : 128 ≤ u
    · have e1 : IntKind.u64.wrap (Int.tdiv u 128) = u / 128 := by rw [Int.tdiv_eq_ediv_of_nonneg h0]; exact u64_in _ (by omega) (by omega)
      have e2 : (IntKind.u64.wrap ((Int.tmod u 128) + 128)) % 256 = u % 128 + 128 := by rw [Int.tmod_eq_emod_of_nonneg h0, u64_in _ (by omega) (by omega)]; omega
      rw [if_pos (by omega), if_pos (by omega), if_pos c, e1, e2, rn_l0 k m (u / 128) _ (by omega) (by omega) (leb_div k u h1) (by omega) (by simp; omega), List.append_assoc]
      rfl
    · rw [if_neg (by omega), if_pos (by omega), if_neg c, show u % 256 = u by omega]
def i64 (n : Int) : Prop := -9223372036854775808 ≤ n ∧ n ≤ 9223372036854775807
/-- A number's bytes, of one below 0 too. -/
def nb (n : Int) : List Int := leb 9 (zz n)
theorem zz_lt (n : Int) (h : i64 n) : 0 ≤ zz n ∧ zz n < 18446744073709551616 := by
  unfold zz
  obtain ⟨h0, h1⟩ := h
  split <;> omega
theorem nb_len (n : Int) : (nb n).length ≤ 10 := leb_len 9 _
theorem pn_f (m : Nat) (n : Int) (l : List Int) (hm : 9 < m) (h : i64 n) (hl : l.length < 140737488000000) : pack_number.f m l n = some (l ++ nb n) := by
  unfold pack_number.f
  rw [zz_pack n h.1 h.2]
  obtain ⟨z0, z1⟩ := zz_lt n h
  exact pn_l0 9 m (zz n) l hm z0 (by omega) (by omega)
theorem rn_f (m : Nat) (n : Int) (hm : 10 < m) (h : i64 n) : trivetref06_number.f m n = some (nb n) := by
  obtain ⟨z0, z1⟩ := zz_lt n h
  obtain ⟨h0, h1⟩ := h
  obtain ⟨m, rfl⟩ : ∃ j, m = j + 1 := ⟨m - 1, by omega⟩
  have key : trivetref06_number.l0 m (zz n) [] = some (nb n) := by
    have := rn_l0 9 m (zz n) [] (by omega) z0 (by omega) z1 (by simp)
    rw [this]
    rfl
  unfold trivetref06_number.f
  by_cases c : n < 0
  · have e1 : wrap64 (n + 1) = n + 1 := w64 _ (by omega) (by omega)
    have e2 : wrap64 (-(n + 1)) = -(n + 1) := w64 _ (by omega) (by omega)
    rw [if_pos c, e1, e2, u64_in (-(n + 1)) (by omega) (by omega), u64_in (-(n + 1) * 2) (by omega) (by omega), u64_in (-(n + 1) * 2 + 1) (by omega) (by omega), trivetref06_number.j0]
    rw [show -(n + 1) * 2 + 1 = zz n by unfold zz; rw [if_pos c]; omega]
    exact key
  · rw [if_neg c, u64_in n (by omega) (by omega), u64_in (n * 2) (by omega) (by omega), trivetref06_number.j0]
    rw [show n * 2 = zz n by unfold zz; rw [if_neg c]; omega]
    exact key
def nbs (l : List Int) : List Int := (l.map nb).flatten
theorem nbs_drop (l : List Int) (i : Int) (h0 : 0 ≤ i) (h1 : i < l.length) : nbs (l.drop i.toNat) = nb (rd l i) ++ nbs (l.drop (i + 1).toNat) := by
  have hl : i.toNat < l.length := by omega
  rw [List.drop_eq_getElem_cons hl, show (i + 1).toNat = i.toNat + 1 by omega]
  unfold nbs rd
  rw [List.map_cons, List.flatten_cons, List.getD_eq_getElem?_getD, List.getElem?_eq_getElem hl]
  rfl
theorem rd_i64 (l : List Int) (h : ∀ y ∈ l, i64 y) (i : Int) (h0 : 0 ≤ i) (h1 : i < l.length) : i64 (rd l i) := by
  unfold rd
  rw [List.getD_eq_getElem?_getD, List.getElem?_eq_getElem (show i.toNat < l.length by omega)]
  exact h _ (List.getElem_mem _)
theorem pp_l0 (N : List Int) (hN : ∀ y ∈ N, i64 y) (hb : N.length ≤ 1000000) : ∀ (j m : Nat) (i : Int) (acc : List Int), i = N.length - j → 0 ≤ i → j + 10 < m → acc.length + 11 * j < 140737480000000 →
    pack_Put.l0 m acc N N.length i = some (acc ++ nbs (N.drop i.toNat), none)
  | 0, m + 1, i, acc, hi, h0, hm, hl => by
    rw [pack_Put.l0, if_neg (by omega), List.drop_of_length_le (by omega)]
    simp [nbs]
  | j + 1, m + 1, i, acc, hi, h0, hm, hl => by
    have hn := nb_len (rd N i)
    rw [pack_Put.l0, if_pos (by omega), if_pos h0, if_pos (by omega), pn_f m _ acc (by omega) (rd_i64 N hN i h0 (by omega)) (by omega), Option.bind_some,
      show wrap64 (i + 1) = i + 1 from w64 _ (by omega) (by omega), pp_l0 N hN hb j m (i + 1) _ (by omega) (by omega) (by omega) (by simp; omega), nbs_drop N i h0 (by omega), List.append_assoc]
/-- A command's bytes. -/
def cb (a b c : Int) (N : List Int) : List Int := nb a ++ nb b ++ nb c ++ nb N.length ++ nbs N
theorem pp_f (m : Nat) (a b c : Int) (N : List Int) (ha : i64 a) (hb : i64 b) (hc : i64 c) (hN : ∀ y ∈ N, i64 y) (hl : N.length ≤ 16) (hm : 40 < m) : pack_Put.f m a b c N = some (cb a b c N, none) := by
  have l1 := nb_len a
  have l2 := nb_len b
  have l3 := nb_len c
  have l4 := nb_len N.length
  unfold pack_Put.f
  rw [if_neg (by omega), pn_f m a [] (by omega) ha (by simp), Option.bind_some, pn_f m b _ (by omega) hb (by simp; omega), Option.bind_some, pn_f m c _ (by omega) hc (by simp; omega), Option.bind_some, pn_f m N.length _ (by omega) ⟨by omega, by omega⟩ (by simp; omega), Option.bind_some,
    pp_l0 N hN (by omega) N.length m 0 _ (by omega) (by omega) (by omega) (by simp; omega)]
  simp [cb]
theorem rp_l0 (N : List Int) (hN : ∀ y ∈ N, i64 y) (hb : N.length ≤ 1000000) (a b c : Int) : ∀ (j m : Nat) (i : Int) (acc : List Int), i = N.length - j → 0 ≤ i → j + 11 < m → acc.length + 11 * j < 140737480000000 →
    trivetref06_Put.l0 m acc i a b c N = some (acc ++ nbs (N.drop i.toNat))
  | 0, m + 1, i, acc, hi, h0, hm, hl => by
    rw [trivetref06_Put.l0, if_neg (by omega), List.drop_of_length_le (by omega)]
    simp [nbs]
  | j + 1, m + 1, i, acc, hi, h0, hm, hl => by
    have hn := nb_len (rd N i)
    rw [trivetref06_Put.l0, if_pos (by omega), if_pos h0, rn_f m _ (by omega) (rd_i64 N hN i h0 (by omega)), Option.bind_some, if_pos (by omega),
      show wrap64 (i + 1) = i + 1 from w64 _ (by omega) (by omega), rp_l0 N hN hb a b c j m (i + 1) _ (by omega) (by omega) (by omega) (by simp; omega), nbs_drop N i h0 (by omega), List.append_assoc]
theorem rp_f (m : Nat) (a b c : Int) (N : List Int) (ha : i64 a) (hb : i64 b) (hc : i64 c) (hN : ∀ y ∈ N, i64 y) (hl : N.length ≤ 16) (hm : 40 < m) : trivetref06_Put.f m a b c N = some (cb a b c N) := by
  have l1 := nb_len a
  have l2 := nb_len b
  have l3 := nb_len c
  have l4 := nb_len N.length
  unfold trivetref06_Put.f
  rw [rn_f m a (by omega) ha, Option.bind_some, rn_f m b (by omega) hb, Option.bind_some, if_pos (by omega), Option.bind_some, rn_f m c (by omega) hc, Option.bind_some, if_pos (by simp; omega), Option.bind_some, rn_f m N.length (by omega) ⟨by omega, by omega⟩, Option.bind_some, if_pos (by simp; omega),
    rp_l0 N hN (by omega) a b c N.length m 0 _ (by omega) (by omega) (by omega) (by simp; omega)]
  simp [cb]
theorem up_f (m : Nat) (hm : 40 < m) : trivetlaw06_up.f m = some true := by
  unfold trivetlaw06_up.f
  rw [pp_f m 2 (-1) 64 [3] ⟨by omega, by omega⟩ ⟨by omega, by omega⟩ ⟨by omega, by omega⟩ (by intro y hy; simp at hy; subst hy; exact ⟨by omega, by omega⟩) (by simp) hm]
  decide +kernel

theorem PackPuts : trivetlaw06_PackPuts.Pure := by
  intro x hx
  obtain ⟨h0, h1, h2, h3, h4⟩ := hx
  have w := fun (n : Int) (h : (Lit.int .i64 n).wf = true) => (show i64 n by simp [Lit.wf, IntKind.min, IntKind.max, IntKind.bits, IntKind.signed] at h; exact ⟨by omega, by omega⟩)
  refine ⟨41, ?_⟩
  unfold trivetlaw06_PackPuts.f
  rw [up_f 41 (by omega), Option.bind_some]
  by_cases c : (x.f3.length : Int) > 1000
  · rw [if_pos c]
  rw [if_neg c]
  by_cases c2 : (x.f3.length : Int) > 16
  · have e : pack_Put.f 41 x.f0 x.f1 x.f2 x.f3 = some ([], some 1) := by unfold pack_Put.f; rw [if_pos c2]
    rw [e, Option.bind_some, if_pos c2]
    rfl
  · have hN : ∀ y ∈ x.f3, i64 y := fun y hy => w y (h4 y hy)
    rw [pp_f 41 _ _ _ _ (w _ h0) (w _ h1) (w _ h2) hN (by omega) (by omega), Option.bind_some, if_neg c2, if_pos rfl, rp_f 41 _ _ _ _ (w _ h0) (w _ h1) (w _ h2) hN (by omega) (by omega)]
    simp

end Go.Proofs.Ytpacenloagepfaa.Pure
