import Derived.Test.YtcdhnglefldalaaDoorCUp
import Derived.Test.YtcdhnglefldalaaDoorShelf
import Derived.Lib.ItoaNum
import Derived.Test.YtcdhnglefldalaaDoorCLaid
import Derived.Test.YtcdhnglefldalaaDoorCAcc
namespace Go.Proofs.YtcdhnglefldalaaDoor.PChartOrder
open Go.RowKit Go.Proofs.YtcdhnglefldalaaDoorW.PrintWords Go.Proofs.YtcdhnglefldalaaDoorW.PrintLast Go.Proofs.YtcdhnglefldalaaDoorW.PrintMore
set_option linter.unusedVariables false
set_option linter.unusedSimpArgs false

theorem ch_first {c : UInt8} : ∀ {a b x y : List UInt8}, c ∉ a → c ∉ b → a ++ c :: x = b ++ c :: y → a = b ∧ x = y
  | [], [], x, y, _, _, h => ⟨rfl, (List.cons.inj h).2⟩
  | [], b :: l, x, y, _, hb, h => absurd (List.cons.inj h).1 (fun e => hb (by rw [e]; exact List.mem_cons_self))
  | a :: l, [], x, y, ha, _, h => absurd (List.cons.inj h).1 (fun e => ha (by rw [← e]; exact List.mem_cons_self))
  | a :: l, b :: m, x, y, ha, hb, h => by
    have e := List.cons.inj h
    have := ch_first (fun h => ha (List.mem_cons_of_mem _ h)) (fun h => hb (List.mem_cons_of_mem _ h)) e.2
    exact ⟨by rw [e.1, this.1], this.2⟩
theorem ch_cut_hit (l : List UInt8) (h : (Lib.cut l [46]).2.2 = true) : l = (Lib.cut l [46]).1 ++ 46 :: (Lib.cut l [46]).2.1 ∧ (46 : UInt8) ∉ (Lib.cut l [46]).1 := by
  unfold Lib.cut at h ⊢
  by_cases c : 0 ≤ Lib.index l [46]
  · rw [if_pos c]
    obtain ⟨n, hn⟩ := Int.eq_ofNat_of_zero_le c
    rw [hn]
    rw [Lib.index_one] at hn
    obtain ⟨h1, h2⟩ := Lib.indexByte_some hn
    have hlt : n < l.length := by
      rcases Nat.lt_or_ge n l.length with h' | h'
      · exact h'
      · rw [List.getElem?_eq_none h'] at h1; cases h1
    have hv : l[n] = 46 := by rw [List.getElem?_eq_getElem hlt] at h1; exact Option.some.inj h1
    refine ⟨?_, ?_⟩
    · have e : l.drop n = 46 :: l.drop (n + 1) := by rw [List.drop_eq_getElem_cons hlt, hv]
      show l = l.take n ++ 46 :: l.drop (n + 1)
      rw [← e, List.take_append_drop]
    · intro hm
      obtain ⟨k, hk, hv2⟩ := List.mem_iff_getElem.1 hm
      have hk2 : k < n := by rw [List.length_take] at hk; simp at hk; omega
      refine h2 k hk2 ?_
      rw [List.getElem?_eq_getElem (by omega)]
      have : (List.take n l)[k]'(by rw [List.length_take]; omega) = 46 := hv2
      rw [List.getElem_take] at this
      rw [this]
  · rw [if_neg c] at h
    cases h
theorem ch_cut_miss (l : List UInt8) (h : (Lib.cut l [46]).2.2 = false) : (Lib.cut l [46]).1 = l ∧ (46 : UInt8) ∉ l := by
  unfold Lib.cut at h ⊢
  by_cases c : 0 ≤ Lib.index l [46]
  · rw [if_pos c] at h
    cases h
  · rw [if_neg c]
    refine ⟨rfl, fun hm => ?_⟩
    rw [Lib.index_one] at c
    have := Lib.indexByte_ge l 46
    obtain ⟨k, hk, hv⟩ := List.mem_iff_getElem.1 hm
    exact Lib.indexByte_none (show Lib.indexByte l 46 = -1 by omega) k (by rw [List.getElem?_eq_getElem hk, hv])
def ch_dv (a : Nat) (l : List UInt8) : Nat := l.foldl (fun a b => a * 10 + (b.toNat - 48)) a
def ch_isd (l : List UInt8) : Prop := ∀ x ∈ l, 48 ≤ x.toNat ∧ x.toNat ≤ 57
theorem ch_dig_range : ∀ n : Nat, ch_isd (Lib.decDigits n)
  | n => by
    rw [Lib.decDigits]
    by_cases c : n < 10
    · rw [dif_pos c]
      intro x hx
      rw [List.mem_singleton] at hx
      subst hx
      rw [UInt8.toNat_ofNat']
      omega
    · rw [dif_neg c]
      intro x hx
      rw [List.mem_append, List.mem_singleton] at hx
      rcases hx with hx | rfl
      · exact ch_dig_range (n / 10) x hx
      · rw [UInt8.toNat_ofNat']
        omega
theorem ch_dig_val : ∀ n : Nat, ch_dv 0 (Lib.decDigits n) = n
  | n => by
    rw [Lib.decDigits]
    by_cases c : n < 10
    · rw [dif_pos c]
      show 0 * 10 + ((UInt8.ofNat (48 + n)).toNat - 48) = n
      rw [UInt8.toNat_ofNat']
      omega
    · rw [dif_neg c]
      unfold ch_dv
      rw [List.foldl_append]
      have := ch_dig_val (n / 10)
      unfold ch_dv at this
      rw [this]
      show n / 10 * 10 + ((UInt8.ofNat (48 + n % 10)).toNat - 48) = n
      rw [UInt8.toNat_ofNat']
      omega
theorem ch_dig_ne (n : Nat) : Lib.decDigits n ≠ [] := by
  rw [Lib.decDigits]
  by_cases c : n < 10
  · rw [dif_pos c]; simp
  · rw [dif_neg c]; simp
theorem ch_dig_nodot (n : Nat) : (46 : UInt8) ∉ Lib.decDigits n := fun h => by
  have := (ch_dig_range n 46 h).1
  revert this
  decide
theorem ch_dig_inj {m n : Nat} (h : Lib.decDigits m = Lib.decDigits n) : m = n := by rw [← ch_dig_val m, h, ch_dig_val]
theorem ch_dv_ge : ∀ (l : List UInt8) (a : Nat), a ≤ ch_dv a l
  | [], a => Nat.le_refl _
  | x :: l, a => Nat.le_trans (by omega) (ch_dv_ge l (a * 10 + (x.toNat - 48)))
theorem ch_parse : ∀ (l : List UInt8) (a : Nat), ch_isd l → ch_dv a l < 9223372036854775808 → Lib.parseUint10 a l = .ok (ch_dv a l)
  | [], a, _, _ => rfl
  | x :: l, a, hd, hv => by
    have hx := hd x List.mem_cons_self
    have hv : ch_dv (a * 10 + (x.toNat - 48)) l < 9223372036854775808 := hv
    have := ch_dv_ge l (a * 10 + (x.toNat - 48))
    unfold Lib.parseUint10
    rw [if_pos hx, if_neg (by omega), if_neg (by omega), ch_parse l _ (fun y hy => hd y (List.mem_cons_of_mem _ hy)) hv]
    rfl
theorem ch_atoi (n : Nat) (h : n < 9223372036854775808) : Lib.atoiAll (Lib.decDigits n) = .ok (n : Int) := by
  have hr := ch_dig_range n
  have hv := ch_dig_val n
  have hne := ch_dig_ne n
  generalize Lib.decDigits n = l at hr hv hne
  cases l with
  | nil => exact absurd rfl hne
  | cons x l =>
    have hx := hr x List.mem_cons_self
    unfold Lib.atoiAll
    simp only
    rw [if_neg (by omega)]
    unfold Lib.parseMag
    rw [if_neg hne, ch_parse (x :: l) 0 hr (by rw [hv]; exact h), hv]
    simp only
    rw [if_neg (by omega), if_neg (by omega), if_neg (by omega)]
def ch_nm (k o : Int) : ByteArray := if o = 0 then cn_nm k else cn_nm k ++ (⟨#[46]⟩ : ByteArray) ++ (⟨(Lib.decDigits o.toNat).toArray⟩ : ByteArray)
theorem ch_nm_list (k o : Int) : (ch_nm k o).data.toList = if o = 0 then (cn_nm k).data.toList else (cn_nm k).data.toList ++ 46 :: Lib.decDigits o.toNat := by
  unfold ch_nm
  by_cases c : o = 0
  · rw [if_pos c, if_pos c]
  · rw [if_neg c, if_neg c]
    simp
theorem ch_nodot (k : Int) : (46 : UInt8) ∉ (cn_nm k).data.toList := by
  unfold cn_nm
  have key : ∀ x ∈ cn_list, (46 : UInt8) ∉ x.data.toList := by decide +kernel
  rcases Nat.lt_or_ge k.toNat cn_list.length with h | h
  · rw [List.getD_eq_getElem?_getD, List.getElem?_eq_getElem h]
    exact key _ (List.getElem_mem h)
  · rw [List.getD_eq_getElem?_getD, List.getElem?_eq_none h]
    simp
theorem ch_idx (k : Int) (h0 : 1 ≤ k) (h1 : k ≤ 12) : Lib.idxOfS cn_list (cn_nm k) = k := by
  have key : ∀ j : Fin 13, Lib.idxOfS cn_list (cn_list.getD j.val ⟨#[]⟩) = (j.val : Int) := by decide +kernel
  have := key ⟨k.toNat, by omega⟩
  unfold cn_nm
  rw [this]
  simp
  omega
theorem ch_idxr (x : ByteArray) : ∀ (zs : List ByteArray) (i : Nat), Lib.idxFromS zs x i = -1 ∨ ∃ j : Nat, Lib.idxFromS zs x i = ((i + j : Nat) : Int) ∧ zs[j]? = some x
  | [], i => Or.inl rfl
  | z :: zs, i => by
    unfold Lib.idxFromS
    by_cases c : z = x
    · rw [if_pos c]
      exact Or.inr ⟨0, rfl, by rw [← c]; rfl⟩
    · rw [if_neg c]
      rcases ch_idxr x zs (i + 1) with h | ⟨j, h, h2⟩
      · exact Or.inl h
      · exact Or.inr ⟨j + 1, by rw [h]; congr 1; omega, h2⟩
theorem ch_idx_back (x : ByteArray) (k : Int) (h : Lib.idxOfS cn_list x = k) (h0 : 0 ≤ k) : cn_nm k = x := by
  rcases ch_idxr x cn_list 0 with h1 | ⟨j, h1, h2⟩
  · unfold Lib.idxOfS at h; omega
  · unfold Lib.idxOfS at h
    unfold cn_nm
    rw [List.getD_eq_getElem?_getD, show k.toNat = j by omega, h2]
    rfl
theorem ch_rng {k o : Int} (h : cn_may k o = true) : 1 ≤ k ∧ k ≤ 12 ∧ 0 ≤ o ∧ o ≤ 65536 ∧ (k ≤ 3 → o = 0) ∧ (4 ≤ k → 1 ≤ o) := by
  unfold cn_may at h
  simp only [Bool.and_eq_true, decide_eq_true_eq] at h
  obtain ⟨⟨a, b⟩, c⟩ := h
  split at c
  · simp at c; omega
  · simp at c; omega
theorem ch_inj {k o k' o' : Int} (h : cn_may k o = true) (h' : cn_may k' o' = true) (e : ch_nm k o = ch_nm k' o') : k = k' ∧ o = o' := by
  obtain ⟨a1, a2, a3, a4, a5, a6⟩ := ch_rng h
  obtain ⟨b1, b2, b3, b4, b5, b6⟩ := ch_rng h'
  have el := congrArg (fun x : ByteArray => x.data.toList) e
  simp only [ch_nm_list] at el
  have fin : (cn_nm k).data.toList = (cn_nm k').data.toList → k = k' := fun h => by
    rw [← ch_idx k a1 a2, ← ch_idx k' b1 b2]
    congr 1
    exact ByteArray.ext (Array.toList_inj.mp h)
  by_cases c : o = 0
  · by_cases c' : o' = 0
    · rw [if_pos c, if_pos c'] at el
      exact ⟨fin el, by omega⟩
    · rw [if_pos c, if_neg c'] at el
      exact absurd (by rw [el]; simp) (ch_nodot k)
  · by_cases c' : o' = 0
    · rw [if_neg c, if_pos c'] at el
      exact absurd (by rw [← el]; simp) (ch_nodot k')
    · rw [if_neg c, if_neg c'] at el
      obtain ⟨f1, f2⟩ := ch_first (ch_nodot k) (ch_nodot k') el
      have := ch_dig_inj f2
      exact ⟨fin f1, by omega⟩
theorem ch_name {k o : Int} (h : cn_may k o = true) : cn_name k o ⟨(Lib.decDigits o.toNat).toArray⟩ = (ch_nm k o, none) := by
  unfold cn_name
  rw [if_neg (by rw [h]; decide)]
  unfold ch_nm
  first | rfl | (split <;> simp_all)

end Go.Proofs.YtcdhnglefldalaaDoor.PChartOrder
