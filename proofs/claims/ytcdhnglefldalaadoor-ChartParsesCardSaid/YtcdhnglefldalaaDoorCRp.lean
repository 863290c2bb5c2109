import Derived.Test.YtcdhnglefldalaaDoorCSpec
namespace Go.Proofs.YtcdhnglefldalaaDoor.PChartOrder
open Go.RowKit Go.Proofs.YtcdhnglefldalaaDoorW.PrintWords Go.Proofs.YtcdhnglefldalaaDoorW.PrintLast Go.Proofs.YtcdhnglefldalaaDoorW.PrintMore
set_option linter.unusedVariables false
set_option linter.unusedSimpArgs false

theorem rp_size (k o : Int) (h : cn_may k o = true) (h4 : 4 ≤ k) : (cn_nm k).size + 1 < (ch_nm k o).size ∧ (ch_nm k o).size ≤ (cn_nm k).size + 6 := by
  obtain ⟨-, -, a, b, -, d⟩ := ch_rng h
  have d := d h4
  have e : (ch_nm k o).size = (ch_nm k o).data.toList.length := by rw [Array.length_toList]; rfl
  have e2 : (cn_nm k).size = (cn_nm k).data.toList.length := by rw [Array.length_toList]; rfl
  rw [e, e2, ch_nm_list, if_neg (by omega), List.length_append, List.length_cons]
  have key : ∀ (j m : Nat), m < 10 ^ (j + 1) → (Lib.decDigits m).length ≤ j + 1 := by
    intro j
    induction j with
    | zero =>
      intro m hm
      rw [Lib.decDigits, dif_pos (by omega)]
      simp
    | succ j ih =>
      intro m hm
      rw [Lib.decDigits]
      by_cases c : m < 10
      · rw [dif_pos c]; simp
      · rw [dif_neg c, List.length_append]
        have := ih (m / 10) (by rw [Nat.pow_succ] at hm; omega)
        simp
        omega
  have k1 := key 4 o.toNat (by omega)
  have k2 : (Lib.decDigits o.toNat).length ≠ 0 := fun h => ch_dig_ne _ (List.length_eq_zero_iff.1 h)
  omega
theorem rp_ext (s : ByteArray) (n : Nat) : (s.extract 0 n).data.toList = s.data.toList.take n := by simp
theorem rp_cont (k : Int) (s : ByteArray) (h4 : 4 ≤ k) (h : s.size ≤ (cn_nm k).size + 1 ∨ (cn_nm k).size + 6 < s.size ∨ s.extract 0 (cn_nm k).size ≠ cn_nm k ∨ s.data.toList[(cn_nm k).size]? ≠ some 46) : ∀ o, cn_may k o = true → ch_nm k o ≠ s := by
  intro o hm hn
  obtain ⟨h1, h2⟩ := rp_size k o hm h4
  obtain ⟨-, -, -, -, -, d⟩ := ch_rng hm
  have d := d h4
  have hl := ch_nm_list k o
  rw [if_neg (by omega)] at hl
  have e2 : (cn_nm k).size = (cn_nm k).data.toList.length := by rw [Array.length_toList]; rfl
  rw [hn] at h1 h2 hl
  rcases h with h | h | h | h
  · omega
  · omega
  · refine h (ByteArray.ext (Array.toList_inj.mp ?_))
    rw [rp_ext, hl, e2, List.take_left']
    rfl
  · refine h ?_
    rw [hl, e2, List.getElem?_append_right (Nat.le_refl _)]
    simp
theorem rp_pre (k : Int) (s : ByteArray) (h1 : (cn_nm k).size + 1 < s.size) (h2 : s.extract 0 (cn_nm k).size = cn_nm k) (h3 : s.data.toList[(cn_nm k).size]? = some 46) : s.data.toList = (cn_nm k).data.toList ++ 46 :: s.data.toList.drop ((cn_nm k).size + 1) := by
  have e := congrArg (fun x : ByteArray => x.data.toList) h2
  simp only [rp_ext] at e
  have hlt : (cn_nm k).size < s.data.toList.length := by rw [Array.length_toList]; show _ < s.size; omega
  have hv : s.data.toList[(cn_nm k).size] = 46 := by rw [List.getElem?_eq_getElem hlt] at h3; exact Option.some.inj h3
  have d : s.data.toList.drop (cn_nm k).size = 46 :: s.data.toList.drop ((cn_nm k).size + 1) := by rw [List.drop_eq_getElem_cons hlt, hv]
  have t := List.take_append_drop (cn_nm k).size s.data.toList
  rw [d, e] at t
  exact t.symm
theorem rp_uniq (k : Int) (s : ByteArray) (r : List UInt8) (a1 : 1 ≤ k) (a2 : k ≤ 12) (hs : s.data.toList = (cn_nm k).data.toList ++ 46 :: r) : ∀ k' o', cn_may k' o' = true → ch_nm k' o' = s → k' = k ∧ r = Lib.decDigits o'.toNat ∧ 1 ≤ o' ∧ o' ≤ 65536 := by
  intro k' o' hm hn
  obtain ⟨b1, b2, b3, b4, -, -⟩ := ch_rng hm
  have hl := ch_nm_list k' o'
  rw [hn, hs] at hl
  by_cases q : o' = 0
  · rw [if_pos q] at hl
    exact absurd (by rw [← hl]; simp) (ch_nodot k')
  · rw [if_neg q] at hl
    obtain ⟨f1, f2⟩ := ch_first (ch_nodot k) (ch_nodot k') hl
    refine ⟨?_, f2, by omega, b4⟩
    rw [← ch_idx k a1 a2, ← ch_idx k' b1 b2]
    congr 1
    exact ByteArray.ext (Array.toList_inj.mp f1.symm)
theorem rp_nodig (k : Int) (s : ByteArray) (r : List UInt8) (a1 : 1 ≤ k) (a2 : k ≤ 12) (hs : s.data.toList = (cn_nm k).data.toList ++ 46 :: r) (h : ¬ ch_isd r) : cb_no s := fun k' o' hm hn => by
  obtain ⟨-, e, -, -⟩ := rp_uniq k s r a1 a2 hs k' o' hm hn
  exact h (by rw [e]; exact ch_dig_range _)
theorem rp_end (k : Int) (s : ByteArray) (r : List UInt8) (a1 : 1 ≤ k) (a2 : k ≤ 12) (hs : s.data.toList = (cn_nm k).data.toList ++ 46 :: r) (h : ¬ (cn_may k (ch_dv 0 r : Nat) = true ∧ ch_nm k (ch_dv 0 r : Nat) = s)) : cb_no s := fun k' o' hm hn => by
  obtain ⟨rfl, e, a, b⟩ := rp_uniq k s r a1 a2 hs k' o' hm hn
  refine h ?_
  have : ((ch_dv 0 r : Nat) : Int) = o' := by rw [e, ch_dig_val]; omega
  rw [this]
  exact ⟨hm, hn⟩
theorem rp_dv_step (r : List UInt8) (j : Nat) (x : UInt8) (h : r[j]? = some x) : ch_dv 0 (r.take (j + 1)) = ch_dv 0 (r.take j) * 10 + (x.toNat - 48) := by
  rw [List.take_add_one, h]
  unfold ch_dv
  rw [List.foldl_append]
  rfl
theorem rp_isd_step (r : List UInt8) (j : Nat) (x : UInt8) (h : r[j]? = some x) (hd : ch_isd (r.take j)) (h0 : 48 ≤ x.toNat) (h1 : x.toNat ≤ 57) : ch_isd (r.take (j + 1)) := by
  rw [List.take_add_one, h]
  intro y hy
  rw [List.mem_append] at hy
  rcases hy with hy | hy
  · exact hd y hy
  · simp at hy
    subst hy
    exact ⟨h0, h1⟩
theorem rp_dv_lt (r : List UInt8) (hd : ch_isd r) : ch_dv 0 r < 10 ^ r.length := by
  have key : ∀ (l : List UInt8) (a : Nat), ch_isd l → ch_dv a l + 1 ≤ (a + 1) * 10 ^ l.length := by
    intro l
    induction l with
    | nil => intro a _; simp [ch_dv]
    | cons x l ih =>
      intro a h
      have hx := h x List.mem_cons_self
      have := ih (a * 10 + (x.toNat - 48)) (fun y hy => h y (List.mem_cons_of_mem _ hy))
      have e : ch_dv a (x :: l) = ch_dv (a * 10 + (x.toNat - 48)) l := rfl
      rw [e, List.length_cons, Nat.pow_succ]
      refine Nat.le_trans this ?_
      rw [Nat.mul_comm (10 ^ l.length) 10, ← Nat.mul_assoc]
      exact Nat.mul_le_mul_right _ (by omega)
  have := key r 0 hd
  omega
-- THE WALK
def rp_ok (s : ByteArray) (e : Ending) : Prop := (∃ k o, cn_may k o = true ∧ ch_nm k o = s ∧ e = .returned (.tuple #[.agg #[.int .i64 k, .int .i64 o], .bool true])) ∨ (cb_no s ∧ ∃ k o, e = .returned (.tuple #[.agg #[.int .i64 k, .int .i64 o], .bool false]))
def rp_inv (s : ByteArray) (k : Int) : Prop := 1 ≤ k ∧ k ≤ 13 ∧ ∀ j o, 1 ≤ j → j < k → cn_may j o = true → ch_nm j o ≠ s
theorem rp_next {s : ByteArray} {k : Int} (h : rp_inv s k) (h2 : k ≤ 12) (h3 : ∀ o, cn_may k o = true → ch_nm k o ≠ s) : rp_inv s (k + 1) := by
  obtain ⟨a, b, c⟩ := h
  refine ⟨by omega, by omega, fun j o h1 h2 hm => ?_⟩
  by_cases q : j = k
  · subst q; exact h3 o hm
  · exact c j o h1 (by omega) hm
theorem rp_done {s : ByteArray} {k : Int} (h : rp_inv s k) (h2 : ¬ k ≤ 12) : cb_no s := fun j o hm => by
  obtain ⟨a, b, c⟩ := h
  obtain ⟨d, e, -⟩ := ch_rng hm
  exact c j o d (by omega) hm
theorem rp_three {s : ByteArray} {k : Int} (h : k ≤ 3) (h2 : s ≠ cn_nm k) : ∀ o, cn_may k o = true → ch_nm k o ≠ s := fun o hm => by
  obtain ⟨-, -, -, -, q, -⟩ := ch_rng hm
  have := q h
  subst this
  unfold ch_nm
  rw [if_pos rfl]
  exact fun h => h2 h.symm
theorem rp_tl {a b : ByteArray} (h : a.toList = b.toList) : a = b := by
  apply ByteArray.ext
  apply Array.ext'
  rw [← Lib.toList_data, ← Lib.toList_data]
  exact h
theorem rp_at (s : ByteArray) (n : Nat) (h : n < s.size) : s.data.toList[n]? = some (s[n]'h) := by
  rw [List.getElem?_eq_getElem (by rw [Array.length_toList]; exact h)]
  rfl
theorem rp_b46 {x : UInt8} (h : ((x.toNat : Int) != 46) = false) : x = 46 := by
  have := bne_eq_false_iff_eq.mp h
  apply UInt8.toNat_inj.mp
  show x.toNat = 46
  omega
theorem rp_dv5 (r : List UInt8) (j : Nat) (h : j ≤ 5) (hd : ch_isd (r.take j)) : (↑(ch_dv 0 (r.take j)) : Int) < 100000 := by
  have h1 := rp_dv_lt _ hd
  have h2 : (r.take j).length ≤ 5 := Nat.le_trans (List.length_take_le _ _) h
  have h3 := Nat.pow_le_pow_right (show 0 < 10 by decide) h2
  omega
theorem rp_rx {l r : List UInt8} {m i : Nat} {x : UInt8} (hr : l.drop m = r) (h : m ≤ i) (hx : l[i]? = some x) : r[i - m]? = some x := by
  rw [← hr, List.getElem?_drop, Nat.add_sub_cancel' h]
  exact hx
theorem rp_isx {l r : List UInt8} {m i : Nat} {x : UInt8} (hr : l.drop m = r) (h : m ≤ i) (hx : l[i]? = some x) (hd : ch_isd r) : 48 ≤ x.toNat ∧ x.toNat ≤ 57 :=
  hd x (List.mem_of_getElem? (rp_rx hr h hx))
theorem rp_sub {m i : Nat} (h : m ≤ i) : i + 1 - m = i - m + 1 := by omega
theorem rp_fin (k : Int) (s : ByteArray) (r : List UInt8) (dv : Nat) (a1 : 1 ≤ k) (a2 : k ≤ 12) (hs : s.data.toList = (cn_nm k).data.toList ++ 46 :: r) (hd : ch_dv 0 r = dv) (hm : cn_may k ↑dv = true) : rp_ok s (.returned (.tuple #[.agg #[.int .i64 k, .int .i64 ↑dv], .bool ((ch_nm k ↑dv).toList == s.toList)])) := by
  subst hd
  by_cases c : ch_nm k ↑(ch_dv 0 r) = s
  · refine Or.inl ⟨k, ↑(ch_dv 0 r), hm, c, ?_⟩
    rw [c, show (s.toList == s.toList) = true from beq_self_eq_true _]
  · refine Or.inr ⟨rp_end k s r a1 a2 hs (fun h => c h.2), k, ↑(ch_dv 0 r), ?_⟩
    rw [show ((ch_nm k ↑(ch_dv 0 r)).toList == s.toList) = false from beq_eq_false_iff_ne.mpr (fun h => c (rp_tl h))]
theorem rp_may3 {k : Int} (h0 : 1 ≤ k) (h1 : k ≤ 3) : cn_may k 0 = true := by
  unfold cn_may
  rw [decide_eq_true h0, decide_eq_true (show k ≤ 12 by omega), if_pos h1]
  rfl
set_option maxHeartbeats 2000000 in
set_option maxRecDepth 100000 in
theorem rp_walk (s : ByteArray) (w : World) (hs : s.size ≤ 1000) : Calls Tryd.prog 9 #[.string s] w fun e w' => rp_ok s e ∧ Below w.heap.size w w' := by
  go_enter Tryd.func9, Tryd.ntmps9
  go_wp2_with fail
  refine (ca_names _).mono ?_
  rintro e w1 ⟨rfl, hw1⟩
  have E1 := Aside0.mk (fun k => ca_elem (w.alloc (.cells #[.int .i64 0, .int .i64 0] 24)) w1 k (by rw [hw1]; exact Below.refl _ _))
  have B1 := Aside0.mk (show Below w.heap.size w w1 by rw [hw1]; exact below_alloc (below_alloc (Below.refl _ _) _) _)
  have G1 := Aside0.mk (show w1.heap[w.heap.size]? = some (.cells #[.int .i64 0, .int .i64 0] 24 (0, 0)) by rw [hw1]; exact blk_alloc (blk_new w _) _)
  have Z : (w.alloc (.cells #[.int .i64 0, .int .i64 0] 24)).heap.size = w.heap.size + 1 := Array.size_push _
  clear hw1
  rw [Z] at E1
  clear Z
  go_wp2_with fail
  generalize hgen : (w.heap.size + 1) = nb at E1 ⊢
  clear hgen
  go_loopw [5] (fun v5 wr => ∃ k : Int, v5 = .int .i64 k ∧ Aside0 (rp_inv s k) ∧ wr = w1) (fun v5 _ => (13 - intOf v5).toNat)
  case atStart => exact ⟨1, rfl, ⟨by omega, by omega, fun j o h1 h2 => absurd h1 (by omega)⟩, rfl⟩
  case round =>
    obtain ⟨k, rfl, HK, rfl⟩ := hrel
    have k1 := HK.out.1
    have q0 := (blk_cell G1.out 0).trans rfl
    have q1 := (blk_cell G1.out 1).trans rfl
    have f0 := blk_frozen G1.out 0
    have f1 := blk_frozen G1.out 1
    by_cases k12 : k ≤ 12
    · have k12b : decide (k ≤ 12) = true := decide_eq_true k12
      have el := E1.out k k1 k12
      have kw : IntKind.i64.wrap (k - 1) = k - 1 := IntWalk.i64_in _ (by omega)
      have hk0 : (0 ≤ k - 1) = True := eq_true (by omega)
      have hk1 : (k - 1 < 12) = True := eq_true (by omega)
      have hk0b : decide (0 ≤ k - 1) = true := decide_eq_true (by omega)
      have hk1b : decide (k - 1 < 12) = true := decide_eq_true (by omega)
      have zk := cn_size k
      by_cases k3 : k ≤ 3
      · have k3b : decide (k ≤ 3) = true := decide_eq_true k3
        by_cases c : s = cn_nm k
        · have c := Aside0.mk c
          have cl : (s.toList == (cn_nm k).toList) = true := by rw [c.out]; exact beq_self_eq_true _
          go_wp2
          generalize hW : ((wr.setCell ⟨w.heap.size, 0, none⟩ _).setCell ⟨w.heap.size, 1, none⟩ _) = W6
          obtain ⟨g0, g1, B⟩ := cp_fin G1.out B1.out (Nat.le_refl _) _ _ W6 hW.symm
          exact bodyPost_ret (v := .tuple #[.agg #[.int .i64 k, .int .i64 0], .bool true]) (by simp [results, Tryd.results9, go_sem, g0, g1]) rfl ⟨Or.inl ⟨k, 0, rp_may3 HK.out.1 k3, by rw [c.out]; unfold ch_nm; rw [if_pos rfl], rfl⟩, B⟩
        · have c := Aside0.mk c
          have cl : (s.toList == (cn_nm k).toList) = false := beq_eq_false_iff_ne.mpr (fun h => c.out (rp_tl h))
          have cn : (s.toList != (cn_nm k).toList) = true := bne_iff_ne.mpr (fun h => c.out (rp_tl h))
          go_wp2
          go_roundw
          case measure => simp [intOf]; omega
          case rel => exact ⟨k + 1, rfl, ⟨rp_next HK.out k12 (rp_three k3 c.out)⟩, trivial⟩
      · have k3b : decide (k ≤ 3) = false := decide_eq_false k3
        have k4 : 4 ≤ k := by omega
        by_cases c1 : s.size ≤ (cn_nm k).size + 1
        · go_wp2
          go_roundw
          case measure => simp [intOf]; omega
          case rel => exact ⟨k + 1, rfl, ⟨rp_next HK.out k12 (rp_cont k s k4 (Or.inl c1))⟩, trivial⟩

        · by_cases c2 : (cn_nm k).size + 6 < s.size
          · go_wp2
            go_roundw
            case measure => simp [intOf]; omega
            case rel => exact ⟨k + 1, rfl, ⟨rp_next HK.out k12 (rp_cont k s k4 (Or.inr (Or.inl c2)))⟩, trivial⟩

          · have s1 : (0 : Int) ≤ ↑(cn_nm k).size := by omega
            have s2 : (↑(cn_nm k).size : Int) ≤ ↑s.size := by omega
            have s3 : (cn_nm k).size < s.size := by omega
            go_wp2
            rotate_left
            rotate_left
            · rename_i h
              refine ⟨⟨k + 1, rfl, ⟨rp_next HK.out k12 (rp_cont k s k4 (Or.inr (Or.inr (Or.inl (fun q => h (by rw [q]))))))⟩, trivial⟩, ?_⟩
              simp [intOf]
              omega
            · rename_i h
              refine ⟨⟨k + 1, rfl, ⟨rp_next HK.out k12 (rp_cont k s k4 (Or.inr (Or.inr (Or.inr ?_))))⟩, trivial⟩, ?_⟩
              · rcases h with (h | h) | h
                · omega
                · omega
                · rw [rp_at s _ s3]
                  intro q
                  rw [Option.some.inj q] at h
                  exact absurd h (by decide)
              · simp [intOf]
                omega
            rename_i g1 g2 g3 g4 KK aa
            have g5 : s[(cn_nm k).size]'s3 = 46 := rp_b46 g4.2
            have HP := Aside0.mk (rp_pre k s (by omega) (rp_tl g3) (by rw [rp_at s _ s3, g5]))
            have hl : (s.data.toList.drop ((cn_nm k).size + 1)).length = s.size - ((cn_nm k).size + 1) := by rw [List.length_drop, Array.length_toList]; rfl
            obtain ⟨r, hr⟩ : ∃ r, s.data.toList.drop ((cn_nm k).size + 1) = r := ⟨_, rfl⟩
            have HR := Aside0.mk hr
            rw [hr] at HP hl
            clear g3 g4 g5 hr
            go_loopw [7, 8] (fun v7 v8 wr' => ∃ i : Nat, v8 = .int .i64 ↑i ∧ v7 = .int .i64 ↑(ch_dv 0 (r.take (i - ((cn_nm k).size + 1)))) ∧ Aside0 ((cn_nm k).size + 1 ≤ i ∧ i ≤ s.size ∧ ch_isd (r.take (i - ((cn_nm k).size + 1)))) ∧ wr' = wr) (fun _ v8 _ => (s.size - intOf v8).toNat)
            case atStart => exact ⟨(cn_nm k).size + 1, rfl, by rw [Nat.sub_self]; rfl, ⟨Nat.le_refl _, by omega, by rw [Nat.sub_self]; intro x hx; cases hx⟩, rfl⟩
            case round =>
              obtain ⟨i, rfl, rfl, HI, rfl⟩ := hrel
              have i0 : (0 : Int) ≤ ↑i := by omega
              have n0 : (0 : Int) ≤ ↑(ch_dv 0 (r.take (i - ((cn_nm k).size + 1)))) := by omega
              have nb5 := rp_dv5 r (i - ((cn_nm k).size + 1)) (by have := HI.out.2.1; omega) HI.out.2.2
              obtain ⟨dv, hdv⟩ : ∃ dv, ch_dv 0 (r.take (i - ((cn_nm k).size + 1))) = dv := ⟨_, rfl⟩
              have HD := Aside0.mk hdv
              rw [hdv] at n0 nb5 ⊢
              clear hdv
              by_cases ci : i < s.size
              · have ci2 : (↑i : Int) < ↑s.size := by omega
                obtain ⟨x, hx⟩ : ∃ x, s[i]'ci = x := ⟨_, rfl⟩
                have HX := Aside0.mk ((rp_at s i ci).trans (congrArg some hx))
                have x8 : x.toNat < 256 := x.toNat_lt
                by_cases x1 : x.toNat < 48
                · have x1b : decide ((↑x.toNat : Int) < 48) = true := decide_eq_true (by omega)
                  go_wp2
                  generalize hW : ((wr.setCell ⟨w.heap.size, 0, none⟩ _).setCell ⟨w.heap.size, 1, none⟩ _) = W6
                  obtain ⟨g0, g1, B⟩ := cp_fin G1.out B1.out (Nat.le_refl _) _ _ W6 hW.symm
                  exact bodyPost_ret (v := .tuple #[.agg #[.int .i64 0, .int .i64 0], .bool false]) (by simp [results, Tryd.results9, go_sem, g0, g1]) rfl ⟨Or.inr ⟨rp_nodig k s r k1 k12 HP.out (fun hd => by have := rp_isx HR.out HI.out.1 HX.out hd; omega), 0, 0, rfl⟩, B⟩
                · by_cases x2 : 57 < x.toNat
                  · have x1b : decide ((↑x.toNat : Int) < 48) = false := decide_eq_false (by omega)
                    have x2b : decide ((57 : Int) < ↑x.toNat) = true := decide_eq_true (by omega)
                    go_wp2
                    generalize hW : ((wr.setCell ⟨w.heap.size, 0, none⟩ _).setCell ⟨w.heap.size, 1, none⟩ _) = W6
                    obtain ⟨g0, g1, B⟩ := cp_fin G1.out B1.out (Nat.le_refl _) _ _ W6 hW.symm
                    exact bodyPost_ret (v := .tuple #[.agg #[.int .i64 0, .int .i64 0], .bool false]) (by simp [results, Tryd.results9, go_sem, g0, g1]) rfl ⟨Or.inr ⟨rp_nodig k s r k1 k12 HP.out (fun hd => by have := rp_isx HR.out HI.out.1 HX.out hd; omega), 0, 0, rfl⟩, B⟩
                  · have x1b : decide ((↑x.toNat : Int) < 48) = false := decide_eq_false (by omega)
                    have x2b : decide ((57 : Int) < ↑x.toNat) = false := decide_eq_false (by omega)
                    go_wp2
                    have q := rp_rx HR.out HI.out.1 HX.out
                    have e := rp_sub HI.out.1
                    have y1 := HI.out.1
                    refine ⟨⟨i + 1, rfl, ?_, ⟨by omega, by omega, ?_⟩, trivial⟩, ?_⟩
                    · rw [e, rp_dv_step r _ x q, HD.out]
                      congr 1
                      omega
                    · rw [e]
                      exact rp_isd_step r _ x q HI.out.2.2 (by omega) (by omega)
                    · simp [intOf]
                      omega
              · have ci2 : ¬ (↑i : Int) < ↑s.size := by omega
                have hi : i = s.size := by have := HI.out.2.1; omega
                have HV : Aside0 (ch_dv 0 r = dv ∧ ch_isd r) := ⟨by have h1 := HD.out; have h2 := HI.out.2.2; rw [hi, ← hl, List.take_length] at h1 h2; exact ⟨h1, h2⟩⟩
                clear hi
                have MAY := Aside0.mk (fun W => ca_may k ↑dv W)
                go_wp2_with fail
                refine (MAY.out _).mono ?_
                rintro e w2 ⟨rfl, hb2⟩
                have A2 := Aside0.mk (blk_below (blk_new wr (.cells #[.int .i64 k, .int .i64 ↑dv] 24)) hb2)
                have G2 := Aside0.mk (blk_below (blk_alloc G1.out (.cells #[.int .i64 k, .int .i64 ↑dv] 24)) hb2)
                have B2 := Aside0.mk (below_step (below_alloc B1.out (.cells #[.int .i64 k, .int .i64 ↑dv] 24)) hb2)
                have hlt : w.heap.size < wr.heap.size := (Array.getElem?_eq_some_iff.1 G1.out).1
                clear hb2 q0 q1 f0 f1 el E1 G1 B1 MAY
                generalize wr.heap.size = na at A2 hlt ⊢
                generalize hM : cn_may k ↑dv = M
                have HM := Aside0.mk hM
                clear hM
                go_wp2_with fail
                have s0 := (blk_cell A2.out 0).trans rfl
                have s1 := (blk_cell A2.out 1).trans rfl
                refine start_ (n := 10) (S := fun w' => w'.cell? ⟨na, 0, none⟩ = some (.int .i64 k) ∧ w'.cell? ⟨na, 1, none⟩ = some (.int .i64 ↑dv)) (ds := [8]) #[false, false, false, false, false, false, false, false, false, false] (by kernel_rfl) rfl rfl ⟨s0, s1⟩ (fun hHeld => ?_)
                have Ad := Aside0.mk (blk_drew A2.out)
                have Gd := Aside0.mk (blk_drew G2.out)
                have Bd := Aside0.mk (below_drew1 B2.out)
                generalize w2.drew = wd at hHeld Ad Gd Bd ⊢
                clear s0 s1 A2 G2 B2
                refine take_ (i := 0) (N := some 96) (v := ?_) (a' := ?_) #[true, false, false, false, false, false, false, false, false, false] rfl rfl (by kernel_rfl) (fun _ _ _ h => h) (Or.inl ⟨by rfl, ?_⟩) hHeld ?_ ?_
                rotate_left
                · rintro w' ⟨s0, s1⟩
                  go_simp
                  with_reducible rfl
                rotate_left
                · simp only [Act.put, List.setIfInBounds_toArray, List.set_cons_zero, List.set_cons_succ, i64_w, i32_w]
                  rfl
                refine pure_ (i := 1) (N := some 97) (v := ?_) (a' := ?_) #[true, true, false, false, false, false, false, false, false, false] rfl rfl (by kernel_rfl) (fun _ _ _ h => h) (Or.inl ⟨by rfl, ?_⟩) ?_ ?_
                rotate_left
                · intro w'
                  go_simp
                  with_reducible rfl
                rotate_left
                · simp only [Act.put, List.setIfInBounds_toArray, List.set_cons_zero, List.set_cons_succ, i64_w, i32_w]
                  rfl
                refine pure_ (i := 2) (N := some 98) (v := ?_) (a' := ?_) #[true, true, true, false, false, false, false, false, false, false] rfl rfl (by kernel_rfl) (fun _ _ _ h => h) (Or.inl ⟨by rfl, ?_⟩) ?_ ?_
                rotate_left
                · intro w'
                  go_simp
                  with_reducible rfl
                rotate_left
                · simp only [Act.put, List.setIfInBounds_toArray, List.set_cons_zero, List.set_cons_succ, i64_w, i32_w]
                  rfl
                cases M
                · refine pure_ (i := 3) (N := some 99) (v := undef) (a' := ?_) #[true, true, true, true, false, false, false, false, false, false] rfl rfl (by kernel_rfl) (fun _ _ _ h => h) (Or.inr ⟨by rfl, rfl⟩) ?_ ?_
                  rotate_left
                  · simp only [Act.put, List.setIfInBounds_toArray, List.set_cons_zero, List.set_cons_succ, i64_w, i32_w]
                    rfl
                  refine pure_ (i := 4) (N := some 100) (v := undef) (a' := ?_) #[true, true, true, true, true, false, false, false, false, false] rfl rfl (by kernel_rfl) (fun _ _ _ h => h) (Or.inr ⟨by rfl, rfl⟩) ?_ ?_
                  rotate_left
                  · simp only [Act.put, List.setIfInBounds_toArray, List.set_cons_zero, List.set_cons_succ, i64_w, i32_w]
                    rfl
                  refine pure_ (i := 5) (N := some 101) (v := undef) (a' := ?_) #[true, true, true, true, true, true, false, false, false, false] rfl rfl (by kernel_rfl) (fun _ _ _ h => h) (Or.inr ⟨by rfl, rfl⟩) ?_ ?_
                  rotate_left
                  · simp only [Act.put, List.setIfInBounds_toArray, List.set_cons_zero, List.set_cons_succ, i64_w, i32_w]
                    rfl
                  refine pure_ (i := 6) (N := some 102) (v := undef) (a' := ?_) #[true, true, true, true, true, true, true, false, false, false] rfl rfl (by kernel_rfl) (fun _ _ _ h => h) (Or.inr ⟨by rfl, rfl⟩) ?_ ?_
                  rotate_left
                  · simp only [Act.put, List.setIfInBounds_toArray, List.set_cons_zero, List.set_cons_succ, i64_w, i32_w]
                    rfl
                  refine pure_ (i := 7) (N := some 103) (v := ?_) (a' := ?_) #[true, true, true, true, true, true, true, true, false, false] rfl rfl (by kernel_rfl) (fun _ _ _ h => h) (Or.inl ⟨by rfl, ?_⟩) ?_ ?_
                  rotate_left
                  · intro w'
                    go_simp
                    with_reducible rfl
                  rotate_left
                  · simp only [Act.put, List.setIfInBounds_toArray, List.set_cons_zero, List.set_cons_succ, i64_w, i32_w]
                    rfl
                  have f0 := blk_frozen Gd.out 0
                  have f1 := blk_frozen Gd.out 1
                  have q0 := (blk_cell Gd.out 0).trans rfl
                  have q1 := (blk_cell Gd.out 1).trans rfl
                  refine last_ (i := 8) (N := none) #[true, true, true, true, true, true, true, true, true, false] rfl rfl (by kernel_rfl) (by decide) (fun K hK => ?_)
                  go_simp
                  refine hK.out _ _ ?_
                  clear hK K
                  refine pure_ (i := 9) (N := some 3) (v := ?_) (a' := ?_) #[true, true, true, true, true, true, true, true, true, true] rfl rfl (by kernel_rfl) (fun _ _ _ h => h) (Or.inl ⟨by rfl, ?_⟩) ?_ ?_
                  rotate_left
                  · intro w'
                    go_simp
                    with_reducible rfl
                  rotate_left
                  · simp only [Act.put, List.setIfInBounds_toArray, List.set_cons_zero, List.set_cons_succ, i64_w, i32_w]
                    rfl
                  refine done_ (by kernel_rfl) ?_
                  go_wp2
                  generalize hW : ((wd.setCell ⟨w.heap.size, 0, none⟩ _).setCell ⟨w.heap.size, 1, none⟩ _) = W6
                  obtain ⟨g0, g1, B⟩ := cp_fin Gd.out Bd.out (Nat.le_refl _) _ _ W6 hW.symm
                  exact bodyPost_ret (v := .tuple #[.agg #[.int .i64 k, .int .i64 ↑dv], .bool false]) (by simp [results, Tryd.results9, go_sem, g0, g1]) rfl ⟨Or.inr ⟨rp_end k s r k1 k12 HP.out (fun h => by rw [HV.out.1, HM.out] at h; exact absurd h.1 (by decide)), k, ↑dv, rfl⟩, B⟩
                · have hr := ch_rng HM.out
                  refine take_ (i := 3) (N := some 99) (v := ?_) (a' := ?_) #[true, true, true, true, false, false, false, false, false, false] rfl rfl (by kernel_rfl) (fun _ _ _ h => h) (Or.inl ⟨by rfl, ?_⟩) hHeld ?_ ?_
                  rotate_left
                  · rintro w' ⟨s0, s1⟩
                    go_simp
                    with_reducible rfl
                  rotate_left
                  · simp only [Act.put, List.setIfInBounds_toArray, List.set_cons_zero, List.set_cons_succ, i64_w, i32_w]
                    rfl
                  refine pure_ (i := 5) (N := some 101) (v := ?_) (a' := ?_) #[true, true, true, true, false, true, false, false, false, false] rfl rfl (by kernel_rfl) (fun _ _ _ h => h) (Or.inl ⟨by rfl, ?_⟩) ?_ ?_
                  rotate_left
                  · intro w'
                    go_simp
                    with_reducible rfl
                  rotate_left
                  · simp only [Act.put, List.setIfInBounds_toArray, List.set_cons_zero, List.set_cons_succ, i64_w, i32_w]
                    rfl
                  refine one_ (i := 4) (N := some 100) #[true, true, true, true, true, true, false, false, false, false] rfl rfl (by kernel_rfl) (by decide) (fun K hK => ?_)
                  refine goes_ Tryd.func15 (by kernel_rfl) rfl #[.agg #[.int .i64 k, .int .i64 ↑dv]] (by rfl) rfl rfl (by simp only [List.map_toArray, List.map_cons, List.map_nil]; first | done | rfl) ?_
                  refine (ca_name k ↑dv _ k1 k12 n0 (by omega)).mono ?_
                  rintro e w3 ⟨rfl, hb3⟩
                  refine ⟨_, rfl, ?_⟩
                  have A3 := Aside0.mk (blk_below Ad.out hb3)
                  have G3 := Aside0.mk (blk_below Gd.out hb3)
                  have B3 := Aside0.mk (below_step Bd.out hb3)
                  refine hK.out _ _ ⟨(blk_cell A3.out 0).trans rfl, (blk_cell A3.out 1).trans rfl⟩ (fun hHeld => ?_)
                  clear hK K hb3
                  have hV : (if (↑dv : Int) = 0 then cn_nm k else cn_nm k ++ (⟨#[46]⟩ : ByteArray) ++ (⟨(Lib.decDigits (↑dv : Int).toNat).toArray⟩ : ByteArray)) = ch_nm k ↑dv := rfl
                  rw [hV]
                  clear hV
                  refine norm_ (a' := ?_) ?_ ?_
                  rotate_left
                  · show Act.put _ (some 100) _ = _
                    simp only [Act.put, List.setIfInBounds_toArray, List.set_cons_zero, List.set_cons_succ, i64_w, i32_w]
                    rfl
                  refine pure_ (i := 6) (N := some 102) (v := ?_) (a' := ?_) #[true, true, true, true, true, true, true, false, false, false] rfl rfl (by kernel_rfl) (fun _ _ _ h => h) (Or.inl ⟨by rfl, ?_⟩) ?_ ?_
                  rotate_left
                  · intro w'
                    go_simp
                    with_reducible rfl
                  rotate_left
                  · simp only [Act.put, List.setIfInBounds_toArray, List.set_cons_zero, List.set_cons_succ, i64_w, i32_w]
                    rfl
                  refine pure_ (i := 7) (N := some 103) (v := ?_) (a' := ?_) #[true, true, true, true, true, true, true, true, false, false] rfl rfl (by kernel_rfl) (fun _ _ _ h => h) (Or.inl ⟨by rfl, ?_⟩) ?_ ?_
                  rotate_left
                  · intro w'
                    go_simp
                    with_reducible rfl
                  rotate_left
                  · simp only [Act.put, List.setIfInBounds_toArray, List.set_cons_zero, List.set_cons_succ, i64_w, i32_w]
                    rfl
                  have f0 := blk_frozen G3.out 0
                  have f1 := blk_frozen G3.out 1
                  have q0 := (blk_cell G3.out 0).trans rfl
                  have q1 := (blk_cell G3.out 1).trans rfl
                  refine last_ (i := 8) (N := none) #[true, true, true, true, true, true, true, true, true, false] rfl rfl (by kernel_rfl) (by decide) (fun K hK => ?_)
                  go_simp
                  refine hK.out _ _ ?_
                  clear hK K
                  refine pure_ (i := 9) (N := some 3) (v := ?_) (a' := ?_) #[true, true, true, true, true, true, true, true, true, true] rfl rfl (by kernel_rfl) (fun _ _ _ h => h) (Or.inl ⟨by rfl, ?_⟩) ?_ ?_
                  rotate_left
                  · intro w'
                    go_simp
                    with_reducible rfl
                  rotate_left
                  · simp only [Act.put, List.setIfInBounds_toArray, List.set_cons_zero, List.set_cons_succ, i64_w, i32_w]
                    rfl
                  refine done_ (by kernel_rfl) ?_
                  go_wp2
                  generalize hW : ((w3.setCell ⟨w.heap.size, 0, none⟩ _).setCell ⟨w.heap.size, 1, none⟩ _) = W6
                  obtain ⟨g0, g1, B⟩ := cp_fin G3.out B3.out (Nat.le_refl _) _ _ W6 hW.symm
                  exact bodyPost_ret (v := .tuple #[.agg #[.int .i64 k, .int .i64 ↑dv], .bool ((ch_nm k ↑dv).toList == s.toList)]) (by simp [results, Tryd.results9, go_sem, g0, g1]) rfl ⟨rp_fin k s r dv k1 k12 HP.out HV.out.1 HM.out, B⟩
    · have k12b : decide (k ≤ 12) = false := decide_eq_false k12
      go_wp2
      generalize hW : ((wr.setCell ⟨w.heap.size, 0, none⟩ _).setCell ⟨w.heap.size, 1, none⟩ _) = W6
      obtain ⟨g0, g1, B⟩ := cp_fin G1.out B1.out (Nat.le_refl _) _ _ W6 hW.symm
      exact bodyPost_ret (v := .tuple #[.agg #[.int .i64 0, .int .i64 0], .bool false]) (by simp [results, Tryd.results9, go_sem, g0, g1]) rfl ⟨Or.inr ⟨rp_done HK.out (by omega), 0, 0, rfl⟩, B⟩

end Go.Proofs.YtcdhnglefldalaaDoor.PChartOrder
