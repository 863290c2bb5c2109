import Derived.Test.YtcdhnglefldalaaDoorCPlain
namespace Go.Proofs.YtcdhnglefldalaaDoor.PChartOrder
open Go.RowKit Go.Proofs.YtcdhnglefldalaaDoorW.PrintWords Go.Proofs.YtcdhnglefldalaaDoorW.PrintLast Go.Proofs.YtcdhnglefldalaaDoorW.PrintMore
set_option linter.unusedVariables false
set_option linter.unusedSimpArgs false

theorem cb_name (k o : Int) (w : World) (hT : cl_tab w) : Calls Tryd.prog 10 #[.agg #[.int .i64 k, .int .i64 o]] w fun e' w' => e' = .returned (.tuple #[.string (if cn_may k o = true then ch_nm k o else ⟨#[]⟩), cerr (if cn_may k o = true then none else some 1)]) ∧ Below w.heap.size w w' := by
  by_cases c : cn_may k o = true
  · rw [if_pos c, if_pos c]
    exact cn_calls k o _ w _ none (ch_name c) (fun a b => ca_dsize o a b) ⟨fun a b W2 hb => cl_itoa o W2 (cl_tab_below hT hb) a b⟩
  · rw [if_neg c, if_neg c]
    exact cn_bad k o w (by simpa using c)
theorem cb_size (k o : Int) (h : cn_may k o = true) : (ch_nm k o).size ≤ 1000 := by
  have h1 := cn_size k
  obtain ⟨-, -, a, b, -, -⟩ := ch_rng h
  unfold ch_nm
  by_cases c : o = 0
  · rw [if_pos c]; omega
  · rw [if_neg c, ByteArray.size_append, ByteArray.size_append]
    have h2 := ca_dsize o (by omega) b
    have : (⟨#[46]⟩ : ByteArray).size = 1 := rfl
    omega
def cb_no (s : ByteArray) : Prop := ∀ k o, cn_may k o = true → ch_nm k o ≠ s
theorem cb_parse (s : ByteArray) (hs : s.size ≤ 1000) :
    (∃ k o, cn_may k o = true ∧ ch_nm k o = s ∧ ∀ w, cl_tab w → Calls Tryd.prog 8 #[.string s] w fun e w' => e = .returned (.tuple #[.agg #[.int .i64 k, .int .i64 o], .nilIface]) ∧ Below w.heap.size w w') ∨
    (cb_no s ∧ ∀ w, cl_tab w → Calls Tryd.prog 8 #[.string s] w fun e w' => e = .returned (.tuple #[.agg #[.int .i64 0, .int .i64 0], .iface 31 (.int .i64 2)]) ∧ Below w.heap.size w w') := by
  have CT := fun W => cc_cut s (by omega) W
  have hix : ∀ kd, Lib.idxOfS cn_list kd = Lib.idxOfS cn_list kd := fun _ => rfl
  rcases hd : (Lib.cut s.data.toList [46]).2.2 with _ | _
  · obtain ⟨e1, nd⟩ := ch_cut_miss _ hd
    rw [hd, e1] at CT
    generalize hix : Lib.idxOfS cn_list (⟨s.data.toList.toArray⟩ : ByteArray) = ix
    have es : (⟨s.data.toList.toArray⟩ : ByteArray) = s := ByteArray.ext (by simp)
    rw [es] at hix CT
    by_cases c : (if cn_may ix 0 = true then none else some (1 : Int)) = none ∧ (if cn_may ix 0 = true then ch_nm ix 0 else ⟨#[]⟩) = s
    · refine Or.inl ⟨ix, 0, ?_⟩
      have cm : cn_may ix 0 = true := by
        by_cases q : cn_may ix 0 = true
        · exact q
        · rw [if_neg q] at c; cases c.1
      have c2 := c.2
      rw [if_pos cm] at c2
      exact ⟨cm, c2, fun w hT => cp_nodot s s _ ix 0 _ _ w hix ⟨fun W _ => CT W⟩ ⟨fun W hb => cb_name ix 0 W (cl_tab_below hT hb)⟩ _ ⟨fun _ => rfl, fun h => absurd c h⟩⟩
    · refine Or.inr ⟨fun k o hm hn => ?_, fun w hT => cp_nodot s s _ ix 0 _ _ w hix ⟨fun W _ => CT W⟩ ⟨fun W hb => cb_name ix 0 W (cl_tab_below hT hb)⟩ _ ⟨fun h => absurd h c, fun _ => rfl⟩⟩
      have hl := congrArg (fun x : ByteArray => x.data.toList) hn
      simp only [ch_nm_list] at hl
      by_cases q : o = 0
      · subst q
        have hn2 : cn_nm k = s := by unfold ch_nm at hn; rw [if_pos rfl] at hn; exact hn
        obtain ⟨a1, a2, -, -, -, -⟩ := ch_rng hm
        have : ix = k := by rw [← hix, ← hn2, ch_idx k a1 a2]
        subst this
        exact c ⟨by rw [if_pos hm], by rw [if_pos hm]; exact hn⟩
      · rw [if_neg q] at hl
        exact nd (by rw [← hl]; simp)
  · obtain ⟨e1, nd⟩ := ch_cut_hit _ hd
    rw [hd] at CT
    generalize (Lib.cut s.data.toList [46]).1 = kd at CT e1 nd
    generalize (Lib.cut s.data.toList [46]).2.1 = f at CT e1
    clear hd
    generalize hix : Lib.idxOfS cn_list (⟨kd.toArray⟩ : ByteArray) = ix
    have hof : (⟨f.toArray⟩ : ByteArray).size ≤ 1000 := by
      have : s.data.toList.length = s.size := by rw [Array.length_toList]; rfl
      rw [e1, List.length_append, List.length_cons] at this
      show f.toArray.size ≤ 1000
      simp
      omega
    have split : ∀ k o, cn_may k o = true → ch_nm k o = s → kd = (cn_nm k).data.toList ∧ f = Lib.decDigits o.toNat ∧ ix = k := fun k o hm hn => by
      have hl := congrArg (fun x : ByteArray => x.data.toList) hn
      simp only [ch_nm_list] at hl
      rw [e1] at hl
      by_cases q : o = 0
      · rw [if_pos q] at hl
        exact absurd (by rw [hl]; simp) (ch_nodot k)
      · rw [if_neg q] at hl
        obtain ⟨f1, f2⟩ := ch_first (ch_nodot k) nd hl
        obtain ⟨a1, a2, -, -, -, -⟩ := ch_rng hm
        refine ⟨f1.symm, f2.symm, ?_⟩
        rw [← hix, ← f1]
        exact (congrArg (Lib.idxOfS cn_list) (ByteArray.ext (by simp))).trans (ch_idx k a1 a2)
    by_cases at_ : ∃ v, Lib.atoiAll (⟨f.toArray⟩ : ByteArray).data.toList = .ok v
    · obtain ⟨n, hn⟩ := at_
      have AT := fun W => (Tryd.strconv_Atoi_ok ⟨f.toArray⟩ (by omega) n hn W).mono (R' := fun e w' => e = .returned (.tuple #[.int .i64 n, .nilIface]) ∧ Below W.heap.size W w') (by
        rintro e w' ⟨rfl, hw⟩
        refine ⟨rfl, ?_⟩
        rcases hw with rfl | ⟨t, rfl⟩
        · exact Below.refl _ _
        · exact bytes_below (Below.refl _ _) (Nat.le_refl _) _ t)
      by_cases c : (if cn_may ix n = true then none else some (1 : Int)) = none ∧ (if cn_may ix n = true then ch_nm ix n else ⟨#[]⟩) = s
      · refine Or.inl ⟨ix, n, ?_⟩
        have cm : cn_may ix n = true := by
          by_cases q : cn_may ix n = true
          · exact q
          · rw [if_neg q] at c; cases c.1
        have c2 := c.2
        rw [if_pos cm] at c2
        exact ⟨cm, c2, fun w hT => cp_dot s _ _ ix n _ _ w hix ⟨fun W _ => CT W⟩ ⟨fun W _ => AT W⟩ ⟨fun W hb => cb_name ix n W (cl_tab_below hT hb)⟩ _ ⟨fun _ => rfl, fun h => absurd c h⟩⟩
      · refine Or.inr ⟨fun k o hm hn2 => ?_, fun w hT => cp_dot s _ _ ix n _ _ w hix ⟨fun W _ => CT W⟩ ⟨fun W _ => AT W⟩ ⟨fun W hb => cb_name ix n W (cl_tab_below hT hb)⟩ _ ⟨fun h => absurd h c, fun _ => rfl⟩⟩
        obtain ⟨-, hf, rfl⟩ := split k o hm hn2
        obtain ⟨-, -, a3, a4, -, -⟩ := ch_rng hm
        have hn3 : Lib.atoiAll f = .ok n := hn
        rw [hf, ch_atoi _ (by omega)] at hn3
        have : (o.toNat : Int) = n := Lib.NumEnd.ok.inj hn3
        have : o = n := by omega
        subst this
        exact c ⟨by rw [if_pos hm], by rw [if_pos hm]; exact hn2⟩
    · have hbad : ∀ v, Lib.atoiAll (⟨f.toArray⟩ : ByteArray).data.toList ≠ .ok v := fun v hv => at_ ⟨v, hv⟩
      refine Or.inr ⟨fun k o hm hn2 => ?_, fun w hT => cp_bad s _ ⟨f.toArray⟩ ix 0 ⟨#[]⟩ none w hix ⟨fun W _ => CT W⟩ ⟨fun W hb => ?_⟩⟩
      · obtain ⟨-, hf, -⟩ := split k o hm hn2
        obtain ⟨-, -, a3, a4, -, -⟩ := ch_rng hm
        refine hbad (o.toNat : Int) ?_
        show Lib.atoiAll f = _
        rw [hf, ch_atoi _ (by omega)]
      · obtain ⟨-, ⟨T1, p1, h1⟩, ⟨T2, p2, h2⟩⟩ := cl_tab_below hT hb
        exact Tryd.strconv_Atoi_bad _ (by omega) hbad W T1 T2 p1 p2 h1 h2

end Go.Proofs.YtcdhnglefldalaaDoor.PChartOrder
