import Derived.Test.YtcdhnglefldalaaBE
namespace Go.Proofs.Ytcdhnglefldalaa.PBook
open Go.RowKit Go.Proofs.YtcdhnglefldalaaW.PrintWords Go.Proofs.YtcdhnglefldalaaW.PrintLast Go.Proofs.YtcdhnglefldalaaW.PrintMore
set_option linter.unusedVariables false
set_option linter.unusedSimpArgs false
open Go.Proofs.Ytcdhnglefldalaa.PBookPlays (S32 S34 S40 k32 k34 k40 z32 z34 z40 rd_T34 at_T34 rd_T40 at_T40 errEqI errEqL errEqR errNeI errNeL errNeR trivetlaw10_pick.f trivetlaw10_pick.calls)
open Go.Maps
attribute [local go_sem high] errEqI errNeI errEqL errNeL errEqR errNeR bk_eqs
theorem tot_wf {w : World} {B bb bm : Nat} {ev : Value} {R : List En} (h : Bk w B bb bm ev R) (a : S32) (ha : WA a) : W64 (tot R a) := by
  obtain ⟨N, D, h1, h2, h3⟩ := h.map
  exact h3 a ha ▸ gI_wf h1 a ha
def offs (a : S32) (l : List S34) : List S34 := l.filter (fun x => !decide (x.f0 = a))
theorem offs_adds (a b : S32) (l : List S34) : adds (offs a l) b = if b = a then 0 else adds l b := by
  induction l with
  | nil => unfold offs; simp [adds]
  | cons x t ih =>
    unfold offs at ih ⊢
    rw [List.filter_cons]
    by_cases h : x.f0 = a
    · rw [if_neg (by simp [h]), ih]
      show _ = if b = a then 0 else (if x.f0 = b then x.f1 else 0) + adds t b
      by_cases q : b = a
      · rw [if_pos q, if_pos q]
      · rw [if_neg q, if_neg q, if_neg (fun e => q (by rw [← e, h]))]
        omega
    · rw [if_pos (by simp [h])]
      show (if x.f0 = b then x.f1 else 0) + adds (t.filter _) b = if b = a then 0 else (if x.f0 = b then x.f1 else 0) + adds t b
      rw [ih]
      by_cases q : b = a
      · rw [if_pos q, if_pos q, if_neg (fun e => h (by rw [e, q]))]
        rfl
      · rw [if_neg q, if_neg q]
theorem offs_amts (a : S32) (l : List S34) : (amts l).sum = (amts (offs a l)).sum + adds l a := by
  induction l with
  | nil => rfl
  | cons x t ih =>
    unfold offs at ih ⊢
    rw [List.filter_cons]
    show x.f1 + (amts t).sum = _ + ((if x.f0 = a then x.f1 else 0) + adds t a)
    by_cases h : x.f0 = a
    · rw [if_neg (by simp [h]), if_pos h, ih]
      omega
    · rw [if_pos (by simp [h]), if_neg h, ih]
      show _ = x.f1 + (amts (t.filter _)).sum + _
      omega
theorem all_zero : ∀ (n : Nat) (l : List S34), l.length ≤ n → (∀ a, adds l a = 0) → (amts l).sum = 0 := by
  intro n
  induction n with
  | zero =>
    intro l hl _
    cases l with
    | nil => rfl
    | cons x t => simp at hl
  | succ n ih =>
    intro l hl h
    cases l with
    | nil => rfl
    | cons x t =>
      rw [offs_amts x.f0 (x :: t), h x.f0, Int.add_zero]
      refine ih _ ?_ (fun a => by rw [offs_adds, h a]; simp)
      have e : offs x.f0 (x :: t) = offs x.f0 t := by unfold offs; rw [List.filter_cons, if_neg (by simp)]
      rw [e]
      have := List.length_filter_le (fun y : S34 => !decide (y.f0 = x.f0)) t
      unfold offs
      simp at hl
      omega
theorem sum_over : ∀ (s : List S32), s.Nodup → ∀ l : List S34, (∀ a, a ∉ s → adds l a = 0) → (s.map (adds l)).sum = (amts l).sum := by
  intro s
  induction s with
  | nil => intro _ l h; exact (all_zero l.length l (Nat.le_refl _) (fun a => h a (by simp))).symm
  | cons a s ih =>
    intro hn l h
    obtain ⟨h1, h2⟩ := List.nodup_cons.1 hn
    have e := ih h2 (offs a l) (fun b hb => by
      rw [offs_adds]
      by_cases q : b = a
      · rw [if_pos q]
      · rw [if_neg q]; exact h b (by simp [q, hb]))
    rw [List.map_cons, List.sum_cons, offs_amts a l, ← e]
    have e2 : s.map (adds (offs a l)) = s.map (adds l) := List.map_congr_left (fun b hb => by
      rw [offs_adds, if_neg (fun q : b = a => h1 (by rw [← q]; exact hb))])
    rw [e2]
    omega
theorem tot_flat (R : List En) (a : S32) : tot R a = adds (R.flatMap (·.l)) a := by
  induction R with
  | nil => rfl
  | cons x t ih =>
    rw [List.flatMap_cons, adds_append, ← ih]
    rfl
theorem amts_flat (R : List En) (h : ∀ x ∈ R, (amts x.l).sum = 0) : (amts (R.flatMap (·.l))).sum = 0 := by
  induction R with
  | nil => rfl
  | cons x t ih =>
    rw [List.flatMap_cons]
    have e : amts (x.l ++ t.flatMap (·.l)) = amts x.l ++ amts (t.flatMap (·.l)) := by unfold amts; exact List.map_append
    rw [e, List.sum_append, h x (by simp), ih (fun y hy => h y (by simp [hy]))]
    rfl
theorem adds_wa {l : List S34} (h : WLs l) {a : S32} (ha : ¬ WA a) : adds l a = 0 := by
  induction l with
  | nil => rfl
  | cons x t ih =>
    show (if x.f0 = a then x.f1 else 0) + adds t a = 0
    rw [if_neg (fun q : x.f0 = a => ha (by rw [← q]; exact (h x (by simp)).1)), ih (fun y hy => h y (by simp [hy]))]
    rfl
theorem tl_zero {w : World} {B bb bm : Nat} {ev : Value} {R : List En} {t : List S34} (h : Bk w B bb bm ev R) (ht : Tl (tot R) t) : (amts t).sum = 0 := by
  have hn : (t.map (·.f0)).Nodup := by
    rw [List.nodup_iff_pairwise_ne, List.pairwise_map]
    refine ht.1.imp (fun {x y} q e => ?_)
    rw [lt3_iff] at q
    rw [e] at q
    omega
  have e := sum_over (t.map (·.f0)) hn (R.flatMap (·.l)) (fun a ha => by
    rw [← tot_flat]
    by_cases q : WA a
    · by_cases q2 : tot R a = 0
      · exact q2
      · exact absurd (List.mem_map.2 ⟨(⟨a, tot R a⟩ : S34), (ht.2 (⟨a, tot R a⟩ : S34)).2 ⟨q, rfl, q2⟩, rfl⟩) ha
    · rw [tot_flat]
      refine adds_wa (fun y hy => ?_) q
      obtain ⟨x, hx, hy⟩ := List.mem_flatMap.1 hy
      exact (h.good x hx).1 y hy)
  rw [amts_flat R (fun x hx => (h.good x hx).2.2.1)] at e
  rw [← e, List.map_map]
  have e2 : amts t = t.map (adds (R.flatMap (·.l)) ∘ (·.f0)) := List.map_congr_left (fun x hx => by
    show x.f1 = adds _ x.f0
    rw [← tot_flat]
    exact ((ht.2 x).1 hx).2.1)
  rw [e2]
theorem psum_le {w : World} {B bb bm : Nat} {ev : Value} {R : List En} {t : List S34} (h : Bk w B bb bm ev R) (ht : Tl (tot R) t) (i : Nat) : -(9223372036854775808 * (i : Int)) ≤ (amts (t.take i)).sum ∧ (amts (t.take i)).sum ≤ 9223372036854775808 * (i : Int) := by
  induction i with
  | zero => simp [amts]
  | succ i ih =>
    rw [List.take_add_one]
    cases q : t[i]? with
    | none =>
      simp only [Option.toList_none, List.append_nil]
      omega
    | some x =>
      have e : amts (t.take i ++ [x]) = amts (t.take i) ++ [x.f1] := by unfold amts; simp
      simp only [Option.toList_some]
      rw [e, List.sum_append, List.sum_singleton]
      obtain ⟨a, b, -⟩ := (ht.2 x).1 (List.mem_of_getElem? q)
      have := tot_wf h x.f0 a
      unfold W64 at this
      omega
/-- Reverse of any number. -/
def RevS (R : List En) (n m : Int) (er : Value) (R' : List En) : Prop := ((n < 0 ∨ (R.length : Int) ≤ n) ∧ m = 0 ∧ er = .iface 42 (.int .i64 4) ∧ R' = R) ∨ (∃ (k : Nat) (x : En), n = ↑k ∧ R[k]? = some x ∧ x.d = true ∧ m = 0 ∧ er = .iface 42 (.int .i64 5) ∧ R' = R) ∨ (∃ (k : Nat) (x : En), n = ↑k ∧ R[k]? = some x ∧ x.d = false ∧ Revd R k x m er R')
theorem rev_all {w : World} {B bb bm : Nat} {ev : Value} {R : List En} (h : Bk w B bb bm ev R) (hB : B ≤ w.heap.size) (n : Int) : Calls Try.prog 17 #[.pointer (some ⟨bb, 0, none⟩), .int .i64 n] w fun e w' => ∃ (m : Int) (er : Value) (ev' : Value) (R' : List En), e = .returned (.tuple #[.int .i64 m, er]) ∧ RevS R n m er R' ∧ Bk w' B bb bm ev' R' ∧ Moved w ev ev' ∧ Tn (own bb bm ev) w w' := by
  by_cases p : n < 0 ∨ (R.length : Int) ≤ n
  · refine (bq_none h n p).mono ?_
    rintro e w' ⟨rfl, hb⟩
    exact ⟨0, _, ev, R, rfl, Or.inl ⟨p, rfl, rfl, rfl⟩, h.below hb, fun k hk => Or.inl hk, Tn.of_below hb⟩
  · obtain ⟨k, rfl⟩ : ∃ k : Nat, n = ↑k := ⟨n.toNat, by omega⟩
    obtain ⟨x, hx⟩ : ∃ x, R[k]? = some x := ⟨R[k]'(by omega), List.getElem?_eq_getElem _⟩
    cases hd : x.d with
    | true =>
      refine (bq_twice h k x hx hd).mono ?_
      rintro e w' ⟨rfl, hb⟩
      exact ⟨0, _, ev, R, rfl, Or.inr (Or.inl ⟨k, x, rfl, hx, hd, rfl, rfl, rfl⟩), h.below hb, fun k hk => Or.inl hk, Tn.of_below hb⟩
    | false =>
      refine (rev_any h hB k x hx hd).mono ?_
      rintro e w' ⟨m, er, ev', R', rfl, h1, h2⟩
      exact ⟨m, er, ev', R', rfl, Or.inr (Or.inr ⟨k, x, rfl, hx, hd, h1⟩), h2⟩
theorem psum_six {w : World} {B bb bm : Nat} {ev : Value} {R : List En} {t : List S34} (h : Bk w B bb bm ev R) (ht : Tl (tot R) t) {tl : Nat} (hl : tl ≤ 131072) {j : Nat} (hj : j < tl) : -1208925819614629174706176 ≤ (amts (t.take (j + 1))).sum ∧ (amts (t.take (j + 1))).sum ≤ 1208925819614629174706176 := by
  have h1 := psum_le h ht (j + 1)
  omega
theorem next_of {j tl : Nat} (h : j < tl) (hl : tl ≤ 131072) : wrap64 ((↑j : Int) + 1) = ↑(j + 1) := by
  unfold wrap64
  omega

end Go.Proofs.Ytcdhnglefldalaa.PBook
