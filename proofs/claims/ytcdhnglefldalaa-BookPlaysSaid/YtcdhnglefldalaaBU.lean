import Derived.Test.YtcdhnglefldalaaBT
namespace Go.Proofs.Ytcdhnglefldalaa.PBook
open Go.RowKit Go.Proofs.YtcdhnglefldalaaW.PrintWords Go.Proofs.YtcdhnglefldalaaW.PrintLast Go.Proofs.YtcdhnglefldalaaW.PrintMore
set_option linter.unusedVariables false
set_option linter.unusedSimpArgs false
open Go.Proofs.Ytcdhnglefldalaa.PBookPlays (S32 S34 S40 k32 k34 k40 z32 z34 z40 rd_T34 at_T34 rd_T40 at_T40 errEqI errEqL errEqR errNeI errNeL errNeR cents_Add.f cents_Add.calls errW errW_none errW_some)
open Go.Maps
attribute [local go_sem high] errEqI errNeI errEqL errNeL errEqR errNeR bk_eqs
/-- What a trial tells: sorted, each account that does not come to 0 once. -/
def Tl (f : S32 → Int) (t : List S34) : Prop := t.Pairwise (fun x y => lt3 x y = true) ∧ ∀ x, x ∈ t ↔ WA x.f0 ∧ x.f1 = f x.f0 ∧ x.f1 ≠ 0
theorem lt3_asymm {x y : S34} (h : lt3 x y = true) : lt3 y x = false := by
  rw [lt3_iff] at h
  rw [← Bool.not_eq_true, lt3_iff]
  omega
theorem sorted_same : ∀ (t u : List S34), t.Pairwise (fun x y => lt3 x y = true) → u.Pairwise (fun x y => lt3 x y = true) → (∀ x, x ∈ t ↔ x ∈ u) → t = u := by
  intro t
  induction t with
  | nil =>
    intro u _ _ h
    cases u with
    | nil => rfl
    | cons y u => exact absurd ((h y).2 List.mem_cons_self) (by simp)
  | cons x t ih =>
    intro u ht hu h
    cases u with
    | nil => exact absurd ((h x).1 List.mem_cons_self) (by simp)
    | cons y u =>
      obtain ⟨h1, h2⟩ := List.pairwise_cons.1 ht
      obtain ⟨h3, h4⟩ := List.pairwise_cons.1 hu
      have e : x = y := by
        rcases List.mem_cons.1 ((h x).1 List.mem_cons_self) with q | q
        · exact q
        · rcases List.mem_cons.1 ((h y).2 List.mem_cons_self) with q2 | q2
          · exact q2.symm
          · have a1 := h3 x q
            have a2 := lt3_asymm (h1 y q2)
            rw [a1] at a2
            cases a2
      subst e
      congr 1
      refine ih u h2 h4 (fun z => ⟨fun hz => ?_, fun hz => ?_⟩)
      · rcases List.mem_cons.1 ((h z).1 (List.mem_cons_of_mem _ hz)) with q | q
        · subst q
          have := h1 z hz
          rw [lt3_swo.irrefl] at this
          cases this
        · exact q
      · rcases List.mem_cons.1 ((h z).2 (List.mem_cons_of_mem _ hz)) with q | q
        · subst q
          have := h3 z hz
          rw [lt3_swo.irrefl] at this
          cases this
        · exact q
theorem Tl.same {f g : S32 → Int} {t u : List S34} (h : Tl f t) (k : Tl g u) (e : ∀ a, WA a → f a = g a) : t = u := by
  refine sorted_same t u h.1 k.1 (fun x => ?_)
  rw [h.2 x, k.2 x]
  constructor
  · rintro ⟨a, b, c⟩
    exact ⟨a, by rw [← e _ a]; exact b, c⟩
  · rintro ⟨a, b, c⟩
    exact ⟨a, by rw [e _ a]; exact b, c⟩
/-- What has been gathered while the map is gone through. -/
def Tr (D : DataW Unit) (left : Lit → Bool) (o : List S34) : Prop := (o.map (·.f0)).Nodup ∧ ∀ x : S34, x ∈ o ↔ WA x.f0 ∧ Go.Maps.has D (ak x.f0) = true ∧ left (ak x.f0) = false ∧ x.f1 = gI D (ak x.f0) ∧ x.f1 ≠ 0
theorem Tr.start (D : DataW Unit) : Tr D (Go.Maps.has D) [] := ⟨List.nodup_nil, fun x => ⟨fun h => (by cases h), fun ⟨_, h1, h2, _⟩ => (by rw [h1] at h2; cases h2)⟩⟩
theorem left_strike {left : Lit → Bool} {a x : S32} (ha : WA a) (hx : WA x) : (left (ak a) && !(ak a).sameKey (ak x)) = (left (ak a) && !decide (a = x)) := by
  congr 2
  by_cases h : a = x
  · subst h
    rw [decide_eq_true rfl]
    unfold ak
    show (keyBytes _ == keyBytes _) = true
    exact beq_self_eq_true _
  · rw [decide_eq_false h]
    have h2 : ¬ ak a = ak x := fun q => h (ak_inj ha hx q)
    unfold ak at h2 ⊢
    show (keyBytes _ == keyBytes _) = false
    exact beq_eq_false_iff_ne.2 (fun q => h2 (by rw [q]))
theorem Tr.skip {D : DataW Unit} {left : Lit → Bool} {o : List S34} (h : Tr D left o) {x : S32} (hw : WA x) (hv : gI D (ak x) = 0) : Tr D (fun z => left z && !z.sameKey (ak x)) o := by
  refine ⟨h.1, fun y => ?_⟩
  rw [h.2 y]
  constructor
  · rintro ⟨a, b, c, d, e⟩
    exact ⟨a, b, (left_strike a hw).trans (by rw [c]; rfl), d, e⟩
  · rintro ⟨a, b, c, d, e⟩
    replace c := (left_strike a hw).symm.trans c
    refine ⟨a, b, ?_, d, e⟩
    by_cases q : y.f0 = x
    · rw [q, hv] at d; exact absurd d e
    · rw [decide_eq_false q] at c; simpa using c
theorem Tr.more {D : DataW Unit} {left : Lit → Bool} {o : List S34} (h : Tr D left o) {x : S32} (hw : WA x) (hl : left (ak x) = true) (hh : Go.Maps.has D (ak x) = true) (hv : gI D (ak x) ≠ 0) : Tr D (fun z => left z && !z.sameKey (ak x)) (o ++ [⟨x, gI D (ak x)⟩]) := by
  refine ⟨?_, fun y => ?_⟩
  · rw [List.map_append, List.nodup_append]
    refine ⟨h.1, by simp, fun a ha b hb => ?_⟩
    simp at hb
    subst hb
    obtain ⟨y, hy, rfl⟩ := List.mem_map.1 ha
    intro q
    have := ((h.2 y).1 hy).2.2.1
    rw [q, hl] at this
    cases this
  · rw [List.mem_append, List.mem_singleton, h.2 y]
    constructor
    · rintro (⟨a, b, c, d, e⟩ | rfl)
      · exact ⟨a, b, (left_strike a hw).trans (by rw [c]; rfl), d, e⟩
      · exact ⟨hw, hh, (left_strike hw hw).trans (by simp), rfl, hv⟩
    · rintro ⟨a, b, c, d, e⟩
      replace c := (left_strike a hw).symm.trans c
      by_cases q : y.f0 = x
      · refine Or.inr ?_
        obtain ⟨y0, y1⟩ := y
        simp only at q d
        subst q
        rw [d]
      · rw [decide_eq_false q] at c
        exact Or.inl ⟨a, b, by simpa using c, d, e⟩
theorem gI_has {D : DataW Unit} (hD : IsMap D) {k : Lit} (h : gI D k ≠ 0) : Go.Maps.has D k = true := by
  cases q : Go.Maps.has D k with
  | true => rfl
  | false =>
    refine absurd ?_ h
    unfold gI
    rw [atKey_of_not_has q]
theorem Tr.done {D : DataW Unit} {left : Lit → Bool} {o t : List S34} {f : S32 → Int} (h : Tr D left o) (hl : ∀ kl, left kl = false) (hD : IsMap D) (hf : ∀ a, WA a → gI D (ak a) = f a) (hp : t.Perm o) (hs : ∀ (i j : Nat) (x y : S34), i < j → t[i]? = some x → t[j]? = some y → lt3 y x = false) : Tl f t := by
  have hn : (t.map (·.f0)).Nodup := (hp.map _).nodup_iff.2 h.1
  refine ⟨?_, fun x => ?_⟩
  · rw [List.pairwise_iff_getElem]
    intro i j hi hj hij
    refine lt3_tri (hs i j _ _ hij (List.getElem?_eq_getElem hi) (List.getElem?_eq_getElem hj)) (fun q => ?_)
    have := List.pairwise_iff_getElem.1 hn i j (by simpa using hi) (by simpa using hj) hij
    simp at this
    exact this q
  · rw [hp.mem_iff, h.2 x]
    constructor
    · rintro ⟨a, b, c, d, e⟩
      exact ⟨a, by rw [← hf _ a]; exact d, e⟩
    · rintro ⟨a, b, c⟩
      rw [← hf _ a] at b
      exact ⟨a, gI_has hD (by rw [← b]; exact c), hl _, b, c⟩
theorem bu_three (w : World) (o1 : Obj) (a b c : Value) (T : TypeId) : ∀ j u, [a, b, c][j]? = some u → ((w.alloc o1).alloc (.cells #[a, b, c] T)).cell? ((⟨w.heap.size + 1, 0, none⟩ : Addr).add j) = some u := by
  intro j u hu
  have e : (w.alloc o1).heap.size = w.heap.size + 1 := Array.size_push _
  match j, hu with
  | 0, hu =>
    rw [ad_add, ← e]
    exact ((blk_cell (blk_new (w.alloc o1) (.cells #[a, b, c] T)) 0).trans rfl).trans hu
  | 1, hu =>
    rw [ad_add, ← e]
    exact ((blk_cell (blk_new (w.alloc o1) (.cells #[a, b, c] T)) 1).trans rfl).trans hu
  | 2, hu =>
    rw [ad_add, ← e]
    exact ((blk_cell (blk_new (w.alloc o1) (.cells #[a, b, c] T)) 2).trans rfl).trans hu
  | k + 3, hu => cases hu

end Go.Proofs.Ytcdhnglefldalaa.PBook
