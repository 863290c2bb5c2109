/- What an investor gets of any month, in any way, is what the document says, or that it may not be: the law RemitMonths returns true for every input; no condition of its own. -/
import Derived.Test.YtmklhkaaaegmgaaPRemitMonthsx3
namespace Go.Proofs.Ytmklhkaaaegmgaa.Pure
open Go.RowKit Go.Proofs.Ytmklhkaaaegmgaa.PRemitMonths Go.Proofs.YtmklhkaaaegmgaaW.PrintWords Go.Proofs.YtmklhkaaaegmgaaW.PrintLast Go.Proofs.YtmklhkaaaegmgaaW.PrintMore
set_option linter.unusedVariables false
set_option linter.unusedSimpArgs false

theorem w64 (x : Int) (h0 : -9223372036854775808 ≤ x) (h1 : x ≤ 9223372036854775807) : wrap64 x = x := by
  unfold wrap64
  omega
theorem up_f : trivetlaw19_up.f = some true := by decide +kernel
def rmin (x : Int) : Prop := 0 ≤ x ∧ x ≤ 10000000000000
def rmok (way s0 s1 a0 a1 b o : Int) : Prop := (1 ≤ way ∧ way ≤ 3) ∧ rmin s0 ∧ rmin s1 ∧ rmin a0 ∧ rmin a1 ∧ rmin b ∧ rmin o
theorem rm_any_ok (s0 s1 a0 a1 b o : Int) : [s0, s1, a0, a1, b, o].any rm_bad = false ↔ rmin s0 ∧ rmin s1 ∧ rmin a0 ∧ rmin a1 ∧ rmin b ∧ rmin o := by
  simp [rm_bad, rmin]
theorem rm_no (way s0 s1 a0 a1 b o : Int) (h : ¬ rmok way s0 s1 a0 a1 b o) : rm_month way s0 s1 a0 a1 b o = (0, 0, 0, 0, 0, 0, some 1) := by
  unfold rm_month
  rw [if_pos]
  by_cases c : 1 ≤ way ∧ way ≤ 3
  · refine .inr (.inr ?_)
    cases e : [s0, s1, a0, a1, b, o].any rm_bad with
    | true => rfl
    | false => exact absurd ⟨c, (rm_any_ok _ _ _ _ _ _).1 e⟩ h
  · omega
theorem rm_yes (way s0 s1 a0 a1 b o : Int) (h : rmok way s0 s1 a0 a1 b o) : ∃ r1 r2 r3 r4 r5 r6, rm_month way s0 s1 a0 a1 b o = (r1, r2, r3, r4, r5, r6, none) ∧
    ((way = 3 ∧ r1 = a0) ∨ (way ≠ 3 ∧ r1 = s0)) ∧ ((way = 1 ∧ r2 = s1 + b) ∨ (way ≠ 1 ∧ r2 = a1 + b)) ∧
    ((a0 + a1 + b ≤ r1 + r2 ∧ r3 = r1 + r2 - (a0 + a1 + b) ∧ r4 = 0 ∧ r5 = o + (r1 + r2 - (a0 + a1 + b)) ∧ r6 = 0) ∨
      (r1 + r2 < a0 + a1 + b ∧ a0 + a1 + b - (r1 + r2) ≤ o ∧ r3 = 0 ∧ r4 = a0 + a1 + b - (r1 + r2) ∧ r5 = o - (a0 + a1 + b - (r1 + r2)) ∧ r6 = 0) ∨
      (r1 + r2 < a0 + a1 + b ∧ o < a0 + a1 + b - (r1 + r2) ∧ r3 = 0 ∧ r4 = o ∧ r5 = 0 ∧ r6 = a0 + a1 + b - (r1 + r2) - o)) := by
  obtain ⟨hw, hs⟩ := h
  have hn := (rm_any_ok s0 s1 a0 a1 b o).2 hs
  have f1 : (way = 3 ∧ rm_fst way s0 a0 = a0) ∨ (way ≠ 3 ∧ rm_fst way s0 a0 = s0) := by
    unfold rm_fst
    by_cases c : way = 3
    · rw [if_pos c]; exact .inl ⟨c, rfl⟩
    · rw [if_neg c]; exact .inr ⟨c, rfl⟩
  have f2 : (way = 1 ∧ rm_snd way s1 a1 + b = s1 + b) ∨ (way ≠ 1 ∧ rm_snd way s1 a1 + b = a1 + b) := by
    unfold rm_snd
    by_cases c : way = 1
    · rw [if_pos c]; exact .inl ⟨c, rfl⟩
    · rw [if_neg c]; exact .inr ⟨c, rfl⟩
  unfold rm_month
  rw [if_neg (by rw [hn]; simp; omega)]
  by_cases c : a0 + a1 + b ≤ rm_fst way s0 a0 + (rm_snd way s1 a1 + b)
  · rw [if_pos c]
    exact ⟨_, _, _, _, _, _, rfl, f1, f2, .inl ⟨c, rfl, rfl, rfl, rfl⟩⟩
  · rw [if_neg c]
    by_cases d : a0 + a1 + b - (rm_fst way s0 a0 + (rm_snd way s1 a1 + b)) ≤ o
    · rw [if_pos d]
      exact ⟨_, _, _, _, _, _, rfl, f1, f2, .inr (.inl ⟨by omega, d, rfl, rfl, rfl, rfl⟩)⟩
    · rw [if_neg d]
      exact ⟨_, _, _, _, _, _, rfl, f1, f2, .inr (.inr ⟨by omega, by omega, rfl, rfl, rfl, rfl⟩)⟩

theorem ref_bad (m : Nat) (way b o i : Int) (l : List Int) (t0 t1 u0 u1 : Int) (h0 : 0 ≤ i) (h1 : i < l.length) (h : ¬ rmin (rd l i)) : trivetref19_Month.l0 (m + 1) way b o l i t0 t1 u0 u1 = some (0, 0, 0, 0, 0, 0, false) := by
  rw [trivetref19_Month.l0, if_pos h1, if_pos h0]
  by_cases c : rd l i < 0
  · rw [if_pos c]
  · rw [if_neg c]
    by_cases d : rd l i > 10000000000000
    · rw [if_pos d]
    · exact absurd ⟨by omega, by omega⟩ h
theorem ref_ok (m : Nat) (way b o i j : Int) (l : List Int) (t0 t1 u0 u1 : Int) (h0 : 0 ≤ i) (h1 : i < l.length) (hj : wrap64 (i + 1) = j) (h : rmin (rd l i)) : trivetref19_Month.l0 (m + 1) way b o l i t0 t1 u0 u1 = trivetref19_Month.l0 m way b o l j t0 t1 u0 u1 := by
  rw [trivetref19_Month.l0, if_pos h1, if_pos h0, if_neg (by have := h.1; omega), if_neg (by have := h.2; omega), hj]
theorem ref_end (m : Nat) (way b o : Int) (l : List Int) (hl : (l.length : Int) = 6) (t0 t1 u0 u1 : Int) : trivetref19_Month.l0 (m + 1) way b o l 6 t0 t1 u0 u1 = (if way = 1 then (trivetref19_Month.j1 m b o u0 u1 t0 (wrap64 (t1 + b)) 0 0 0 0) else (if way = 2 then (trivetref19_Month.j1 m b o u0 u1 t0 (wrap64 (u1 + b)) 0 0 0 0) else (if way = 3 then (trivetref19_Month.j1 m b o u0 u1 u0 (wrap64 (u1 + b)) 0 0 0 0) else (some (0, 0, 0, 0, 0, 0, false))))) := by
  rw [trivetref19_Month.l0, if_neg (by omega)]
theorem ref_j1 (m : Nat) (b o u0 u1 i p : Int) (hb : rmin b) (ho : rmin o) (h0 : rmin u0) (h1 : rmin u1) (hi : rmin i) (hp0 : 0 ≤ p) (hp1 : p ≤ 20000000000000) (r1 r2 r3 r4 r5 r6 : Int) (e1 : r1 = i) (e2 : r2 = p)
    (h : ((u0 + u1 + b ≤ r1 + r2 ∧ r3 = r1 + r2 - (u0 + u1 + b) ∧ r4 = 0 ∧ r5 = o + (r1 + r2 - (u0 + u1 + b)) ∧ r6 = 0) ∨
      (r1 + r2 < u0 + u1 + b ∧ u0 + u1 + b - (r1 + r2) ≤ o ∧ r3 = 0 ∧ r4 = u0 + u1 + b - (r1 + r2) ∧ r5 = o - (u0 + u1 + b - (r1 + r2)) ∧ r6 = 0) ∨
      (r1 + r2 < u0 + u1 + b ∧ o < u0 + u1 + b - (r1 + r2) ∧ r3 = 0 ∧ r4 = o ∧ r5 = 0 ∧ r6 = u0 + u1 + b - (r1 + r2) - o))) :
    trivetref19_Month.j1 (m + 1) b o u0 u1 i p 0 0 0 0 = some (r1, r2, r3, r4, r5, r6, true) := by
  subst e1 e2
  obtain ⟨_, _⟩ := hb
  obtain ⟨_, _⟩ := ho
  obtain ⟨_, _⟩ := h0
  obtain ⟨_, _⟩ := h1
  obtain ⟨_, _⟩ := hi
  rw [trivetref19_Month.j1, w64 (r1 + r2) (by omega) (by omega), w64 (u0 + u1) (by omega) (by omega), w64 (u0 + u1 + b) (by omega) (by omega), w64 (r1 + r2 - (u0 + u1 + b)) (by omega) (by omega), w64 (u0 + u1 + b - (r1 + r2)) (by omega) (by omega),
    w64 (o + (r1 + r2 - (u0 + u1 + b))) (by omega) (by omega), w64 (o - o) (by omega) (by omega), w64 (u0 + u1 + b - (r1 + r2) - o) (by omega) (by omega), w64 (o - (u0 + u1 + b - (r1 + r2))) (by omega) (by omega), w64 (u0 + u1 + b - (r1 + r2) - (u0 + u1 + b - (r1 + r2))) (by omega) (by omega)]
  by_cases c : r1 + r2 > u0 + u1 + b
  · rw [if_pos c]
    simp
    omega
  · rw [if_neg c]
    by_cases d : u0 + u1 + b - (r1 + r2) > o
    · rw [if_pos d]
      simp
      omega
    · rw [if_neg d]
      simp
      omega
theorem ref_f (way s0 s1 a0 a1 b o : Int) :
    (¬ rmok way s0 s1 a0 a1 b o → trivetref19_Month.f 9 way s0 s1 a0 a1 b o = some (0, 0, 0, 0, 0, 0, false)) ∧
    (rmok way s0 s1 a0 a1 b o → ∃ r1 r2 r3 r4 r5 r6, rm_month way s0 s1 a0 a1 b o = (r1, r2, r3, r4, r5, r6, none) ∧ trivetref19_Month.f 9 way s0 s1 a0 a1 b o = some (r1, r2, r3, r4, r5, r6, true)) := by
  have hl : (([s0, s1, a0, a1, b, o] : List Int).length : Int) = 6 := rfl
  have e0 : trivetref19_Month.f 9 way s0 s1 a0 a1 b o = trivetref19_Month.l0 (2 + 1 + 1 + 1 + 1 + 1 + 1 + 1) way b o [s0, s1, a0, a1, b, o] 0 s0 s1 a0 a1 := rfl
  rw [e0]
  by_cases c0 : rmin s0
  swap
  · exact ⟨fun _ => ref_bad _ _ _ _ _ _ _ _ _ _ (by omega) (by omega) c0, fun h => absurd h.2.1 c0⟩
  rw [ref_ok _ _ _ _ 0 1 _ _ _ _ _ (by omega) (by omega) (by decide) c0]
  by_cases c1 : rmin s1
  swap
  · exact ⟨fun _ => ref_bad _ _ _ _ _ _ _ _ _ _ (by omega) (by omega) c1, fun h => absurd h.2.2.1 c1⟩
  rw [ref_ok _ _ _ _ 1 2 _ _ _ _ _ (by omega) (by omega) (by decide) c1]
  by_cases c2 : rmin a0
  swap
  · exact ⟨fun _ => ref_bad _ _ _ _ _ _ _ _ _ _ (by omega) (by omega) c2, fun h => absurd h.2.2.2.1 c2⟩
  rw [ref_ok _ _ _ _ 2 3 _ _ _ _ _ (by omega) (by omega) (by decide) c2]
  by_cases c3 : rmin a1
  swap
  · exact ⟨fun _ => ref_bad _ _ _ _ _ _ _ _ _ _ (by omega) (by omega) c3, fun h => absurd h.2.2.2.2.1 c3⟩
  rw [ref_ok _ _ _ _ 3 4 _ _ _ _ _ (by omega) (by omega) (by decide) c3]
  by_cases c4 : rmin b
  swap
  · exact ⟨fun _ => ref_bad _ _ _ _ _ _ _ _ _ _ (by omega) (by omega) c4, fun h => absurd h.2.2.2.2.2.1 c4⟩
  rw [ref_ok _ _ _ _ 4 5 _ _ _ _ _ (by omega) (by omega) (by decide) c4]
  by_cases c5 : rmin o
  swap
  · exact ⟨fun _ => ref_bad _ _ _ _ _ _ _ _ _ _ (by omega) (by omega) c5, fun h => absurd h.2.2.2.2.2.2 c5⟩
  rw [ref_ok _ _ _ _ 5 6 _ _ _ _ _ (by omega) (by omega) (by decide) c5, ref_end _ _ _ _ _ hl]
  refine ⟨fun h => ?_, fun h => ?_⟩
  · have hw : ¬ (1 ≤ way ∧ way ≤ 3) := fun hw => h ⟨hw, c0, c1, c2, c3, c4, c5⟩
    rw [if_neg (by omega), if_neg (by omega), if_neg (by omega)]
  · obtain ⟨r1, r2, r3, r4, r5, r6, e, f1, f2, f3⟩ := rm_yes _ _ _ _ _ _ _ h
    refine ⟨r1, r2, r3, r4, r5, r6, e, ?_⟩
    obtain ⟨⟨_, _⟩, _⟩ := h
    have x1 := c1.1
    have x2 := c1.2
    have x3 := c3.1
    have x4 := c3.2
    have x5 := c4.1
    have x6 := c4.2
    by_cases w1 : way = 1
    · rw [if_pos w1, w64 (s1 + b) (by omega) (by omega)]
      exact ref_j1 _ _ _ _ _ _ _ c4 c5 c2 c3 c0 (by omega) (by omega) _ _ _ _ _ _ (by omega) (by omega) f3
    rw [if_neg w1]
    by_cases w2 : way = 2
    · rw [if_pos w2, w64 (a1 + b) (by omega) (by omega)]
      exact ref_j1 _ _ _ _ _ _ _ c4 c5 c2 c3 c0 (by omega) (by omega) _ _ _ _ _ _ (by omega) (by omega) f3
    rw [if_neg w2, if_pos (by omega), w64 (a1 + b) (by omega) (by omega)]
    exact ref_j1 _ _ _ _ _ _ _ c4 c5 c2 c3 c2 (by omega) (by omega) _ _ _ _ _ _ (by omega) (by omega) f3

theorem RemitMonths : trivetlaw19_RemitMonths.Pure := by
  intro way x y b o _ _ _ _ _
  refine ⟨9, ?_⟩
  unfold trivetlaw19_RemitMonths.f remit_Month.f
  rw [up_f, Option.bind_some, Option.bind_some]
  obtain ⟨h1, h2⟩ := ref_f way x.f0 x.f1 y.f0 y.f1 b o
  by_cases c : rmok way x.f0 x.f1 y.f0 y.f1 b o
  · obtain ⟨r1, r2, r3, r4, r5, r6, e, f⟩ := h2 c
    rw [e, f]
    simp
  · rw [h1 c, rm_no _ _ _ _ _ _ _ c]
    rfl

end Go.Proofs.Ytmklhkaaaegmgaa.Pure
