/- What an investor gets of any month, in any way, is what the document says, or that it may not be: the law RemitMonths returns true for every input; no condition of its own. -/
import Derived.Test.YtmklhkaaaegmgaaPRemitMonthsx3
namespace Go.Proofs.Ytmklhkaaaegmgaa.Pure
open Go.RowKit Go.Proofs.Ytmklhkaaaegmgaa.PRemitMonths Go.Proofs.YtmklhkaaaegmgaaW.PrintWords Go.Proofs.YtmklhkaaaegmgaaW.PrintLast Go.Proofs.YtmklhkaaaegmgaaW.PrintMore
set_option linter.unusedVariables false
set_option linter.unusedSimpArgs false

theorem w64 (x : Int) (h0 : -9223372036854775808 ≤ x) (h1 : x ≤ 9223372036854775807) : wrap64 x = x := by
  unfold wrap64
  omega
theorem up_f : trivetlaw19_up.f = some true := by decide +kernel
def rmin (x : Int) : Prop := 0 ≤ x ∧ x ≤ 10000000000000
def rmok (way s0 s1 a0 a1 b o : Int) : Prop := (1 ≤ way ∧ way ≤ 3) ∧ rmin s0 ∧ rmin s1 ∧ rmin a0 ∧ rmin a1 ∧ rmin b ∧ rmin o
theorem rm_any_ok (s0 s1 a0 a1 b o : Int) : [s0, s1, a0, a1, b, o].any rm_bad = false ↔ rmin s0 ∧ rmin s1 ∧ rmin a0 ∧ rmin a1 ∧ rmin b ∧ rmin o := by
  simp [rm_bad, rmin]
theorem rm_no (way s0 s1 a0 a1 b o : Int) (h : ¬ rmok way s0 s1 a0 a1 b o) : rm_month way s0 s1 a0 a1 b o = (0, 0, 0, 0, 0, 0, some 1) := by
  unfold rm_month
  rw [if_pos]
  by_cases c : 1 ≤ way ∧ way ≤ 3
  · refine .inr (.inr ?_)
    cases e : [s0, s1, a0, a1, b, o].any rm_bad with
    | true => rfl
    | false => exact absurd ⟨c, (rm_any_ok _ _ _ _ _ _).1 e⟩ h
  · omega
theorem rm_yes (way s0 s1 a0 a1 b o : Int) (h : rmok way s0 s1 a0 a1 b o) : ∃ r1 r2 r3 r4 r5 r6, rm_month way s0 s1 a0 a1 b o = (r1, r2, r3, r4, r5, r6, none) ∧
    ((way = 3 ∧ r1 = a0) ∨ (way ≠ 3 ∧ r1 = s0)) ∧ ((way = 1 ∧ r2 = s1 + b) ∨ (way ≠ 1 ∧ r2 = a1 + b)) ∧
    ((a0 + a1 + b ≤ r1 + r2 ∧ r3 = r1 + r2 - (a0 + a1 + b) ∧ r4 = 0 ∧ r5 = o + (r1 + r2 - (a0 + a1 + b)) ∧ r6 = 0) ∨
      (r1 + r2 < a0 + a1 + b ∧ a0 + a1 + b - (r1 + r2) ≤ o ∧ r3 = 0 ∧ r4 = a0 + a1 + b - (r1 + r2) ∧ r5 = o - (a0 + a1 + b - (r1 + r2)) ∧ r6 = 0) ∨
      (r1 + r2 < a0 + a1 + b ∧ o < a0 + a1 + b - (r1 + r2) ∧ r3 = 0 ∧ r4 = o ∧ r5 = 0 ∧ r6 = a0 + a1 + b - (r1 + r2) - o)) := by
  obtain ⟨hw, hs⟩ := h
  have hn := (rm_any_ok s0 s1 a0 a1 b o).2 hs
  have f1 : (way = 3 ∧ rm_fst way s0 a0 = a0) ∨ (way ≠ 3 ∧ rm_fst way s0 a0 = s0) := by
    unfold rm_fst
    by_cases c : way = 3
    · rw [if_pos c]; exact .inl ⟨c, rfl⟩
    · rw [if_neg c]; exact .inr ⟨c, rfl⟩
  have f2 : (way = 1 ∧ rm_snd way s1 a1 + b = s1 + b) ∨ (way ≠ 1 ∧ rm_snd way s1 a1 + b = a1 + b) := by
    unfold rm_snd
    by_cases c : way = 1
    · rw [if_pos c]; exact .inl ⟨c, rfl⟩
    · rw [if_neg c]; exact .inr ⟨c, rfl⟩
  unfold rm_month
  rw [if_neg (by rw [hn]; simp; omega)]
  by_cases c : a0 + a1 + b ≤ rm_fst way s0 a0 + (rm_snd way s1 a1 + b)
  · rw [if_pos c]
    exact ⟨_, _, _, _, _, _, rfl, f1, f2, .inl ⟨c, rfl, rfl, rfl, rfl⟩⟩
  · rw [if_neg c]
    by_cases d : a0 + a1 + b - (rm_fst way s0 a0 + (rm_snd way s1 a1 + b)) ≤ o
    · rw [if_pos d]
      exact ⟨_, _, _, _, _, _, rfl, f1, f2, .inr (.inl ⟨by omega, d, rfl, rfl, rfl, rfl⟩)⟩
    · rw [if_neg d]
      exact ⟨_, _, _, _, _, _, rfl, f1, f2, .inr (.inr ⟨by omega, by omega, rfl, rfl, rfl, rfl⟩)⟩

theorem RemitMonths : trivetlaw19_RemitMonths.Pure := by
  intro way x y b o _ _ _ _ _
  unfold trivetlaw19_RemitMonths.f remit_Month.f trivetref19_Month.f
  rw [up_f, Option.bind_some, Option.bind_some, Option.bind_some]
  by_cases c : rmok way x.f0 x.f1 y.f0 y.f1 b o
  · obtain ⟨r1, r2, r3, r4, r5, r6, e, -⟩ := rm_yes _ _ _ _ _ _ _ c
    have f : rf_month way x.f0 x.f1 y.f0 y.f1 b o = (r1, r2, r3, r4, r5, r6, true) := by
      unfold rf_month
      rw [e]
      rfl
    rw [e, f]
    simp
  · have f : rf_month way x.f0 x.f1 y.f0 y.f1 b o = (0, 0, 0, 0, 0, 0, false) := by
      unfold rf_month
      rw [rm_no _ _ _ _ _ _ _ c]
      rfl
    rw [rm_no _ _ _ _ _ _ _ c, f]
    rfl

end Go.Proofs.Ytmklhkaaaegmgaa.Pure
