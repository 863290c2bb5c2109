/- Instalments are due on firsts of months, one behind the other: the law TermsDays returns true for every input; no condition of its own. -/
import Derived.Test.YtbechikaaiinlaaPTermsDaysx5
namespace Go.Proofs.Ytbechikaaiinlaa.Pure
open Go.RowKit Go.Proofs.Ytbechikaaiinlaa.PTermsDays Go.Proofs.YtbechikaaiinlaaW.PrintWords Go.Proofs.YtbechikaaiinlaaW.PrintLast Go.Proofs.YtbechikaaiinlaaW.PrintMore
set_option linter.unusedVariables false
set_option linter.unusedSimpArgs false

theorem w64 (x : Int) (h0 : -9223372036854775808 ≤ x) (h1 : x ≤ 9223372036854775807) : wrap64 x = x := by
  unfold wrap64
  omega
def lp (y : Int) : Prop := y % 4 = 0 ∧ y % 100 ≠ 0 ∨ y % 400 = 0
instance (y : Int) : Decidable (lp y) := by unfold lp; infer_instance
/-- How many days a month has. -/
def dim (y m : Int) : Int := if y < 1900 ∨ 2199 < y ∨ m < 1 ∨ 12 < m then 0 else if m = 2 then (if lp y then 29 else 28) else if m = 4 ∨ m = 6 ∨ m = 9 ∨ m = 11 then 30 else 31
theorem dim_out (y m : Int) (h : y < 1900 ∨ 2199 < y ∨ m < 1 ∨ 12 < m) : dim y m = 0 := by unfold dim; rw [if_pos h]
theorem dim_in (y m : Int) (h : ¬ (y < 1900 ∨ 2199 < y ∨ m < 1 ∨ 12 < m)) : dim y m = if m = 2 then (if lp y then 29 else 28) else if m = 4 ∨ m = 6 ∨ m = 9 ∨ m = 11 then 30 else 31 := by unfold dim; rw [if_neg h]
theorem leap_f (y : Int) (h : 0 ≤ y) : date_leap.f y = some (decide (lp y)) := by
  unfold date_leap.f lp
  rw [Int.tmod_eq_emod_of_nonneg h, Int.tmod_eq_emod_of_nonneg h, Int.tmod_eq_emod_of_nonneg h]
  by_cases h1 : y % 4 = 0
  · rw [if_pos h1]
    by_cases h2 : y % 100 = 0
    · rw [if_pos h2]; simp [h1, h2]; rw [Bool.eq_iff_iff]; simp
    · rw [if_neg h2]; simp [h1, h2]
  · rw [if_neg h1]; simp [h1]; rw [Bool.eq_iff_iff]; simp
theorem days_f (y m : Int) : date_Days.f y m = some (dim y m) := by
  unfold date_Days.f
  by_cases h1 : y < 1900
  · rw [if_pos h1, dim_out y m (.inl h1)]
  rw [if_neg h1]
  by_cases h2 : y > 2199
  · rw [if_pos h2, dim_out y m (by omega)]
  rw [if_neg h2]
  by_cases h3 : m < 1
  · rw [if_pos h3, dim_out y m (by omega)]
  rw [if_neg h3]
  by_cases h4 : m > 12
  · rw [if_pos h4, dim_out y m (by omega)]
  rw [if_neg h4, dim_in y m (by omega)]
  by_cases h5 : m = 2
  · rw [if_pos h5, if_pos h5, leap_f y (by omega)]
    simp
  · rw [if_neg h5, if_neg h5]
    unfold date_tab
    rw [if_neg h5]
theorem may_f (y m d : Int) : date_May.f y m d = some (decide (1 ≤ d ∧ d ≤ dim y m)) := by
  unfold date_May.f
  rw [days_f]
  by_cases h : d ≥ 1
  · rw [if_pos h]
    simp; intro; omega
  · rw [if_neg h, decide_eq_false (by omega)]

theorem ref_days (y m : Int) (k : Nat) (hk : 5 ≤ k) : trivetref04_Days.f k y m = some (dim y m) := by
  obtain ⟨k, rfl⟩ : ∃ n, k = n + 2 := ⟨k - 2, by omega⟩
  have j1 : ∀ b, trivetref04_Days.j1 (k + 1) b = some (if b = true then 29 else 28) := by
    intro b
    cases b <;> simp [trivetref04_Days.j1]
  have no : (y < 1900 ∨ 2199 < y ∨ m < 1 ∨ 12 < m) → trivetref04_Days.j0 (k + 2) y m true = some (dim y m) := by
    intro h
    rw [dim_out y m h]
    simp [trivetref04_Days.j0]
  unfold trivetref04_Days.f
  by_cases h1 : y < 1900
  · rw [if_pos h1]; exact no (.inl h1)
  rw [if_neg h1]
  by_cases h2 : y > 2199
  · rw [if_pos h2]; exact no (by omega)
  rw [if_neg h2]
  by_cases h3 : m < 1
  · rw [if_pos h3]; exact no (by omega)
  rw [if_neg h3]
  by_cases h4 : m > 12
  · rw [decide_eq_true h4]; exact no (by omega)
  rw [decide_eq_false h4]
  rw [dim_in y m (by omega), trivetref04_Days.j0, if_neg (by simp)]
  by_cases h5 : m = 2
  · rw [if_pos h5, if_pos h5]
    rw [Int.tmod_eq_emod_of_nonneg (by omega), Int.tmod_eq_emod_of_nonneg (by omega), Int.tmod_eq_emod_of_nonneg (by omega)]
    by_cases g1 : y % 400 = 0
    · have : lp y := .inr g1
      simp [g1, j1, this]
    by_cases g2 : y % 4 = 0
    · by_cases g3 : y % 100 = 0
      · have : ¬ lp y := by unfold lp; omega
        simp [g1, g2, g3, j1, this]
      · have : lp y := .inl ⟨g2, g3⟩
        simp [g1, g2, g3, j1, this]
    · have : ¬ lp y := by unfold lp; omega
      simp [g1, g2, j1, this]
  · rw [if_neg h5, if_neg h5]
    by_cases g1 : m = 4
    · simp [g1]
    by_cases g2 : m = 6
    · simp [g2]
    by_cases g3 : m = 9
    · simp [g3]
    by_cases g4 : m = 11
    · simp [g4]
    simp [g1, g2, g3, g4]

/-- A day's number, in one formula. -/
def numP (y m d : Int) : Int := 365 * y + y / 4 - y / 100 + y / 400 + (153 * (m - 3) + 2) / 5 + d - 719469
def num (y m d : Int) : Int := if m ≤ 2 then numP (y - 1) (m + 12) d else numP y m d
theorem civil_f (y m d : Int) (hy0 : 1800 ≤ y) (hy1 : y ≤ 2300) (hm0 : 1 ≤ m) (hm1 : m ≤ 12) (hd0 : 0 ≤ d) (hd1 : d ≤ 1000) : date_civil.f y m d = some (num y m d) := by
  have key : ∀ a b : Int, 1799 ≤ a → a ≤ 2300 → 3 ≤ b → b ≤ 14 → (wrap64 ((wrap64 ((wrap64 ((wrap64 ((wrap64 ((wrap64 ((wrap64 ((wrap64 ((wrap64 (Int.tdiv a 400)) * 146097)) + (wrap64 ((Int.tmod a 400) * 365)))) + (wrap64 (Int.tdiv (Int.tmod a 400) 4)))) - (wrap64 (Int.tdiv (Int.tmod a 400) 100)))) + (wrap64 (Int.tdiv (wrap64 ((wrap64 (153 * (wrap64 (b - 3)))) + 2)) 5)))) + d)) - 1)) - 719468)) = numP a b d := by
    intro a b ha0 ha1 hb0 hb1
    rw [Int.tdiv_eq_ediv_of_nonneg (show 0 ≤ a by omega), Int.tmod_eq_emod_of_nonneg (show 0 ≤ a by omega), Int.tdiv_eq_ediv_of_nonneg (show 0 ≤ a % 400 by omega), Int.tdiv_eq_ediv_of_nonneg (show 0 ≤ a % 400 by omega)]
    rw [w64 (b - 3) (by omega) (by omega), w64 (153 * (b - 3)) (by omega) (by omega), w64 (153 * (b - 3) + 2) (by omega) (by omega), Int.tdiv_eq_ediv_of_nonneg (show 0 ≤ 153 * (b - 3) + 2 by omega)]
    have c0 : 0 ≤ (153 * (b - 3) + 2) / 5 ∧ (153 * (b - 3) + 2) / 5 ≤ 400 := by omega
    rw [w64 ((153 * (b - 3) + 2) / 5) (by omega) (by omega)]
    have g : 0 ≤ a / 400 ∧ a / 400 ≤ 6 := by omega
    have r : 0 ≤ a % 400 ∧ a % 400 ≤ 399 := by omega
    have r4 : 0 ≤ a % 400 / 4 ∧ a % 400 / 4 ≤ 99 := by omega
    have r100 : 0 ≤ a % 400 / 100 ∧ a % 400 / 100 ≤ 3 := by omega
    unfold numP
    generalize hc : (153 * (b - 3) + 2) / 5 = c at *
    generalize hg : a / 400 = q at *
    generalize hr : a % 400 = s at *
    rw [w64 q (by omega) (by omega), w64 (q * 146097) (by omega) (by omega), w64 (s * 365) (by omega) (by omega), w64 (q * 146097 + s * 365) (by omega) (by omega), w64 (s / 4) (by omega) (by omega), w64 (s / 100) (by omega) (by omega)]
    rw [w64 (q * 146097 + s * 365 + s / 4) (by omega) (by omega), w64 (q * 146097 + s * 365 + s / 4 - s / 100) (by omega) (by omega), w64 (q * 146097 + s * 365 + s / 4 - s / 100 + c) (by omega) (by omega), w64 (q * 146097 + s * 365 + s / 4 - s / 100 + c + d) (by omega) (by omega), w64 (q * 146097 + s * 365 + s / 4 - s / 100 + c + d - 1) (by omega) (by omega), w64 (q * 146097 + s * 365 + s / 4 - s / 100 + c + d - 1 - 719468) (by omega) (by omega)]
    have e1 : a = 400 * q + s := by omega
    subst e1
    omega
  unfold date_civil.f num
  by_cases h : m ≤ 2
  · rw [if_pos h, if_pos h, w64 (y - 1) (by omega) (by omega), w64 (m + 12) (by omega) (by omega), key (y - 1) (m + 12) (by omega) (by omega) (by omega) (by omega)]
  · rw [if_neg h, if_neg h, key y m (by omega) (by omega) (by omega) (by omega)]
theorem num_month (y m : Int) (hy0 : 1900 ≤ y) (hy1 : y ≤ 2199) (hm0 : 1 ≤ m) (hm1 : m ≤ 11) : num y (m + 1) 1 = num y m 1 + dim y m := by
  rw [dim_in y m (by omega)]
  have hm : m = 1 ∨ m = 2 ∨ m = 3 ∨ m = 4 ∨ m = 5 ∨ m = 6 ∨ m = 7 ∨ m = 8 ∨ m = 9 ∨ m = 10 ∨ m = 11 := by omega
  rcases hm with rfl | rfl | rfl | rfl | rfl | rfl | rfl | rfl | rfl | rfl | rfl
  · simp [num, numP]; omega
  · by_cases h : lp y
    · simp only [if_pos h, if_true]; unfold lp at h; simp [num, numP]; omega
    · simp only [if_neg h, if_true]; unfold lp at h; simp [num, numP]; omega
  all_goals (simp [num, numP]; try omega)
theorem num_year (y : Int) (hy0 : 1900 ≤ y) (hy1 : y ≤ 2199) : num (y + 1) 1 1 = num y 1 1 + (337 + dim y 2) := by
  rw [dim_in y 2 (by omega)]
  by_cases h : lp y
  · simp only [if_pos h, if_true]; unfold lp at h; simp [num, numP]; omega
  · simp only [if_neg h, if_true]; unfold lp at h; simp [num, numP]; omega
theorem num_december (y : Int) (hy0 : 1900 ≤ y) (hy1 : y ≤ 2199) : num (y + 1) 1 1 = num y 12 1 + dim y 12 := by
  rw [dim_in y 12 (by omega)]
  simp [num, numP]
  omega
theorem num_day (y m d : Int) : num y m d = num y m 1 + (d - 1) := by
  unfold num numP
  split <;> omega
theorem num_mono (a b : Int) (h0 : 1900 ≤ a) (h : a ≤ b) (h1 : b ≤ 2200) : num a 1 1 ≤ num b 1 1 := by
  simp [num, numP]
  omega
theorem dim_bounds (y m : Int) (h : ¬ (y < 1900 ∨ 2199 < y ∨ m < 1 ∨ 12 < m)) : 28 ≤ dim y m ∧ dim y m ≤ 31 := by
  rw [dim_in y m h]
  split
  · split <;> omega
  · split <;> omega
theorem num_bounds (y m d : Int) (h : ¬ (y < 1900 ∨ 2199 < y ∨ m < 1 ∨ 12 < m)) (hd0 : 0 ≤ d) (hd1 : d ≤ 1000) : -30000 ≤ num y m d ∧ num y m d ≤ 90000 := by
  unfold num numP
  split <;> omega
def Valid (y m d : Int) : Prop := ¬ (y < 1900 ∨ 2199 < y ∨ m < 1 ∨ 12 < m) ∧ 1 ≤ d ∧ d ≤ dim y m
theorem valid_of (y m d : Int) (h : 1 ≤ d ∧ d ≤ dim y m) : Valid y m d := by
  refine ⟨fun g => ?_, h⟩
  rw [dim_out y m g] at h
  omega
theorem number_f (y m d : Int) : date_Number.f y m d = some (if 1 ≤ d ∧ d ≤ dim y m then (num y m d, none) else (0, some 2)) := by
  unfold date_Number.f
  rw [may_f]
  by_cases h : 1 ≤ d ∧ d ≤ dim y m
  · have v := (valid_of y m d h).1
    have := dim_bounds y m v
    rw [decide_eq_true h, if_pos h]
    simp only [Option.bind_some, if_true]
    rw [civil_f y m d (by omega) (by omega) (by omega) (by omega) (by omega) (by omega)]
    rfl
  · rw [decide_eq_false h, if_neg h]
    simp

theorem doy_last (D Y : Int) (h0 : 0 ≤ D) (h1 : D ≤ 146096) (hY : Y = (D - D / 1460 + D / 36524 - D / 146096) / 365) (hd : D - (365 * Y + Y / 4 - Y / 100) = 365) : (Y + 1) % 4 = 0 ∧ ((Y + 1) % 100 ≠ 0 ∨ (Y + 1) % 400 = 0) := by
  by_cases hl : D = 146096
  · subst hl
    have : Y = 399 := by rw [hY]; decide
    subst this
    decide
  obtain ⟨e, he⟩ : ∃ e, e = D / 36524 := ⟨_, rfl⟩
  obtain ⟨r, hr⟩ : ∃ r, r = D - 36524 * e := ⟨_, rfl⟩
  have e0 : 0 ≤ e ∧ e ≤ 3 := by omega
  have r0 : 0 ≤ r ∧ r < 36524 := by omega
  have f0 : D / 146096 = 0 := by omega
  have a1 : D / 1460 = 25 * e + (24 * e + r) / 1460 := by omega
  have a2 : Y = 100 * e + (r - (24 * e + r) / 1460) / 365 := by omega
  obtain ⟨q, hq⟩ : ∃ q, q = r / 1461 := ⟨_, rfl⟩
  obtain ⟨s, hs⟩ : ∃ s, s = r - 1461 * q := ⟨_, rfl⟩
  have q0 : 0 ≤ q ∧ q ≤ 24 := by omega
  have s0 : 0 ≤ s ∧ s ≤ 1460 := by omega
  obtain ⟨b, hb⟩ : ∃ b, b = (24 * e + q + s) / 1460 := ⟨_, rfl⟩
  have b0 : 0 ≤ b ∧ b ≤ 1 := by omega
  have a3 : (24 * e + r) / 1460 = q + b := by omega
  obtain ⟨t, ht⟩ : ∃ t, t = (s - b) / 365 := ⟨_, rfl⟩
  have b1 : s - b ≤ 1459 := by omega
  have b2 : 0 ≤ s - b := by omega
  have t0 : 0 ≤ t ∧ t ≤ 3 := by omega
  have a4 : Y = 100 * e + 4 * q + t := by omega
  have a5 : Y / 4 = 25 * e + q := by omega
  have a6 : Y / 100 = e := by omega
  have a7 : D - (365 * Y + Y / 4 - Y / 100) = s - 365 * t := by omega
  have a8 : t = 3 ∧ s = 1460 := by omega
  have a9 : q ≤ 23 := by omega
  omega
theorem year_lo (D y d m : Int) (h0 : 109513 ≤ D) (h1 : D ≤ 146096) (hy : y = (D - D / 1460 + D / 36524 - D / 146096) / 365) (hd : d = D - (365 * y + y / 4 - y / 100)) (hm : m = (5 * d + 2) / 153) : 300 ≤ y ∨ (y = 299 ∧ 10 ≤ m) := by
  have a1 : D / 1460 ≤ 100 := by omega
  have a2 : 2 ≤ D / 36524 := by omega
  have a3 : D / 146096 ≤ 1 := by omega
  have a4 : 299 ≤ y := by omega
  by_cases c : y = 299
  · subst c
    right
    have : 306 ≤ d := by rw [hd]; omega
    omega
  · left; omega
theorem year_hi (D y d m : Int) (h0 : 0 ≤ D) (h1 : D ≤ 72988) (hy : y = (D - D / 1460 + D / 36524 - D / 146096) / 365) (hd : d = D - (365 * y + y / 4 - y / 100)) (hm : m = (5 * d + 2) / 153) : y ≤ 198 ∨ (y = 199 ∧ m ≤ 9) := by
  have a2 : D / 36524 ≤ 1 := by omega
  have a3 : D / 146096 = 0 := by omega
  have a1 : 1460 * (D / 1460) ≥ D - 1459 := by omega
  have a4 : y ≤ 199 := by omega
  by_cases c : y = 199
  · subst c
    right
    have : d ≤ 305 := by rw [hd]; omega
    exact ⟨rfl, by omega⟩
  · left; omega
set_option maxHeartbeats 1000000 in
/-- What a number's date is: valid, and its number is that. -/
theorem of_valid (n : Int) (h1 : -25567 ≤ n) (h2 : n ≤ 84005) : Valid (ofY n) (ofM n) (ofD n) ∧ num (ofY n) (ofM n) (ofD n) = n := by
  obtain ⟨b1, b2, b3, b4, b5, b6, b7, b8, b9⟩ := of_bounds n h1 h2
  have hl := doy_last (of_D n) (of_y n) b1 b2 rfl
  have hn : of_n n = n + 719468 := rfl
  obtain ⟨g, hg⟩ : ∃ g, g = of_n n / 146097 := ⟨_, rfl⟩
  have hD : of_D n = of_n n - 146097 * g := by unfold of_D; omega
  have hy : of_y n = (of_D n - of_D n / 1460 + of_D n / 36524 - of_D n / 146096) / 365 := rfl
  have hd : of_d n = of_D n - (365 * of_y n + of_y n / 4 - of_y n / 100) := rfl
  have hm : of_m n = (5 * of_d n + 2) / 153 := rfl
  have hg2 : g = 4 ∨ g = 5 := by omega
  unfold ofY ofM ofD
  rw [← hg]
  generalize of_D n = D at *
  generalize of_y n = y at *
  generalize of_d n = d at *
  generalize of_m n = m at *
  generalize of_n n = N at *
  have hy100 : 0 ≤ y / 100 ∧ y / 100 ≤ 3 := by omega
  have lo : g = 4 → (300 ≤ y ∨ (y = 299 ∧ 10 ≤ m)) := fun e => year_lo D y d m (by omega) b2 hy hd hm
  have hi : g = 5 → (y ≤ 198 ∨ (y = 199 ∧ m ≤ 9)) := fun e => year_hi D y d m b1 (by omega) hy hd hm
  have hdv : 365 * y + y / 4 - y / 100 + d = D := by omega
  have hmd : 153 * m ≤ 5 * d + 2 ∧ 5 * d + 2 < 153 * m + 153 := by omega
  clear hy hm b3
  have hyr : ¬ ((if 12 < m + 3 then g * 400 + y + 1 else g * 400 + y) < 1900 ∨ 2199 < (if 12 < m + 3 then g * 400 + y + 1 else g * 400 + y) ∨ (if 12 < m + 3 then m + 3 - 12 else m + 3) < 1 ∨ 12 < (if 12 < m + 3 then m + 3 - 12 else m + 3)) := by
    split <;> rcases hg2 with e | e <;> (first | have := lo e | have := hi e) <;> omega
  refine ⟨⟨hyr, by omega, ?_⟩, ?_⟩
  · rw [dim_in _ _ hyr]
    have hm12 : m = 0 ∨ m = 1 ∨ m = 2 ∨ m = 3 ∨ m = 4 ∨ m = 5 ∨ m = 6 ∨ m = 7 ∨ m = 8 ∨ m = 9 ∨ m = 10 ∨ m = 11 := by omega
    rcases hm12 with e | e | e | e | e | e | e | e | e | e | e | e
    case inr.inr.inr.inr.inr.inr.inr.inr.inr.inr.inr =>
      subst e
      simp
      by_cases hlp : lp (g * 400 + y + 1)
      · rw [if_pos hlp]; omega
      · rw [if_neg hlp]
        have : d ≠ 365 := by
          intro hd2
          have := hl (by omega)
          unfold lp at hlp
          omega
        omega
    all_goals (subst e; simp; omega)
  · have q1 : (g * 400 + y) / 4 = 100 * g + y / 4 := by omega
    have q2 : (g * 400 + y) / 100 = 4 * g + y / 100 := by omega
    have q3 : (g * 400 + y) / 400 = g := by omega
    by_cases c : 12 < m + 3
    · rw [if_pos c, if_pos c]
      unfold num numP
      rw [if_pos (by omega), show g * 400 + y + 1 - 1 = g * 400 + y from by omega, show m + 3 - 12 + 12 - 3 = m from by omega, q1, q2, q3]
      clear q1 q2 q3 lo hi hl hyr
      omega
    · rw [if_neg c, if_neg c]
      unfold num numP
      rw [if_neg (by omega), show m + 3 - 3 = m from by omega, q1, q2, q3]
      clear q1 q2 q3 lo hi hl hyr
      omega

theorem ref_year (y : Int) (k : Nat) (hk : 5 ≤ k) : trivetref04_year.f k y = some (337 + dim y 2) := by
  unfold trivetref04_year.f
  rw [ref_days y 2 k hk]
  have : 0 ≤ dim y 2 ∧ dim y 2 ≤ 31 := by
    by_cases h : y < 1900 ∨ 2199 < y ∨ (2 : Int) < 1 ∨ 12 < (2 : Int)
    · rw [dim_out y 2 h]; omega
    · have := dim_bounds y 2 h; omega
  simp only [Option.bind_some]
  rw [w64 (337 + dim y 2) (by omega) (by omega)]
theorem num_1970 : num 1970 1 1 = 0 := by decide
theorem num_y_bounds (y : Int) (h0 : 1900 ≤ y) (h1 : y ≤ 2200) : -30000 ≤ num y 1 1 ∧ num y 1 1 ≤ 90000 := by
  simp [num, numP]
  omega
theorem ref_num2 : ∀ (n k : Nat) (t X : Int), 1900 ≤ t → t + n = 1970 → n + 8 < k → -200000 ≤ X + num t 1 1 → X + num t 1 1 ≤ 200000 → trivetref04_Number.l2 k X t = some (X + num t 1 1) := by
  intro n
  induction n with
  | zero =>
    intro k t X h0 h1 hk hx0 hx1
    obtain ⟨k, rfl⟩ : ∃ m, k = m + 1 := ⟨k - 1, by omega⟩
    obtain rfl : t = 1970 := by omega
    rw [trivetref04_Number.l2, if_neg (by omega), num_1970]
    simp
  | succ n ih =>
    intro k t X h0 h1 hk hx0 hx1
    obtain ⟨k, rfl⟩ : ∃ m, k = m + 1 := ⟨k - 1, by omega⟩
    have hy := num_year t h0 (by omega)
    have b1 := num_y_bounds t (by omega) (by omega)
    have hd := dim_bounds t 2 (by omega)
    rw [trivetref04_Number.l2, if_pos (by omega), ref_year t k (by omega)]
    simp only [Option.bind_some]
    rw [w64 (X - (337 + dim t 2)) (by omega) (by omega), w64 (t + 1) (by omega) (by omega)]
    rw [ih k (t + 1) _ (by omega) (by omega) (by omega) (by omega) (by omega)]
    congr 1
    omega
theorem ref_num1_up (y m d S : Int) (hy : y ≤ 2199) (hS0 : -200000 ≤ S) (hS1 : S ≤ 200000) : ∀ (n k : Nat) (t X : Int), 1970 ≤ t → t + n = y → n + 8 < k → X = S + num t 1 1 → trivetref04_Number.l1 k X t y m d = some (S + num y 1 1) := by
  intro n
  induction n with
  | zero =>
    intro k t X h0 h1 hk hX
    obtain ⟨k, rfl⟩ : ∃ m, k = m + 2 := ⟨k - 2, by omega⟩
    obtain rfl : t = y := by omega
    rw [trivetref04_Number.l1, if_neg (by omega), trivetref04_Number.l2, if_neg (by omega), hX]
  | succ n ih =>
    intro k t X h0 h1 hk hX
    obtain ⟨k, rfl⟩ : ∃ m, k = m + 1 := ⟨k - 1, by omega⟩
    have hyr := num_year t (by omega) (by omega)
    have b1 := num_y_bounds t (by omega) (by omega)
    have hd := dim_bounds t 2 (by omega)
    rw [trivetref04_Number.l1, if_pos (by omega), ref_year t k (by omega)]
    simp only [Option.bind_some]
    rw [w64 (X + (337 + dim t 2)) (by omega) (by omega), w64 (t + 1) (by omega) (by omega)]
    exact ih k (t + 1) _ (by omega) (by omega) (by omega) (by omega)
theorem ref_num1 (y m d X : Int) (h0 : 1900 ≤ y) (h1 : y ≤ 2199) (hx0 : -1000 ≤ X) (hx1 : X ≤ 1000) (k : Nat) (hk : 300 ≤ k) : trivetref04_Number.l1 k X 1970 y m d = some (X + num y 1 1) := by
  by_cases c : 1970 ≤ y
  · obtain ⟨n, hn⟩ := Int.eq_ofNat_of_zero_le (show 0 ≤ y - 1970 by omega)
    exact ref_num1_up y m d X h1 (by omega) (by omega) n k 1970 X (by omega) (by omega) (by omega) (by rw [num_1970]; omega)
  · obtain ⟨k, rfl⟩ : ∃ m, k = m + 1 := ⟨k - 1, by omega⟩
    obtain ⟨n, hn⟩ := Int.eq_ofNat_of_zero_le (show 0 ≤ 1970 - y by omega)
    have b1 := num_y_bounds y (by omega) (by omega)
    rw [trivetref04_Number.l1, if_neg (by omega)]
    exact ref_num2 n k y X h0 (by omega) (by omega) (by omega) (by omega)
theorem num_m_bounds (y m : Int) (h : ¬ (y < 1900 ∨ 2199 < y ∨ m < 1 ∨ 12 < m)) : 0 ≤ num y m 1 - num y 1 1 ∧ num y m 1 - num y 1 1 ≤ 400 := by
  unfold num numP
  rw [if_pos (show (1 : Int) ≤ 2 by omega)]
  split <;> omega
theorem ref_num0 (y m d : Int) (hv : ¬ (y < 1900 ∨ 2199 < y ∨ m < 1 ∨ 12 < m)) (hd0 : 0 ≤ d) (hd1 : d ≤ 100) : ∀ (n k : Nat) (t X : Int), 1 ≤ t → t + n = m → n + 320 ≤ k → X = d - 1 + (num y t 1 - num y 1 1) → trivetref04_Number.l0 k X t y m d = some (num y m d) := by
  intro n
  induction n with
  | zero =>
    intro k t X h0 h1 hk hX
    obtain ⟨k, rfl⟩ : ∃ m, k = m + 1 := ⟨k - 1, by omega⟩
    obtain rfl : t = m := by omega
    have b := num_m_bounds y t hv
    rw [trivetref04_Number.l0, if_neg (by omega), ref_num1 y t d X (by omega) (by omega) (by omega) (by omega) k (by omega), num_day y t d]
    congr 1
    omega
  | succ n ih =>
    intro k t X h0 h1 hk hX
    obtain ⟨k, rfl⟩ : ∃ m, k = m + 1 := ⟨k - 1, by omega⟩
    have b := num_m_bounds y t (by omega)
    have hm := num_month y t (by omega) (by omega) h0 (by omega)
    have hd := dim_bounds y t (by omega)
    rw [trivetref04_Number.l0, if_pos (by omega), ref_days y t k (by omega)]
    simp only [Option.bind_some]
    rw [w64 (X + dim y t) (by omega) (by omega), w64 (t + 1) (by omega) (by omega)]
    exact ih k (t + 1) _ (by omega) (by omega) (by omega) (by omega)
theorem ref_number (y m d : Int) (h : Valid y m d) (k : Nat) (hk : 400 ≤ k) : trivetref04_Number.f k y m d = some (num y m d) := by
  have hv := h.1
  have hd := dim_bounds y m hv
  have h1 := h.2
  unfold trivetref04_Number.f
  rw [w64 (d - 1) (by omega) (by omega)]
  obtain ⟨n, hn⟩ := Int.eq_ofNat_of_zero_le (show 0 ≤ m - 1 by omega)
  exact ref_num0 y m d hv (by omega) (by omega) n k 1 (d - 1) (by omega) (by omega) (by omega) (by omega)
/-- The reference's way back: the years. -/
theorem ref_of_month (Y M D n : Int) (h : Valid Y M D) (hn : num Y M D = n) : ∀ (j k : Nat) (t X : Int), 1 ≤ t → t + j = M → j + 20 < k → X = n - num Y t 1 → trivetref04_Of.l1 k X Y t = some (Y, M, D, true) := by
  intro j
  have hv := h.1
  have hd := h.2
  have hday := num_day Y M D
  induction j with
  | zero =>
    intro k t X h0 h1 hk hX
    obtain ⟨k, rfl⟩ : ∃ m, k = m + 1 := ⟨k - 1, by omega⟩
    obtain rfl : t = M := by omega
    have hb := dim_bounds Y t hv
    rw [trivetref04_Of.l1, ref_days Y t k (by omega)]
    simp only [Option.bind_some]
    rw [if_neg (by omega), w64 (X + 1) (by omega) (by omega)]
    congr 3
    rw [Prod.mk.injEq]
    exact ⟨by omega, rfl⟩
  | succ j ih =>
    intro k t X h0 h1 hk hX
    obtain ⟨k, rfl⟩ : ∃ m, k = m + 1 := ⟨k - 1, by omega⟩
    have hm := num_month Y t (by omega) (by omega) h0 (by omega)
    have hb := dim_bounds Y t (by omega)
    have c1 : num Y (t + 1) 1 ≤ num Y M 1 := by
      unfold num numP
      split <;> split <;> omega
    have b2 := num_bounds Y t 1 (by omega) (by omega) (by omega)
    have b3 := num_bounds Y M D hv (by omega) (by have := dim_bounds Y M hv; omega)
    rw [trivetref04_Of.l1, ref_days Y t k (by omega)]
    simp only [Option.bind_some]
    rw [if_pos (by omega), w64 (X - dim Y t) (by omega) (by omega), w64 (t + 1) (by omega) (by omega)]
    exact ih k (t + 1) _ (by omega) (by omega) (by omega) (by omega)
theorem ref_of_year (Y M D n : Int) (h : Valid Y M D) (hn : num Y M D = n) : ∀ (j k : Nat) (t X : Int), 1900 ≤ t → t + j = Y → j + 50 < k → X = n - num t 1 1 → trivetref04_Of.l0 k X t = some (Y, M, D, true) := by
  intro j
  have hv := h.1
  have hd := h.2
  have hday := num_day Y M D
  have hmb := num_m_bounds Y M hv
  have b3 := num_bounds Y M D hv (by omega) (by have := dim_bounds Y M hv; omega)
  induction j with
  | zero =>
    intro k t X h0 h1 hk hX
    obtain ⟨k, rfl⟩ : ∃ m, k = m + 1 := ⟨k - 1, by omega⟩
    obtain rfl : t = Y := by omega
    have hyr := num_year t (by omega) (by omega)
    have c1 : num t M 1 + dim t M ≤ num (t + 1) 1 1 := by
      by_cases c : M = 12
      · subst c; rw [num_december t (by omega) (by omega)]; omega
      · rw [← num_month t M (by omega) (by omega) (by omega) (by omega), num_december t (by omega) (by omega)]
        have hb12 := dim_bounds t 12 (by omega)
        have : num t (M + 1) 1 ≤ num t 12 1 := by
          unfold num numP
          split <;> split <;> omega
        omega
    rw [trivetref04_Of.l0, ref_year t k (by omega)]
    simp only [Option.bind_some]
    rw [if_neg (by omega)]
    obtain ⟨q, hq⟩ := Int.eq_ofNat_of_zero_le (show 0 ≤ M - 1 by omega)
    exact ref_of_month t M D n h hn q k 1 X (by omega) (by omega) (by omega) (by omega)
  | succ j ih =>
    intro k t X h0 h1 hk hX
    obtain ⟨k, rfl⟩ : ∃ m, k = m + 1 := ⟨k - 1, by omega⟩
    have hyr := num_year t (by omega) (by omega)
    have hb := dim_bounds t 2 (by omega)
    have b1 := num_y_bounds t (by omega) (by omega)
    have m1 := num_mono (t + 1) Y (by omega) (by omega) (by omega)
    rw [trivetref04_Of.l0, ref_year t k (by omega)]
    simp only [Option.bind_some]
    rw [if_pos (by omega), w64 (X - (337 + dim t 2)) (by omega) (by omega), w64 (t + 1) (by omega) (by omega)]
    exact ih k (t + 1) _ (by omega) (by omega) (by omega) (by omega)
theorem ref_of (n : Int) (k : Nat) (hk : 500 ≤ k) : trivetref04_Of.f k n = some (if n < -25567 ∨ n > 84005 then (0, 0, 0, false) else (ofY n, ofM n, ofD n, true)) := by
  have e1 : num 1900 1 1 = -25567 := by decide
  have e2 : num 2199 12 31 = 84005 := by decide
  unfold trivetref04_Of.f
  rw [ref_number 1900 1 1 (by unfold Valid; decide) k (by omega), ref_number 2199 12 31 (by unfold Valid; decide) k (by omega), e1, e2]
  simp only [Option.bind_some]
  obtain ⟨k, rfl⟩ : ∃ m, k = m + 1 := ⟨k - 1, by omega⟩
  by_cases c1 : n < -25567
  · rw [if_pos c1, if_pos (.inl c1)]
    simp [trivetref04_Of.j0]
  rw [if_neg c1]
  by_cases c2 : n > 84005
  · rw [if_pos (.inr c2), decide_eq_true c2]
    simp [trivetref04_Of.j0]
  rw [if_neg (by omega), decide_eq_false c2, trivetref04_Of.j0, if_neg (by simp), w64 (n - -25567) (by omega) (by omega)]
  obtain ⟨v, hv⟩ := of_valid n (by omega) (by omega)
  obtain ⟨j, hj⟩ := Int.eq_ofNat_of_zero_le (show 0 ≤ ofY n - 1900 by have := v.1; omega)
  have := v.1
  exact ref_of_year (ofY n) (ofM n) (ofD n) n v hv j k 1900 _ (by omega) (by omega) (by omega) (by omega)

def mat (y m n : Int) : Int := y * 12 + m - 1 + n
def moved (y m d n : Int) : Int × Int × Int × Option Int :=
  if n < -3600 ∨ 3600 < n then (0, 0, 0, some 1) else if dim (mat y m n / 12) (mat y m n % 12 + 1) = 0 then (0, 0, 0, some 1) else (mat y m n / 12, mat y m n % 12 + 1, mn d (dim (mat y m n / 12) (mat y m n % 12 + 1)), none)
theorem months_no (y m d n : Int) (h : ¬ (1 ≤ d ∧ d ≤ dim y m)) (k : Nat) : date_Months.f k y m d n = some (0, 0, 0, some 2) := by
  unfold date_Months.f
  rw [may_f, decide_eq_false h]
  simp
theorem months_f (y m d n : Int) (h : 1 ≤ d ∧ d ≤ dim y m) (k : Nat) (hk : 2 ≤ k) : date_Months.f k y m d n = some (moved y m d n) := by
  obtain ⟨k, rfl⟩ : ∃ j, k = j + 1 := ⟨k - 1, by omega⟩
  have v := (valid_of y m d h).1
  unfold date_Months.f moved
  rw [may_f, decide_eq_true h]
  simp only [Option.bind_some, if_true]
  by_cases c1 : n < -3600
  · rw [if_pos c1, if_pos (.inl c1)]
    simp [date_Months.j0]
  rw [if_neg c1]
  by_cases c2 : n > 3600
  · rw [if_pos (.inr c2), decide_eq_true c2]
    simp [date_Months.j0]
  have e : wrap64 ((wrap64 ((wrap64 ((wrap64 (y * 12)) + m)) - 1)) + n) = mat y m n := by
    unfold mat
    rw [w64 (y * 12) (by omega) (by omega), w64 (y * 12 + m) (by omega) (by omega), w64 (y * 12 + m - 1) (by omega) (by omega), w64 (y * 12 + m - 1 + n) (by omega) (by omega)]
  have hm : 0 ≤ mat y m n ∧ mat y m n ≤ 40000 := by unfold mat; omega
  rw [decide_eq_false c2, if_neg (by omega), date_Months.j0, if_neg (by simp), e, Int.tdiv_eq_ediv_of_nonneg hm.1, Int.tmod_eq_emod_of_nonneg hm.1, w64 (mat y m n / 12) (by omega) (by omega), w64 (mat y m n % 12 + 1) (by omega) (by omega), days_f]
  simp only [Option.bind_some]
  by_cases c3 : dim (mat y m n / 12) (mat y m n % 12 + 1) = 0
  · rw [if_pos c3, if_pos c3]
  · rw [if_neg c3, if_neg c3]
theorem moved_yes (y m d n : Int) (h : 1 ≤ d ∧ d ≤ 28) (hn : -3600 ≤ n ∧ n ≤ 3600) (hm : 22800 ≤ mat y m n ∧ mat y m n ≤ 26399) : moved y m d n = (mat y m n / 12, mat y m n % 12 + 1, d, none) ∧ Valid (mat y m n / 12) (mat y m n % 12 + 1) d := by
  have hv : ¬ (mat y m n / 12 < 1900 ∨ 2199 < mat y m n / 12 ∨ mat y m n % 12 + 1 < 1 ∨ 12 < mat y m n % 12 + 1) := by omega
  have hb := dim_bounds _ _ hv
  constructor
  · unfold moved
    rw [if_neg (by omega), if_neg (by omega)]
    have : mn d (dim (mat y m n / 12) (mat y m n % 12 + 1)) = d := by unfold mn; split <;> omega
    rw [this]
  · exact ⟨hv, by omega, by omega⟩
theorem moved_no (y m d n : Int) (h : n < -3600 ∨ 3600 < n ∨ mat y m n < 22800 ∨ 26399 < mat y m n) : moved y m d n = (0, 0, 0, some 1) := by
  unfold moved
  by_cases c : n < -3600 ∨ 3600 < n
  · rw [if_pos c]
  · rw [if_neg c, if_pos (dim_out _ _ (by omega))]

theorem up11_f (k : Nat) (hk : 20 ≤ k) : trivetlaw11_up.f k = some true :=
  at_rounds (g := fun k => trivetlaw11_up.f k) (fun k => trivetlaw11_up.mono k) hk (by decide +kernel)
theorem num_lt (Y M D : Int) (h : Valid Y M D) : num Y M D < num (Y + 1) 1 1 := by
  have hv := h.1
  have hd := h.2
  have hday := num_day Y M D
  have c1 : num Y M 1 + dim Y M ≤ num (Y + 1) 1 1 := by
    by_cases c : M = 12
    · subst c; rw [num_december Y (by omega) (by omega)]; omega
    · rw [← num_month Y M (by omega) (by omega) (by omega) (by omega), num_december Y (by omega) (by omega)]
      have hb12 := dim_bounds Y 12 (by omega)
      have : num Y (M + 1) 1 ≤ num Y 12 1 := by
        unfold num numP
        split <;> split <;> omega
      omega
  omega
theorem ref_of_num (Y M D : Int) (h : Valid Y M D) (k : Nat) (hk : 500 ≤ k) : trivetref04_Of.f k (num Y M D) = some (Y, M, D, true) := by
  have e1 : num 1900 1 1 = -25567 := by decide
  have e2 : num 2199 12 31 = 84005 := by decide
  have e3 : num 2200 1 1 = 84006 := by decide
  have hv := h.1
  have hd := h.2
  have hlt := num_lt Y M D h
  have m1 := num_mono (Y + 1) 2200 (by omega) (by omega) (by omega)
  have m2 := num_mono 1900 Y (by omega) (by omega) (by omega)
  have hmb := num_m_bounds Y M hv
  have hday := num_day Y M D
  unfold trivetref04_Of.f
  rw [ref_number 1900 1 1 (by unfold Valid; decide) k (by omega), ref_number 2199 12 31 (by unfold Valid; decide) k (by omega), e1, e2]
  simp only [Option.bind_some]
  obtain ⟨k, rfl⟩ : ∃ m, k = m + 1 := ⟨k - 1, by omega⟩
  rw [if_neg (by omega), decide_eq_false (by omega), trivetref04_Of.j0, if_neg (by simp), w64 (num Y M D - -25567) (by omega) (by omega)]
  obtain ⟨j, hj⟩ := Int.eq_ofNat_of_zero_le (show 0 ≤ Y - 1900 by omega)
  exact ref_of_year Y M D _ h rfl j k 1900 _ (by omega) (by omega) (by omega) (by omega)
theorem money_some (b0 b1 b2 b3 b4 b5 b6 b7 b8 : Int) : ∃ b, terms_money.f b0 b1 b2 b3 b4 b5 b6 b7 b8 = some b := by
  unfold terms_money.f
  repeat' (first | exact ⟨_, rfl⟩ | split)
theorem first_f (b0 b1 b2 b3 b4 b5 b6 b7 b8 : Int) : terms_first.f b0 b1 b2 b3 b4 b5 b6 b7 b8 = some (if -25567 ≤ b3 ∧ b3 ≤ 84005 then (ofY b3, ofM b3, ofD b3, ofD b3 == 1) else (0, 0, 0, false)) := by
  unfold terms_first.f date_Of.f
  by_cases c1 : b3 < -25567
  · rw [if_pos c1, if_neg (by omega)]; rfl
  rw [if_neg c1]
  by_cases c2 : b3 > 84005
  · rw [if_pos c2, if_neg (by omega)]; rfl
  rw [if_neg c2, if_pos (by omega)]
  rfl
theorem check_f (b0 b1 b2 b3 b4 b5 b6 b7 b8 : Int) (k : Nat) (hk : 10 ≤ k) : ∃ c, terms_Check.f k b0 b1 b2 b3 b4 b5 b6 b7 b8 = some c ∧ (c.isNone = true → (-25567 ≤ b3 ∧ b3 ≤ 84005) ∧ ofD b3 = 1 ∧ 1 ≤ b2 ∧ b2 ≤ 480) := by
  obtain ⟨k, rfl⟩ : ∃ m, k = m + 1 := ⟨k - 1, by omega⟩
  have no : ∀ x y z, terms_Check.j0 (k + 1) true b0 b1 b2 b3 b4 b5 b6 b7 b8 x y z = some (some 1) := fun x y z => by simp [terms_Check.j0]
  unfold terms_Check.f
  rw [first_f]
  simp only [Option.bind_some]
  by_cases c : -25567 ≤ b3 ∧ b3 ≤ 84005
  · rw [if_pos c]
    by_cases c1 : ofD b3 = 1
    · have cb : (ofD b3 == 1) = true := by simp [c1]
      simp only [cb, if_true]
      obtain ⟨b, hb⟩ := money_some b0 b1 b2 b3 b4 b5 b6 b7 b8
      rw [hb]
      simp only [Option.bind_some]
      cases b with
      | false => exact ⟨some 1, by rw [if_neg (by simp)]; exact no _ _ _, fun h => by simp at h⟩
      | true =>
        rw [if_pos rfl]
        by_cases c2 : b2 < 1
        · exact ⟨some 1, by rw [if_pos c2]; exact no _ _ _, fun h => by simp at h⟩
        rw [if_neg c2]
        by_cases c3 : b2 > 480
        · exact ⟨some 1, by rw [if_pos c3]; exact no _ _ _, fun h => by simp at h⟩
        rw [if_neg c3]
        by_cases c4 : b5 < 1
        · exact ⟨some 1, by rw [if_pos c4]; exact no _ _ _, fun h => by simp at h⟩
        rw [if_neg c4]
        by_cases c5 : b5 > 64
        · exact ⟨some 1, by rw [if_pos c5]; exact no _ _ _, fun h => by simp at h⟩
        rw [if_neg c5]
        by_cases c6 : b6 < 1
        · exact ⟨some 1, by rw [if_pos c6]; exact no _ _ _, fun h => by simp at h⟩
        rw [if_neg c6]
        by_cases c7 : b6 > 3
        · exact ⟨some 1, by rw [decide_eq_true c7]; exact no _ _ _, fun h => by simp at h⟩
        rw [decide_eq_false c7, terms_Check.j0, if_neg (by simp)]
        have v := (of_valid b3 c.1 c.2).1
        rw [months_f _ _ _ b2 v.2 k (by omega)]
        simp only [Option.bind_some]
        split
        · exact ⟨none, rfl, fun _ => ⟨c, c1, by omega, by omega⟩⟩
        · exact ⟨some 1, rfl, fun h => by simp at h⟩
    · have cb : (ofD b3 == 1) = false := by simp [c1]
      simp only [cb]
      exact ⟨some 1, by rw [if_neg (by simp)]; exact no _ _ _, fun h => by simp at h⟩
  · rw [if_neg c]
    exact ⟨some 1, by rw [if_neg (by simp)]; exact no _ _ _, fun h => by simp at h⟩
/-- When an instalment is due: it may not be, or it is the first of a month. -/
theorem due_f (b0 b1 b2 b3 b4 b5 b6 b7 b8 n : Int) (k : Nat) (hk : 20 ≤ k) : terms_Due.f k b0 b1 b2 b3 b4 b5 b6 b7 b8 n = some (0, some 1) ∨
    (0 ≤ n ∧ n ≤ 480 ∧ Valid (mat (ofY b3) (ofM b3) n / 12) (mat (ofY b3) (ofM b3) n % 12 + 1) 1 ∧ terms_Due.f k b0 b1 b2 b3 b4 b5 b6 b7 b8 n = some (num (mat (ofY b3) (ofM b3) n / 12) (mat (ofY b3) (ofM b3) n % 12 + 1) 1, none)) := by
  obtain ⟨c, hc, hc2⟩ := check_f b0 b1 b2 b3 b4 b5 b6 b7 b8 k (by omega)
  obtain ⟨k, rfl⟩ : ∃ m, k = m + 1 := ⟨k - 1, by omega⟩
  have no : terms_Due.j0 (k + 1) n true b0 b1 b2 b3 b4 b5 b6 b7 b8 = some (0, some 1) := by simp [terms_Due.j0]
  unfold terms_Due.f
  rw [hc]
  simp only [Option.bind_some]
  cases e : c.isNone with
  | false => left; rw [if_neg (by simp)]; exact no
  | true =>
    obtain ⟨c1, c2, c3, c4⟩ := hc2 e
    rw [if_pos rfl]
    by_cases g1 : n < 0
    · left; rw [if_pos g1]; exact no
    rw [if_neg g1]
    by_cases g2 : n > b2
    · left; rw [decide_eq_true g2]; exact no
    rw [decide_eq_false g2, terms_Due.j0, if_neg (by simp), first_f, if_pos c1]
    have v := (of_valid b3 c1.1 c1.2).1
    simp only [Option.bind_some]
    rw [months_f _ _ _ n v.2 k (by omega), c2]
    by_cases g3 : 22800 ≤ mat (ofY b3) (ofM b3) n ∧ mat (ofY b3) (ofM b3) n ≤ 26399
    · obtain ⟨e1, e2⟩ := moved_yes (ofY b3) (ofM b3) 1 n (by omega) (by omega) g3
      right
      refine ⟨by omega, by omega, e2, ?_⟩
      rw [e1]
      simp only [Option.bind_some, Option.isNone_none, if_true]
      rw [number_f, if_pos e2.2]
      rfl
    · left
      rw [moved_no (ofY b3) (ofM b3) 1 n (by omega)]
      simp
theorem TermsDays : trivetlaw11_TermsDays.Pure := by
  intro x n hx hn
  obtain ⟨b0, b1, b2, b3, b4, b5, b6, b7, b8⟩ := x
  refine ⟨700, ?_⟩
  show trivetlaw11_TermsDays.f 700 b0 b1 b2 b3 b4 b5 b6 b7 b8 n = some true
  unfold trivetlaw11_TermsDays.f
  rw [up11_f 700 (by omega), Option.bind_some]
  have total : ∀ i, ∃ r, terms_Due.f 700 b0 b1 b2 b3 b4 b5 b6 b7 b8 i = some r := fun i => by
    rcases due_f b0 b1 b2 b3 b4 b5 b6 b7 b8 i 700 (by omega) with h | ⟨_, _, _, h⟩
    · exact ⟨_, h⟩
    · exact ⟨_, h⟩
  rcases due_f b0 b1 b2 b3 b4 b5 b6 b7 b8 n 700 (by omega) with h | ⟨g0, g1, gv, h⟩
  · obtain ⟨r, hr⟩ := total (wrap64 (n + 1))
    rw [h, hr]
    simp
  · rw [h, w64 (n + 1) (by omega) (by omega)]
    have hr := ref_of_num _ _ _ gv 700 (by omega)
    rcases due_f b0 b1 b2 b3 b4 b5 b6 b7 b8 (n + 1) 700 (by omega) with h2 | ⟨f0, f1, fv, h2⟩
    · rw [h2]
      simp [hr]
    · have em : mat (ofY b3) (ofM b3) (n + 1) = mat (ofY b3) (ofM b3) n + 1 := by unfold mat; omega
      rw [em] at h2 fv
      rw [h2]
      simp only [Option.bind_some, Option.isNone_none, if_true]
      rw [hr]
      generalize mat (ofY b3) (ofM b3) n = t at *
      have v1 := gv.1
      have v2 := fv.1
      have hb := dim_bounds (t / 12) (t % 12 + 1) v1
      have nb := num_bounds (t / 12) (t % 12 + 1) 1 v1 (by omega) (by omega)
      have step : num ((t + 1) / 12) ((t + 1) % 12 + 1) 1 = num (t / 12) (t % 12 + 1) 1 + dim (t / 12) (t % 12 + 1) := by
        by_cases c : t % 12 = 11
        · rw [show (t + 1) / 12 = t / 12 + 1 from by omega, show (t + 1) % 12 + 1 = 1 from by omega, show t % 12 + 1 = 12 from by omega]
          exact num_december (t / 12) (by omega) (by omega)
        · rw [show (t + 1) / 12 = t / 12 from by omega, show (t + 1) % 12 + 1 = t % 12 + 1 + 1 from by omega]
          exact num_month (t / 12) (t % 12 + 1) (by omega) (by omega) (by omega) (by omega)
      simp only [Option.bind_some, if_true]
      rw [w64 (num (t / 12) (t % 12 + 1) 1 + 27) (by omega) (by omega), w64 (num (t / 12) (t % 12 + 1) 1 + 32) (by omega) (by omega), if_pos (by omega), decide_eq_true (by omega)]

end Go.Proofs.Ytbechikaaiinlaa.Pure
