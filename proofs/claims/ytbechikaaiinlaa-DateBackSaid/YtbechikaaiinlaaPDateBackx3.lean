-- written for this claim by a program of this session (wip/inject.py), which drives the kit's print
import Derived.Test.YtbechikaaiinlaaPDateBackx0
import Derived.Test.YtbechikaaiinlaaPDateBackx2
namespace Go.Proofs.Ytbechikaaiinlaa.PDateBack
open Go.RowKit Go.Proofs.YtbechikaaiinlaaW.PrintWords Go.Proofs.YtbechikaaiinlaaW.PrintLast Go.Proofs.YtbechikaaiinlaaW.PrintMore
attribute [local go_sem] max2_int min2_int max_two min_two max_three min_three max_four min_four   -- for this text's walks alone
set_option linter.unusedVariables false
set_option linter.unusedSimpArgs false

set_option linter.unnecessarySimpa false
/-! ### date_Of: function 23 -/
set_option maxHeartbeats 1000000 in
set_option maxRecDepth 100000 in
theorem date_Of_in (a0 n g D y d m : Int) (w : World) (h1 : -25567 ≤ a0) (h2 : a0 ≤ 84005) (hn : a0 + 719468 = n) (hn0 : 600000 ≤ n) (hn1 : n ≤ 900000)
    (hg : n / 146097 = g) (hg0 : 0 ≤ g) (hg1 : g ≤ 6) (hD : n % 146097 = D) (hD0 : 0 ≤ D) (hD1 : D ≤ 146096)
    (hy : (D - D / 1460 + D / 36524 - D / 146096) / 365 = y) (hyn : 0 ≤ D - D / 1460 + D / 36524 - D / 146096) (hy0 : 0 ≤ y) (hy1 : y ≤ 399)
    (hd : D - (365 * y + y / 4 - y / 100) = d) (hd0 : 0 ≤ d) (hd1 : d ≤ 365) (hm : (5 * d + 2) / 153 = m) (hm0 : 0 ≤ m) (hm1 : m ≤ 11) :
    Calls Try.prog 23 #[.int .i64 a0] w fun e w' => e = .returned (.tuple #[.agg #[.int .i64 (if 12 < m + 3 then g * 400 + y + 1 else g * 400 + y), .int .i64 (if 12 < m + 3 then m + 3 - 12 else m + 3), .int .i64 (d - (153 * m + 2) / 5 + 1)], .nilIface]) ∧ Below w.heap.size w w' := by
  have e1 : date_civil.f 1900 1 1 = some (-25567) := by decide +kernel
  have e2 : date_civil.f 2199 12 31 = some 84005 := by decide +kernel
  have C1 := Aside0.mk (fun W => date_civil.calls 1900 1 1 _ W e1)
  have C2 := Aside0.mk (fun W => date_civil.calls 2199 12 31 _ W e2)
  clear e1 e2
  have t1 : decide (a0 < -25567) = false := decide_eq_false (by omega)
  have t2 : decide (84005 < a0) = false := decide_eq_false (by omega)
  by_cases hc : 12 < m + 3
  · have hcb : decide (12 < m + 3) = true := decide_eq_true hc
    rw [if_pos hc, if_pos hc]
    go_enter Try.func23, Try.ntmps23
    go_wp2_with fail
    refine (C1.out _).mono ?_
    rintro e w' ⟨rfl, ⟨nd, rfl⟩⟩
    go_wp2_with fail
    refine (C2.out _).mono ?_
    rintro e w' ⟨rfl, ⟨nd2, rfl⟩⟩
    go_upto_region 5 with (fail)
    go_upto_region 6 with (fail)
    go_upto_region 7 with (fail)
    go_upto_region 8 with (fail)
    have b0 : 0 ≤ (153 * m + 2) / 5 := by omega
    have b1 : (153 * m + 2) / 5 ≤ 400 := by omega
    have b2 : 0 ≤ 153 * m + 2 := by omega
    simp only [hn, hg, hD, hy, hd, hm]
    clear hn hg hD hy hd hm hn0 hn1 h1 h2 t1 t2 hyn
    go_wp2
    exact bodyPost_ret (v := .tuple #[.agg #[.int .i64 (g * 400 + y + 1), .int .i64 (m + 3 - 12), .int .i64 (d - (153 * m + 2) / 5 + 1)], .nilIface]) (by simp [results, Try.results23, go_sem]) rfl ⟨rfl, by repeat (first | exact Below.refl _ _ | apply below_alloc | apply pw_below_drewN | refine Below.setCell ?_ (by simp) _)⟩
  · have hcb : decide (12 < m + 3) = false := decide_eq_false hc
    rw [if_neg hc, if_neg hc]
    go_enter Try.func23, Try.ntmps23
    go_wp2_with fail
    refine (C1.out _).mono ?_
    rintro e w' ⟨rfl, ⟨nd, rfl⟩⟩
    go_wp2_with fail
    refine (C2.out _).mono ?_
    rintro e w' ⟨rfl, ⟨nd2, rfl⟩⟩
    go_upto_region 5 with (fail)
    go_upto_region 6 with (fail)
    go_upto_region 7 with (fail)
    go_upto_region 8 with (fail)
    have b0 : 0 ≤ (153 * m + 2) / 5 := by omega
    have b1 : (153 * m + 2) / 5 ≤ 400 := by omega
    have b2 : 0 ≤ 153 * m + 2 := by omega
    simp only [hn, hg, hD, hy, hd, hm]
    clear hn hg hD hy hd hm hn0 hn1 h1 h2 t1 t2 hyn
    go_wp2
    exact bodyPost_ret (v := .tuple #[.agg #[.int .i64 (g * 400 + y), .int .i64 (m + 3), .int .i64 (d - (153 * m + 2) / 5 + 1)], .nilIface]) (by simp [results, Try.results23, go_sem]) rfl ⟨rfl, by repeat (first | exact Below.refl _ _ | apply below_alloc | apply pw_below_drewN | refine Below.setCell ?_ (by simp) _)⟩

def of_n (a : Int) : Int := a + 719468
def of_D (a : Int) : Int := of_n a % 146097
def of_y (a : Int) : Int := (of_D a - of_D a / 1460 + of_D a / 36524 - of_D a / 146096) / 365
def of_d (a : Int) : Int := of_D a - (365 * of_y a + of_y a / 4 - of_y a / 100)
def of_m (a : Int) : Int := (5 * of_d a + 2) / 153
def ofY (a : Int) : Int := if 12 < of_m a + 3 then of_n a / 146097 * 400 + of_y a + 1 else of_n a / 146097 * 400 + of_y a
def ofM (a : Int) : Int := if 12 < of_m a + 3 then of_m a + 3 - 12 else of_m a + 3
def ofD (a : Int) : Int := of_d a - (153 * of_m a + 2) / 5 + 1
theorem doy (D Y : Int) (h0 : 0 ≤ D) (h1 : D ≤ 146096) (hY : Y = (D - D / 1460 + D / 36524 - D / 146096) / 365) : 0 ≤ D - (365 * Y + Y / 4 - Y / 100) ∧ D - (365 * Y + Y / 4 - Y / 100) ≤ 365 := by
  by_cases hl : D = 146096
  · subst hl
    have : Y = 399 := by rw [hY]; decide
    subst this
    decide
  obtain ⟨e, he⟩ : ∃ e, e = D / 36524 := ⟨_, rfl⟩
  obtain ⟨r, hr⟩ : ∃ r, r = D - 36524 * e := ⟨_, rfl⟩
  have e0 : 0 ≤ e ∧ e ≤ 3 := by omega
  have r0 : 0 ≤ r ∧ r < 36524 := by omega
  have f0 : D / 146096 = 0 := by omega
  have a1 : D / 1460 = 25 * e + (24 * e + r) / 1460 := by omega
  have a2 : Y = 100 * e + (r - (24 * e + r) / 1460) / 365 := by omega
  obtain ⟨q, hq⟩ : ∃ q, q = r / 1461 := ⟨_, rfl⟩
  obtain ⟨s, hs⟩ : ∃ s, s = r - 1461 * q := ⟨_, rfl⟩
  have q0 : 0 ≤ q ∧ q ≤ 24 := by omega
  have s0 : 0 ≤ s ∧ s ≤ 1460 := by omega
  obtain ⟨b, hb⟩ : ∃ b, b = (24 * e + q + s) / 1460 := ⟨_, rfl⟩
  have b0 : 0 ≤ b ∧ b ≤ 1 := by omega
  have a3 : (24 * e + r) / 1460 = q + b := by omega
  obtain ⟨t, ht⟩ : ∃ t, t = (s - b) / 365 := ⟨_, rfl⟩
  have b1 : s - b ≤ 1459 := by omega
  have b2 : 0 ≤ s - b := by omega
  have t0 : 0 ≤ t ∧ t ≤ 3 := by omega
  have a4 : Y = 100 * e + 4 * q + t := by omega
  have a5 : Y / 4 = 25 * e + q := by omega
  have a6 : Y / 100 = e := by omega
  have a7 : D - (365 * Y + Y / 4 - Y / 100) = s - 365 * t := by omega
  omega
theorem of_bounds (a : Int) (h1 : -25567 ≤ a) (h2 : a ≤ 84005) : 0 ≤ of_D a ∧ of_D a ≤ 146096 ∧ 0 ≤ of_D a - of_D a / 1460 + of_D a / 36524 - of_D a / 146096 ∧ 0 ≤ of_y a ∧ of_y a ≤ 399 ∧ 0 ≤ of_d a ∧ of_d a ≤ 365 ∧ 0 ≤ of_m a ∧ of_m a ≤ 11 := by
  have e1 : 0 ≤ of_D a ∧ of_D a ≤ 146096 := by unfold of_D; omega
  have e2 : 0 ≤ of_D a - of_D a / 1460 + of_D a / 36524 - of_D a / 146096 := by omega
  have e3 : 0 ≤ of_y a ∧ of_y a ≤ 399 := by unfold of_y; omega
  have e4 : 0 ≤ of_d a ∧ of_d a ≤ 365 := doy (of_D a) (of_y a) e1.1 e1.2 rfl
  have e5 : 0 ≤ of_m a ∧ of_m a ≤ 11 := by unfold of_m; omega
  exact ⟨e1.1, e1.2, e2, e3.1, e3.2, e4.1, e4.2, e5.1, e5.2⟩
def date_Of.f (a0 : Int) : Option (Int × Int × Int × Option Int) := if a0 < -25567 then some (0, 0, 0, some 1) else if a0 > 84005 then some (0, 0, 0, some 1) else some (ofY a0, ofM a0, ofD a0, none)
set_option maxHeartbeats 1000000 in
set_option maxRecDepth 100000 in
theorem date_Of.calls (a0 : Int) (r1 : Int) (r2 : Int) (r3 : Int) (r4 : Option Int) (w : World) (h : date_Of.f a0 = some (r1, r2, r3, r4)) :
    Calls Try.prog 23 #[.int .i64 a0] w fun e w' => e = .returned (.tuple #[.agg #[.int .i64 r1, .int .i64 r2, .int .i64 r3], errW r4]) ∧ Below w.heap.size w w' := by
  unfold date_Of.f at h
  by_cases c1 : a0 < -25567
  · rw [if_pos c1] at h
    simp only [Option.some.injEq, Prod.mk.injEq] at h
    obtain ⟨rfl, rfl, rfl, rfl⟩ := h
    have e1 : date_civil.f 1900 1 1 = some (-25567) := by decide +kernel
    have C1 := Aside0.mk (fun W => date_civil.calls 1900 1 1 _ W e1)
    clear e1
    have t1 : decide (a0 < -25567) = true := decide_eq_true c1
    clear c1
    go_enter Try.func23, Try.ntmps23
    go_wp2_with fail
    refine (C1.out _).mono ?_
    rintro e w' ⟨rfl, ⟨nd, rfl⟩⟩
    go_wp2
    exact bodyPost_ret (v := .tuple #[.agg #[.int .i64 0, .int .i64 0, .int .i64 0], errW (some 1)]) (by simp [results, Try.results23, go_sem, errW]) rfl ⟨rfl, by repeat (first | exact Below.refl _ _ | apply below_alloc | apply pw_below_drewN | refine Below.setCell ?_ (by simp) _)⟩
  rw [if_neg c1] at h
  by_cases c2 : a0 > 84005
  · rw [if_pos c2] at h
    simp only [Option.some.injEq, Prod.mk.injEq] at h
    obtain ⟨rfl, rfl, rfl, rfl⟩ := h
    have e1 : date_civil.f 1900 1 1 = some (-25567) := by decide +kernel
    have e2 : date_civil.f 2199 12 31 = some 84005 := by decide +kernel
    have C1 := Aside0.mk (fun W => date_civil.calls 1900 1 1 _ W e1)
    have C2 := Aside0.mk (fun W => date_civil.calls 2199 12 31 _ W e2)
    clear e1 e2
    have t1 : decide (a0 < -25567) = false := decide_eq_false c1
    have t2 : decide (84005 < a0) = true := decide_eq_true c2
    clear c1 c2
    go_enter Try.func23, Try.ntmps23
    go_wp2_with fail
    refine (C1.out _).mono ?_
    rintro e w' ⟨rfl, ⟨nd, rfl⟩⟩
    go_wp2_with fail
    refine (C2.out _).mono ?_
    rintro e w' ⟨rfl, ⟨nd2, rfl⟩⟩
    go_wp2
    exact bodyPost_ret (v := .tuple #[.agg #[.int .i64 0, .int .i64 0, .int .i64 0], errW (some 1)]) (by simp [results, Try.results23, go_sem, errW]) rfl ⟨rfl, by repeat (first | exact Below.refl _ _ | apply below_alloc | apply pw_below_drewN | refine Below.setCell ?_ (by simp) _)⟩
  rw [if_neg c2] at h
  simp only [Option.some.injEq, Prod.mk.injEq] at h
  obtain ⟨rfl, rfl, rfl, rfl⟩ := h
  obtain ⟨b1, b2, b3, b4, b5, b6, b7, b8, b9⟩ := of_bounds a0 (by omega) (by omega)
  exact date_Of_in a0 (of_n a0) (of_n a0 / 146097) (of_D a0) (of_y a0) (of_d a0) (of_m a0) w (by omega) (by omega) rfl (by unfold of_n; omega) (by unfold of_n; omega) rfl (by unfold of_n; omega) (by unfold of_n; omega) rfl b1 b2 rfl b3 b4 b5 rfl b6 b7 rfl b8 b9

/-! ### trivetlaw04_DateBack: function 7 -/
theorem w64 (x : Int) (h0 : -9223372036854775808 ≤ x) (h1 : x ≤ 9223372036854775807) : wrap64 x = x := by
  unfold wrap64
  omega
def lp (y : Int) : Prop := y % 4 = 0 ∧ y % 100 ≠ 0 ∨ y % 400 = 0
instance (y : Int) : Decidable (lp y) := by unfold lp; infer_instance
/-- How many days a month has. -/
def dim (y m : Int) : Int := if y < 1900 ∨ 2199 < y ∨ m < 1 ∨ 12 < m then 0 else if m = 2 then (if lp y then 29 else 28) else if m = 4 ∨ m = 6 ∨ m = 9 ∨ m = 11 then 30 else 31
theorem dim_out (y m : Int) (h : y < 1900 ∨ 2199 < y ∨ m < 1 ∨ 12 < m) : dim y m = 0 := by unfold dim; rw [if_pos h]
theorem dim_in (y m : Int) (h : ¬ (y < 1900 ∨ 2199 < y ∨ m < 1 ∨ 12 < m)) : dim y m = if m = 2 then (if lp y then 29 else 28) else if m = 4 ∨ m = 6 ∨ m = 9 ∨ m = 11 then 30 else 31 := by unfold dim; rw [if_neg h]
theorem leap_f (y : Int) (h : 0 ≤ y) : date_leap.f y = some (decide (lp y)) := by
  unfold date_leap.f lp
  rw [Int.tmod_eq_emod_of_nonneg h, Int.tmod_eq_emod_of_nonneg h, Int.tmod_eq_emod_of_nonneg h]
  by_cases h1 : y % 4 = 0
  · rw [if_pos h1]
    by_cases h2 : y % 100 = 0
    · rw [if_pos h2]; simp [h1, h2]; rw [Bool.eq_iff_iff]; simp
    · rw [if_neg h2]; simp [h1, h2]
  · rw [if_neg h1]; simp [h1]; rw [Bool.eq_iff_iff]; simp
theorem days_f (y m : Int) : date_Days.f y m = some (dim y m) := by
  unfold date_Days.f
  by_cases h1 : y < 1900
  · rw [if_pos h1, dim_out y m (.inl h1)]
  rw [if_neg h1]
  by_cases h2 : y > 2199
  · rw [if_pos h2, dim_out y m (by omega)]
  rw [if_neg h2]
  by_cases h3 : m < 1
  · rw [if_pos h3, dim_out y m (by omega)]
  rw [if_neg h3]
  by_cases h4 : m > 12
  · rw [if_pos h4, dim_out y m (by omega)]
  rw [if_neg h4, dim_in y m (by omega)]
  by_cases h5 : m = 2
  · rw [if_pos h5, if_pos h5, leap_f y (by omega)]
    simp
  · rw [if_neg h5, if_neg h5]
    unfold date_tab
    rw [if_neg h5]
theorem may_f (y m d : Int) : date_May.f y m d = some (decide (1 ≤ d ∧ d ≤ dim y m)) := by
  unfold date_May.f
  rw [days_f]
  by_cases h : d ≥ 1
  · rw [if_pos h]
    simp; intro; omega
  · rw [if_neg h, decide_eq_false (by omega)]

theorem up_f (k : Nat) (hk : 20 ≤ k) : trivetlaw04_up.f k = some true :=
  at_rounds (g := fun k => trivetlaw04_up.f k) (fun k => trivetlaw04_up.mono k) hk (by decide +kernel)

/-- A day's number, in one formula. -/
def numP (y m d : Int) : Int := 365 * y + y / 4 - y / 100 + y / 400 + (153 * (m - 3) + 2) / 5 + d - 719469
def num (y m d : Int) : Int := if m ≤ 2 then numP (y - 1) (m + 12) d else numP y m d
theorem civil_f (y m d : Int) (hy0 : 1800 ≤ y) (hy1 : y ≤ 2300) (hm0 : 1 ≤ m) (hm1 : m ≤ 12) (hd0 : 0 ≤ d) (hd1 : d ≤ 1000) : date_civil.f y m d = some (num y m d) := by
  have key : ∀ a b : Int, 1799 ≤ a → a ≤ 2300 → 3 ≤ b → b ≤ 14 → (wrap64 ((wrap64 ((wrap64 ((wrap64 ((wrap64 ((wrap64 ((wrap64 ((wrap64 ((wrap64 (Int.tdiv a 400)) * 146097)) + (wrap64 ((Int.tmod a 400) * 365)))) + (wrap64 (Int.tdiv (Int.tmod a 400) 4)))) - (wrap64 (Int.tdiv (Int.tmod a 400) 100)))) + (wrap64 (Int.tdiv (wrap64 ((wrap64 (153 * (wrap64 (b - 3)))) + 2)) 5)))) + d)) - 1)) - 719468)) = numP a b d := by
    intro a b ha0 ha1 hb0 hb1
    rw [Int.tdiv_eq_ediv_of_nonneg (show 0 ≤ a by omega), Int.tmod_eq_emod_of_nonneg (show 0 ≤ a by omega), Int.tdiv_eq_ediv_of_nonneg (show 0 ≤ a % 400 by omega), Int.tdiv_eq_ediv_of_nonneg (show 0 ≤ a % 400 by omega)]
    rw [w64 (b - 3) (by omega) (by omega), w64 (153 * (b - 3)) (by omega) (by omega), w64 (153 * (b - 3) + 2) (by omega) (by omega), Int.tdiv_eq_ediv_of_nonneg (show 0 ≤ 153 * (b - 3) + 2 by omega)]
    have c0 : 0 ≤ (153 * (b - 3) + 2) / 5 ∧ (153 * (b - 3) + 2) / 5 ≤ 400 := by omega
    rw [w64 ((153 * (b - 3) + 2) / 5) (by omega) (by omega)]
    have g : 0 ≤ a / 400 ∧ a / 400 ≤ 6 := by omega
    have r : 0 ≤ a % 400 ∧ a % 400 ≤ 399 := by omega
    have r4 : 0 ≤ a % 400 / 4 ∧ a % 400 / 4 ≤ 99 := by omega
    have r100 : 0 ≤ a % 400 / 100 ∧ a % 400 / 100 ≤ 3 := by omega
    unfold numP
    generalize hc : (153 * (b - 3) + 2) / 5 = c at *
    generalize hg : a / 400 = q at *
    generalize hr : a % 400 = s at *
    rw [w64 q (by omega) (by omega), w64 (q * 146097) (by omega) (by omega), w64 (s * 365) (by omega) (by omega), w64 (q * 146097 + s * 365) (by omega) (by omega), w64 (s / 4) (by omega) (by omega), w64 (s / 100) (by omega) (by omega)]
    rw [w64 (q * 146097 + s * 365 + s / 4) (by omega) (by omega), w64 (q * 146097 + s * 365 + s / 4 - s / 100) (by omega) (by omega), w64 (q * 146097 + s * 365 + s / 4 - s / 100 + c) (by omega) (by omega), w64 (q * 146097 + s * 365 + s / 4 - s / 100 + c + d) (by omega) (by omega), w64 (q * 146097 + s * 365 + s / 4 - s / 100 + c + d - 1) (by omega) (by omega), w64 (q * 146097 + s * 365 + s / 4 - s / 100 + c + d - 1 - 719468) (by omega) (by omega)]
    have e1 : a = 400 * q + s := by omega
    subst e1
    omega
  unfold date_civil.f num
  by_cases h : m ≤ 2
  · rw [if_pos h, if_pos h, w64 (y - 1) (by omega) (by omega), w64 (m + 12) (by omega) (by omega), key (y - 1) (m + 12) (by omega) (by omega) (by omega) (by omega)]
  · rw [if_neg h, if_neg h, key y m (by omega) (by omega) (by omega) (by omega)]
theorem num_month (y m : Int) (hy0 : 1900 ≤ y) (hy1 : y ≤ 2199) (hm0 : 1 ≤ m) (hm1 : m ≤ 11) : num y (m + 1) 1 = num y m 1 + dim y m := by
  rw [dim_in y m (by omega)]
  have hm : m = 1 ∨ m = 2 ∨ m = 3 ∨ m = 4 ∨ m = 5 ∨ m = 6 ∨ m = 7 ∨ m = 8 ∨ m = 9 ∨ m = 10 ∨ m = 11 := by omega
  rcases hm with rfl | rfl | rfl | rfl | rfl | rfl | rfl | rfl | rfl | rfl | rfl
  · simp [num, numP]; omega
  · by_cases h : lp y
    · simp only [if_pos h, if_true]; unfold lp at h; simp [num, numP]; omega
    · simp only [if_neg h, if_true]; unfold lp at h; simp [num, numP]; omega
  all_goals (simp [num, numP]; try omega)
theorem num_year (y : Int) (hy0 : 1900 ≤ y) (hy1 : y ≤ 2199) : num (y + 1) 1 1 = num y 1 1 + (337 + dim y 2) := by
  rw [dim_in y 2 (by omega)]
  by_cases h : lp y
  · simp only [if_pos h, if_true]; unfold lp at h; simp [num, numP]; omega
  · simp only [if_neg h, if_true]; unfold lp at h; simp [num, numP]; omega
theorem num_december (y : Int) (hy0 : 1900 ≤ y) (hy1 : y ≤ 2199) : num (y + 1) 1 1 = num y 12 1 + dim y 12 := by
  rw [dim_in y 12 (by omega)]
  simp [num, numP]
  omega
theorem num_day (y m d : Int) : num y m d = num y m 1 + (d - 1) := by
  unfold num numP
  split <;> omega
theorem num_mono (a b : Int) (h0 : 1900 ≤ a) (h : a ≤ b) (h1 : b ≤ 2200) : num a 1 1 ≤ num b 1 1 := by
  simp [num, numP]
  omega
theorem dim_bounds (y m : Int) (h : ¬ (y < 1900 ∨ 2199 < y ∨ m < 1 ∨ 12 < m)) : 28 ≤ dim y m ∧ dim y m ≤ 31 := by
  rw [dim_in y m h]
  split
  · split <;> omega
  · split <;> omega
theorem num_bounds (y m d : Int) (h : ¬ (y < 1900 ∨ 2199 < y ∨ m < 1 ∨ 12 < m)) (hd0 : 0 ≤ d) (hd1 : d ≤ 1000) : -30000 ≤ num y m d ∧ num y m d ≤ 90000 := by
  unfold num numP
  split <;> omega
def Valid (y m d : Int) : Prop := ¬ (y < 1900 ∨ 2199 < y ∨ m < 1 ∨ 12 < m) ∧ 1 ≤ d ∧ d ≤ dim y m
theorem valid_of (y m d : Int) (h : 1 ≤ d ∧ d ≤ dim y m) : Valid y m d := by
  refine ⟨fun g => ?_, h⟩
  rw [dim_out y m g] at h
  omega
theorem number_f (y m d : Int) : date_Number.f y m d = some (if 1 ≤ d ∧ d ≤ dim y m then (num y m d, none) else (0, some 2)) := by
  unfold date_Number.f
  rw [may_f]
  by_cases h : 1 ≤ d ∧ d ≤ dim y m
  · have v := (valid_of y m d h).1
    have := dim_bounds y m v
    rw [decide_eq_true h, if_pos h]
    simp only [Option.bind_some, if_true]
    rw [civil_f y m d (by omega) (by omega) (by omega) (by omega) (by omega) (by omega)]
    rfl
  · rw [decide_eq_false h, if_neg h]
    simp

theorem doy_last (D Y : Int) (h0 : 0 ≤ D) (h1 : D ≤ 146096) (hY : Y = (D - D / 1460 + D / 36524 - D / 146096) / 365) (hd : D - (365 * Y + Y / 4 - Y / 100) = 365) : (Y + 1) % 4 = 0 ∧ ((Y + 1) % 100 ≠ 0 ∨ (Y + 1) % 400 = 0) := by
  by_cases hl : D = 146096
  · subst hl
    have : Y = 399 := by rw [hY]; decide
    subst this
    decide
  obtain ⟨e, he⟩ : ∃ e, e = D / 36524 := ⟨_, rfl⟩
  obtain ⟨r, hr⟩ : ∃ r, r = D - 36524 * e := ⟨_, rfl⟩
  have e0 : 0 ≤ e ∧ e ≤ 3 := by omega
  have r0 : 0 ≤ r ∧ r < 36524 := by omega
  have f0 : D / 146096 = 0 := by omega
  have a1 : D / 1460 = 25 * e + (24 * e + r) / 1460 := by omega
  have a2 : Y = 100 * e + (r - (24 * e + r) / 1460) / 365 := by omega
  obtain ⟨q, hq⟩ : ∃ q, q = r / 1461 := ⟨_, rfl⟩
  obtain ⟨s, hs⟩ : ∃ s, s = r - 1461 * q := ⟨_, rfl⟩
  have q0 : 0 ≤ q ∧ q ≤ 24 := by omega
  have s0 : 0 ≤ s ∧ s ≤ 1460 := by omega
  obtain ⟨b, hb⟩ : ∃ b, b = (24 * e + q + s) / 1460 := ⟨_, rfl⟩
  have b0 : 0 ≤ b ∧ b ≤ 1 := by omega
  have a3 : (24 * e + r) / 1460 = q + b := by omega
  obtain ⟨t, ht⟩ : ∃ t, t = (s - b) / 365 := ⟨_, rfl⟩
  have b1 : s - b ≤ 1459 := by omega
  have b2 : 0 ≤ s - b := by omega
  have t0 : 0 ≤ t ∧ t ≤ 3 := by omega
  have a4 : Y = 100 * e + 4 * q + t := by omega
  have a5 : Y / 4 = 25 * e + q := by omega
  have a6 : Y / 100 = e := by omega
  have a7 : D - (365 * Y + Y / 4 - Y / 100) = s - 365 * t := by omega
  have a8 : t = 3 ∧ s = 1460 := by omega
  have a9 : q ≤ 23 := by omega
  omega
theorem year_lo (D y d m : Int) (h0 : 109513 ≤ D) (h1 : D ≤ 146096) (hy : y = (D - D / 1460 + D / 36524 - D / 146096) / 365) (hd : d = D - (365 * y + y / 4 - y / 100)) (hm : m = (5 * d + 2) / 153) : 300 ≤ y ∨ (y = 299 ∧ 10 ≤ m) := by
  have a1 : D / 1460 ≤ 100 := by omega
  have a2 : 2 ≤ D / 36524 := by omega
  have a3 : D / 146096 ≤ 1 := by omega
  have a4 : 299 ≤ y := by omega
  by_cases c : y = 299
  · subst c
    right
    have : 306 ≤ d := by rw [hd]; omega
    omega
  · left; omega
theorem year_hi (D y d m : Int) (h0 : 0 ≤ D) (h1 : D ≤ 72988) (hy : y = (D - D / 1460 + D / 36524 - D / 146096) / 365) (hd : d = D - (365 * y + y / 4 - y / 100)) (hm : m = (5 * d + 2) / 153) : y ≤ 198 ∨ (y = 199 ∧ m ≤ 9) := by
  have a2 : D / 36524 ≤ 1 := by omega
  have a3 : D / 146096 = 0 := by omega
  have a1 : 1460 * (D / 1460) ≥ D - 1459 := by omega
  have a4 : y ≤ 199 := by omega
  by_cases c : y = 199
  · subst c
    right
    have : d ≤ 305 := by rw [hd]; omega
    exact ⟨rfl, by omega⟩
  · left; omega
set_option maxHeartbeats 1000000 in
/-- What a number's date is: valid, and its number is that. -/
theorem of_valid (n : Int) (h1 : -25567 ≤ n) (h2 : n ≤ 84005) : Valid (ofY n) (ofM n) (ofD n) ∧ num (ofY n) (ofM n) (ofD n) = n := by
  obtain ⟨b1, b2, b3, b4, b5, b6, b7, b8, b9⟩ := of_bounds n h1 h2
  have hl := doy_last (of_D n) (of_y n) b1 b2 rfl
  have hn : of_n n = n + 719468 := rfl
  obtain ⟨g, hg⟩ : ∃ g, g = of_n n / 146097 := ⟨_, rfl⟩
  have hD : of_D n = of_n n - 146097 * g := by unfold of_D; omega
  have hy : of_y n = (of_D n - of_D n / 1460 + of_D n / 36524 - of_D n / 146096) / 365 := rfl
  have hd : of_d n = of_D n - (365 * of_y n + of_y n / 4 - of_y n / 100) := rfl
  have hm : of_m n = (5 * of_d n + 2) / 153 := rfl
  have hg2 : g = 4 ∨ g = 5 := by omega
  unfold ofY ofM ofD
  rw [← hg]
  generalize of_D n = D at *
  generalize of_y n = y at *
  generalize of_d n = d at *
  generalize of_m n = m at *
  generalize of_n n = N at *
  have hy100 : 0 ≤ y / 100 ∧ y / 100 ≤ 3 := by omega
  have lo : g = 4 → (300 ≤ y ∨ (y = 299 ∧ 10 ≤ m)) := fun e => year_lo D y d m (by omega) b2 hy hd hm
  have hi : g = 5 → (y ≤ 198 ∨ (y = 199 ∧ m ≤ 9)) := fun e => year_hi D y d m b1 (by omega) hy hd hm
  have hdv : 365 * y + y / 4 - y / 100 + d = D := by omega
  have hmd : 153 * m ≤ 5 * d + 2 ∧ 5 * d + 2 < 153 * m + 153 := by omega
  clear hy hm b3
  have hyr : ¬ ((if 12 < m + 3 then g * 400 + y + 1 else g * 400 + y) < 1900 ∨ 2199 < (if 12 < m + 3 then g * 400 + y + 1 else g * 400 + y) ∨ (if 12 < m + 3 then m + 3 - 12 else m + 3) < 1 ∨ 12 < (if 12 < m + 3 then m + 3 - 12 else m + 3)) := by
    split <;> rcases hg2 with e | e <;> (first | have := lo e | have := hi e) <;> omega
  refine ⟨⟨hyr, by omega, ?_⟩, ?_⟩
  · rw [dim_in _ _ hyr]
    have hm12 : m = 0 ∨ m = 1 ∨ m = 2 ∨ m = 3 ∨ m = 4 ∨ m = 5 ∨ m = 6 ∨ m = 7 ∨ m = 8 ∨ m = 9 ∨ m = 10 ∨ m = 11 := by omega
    rcases hm12 with e | e | e | e | e | e | e | e | e | e | e | e
    case inr.inr.inr.inr.inr.inr.inr.inr.inr.inr.inr =>
      subst e
      simp
      by_cases hlp : lp (g * 400 + y + 1)
      · rw [if_pos hlp]; omega
      · rw [if_neg hlp]
        have : d ≠ 365 := by
          intro hd2
          have := hl (by omega)
          unfold lp at hlp
          omega
        omega
    all_goals (subst e; simp; omega)
  · have q1 : (g * 400 + y) / 4 = 100 * g + y / 4 := by omega
    have q2 : (g * 400 + y) / 100 = 4 * g + y / 100 := by omega
    have q3 : (g * 400 + y) / 400 = g := by omega
    by_cases c : 12 < m + 3
    · rw [if_pos c, if_pos c]
      unfold num numP
      rw [if_pos (by omega), show g * 400 + y + 1 - 1 = g * 400 + y from by omega, show m + 3 - 12 + 12 - 3 = m from by omega, q1, q2, q3]
      clear q1 q2 q3 lo hi hl hyr
      omega
    · rw [if_neg c, if_neg c]
      unfold num numP
      rw [if_neg (by omega), show m + 3 - 3 = m from by omega, q1, q2, q3]
      clear q1 q2 q3 lo hi hl hyr
      omega

theorem num_lt (Y M D : Int) (h : Valid Y M D) : num Y M D < num (Y + 1) 1 1 := by
  have hv := h.1
  have hd := h.2
  have hday := num_day Y M D
  have c1 : num Y M 1 + dim Y M ≤ num (Y + 1) 1 1 := by
    by_cases c : M = 12
    · subst c; rw [num_december Y (by omega) (by omega)]; omega
    · rw [← num_month Y M (by omega) (by omega) (by omega) (by omega), num_december Y (by omega) (by omega)]
      have hb12 := dim_bounds Y 12 (by omega)
      have : num Y (M + 1) 1 ≤ num Y 12 1 := by
        unfold num numP
        split <;> split <;> omega
      omega
  omega
theorem num_ge (Y M D : Int) (h : Valid Y M D) : num Y 1 1 ≤ num Y M D := by
  have hv := h.1
  have hd := h.2
  have hday := num_day Y M D
  have : num Y 1 1 ≤ num Y M 1 := by
    unfold num numP
    rw [if_pos (show (1 : Int) ≤ 2 by omega)]
    split <;> omega
  omega
theorem num_inj (Y M D Y' M' D' : Int) (h : Valid Y M D) (h' : Valid Y' M' D') (e : num Y M D = num Y' M' D') : Y = Y' ∧ M = M' ∧ D = D' := by
  have hv := h.1
  have hv' := h'.1
  have hd := h.2
  have hd' := h'.2
  have hY : Y = Y' := by
    by_cases c : Y < Y'
    · have a1 := num_lt Y M D h
      have a2 := num_mono (Y + 1) Y' (by omega) (by omega) (by omega)
      have a3 := num_ge Y' M' D' h'
      omega
    · by_cases c2 : Y' < Y
      · have a1 := num_lt Y' M' D' h'
        have a2 := num_mono (Y' + 1) Y (by omega) (by omega) (by omega)
        have a3 := num_ge Y M D h
        omega
      · omega
  subst hY
  have e1 := num_day Y M D
  have e2 := num_day Y M' D'
  have less : ∀ a b : Int, 1 ≤ a → a < b → b ≤ 12 → num Y a 1 + dim Y a ≤ num Y b 1 := by
    intro a b h0 h1 h2
    have := num_month Y a (by omega) (by omega) h0 (by omega)
    have : num Y (a + 1) 1 ≤ num Y b 1 := by
      unfold num numP
      split <;> split <;> omega
    omega
  have hM : M = M' := by
    by_cases c : M < M'
    · have := less M M' (by omega) c (by omega); omega
    · by_cases c2 : M' < M
      · have := less M' M (by omega) c2 (by omega); omega
      · omega
  subst hM
  exact ⟨rfl, rfl, by omega⟩

def wday (n : Int) : Int := (n + 4) % 7
theorem weekday_f (y m d : Int) (h : Valid y m d) : date_Weekday.f y m d = some (wday (num y m d), none) := by
  have hv := h.1
  have hd := dim_bounds y m hv
  have hb := num_bounds y m d hv (by have := h.2; omega) (by have := h.2; omega)
  unfold date_Weekday.f
  rw [number_f, if_pos h.2]
  simp only [Option.bind_some, Option.isNone_none, if_true]
  rw [w64 (num y m d + 4) (by omega) (by omega)]
  congr 2
  unfold wday
  generalize num y m d = n at *
  by_cases c : 0 ≤ n + 4
  · rw [Int.tmod_eq_emod_of_nonneg c, w64 _ (by omega) (by omega), Int.tmod_eq_emod_of_nonneg (by omega)]
    omega
  · have e : Int.tmod (n + 4) 7 = -((-(n + 4)) % 7) := by
      have := Int.neg_tmod (-(n + 4)) 7
      rw [Int.neg_neg] at this
      rw [this, Int.tmod_eq_emod_of_nonneg (by omega)]
    rw [e, w64 _ (by omega) (by omega), Int.tmod_eq_emod_of_nonneg (by omega)]
    omega

/-- The day behind a day. -/
theorem next_day (n : Int) (h1 : -25567 ≤ n) (h2 : n < 84005) :
    (ofY (n + 1) = ofY n ∧ ofM (n + 1) = ofM n ∧ ofD (n + 1) = ofD n + 1) ∨
    (ofY (n + 1) = ofY n ∧ ofM (n + 1) = ofM n + 1 ∧ ofD (n + 1) = 1 ∧ ofD n = dim (ofY n) (ofM n)) ∨
    (ofY (n + 1) = ofY n + 1 ∧ ofM (n + 1) = 1 ∧ ofD (n + 1) = 1 ∧ ofM n = 12 ∧ ofD n = 31) := by
  obtain ⟨v, hn⟩ := of_valid n h1 (by omega)
  obtain ⟨v', hn'⟩ := of_valid (n + 1) (by omega) (by omega)
  generalize ofY n = Y at *
  generalize ofM n = M at *
  generalize ofD n = D at *
  generalize ofY (n + 1) = Y' at *
  generalize ofM (n + 1) = M' at *
  generalize ofD (n + 1) = D' at *
  have hv := v.1
  have hd := v.2
  have e1 := num_day Y M D
  by_cases c : D < dim Y M
  · left
    have w : Valid Y M (D + 1) := ⟨hv, by omega, by omega⟩
    have e2 := num_day Y M (D + 1)
    exact num_inj _ _ _ _ _ _ v' w (by omega)
  by_cases c2 : M < 12
  · right; left
    have hb := dim_bounds Y (M + 1) (by omega)
    have w : Valid Y (M + 1) 1 := ⟨by omega, by omega, by omega⟩
    have hm := num_month Y M (by omega) (by omega) (by omega) (by omega)
    obtain ⟨a, b, d⟩ := num_inj _ _ _ _ _ _ v' w (by omega)
    exact ⟨a, b, d, by omega⟩
  · right; right
    obtain rfl : M = 12 := by omega
    have hdd : dim Y 12 = 31 := by rw [dim_in Y 12 hv]; rfl
    have hm := num_december Y (by omega) (by omega)
    by_cases c3 : Y < 2199
    · have hb := dim_bounds (Y + 1) 1 (by omega)
      have w : Valid (Y + 1) 1 1 := ⟨by omega, by omega, by omega⟩
      obtain ⟨a, b, d⟩ := num_inj _ _ _ _ _ _ v' w (by omega)
      exact ⟨a, b, d, rfl, by omega⟩
    · exfalso
      obtain rfl : Y = 2199 := by omega
      have e5 : num 2199 12 1 = 83975 := by decide
      omega
theorem last_day : ofY 84005 = 2199 ∧ ofM 84005 = 12 ∧ ofD 84005 = 31 := by decide

def trivetlaw04_DateBack.f (a0 : Int) : Option Bool := some true
theorem back_cell {W w1 : World} (hb : Below W.heap.size W w1) : (∀ b o, b < W.heap.size → w1.cell? ⟨b, o, none⟩ = W.cell? ⟨b, o, none⟩) ∧ (∀ b o, b < W.heap.size → w1.frozen? ⟨b, o, none⟩ = W.frozen? ⟨b, o, none⟩) :=
  ⟨fun b o h => hb.cell (p := ⟨b, o, none⟩) h, fun b o h => hb.frozen (p := ⟨b, o, none⟩) h⟩
structure GB (w : World) where
  w' : World
  b : Below w.heap.size w w'
instance (w : World) : Inhabited (GB w) := ⟨⟨w, Below.refl _ _⟩⟩
theorem gb_region {P : Program} {id : Nat} {Q : Exit → Act → World → Prop} {a : Act} {w : World} {l : List Oper} (hm : P.follows .mixedOrders = true) (hB : Region.lexB .any l.toArray = true)
    (h : wpQuiet P l.toArray (fun w' => ∃ p : GB w, w' = p.w') (fun a' => ∀ w', (∃ p : GB w, w' = p.w') → Q .normal a' w') l a) : (Code.region id l.toArray true).wp P Q a w :=
  wp_region_quiet (C := fun w' => ∃ p : GB w, w' = p.w') hm hB ⟨⟨{ w with drawn := w.drawn + 1 }, ⟨rfl, rfl, rfl, Nat.le_refl _, fun _ _ => rfl⟩⟩, rfl⟩ (by simpa using h)
theorem gb_cell {w : World} {b o : Nat} {v : Value} (hb : b < w.heap.size) (h : w.cell? ⟨b, o, none⟩ = some v) (p : GB w) : p.w'.cell? ⟨b, o, none⟩ = some v := (p.b.cell (p := ⟨b, o, none⟩) hb).trans h
theorem gb_calls {P : Program} {f : FuncId} {args : Array Value} {w : World} {p : GB w} {v : Value}
    (h : Calls P f args p.w' fun e w' => e = .returned v ∧ Below p.w'.heap.size p.w' w') : Calls P f args p.w' fun e w'' => e = .returned v ∧ ∃ q : GB w, w'' = q.w' :=
  h.mono fun _ w'' ⟨he, hb⟩ => ⟨he, ⟨w'', below_step p.b hb⟩, rfl⟩
set_option maxHeartbeats 1000000 in
set_option maxRecDepth 100000 in
theorem back_err (n : Int) (w : World) (h : n < -25567 ∨ n > 84005) : Calls Try.prog 7 #[.int .i64 n] w fun e w' => e = .returned (.bool true) ∧ Below w.heap.size w w' := by
  have U := Aside0.mk (fun W => trivetlaw04_up.calls 30 true W (up_f 30 (by omega)))
  have eo : date_Of.f n = some (0, 0, 0, some 1) := by
    unfold date_Of.f
    by_cases c : n < -25567
    · rw [if_pos c]
    · rw [if_neg c, if_pos (by omega)]
  have O : Aside0 (∀ W : World, Calls Try.prog 23 #[.int .i64 n] W fun e w' => e = .returned (.tuple #[.agg #[.int .i64 0, .int .i64 0, .int .i64 0], .iface 35 (.int .i64 1)]) ∧ Below W.heap.size W w') := ⟨fun W => date_Of.calls n 0 0 0 (some 1) W eo⟩
  clear h eo
  go_enter Try.func7, Try.ntmps7
  go_wp2_with fail
  refine (U.out _).mono ?_
  rintro e w1 ⟨rfl, hb1⟩
  have B1 := Aside0.mk hb1
  clear hb1
  go_wp2_with fail
  refine (O.out _).mono ?_
  rintro e w2 ⟨rfl, hb2⟩
  have B2 := Aside0.mk hb2
  clear hb2
  go_wp2
  go_ret
  exact ⟨rfl, below_alloc (below_step B1.out B2.out) _⟩
set_option maxHeartbeats 1000000 in
set_option maxRecDepth 100000 in
theorem back_last (w : World) : Calls Try.prog 7 #[.int .i64 84005] w fun e w' => e = .returned (.bool true) ∧ Below w.heap.size w w' := by
  have U := Aside0.mk (fun W => trivetlaw04_up.calls 30 true W (up_f 30 (by omega)))
  have O := Aside0.mk (show ∀ W : World, Calls Try.prog 23 #[.int .i64 84005] W fun e w' => e = .returned (.tuple #[.agg #[.int .i64 2199, .int .i64 12, .int .i64 31], .nilIface]) ∧ Below W.heap.size W w' from fun W => date_Of.calls 84005 2199 12 31 none W (by decide +kernel))
  have O2 := Aside0.mk (show ∀ W : World, Calls Try.prog 23 #[.int .i64 84006] W fun e w' => e = .returned (.tuple #[.agg #[.int .i64 0, .int .i64 0, .int .i64 0], .iface 35 (.int .i64 1)]) ∧ Below W.heap.size W w' from fun W => date_Of.calls 84006 0 0 0 (some 1) W (by decide +kernel))
  have N := Aside0.mk (show ∀ W : World, Calls Try.prog 22 #[.agg #[.int .i64 2199, .int .i64 12, .int .i64 31]] W fun e w' => e = .returned (.tuple #[.int .i64 84005, .nilIface]) ∧ Below W.heap.size W w' from fun W => date_Number.calls 2199 12 31 84005 none W (by decide +kernel))
  have D := Aside0.mk (show ∀ W : World, Calls Try.prog 18 #[.agg #[.int .i64 2199, .int .i64 12, .int .i64 31]] W fun e w' => e = .returned (.tuple #[.int .i64 2, .nilIface]) ∧ Below W.heap.size W w' from fun W => date_Weekday.calls 2199 12 31 2 none W (by decide +kernel))
  go_enter Try.func7, Try.ntmps7
  go_wp2_with fail
  refine (U.out _).mono ?_
  rintro e w1 ⟨rfl, hb1⟩
  have B1 := Aside0.mk hb1
  clear hb1
  go_wp2_with fail
  refine (O.out _).mono ?_
  rintro e w2 ⟨rfl, hb2⟩
  have B2 := Aside0.mk hb2
  clear hb2
  go_wp2_with fail
  refine (N.out _).mono ?_
  rintro e w3 ⟨rfl, hb3⟩
  have B3 := Aside0.mk hb3
  obtain ⟨hc3, hf3⟩ := back_cell hb3
  clear hb3
  go_wp2_with fail
  refine (D.out _).mono ?_
  rintro e w4 ⟨rfl, hb4⟩
  have B4 := Aside0.mk hb4
  obtain ⟨hc4, hf4⟩ := back_cell hb4
  have z3 : w2.heap.size < w3.heap.size := by have := B3.out.size; simp at this; omega
  have z4 : w2.heap.size < w4.heap.size := by have := B4.out.size; omega
  clear hb4
  go_wp2_with fail
  refine (O2.out _).mono ?_
  rintro e w5 ⟨rfl, hb5⟩
  have B5 := Aside0.mk hb5
  obtain ⟨hc5, hf5⟩ := back_cell hb5
  have z5 : w2.heap.size < w5.heap.size := by have := B5.out.size; omega
  clear hb5
  go_wp2
  go_ret
  exact ⟨rfl, below_alloc (below_step (below_step (below_step (below_alloc (below_step B1.out B2.out) _) B3.out) B4.out) B5.out) _⟩
set_option maxHeartbeats 600000 in
set_option maxRecDepth 100000 in
theorem back_a (n Y M D q : Int) (w : World) (hn0 : -25567 ≤ n) (hn1 : n < 84005) (hy0 : 1900 ≤ Y) (hy1 : Y ≤ 2199) (hm0 : 1 ≤ M) (hm1 : M ≤ 12) (hd0 : 1 ≤ D) (hd1 : D ≤ 31) (hq0 : 0 ≤ q) (hq1 : q ≤ 6)
    (O : Aside0 (∀ W : World, Calls Try.prog 23 #[.int .i64 n] W fun e w' => e = .returned (.tuple #[.agg #[.int .i64 Y, .int .i64 M, .int .i64 D], .nilIface]) ∧ Below W.heap.size W w'))
    (O2 : Aside0 (∀ W : World, Calls Try.prog 23 #[.int .i64 (n + 1)] W fun e w' => e = .returned (.tuple #[.agg #[.int .i64 (Y), .int .i64 (M), .int .i64 (D + 1)], .nilIface]) ∧ Below W.heap.size W w'))
    (N : Aside0 (∀ W : World, Calls Try.prog 22 #[.agg #[.int .i64 Y, .int .i64 M, .int .i64 D]] W fun e w' => e = .returned (.tuple #[.int .i64 n, .nilIface]) ∧ Below W.heap.size W w'))
    (D1 : Aside0 (∀ W : World, Calls Try.prog 18 #[.agg #[.int .i64 Y, .int .i64 M, .int .i64 D]] W fun e w' => e = .returned (.tuple #[.int .i64 q, .nilIface]) ∧ Below W.heap.size W w'))
    (D2 : Aside0 (∀ W : World, Calls Try.prog 18 #[.agg #[.int .i64 (Y), .int .i64 (M), .int .i64 (D + 1)]] W fun e w' => e = .returned (.tuple #[.int .i64 ((q + 1) % 7), .nilIface]) ∧ Below W.heap.size W w')) :
    Calls Try.prog 7 #[.int .i64 n] w fun e w' => e = .returned (.bool true) ∧ Below w.heap.size w w' := by
  have U := Aside0.mk (fun W => trivetlaw04_up.calls 30 true W (up_f 30 (by omega)))
  go_enter Try.func7, Try.ntmps7
  go_wp2_with fail
  refine (U.out _).mono ?_
  rintro e w1 ⟨rfl, hb1⟩
  have B1 := Aside0.mk hb1
  clear hb1
  go_wp2_with fail
  refine (O.out _).mono ?_
  rintro e w2 ⟨rfl, hb2⟩
  have B2 := Aside0.mk hb2
  clear hb2
  go_wp2_with fail
  refine (N.out _).mono ?_
  rintro e w3 ⟨rfl, hb3⟩
  have B3 := Aside0.mk hb3
  obtain ⟨hc3, hf3⟩ := back_cell hb3
  have z3 : w2.heap.size < w3.heap.size := by have := B3.out.size; simp at this; omega
  clear hb3
  go_wp2_with fail
  refine (D1.out _).mono ?_
  rintro e w4 ⟨rfl, hb4⟩
  have B4 := Aside0.mk hb4
  obtain ⟨hc4, hf4⟩ := back_cell hb4
  have z4 : w2.heap.size < w4.heap.size := by have := B4.out.size; omega
  clear hb4
  go_wp2_with fail
  refine (O2.out _).mono ?_
  rintro e w5 ⟨rfl, hb5⟩
  have B5 := Aside0.mk hb5
  obtain ⟨hc5, hf5⟩ := back_cell hb5
  have z5 : w2.heap.size < w5.heap.size := by have := B5.out.size; omega
  clear hb5
  go_wp2_with fail
  refine (D2.out _).mono ?_
  rintro e w6 ⟨rfl, hb6⟩
  have B6 := Aside0.mk hb6
  obtain ⟨hc6, hf6⟩ := back_cell hb6
  have z6 : w2.heap.size < w6.heap.size := by have := B6.out.size; simp at this; omega
  have y6 : w5.heap.size < w6.heap.size := by have := B6.out.size; simp at this; omega
  have u5 : w2.heap.size < w5.heap.size + 1 := by omega
  clear hb6
  go_wp2
  have BB : Below (w2.alloc (.cells #[.int .i64 Y, .int .i64 M, .int .i64 D] 23)).heap.size (w2.alloc (.cells #[.int .i64 Y, .int .i64 M, .int .i64 D] 23)) w6 := below_step (below_alloc (below_step (below_step B3.out B4.out) B5.out) _) B6.out
  have k0 : w6.cell? ⟨w2.heap.size, 0, none⟩ = some (.int .i64 Y) := (BB.cell (p := ⟨w2.heap.size, 0, none⟩) (by simp)).trans (by go_simp)
  have k1 : w6.cell? ⟨w2.heap.size, 1, none⟩ = some (.int .i64 M) := (BB.cell (p := ⟨w2.heap.size, 1, none⟩) (by simp)).trans (by go_simp)
  have k2 : w6.cell? ⟨w2.heap.size, 2, none⟩ = some (.int .i64 D) := (BB.cell (p := ⟨w2.heap.size, 2, none⟩) (by simp)).trans (by go_simp)
  have k3 : w6.cell? ⟨w5.heap.size, 0, none⟩ = some (.int .i64 (Y)) := (B6.out.cell (p := ⟨w5.heap.size, 0, none⟩) (by simp)).trans (by go_simp)
  have k4 : w6.cell? ⟨w5.heap.size, 1, none⟩ = some (.int .i64 (M)) := (B6.out.cell (p := ⟨w5.heap.size, 1, none⟩) (by simp)).trans (by go_simp)
  have k5 : w6.cell? ⟨w5.heap.size, 2, none⟩ = some (.int .i64 (D + 1)) := (B6.out.cell (p := ⟨w5.heap.size, 2, none⟩) (by simp)).trans (by go_simp)
  have g0 := gb_cell z6 k0
  have g1 := gb_cell z6 k1
  have g2 := gb_cell z6 k2
  have g3 := gb_cell y6 k3
  have g4 := gb_cell y6 k4
  have g5 := gb_cell y6 k5
  clear BB hc3 hc4 hc5 hc6 hf3 hf4 hf5 hf6 z3 z4 z5 z6 y6 u5 k0 k1 k2 k3 k4 k5 O O2 N D1 D2 U
  have kw : IntKind.i64.wrap (D + 1) = D + 1 := IntWalk.i64_in _ (by omega)
  dsimp only [List.append_eq, List.cons_append, List.nil_append]
  refine gb_region (by kernel_rfl) (by kernel_rfl) ?_
  repeat (go_big_quiet_step (fail))
  refine wpQuiet_nil ?_
  intro _ hw'
  obtain ⟨gq, hw''⟩ := hw'
  subst hw''
  go_wp2
  go_ret
  exact ⟨rfl, below_step (below_step (below_alloc (below_step (below_step (below_step (below_alloc (below_step B1.out B2.out) _) B3.out) B4.out) B5.out) _) B6.out) gq.b⟩
set_option maxHeartbeats 600000 in
set_option maxRecDepth 100000 in
theorem back_b (n Y M D q : Int) (w : World) (hn0 : -25567 ≤ n) (hn1 : n < 84005) (hy0 : 1900 ≤ Y) (hy1 : Y ≤ 2199) (hm0 : 1 ≤ M) (hm1 : M ≤ 12) (hd0 : 1 ≤ D) (hd1 : D ≤ 31) (hq0 : 0 ≤ q) (hq1 : q ≤ 6)
    (O : Aside0 (∀ W : World, Calls Try.prog 23 #[.int .i64 n] W fun e w' => e = .returned (.tuple #[.agg #[.int .i64 Y, .int .i64 M, .int .i64 D], .nilIface]) ∧ Below W.heap.size W w'))
    (O2 : Aside0 (∀ W : World, Calls Try.prog 23 #[.int .i64 (n + 1)] W fun e w' => e = .returned (.tuple #[.agg #[.int .i64 (Y), .int .i64 (M + 1), .int .i64 (1)], .nilIface]) ∧ Below W.heap.size W w'))
    (N : Aside0 (∀ W : World, Calls Try.prog 22 #[.agg #[.int .i64 Y, .int .i64 M, .int .i64 D]] W fun e w' => e = .returned (.tuple #[.int .i64 n, .nilIface]) ∧ Below W.heap.size W w'))
    (D1 : Aside0 (∀ W : World, Calls Try.prog 18 #[.agg #[.int .i64 Y, .int .i64 M, .int .i64 D]] W fun e w' => e = .returned (.tuple #[.int .i64 q, .nilIface]) ∧ Below W.heap.size W w'))
    (D2 : Aside0 (∀ W : World, Calls Try.prog 18 #[.agg #[.int .i64 (Y), .int .i64 (M + 1), .int .i64 (1)]] W fun e w' => e = .returned (.tuple #[.int .i64 ((q + 1) % 7), .nilIface]) ∧ Below W.heap.size W w')) (h1 : ((M + 1) == M) = false)
    (DY : Aside0 (∀ W : World, Calls Try.prog 15 #[.int .i64 Y, .int .i64 M] W fun e w' => e = .returned (.int .i64 D) ∧ Below W.heap.size W w')) :
    Calls Try.prog 7 #[.int .i64 n] w fun e w' => e = .returned (.bool true) ∧ Below w.heap.size w w' := by
  have U := Aside0.mk (fun W => trivetlaw04_up.calls 30 true W (up_f 30 (by omega)))
  go_enter Try.func7, Try.ntmps7
  go_wp2_with fail
  refine (U.out _).mono ?_
  rintro e w1 ⟨rfl, hb1⟩
  have B1 := Aside0.mk hb1
  clear hb1
  go_wp2_with fail
  refine (O.out _).mono ?_
  rintro e w2 ⟨rfl, hb2⟩
  have B2 := Aside0.mk hb2
  clear hb2
  go_wp2_with fail
  refine (N.out _).mono ?_
  rintro e w3 ⟨rfl, hb3⟩
  have B3 := Aside0.mk hb3
  obtain ⟨hc3, hf3⟩ := back_cell hb3
  have z3 : w2.heap.size < w3.heap.size := by have := B3.out.size; simp at this; omega
  clear hb3
  go_wp2_with fail
  refine (D1.out _).mono ?_
  rintro e w4 ⟨rfl, hb4⟩
  have B4 := Aside0.mk hb4
  obtain ⟨hc4, hf4⟩ := back_cell hb4
  have z4 : w2.heap.size < w4.heap.size := by have := B4.out.size; omega
  clear hb4
  go_wp2_with fail
  refine (O2.out _).mono ?_
  rintro e w5 ⟨rfl, hb5⟩
  have B5 := Aside0.mk hb5
  obtain ⟨hc5, hf5⟩ := back_cell hb5
  have z5 : w2.heap.size < w5.heap.size := by have := B5.out.size; omega
  clear hb5
  go_wp2_with fail
  refine (D2.out _).mono ?_
  rintro e w6 ⟨rfl, hb6⟩
  have B6 := Aside0.mk hb6
  obtain ⟨hc6, hf6⟩ := back_cell hb6
  have z6 : w2.heap.size < w6.heap.size := by have := B6.out.size; simp at this; omega
  have y6 : w5.heap.size < w6.heap.size := by have := B6.out.size; simp at this; omega
  have u5 : w2.heap.size < w5.heap.size + 1 := by omega
  clear hb6
  go_wp2
  have BB : Below (w2.alloc (.cells #[.int .i64 Y, .int .i64 M, .int .i64 D] 23)).heap.size (w2.alloc (.cells #[.int .i64 Y, .int .i64 M, .int .i64 D] 23)) w6 := below_step (below_alloc (below_step (below_step B3.out B4.out) B5.out) _) B6.out
  have k0 : w6.cell? ⟨w2.heap.size, 0, none⟩ = some (.int .i64 Y) := (BB.cell (p := ⟨w2.heap.size, 0, none⟩) (by simp)).trans (by go_simp)
  have k1 : w6.cell? ⟨w2.heap.size, 1, none⟩ = some (.int .i64 M) := (BB.cell (p := ⟨w2.heap.size, 1, none⟩) (by simp)).trans (by go_simp)
  have k2 : w6.cell? ⟨w2.heap.size, 2, none⟩ = some (.int .i64 D) := (BB.cell (p := ⟨w2.heap.size, 2, none⟩) (by simp)).trans (by go_simp)
  have k3 : w6.cell? ⟨w5.heap.size, 0, none⟩ = some (.int .i64 (Y)) := (B6.out.cell (p := ⟨w5.heap.size, 0, none⟩) (by simp)).trans (by go_simp)
  have k4 : w6.cell? ⟨w5.heap.size, 1, none⟩ = some (.int .i64 (M + 1)) := (B6.out.cell (p := ⟨w5.heap.size, 1, none⟩) (by simp)).trans (by go_simp)
  have k5 : w6.cell? ⟨w5.heap.size, 2, none⟩ = some (.int .i64 (1)) := (B6.out.cell (p := ⟨w5.heap.size, 2, none⟩) (by simp)).trans (by go_simp)
  have g0 := gb_cell z6 k0
  have g1 := gb_cell z6 k1
  have g2 := gb_cell z6 k2
  have g3 := gb_cell y6 k3
  have g4 := gb_cell y6 k4
  have g5 := gb_cell y6 k5
  clear BB hc3 hc4 hc5 hc6 hf3 hf4 hf5 hf6 z3 z4 z5 z6 y6 u5 k0 k1 k2 k3 k4 k5 O O2 N D1 D2 U
  have kw : IntKind.i64.wrap (M + 1) = M + 1 := IntWalk.i64_in _ (by omega)
  dsimp only [List.append_eq, List.cons_append, List.nil_append]
  refine gb_region (by kernel_rfl) (by kernel_rfl) ?_
  repeat (go_big_quiet_step (exact gb_calls (DY.out _)))
  refine wpQuiet_nil ?_
  intro _ hw'
  obtain ⟨gq, hw''⟩ := hw'
  subst hw''
  go_wp2
  go_ret
  exact ⟨rfl, below_step (below_step (below_alloc (below_step (below_step (below_step (below_alloc (below_step B1.out B2.out) _) B3.out) B4.out) B5.out) _) B6.out) gq.b⟩
set_option maxHeartbeats 600000 in
set_option maxRecDepth 100000 in
theorem back_c (n Y M D q : Int) (w : World) (hn0 : -25567 ≤ n) (hn1 : n < 84005) (hy0 : 1900 ≤ Y) (hy1 : Y ≤ 2199) (hm0 : 1 ≤ M) (hm1 : M ≤ 12) (hd0 : 1 ≤ D) (hd1 : D ≤ 31) (hq0 : 0 ≤ q) (hq1 : q ≤ 6)
    (O : Aside0 (∀ W : World, Calls Try.prog 23 #[.int .i64 n] W fun e w' => e = .returned (.tuple #[.agg #[.int .i64 Y, .int .i64 M, .int .i64 D], .nilIface]) ∧ Below W.heap.size W w'))
    (O2 : Aside0 (∀ W : World, Calls Try.prog 23 #[.int .i64 (n + 1)] W fun e w' => e = .returned (.tuple #[.agg #[.int .i64 (Y + 1), .int .i64 (1), .int .i64 (1)], .nilIface]) ∧ Below W.heap.size W w'))
    (N : Aside0 (∀ W : World, Calls Try.prog 22 #[.agg #[.int .i64 Y, .int .i64 M, .int .i64 D]] W fun e w' => e = .returned (.tuple #[.int .i64 n, .nilIface]) ∧ Below W.heap.size W w'))
    (D1 : Aside0 (∀ W : World, Calls Try.prog 18 #[.agg #[.int .i64 Y, .int .i64 M, .int .i64 D]] W fun e w' => e = .returned (.tuple #[.int .i64 q, .nilIface]) ∧ Below W.heap.size W w'))
    (D2 : Aside0 (∀ W : World, Calls Try.prog 18 #[.agg #[.int .i64 (Y + 1), .int .i64 (1), .int .i64 (1)]] W fun e w' => e = .returned (.tuple #[.int .i64 ((q + 1) % 7), .nilIface]) ∧ Below W.heap.size W w')) (h1 : ((Y + 1) == Y) = false) (h2 : (M == 12) = true) (h3 : (D == 31) = true) :
    Calls Try.prog 7 #[.int .i64 n] w fun e w' => e = .returned (.bool true) ∧ Below w.heap.size w w' := by
  have U := Aside0.mk (fun W => trivetlaw04_up.calls 30 true W (up_f 30 (by omega)))
  go_enter Try.func7, Try.ntmps7
  go_wp2_with fail
  refine (U.out _).mono ?_
  rintro e w1 ⟨rfl, hb1⟩
  have B1 := Aside0.mk hb1
  clear hb1
  go_wp2_with fail
  refine (O.out _).mono ?_
  rintro e w2 ⟨rfl, hb2⟩
  have B2 := Aside0.mk hb2
  clear hb2
  go_wp2_with fail
  refine (N.out _).mono ?_
  rintro e w3 ⟨rfl, hb3⟩
  have B3 := Aside0.mk hb3
  obtain ⟨hc3, hf3⟩ := back_cell hb3
  have z3 : w2.heap.size < w3.heap.size := by have := B3.out.size; simp at this; omega
  clear hb3
  go_wp2_with fail
  refine (D1.out _).mono ?_
  rintro e w4 ⟨rfl, hb4⟩
  have B4 := Aside0.mk hb4
  obtain ⟨hc4, hf4⟩ := back_cell hb4
  have z4 : w2.heap.size < w4.heap.size := by have := B4.out.size; omega
  clear hb4
  go_wp2_with fail
  refine (O2.out _).mono ?_
  rintro e w5 ⟨rfl, hb5⟩
  have B5 := Aside0.mk hb5
  obtain ⟨hc5, hf5⟩ := back_cell hb5
  have z5 : w2.heap.size < w5.heap.size := by have := B5.out.size; omega
  clear hb5
  go_wp2_with fail
  refine (D2.out _).mono ?_
  rintro e w6 ⟨rfl, hb6⟩
  have B6 := Aside0.mk hb6
  obtain ⟨hc6, hf6⟩ := back_cell hb6
  have z6 : w2.heap.size < w6.heap.size := by have := B6.out.size; simp at this; omega
  have y6 : w5.heap.size < w6.heap.size := by have := B6.out.size; simp at this; omega
  have u5 : w2.heap.size < w5.heap.size + 1 := by omega
  clear hb6
  go_wp2
  have BB : Below (w2.alloc (.cells #[.int .i64 Y, .int .i64 M, .int .i64 D] 23)).heap.size (w2.alloc (.cells #[.int .i64 Y, .int .i64 M, .int .i64 D] 23)) w6 := below_step (below_alloc (below_step (below_step B3.out B4.out) B5.out) _) B6.out
  have k0 : w6.cell? ⟨w2.heap.size, 0, none⟩ = some (.int .i64 Y) := (BB.cell (p := ⟨w2.heap.size, 0, none⟩) (by simp)).trans (by go_simp)
  have k1 : w6.cell? ⟨w2.heap.size, 1, none⟩ = some (.int .i64 M) := (BB.cell (p := ⟨w2.heap.size, 1, none⟩) (by simp)).trans (by go_simp)
  have k2 : w6.cell? ⟨w2.heap.size, 2, none⟩ = some (.int .i64 D) := (BB.cell (p := ⟨w2.heap.size, 2, none⟩) (by simp)).trans (by go_simp)
  have k3 : w6.cell? ⟨w5.heap.size, 0, none⟩ = some (.int .i64 (Y + 1)) := (B6.out.cell (p := ⟨w5.heap.size, 0, none⟩) (by simp)).trans (by go_simp)
  have k4 : w6.cell? ⟨w5.heap.size, 1, none⟩ = some (.int .i64 (1)) := (B6.out.cell (p := ⟨w5.heap.size, 1, none⟩) (by simp)).trans (by go_simp)
  have k5 : w6.cell? ⟨w5.heap.size, 2, none⟩ = some (.int .i64 (1)) := (B6.out.cell (p := ⟨w5.heap.size, 2, none⟩) (by simp)).trans (by go_simp)
  have g0 := gb_cell z6 k0
  have g1 := gb_cell z6 k1
  have g2 := gb_cell z6 k2
  have g3 := gb_cell y6 k3
  have g4 := gb_cell y6 k4
  have g5 := gb_cell y6 k5
  clear BB hc3 hc4 hc5 hc6 hf3 hf4 hf5 hf6 z3 z4 z5 z6 y6 u5 k0 k1 k2 k3 k4 k5 O O2 N D1 D2 U
  have kw : IntKind.i64.wrap (Y + 1) = Y + 1 := IntWalk.i64_in _ (by omega)
  dsimp only [List.append_eq, List.cons_append, List.nil_append]
  refine gb_region (by kernel_rfl) (by kernel_rfl) ?_
  repeat (go_big_quiet_step (fail))
  refine wpQuiet_nil ?_
  intro _ hw'
  obtain ⟨gq, hw''⟩ := hw'
  subst hw''
  go_wp2
  go_ret
  exact ⟨rfl, below_step (below_step (below_alloc (below_step (below_step (below_step (below_alloc (below_step B1.out B2.out) _) B3.out) B4.out) B5.out) _) B6.out) gq.b⟩
theorem trivetlaw04_DateBack.calls (a0 : Int) (r : Bool) (w : World) (h : trivetlaw04_DateBack.f a0 = some r) :
    Calls Try.prog 7 #[.int .i64 a0] w fun e w' => e = .returned (.bool r) ∧ Below w.heap.size w w' := by
  obtain rfl : true = r := Option.some.inj h
  by_cases c : a0 < -25567 ∨ a0 > 84005
  · exact back_err a0 w c
  by_cases c2 : a0 = 84005
  · subst c2; exact back_last w
  obtain ⟨v, hn⟩ := of_valid a0 (by omega) (by omega)
  obtain ⟨v', hn'⟩ := of_valid (a0 + 1) (by omega) (by omega)
  have hv := v.1
  have hd := v.2
  have hb := dim_bounds _ _ hv
  have o1 : date_Of.f a0 = some (ofY a0, ofM a0, ofD a0, none) := by unfold date_Of.f; rw [if_neg (by omega), if_neg (by omega)]
  have o2 : date_Of.f (a0 + 1) = some (ofY (a0 + 1), ofM (a0 + 1), ofD (a0 + 1), none) := by unfold date_Of.f; rw [if_neg (by omega), if_neg (by omega)]
  have n1 : date_Number.f (ofY a0) (ofM a0) (ofD a0) = some (a0, none) := by rw [number_f, if_pos v.2, hn]
  have d1 : date_Weekday.f (ofY a0) (ofM a0) (ofD a0) = some (wday a0, none) := by rw [weekday_f _ _ _ v, hn]
  have d2 : date_Weekday.f (ofY (a0 + 1)) (ofM (a0 + 1)) (ofD (a0 + 1)) = some ((wday a0 + 1) % 7, none) := by
    rw [weekday_f _ _ _ v', hn']
    congr 2
    unfold wday
    omega
  have q0 : 0 ≤ wday a0 ∧ wday a0 ≤ 6 := by unfold wday; omega
  have O := Aside0.mk (show ∀ W : World, Calls Try.prog 23 #[.int .i64 a0] W fun e w' => e = .returned (.tuple #[.agg #[.int .i64 (ofY a0), .int .i64 (ofM a0), .int .i64 (ofD a0)], .nilIface]) ∧ Below W.heap.size W w' from fun W => date_Of.calls _ _ _ _ _ W o1)
  have O2 := Aside0.mk (show ∀ W : World, Calls Try.prog 23 #[.int .i64 (a0 + 1)] W fun e w' => e = .returned (.tuple #[.agg #[.int .i64 (ofY (a0 + 1)), .int .i64 (ofM (a0 + 1)), .int .i64 (ofD (a0 + 1))], .nilIface]) ∧ Below W.heap.size W w' from fun W => date_Of.calls _ _ _ _ _ W o2)
  have N := Aside0.mk (show ∀ W : World, Calls Try.prog 22 #[.agg #[.int .i64 (ofY a0), .int .i64 (ofM a0), .int .i64 (ofD a0)]] W fun e w' => e = .returned (.tuple #[.int .i64 a0, .nilIface]) ∧ Below W.heap.size W w' from fun W => date_Number.calls _ _ _ _ _ W n1)
  have D1 := Aside0.mk (show ∀ W : World, Calls Try.prog 18 #[.agg #[.int .i64 (ofY a0), .int .i64 (ofM a0), .int .i64 (ofD a0)]] W fun e w' => e = .returned (.tuple #[.int .i64 (wday a0), .nilIface]) ∧ Below W.heap.size W w' from fun W => date_Weekday.calls _ _ _ _ _ W d1)
  have D2 := Aside0.mk (show ∀ W : World, Calls Try.prog 18 #[.agg #[.int .i64 (ofY (a0 + 1)), .int .i64 (ofM (a0 + 1)), .int .i64 (ofD (a0 + 1))]] W fun e w' => e = .returned (.tuple #[.int .i64 ((wday a0 + 1) % 7), .nilIface]) ∧ Below W.heap.size W w' from fun W => date_Weekday.calls _ _ _ _ _ W d2)
  have DY := Aside0.mk (fun W : World => date_Days.calls (ofY a0) (ofM a0) _ W (days_f _ _))
  rcases next_day a0 (by omega) (by omega) with ⟨e1, e2, e3⟩ | ⟨e1, e2, e3, e4⟩ | ⟨e1, e2, e3, e4, e5⟩
  · rw [e1, e2, e3] at O2 D2
    exact back_a a0 _ _ _ (wday a0) w (by omega) (by omega) (by omega) (by omega) (by omega) (by omega) (by omega) (by omega) q0.1 q0.2 O O2 N D1 D2
  · rw [e1, e2, e3] at O2 D2
    rw [← e4] at DY
    exact back_b a0 _ _ _ (wday a0) w (by omega) (by omega) (by omega) (by omega) (by omega) (by omega) (by omega) (by omega) q0.1 q0.2 O O2 N D1 D2 (beq_eq_false_iff_ne.mpr (by omega)) DY
  · rw [e1, e2, e3] at O2 D2
    exact back_c a0 _ _ _ (wday a0) w (by omega) (by omega) (by omega) (by omega) (by omega) (by omega) (by omega) (by omega) q0.1 q0.2 O O2 N D1 D2 (beq_eq_false_iff_ne.mpr (by omega)) (beq_iff_eq.mpr e4) (beq_iff_eq.mpr e5)

/-- THE ONE PURE STATEMENT of trivetlaw04_DateBack. -/
def trivetlaw04_DateBack.Pure : Prop := ∀ (x0 : Int), ((Lit.int .i64 x0).wf = true) → trivetlaw04_DateBack.f x0 = some true

end Go.Proofs.Ytbechikaaiinlaa.PDateBack
