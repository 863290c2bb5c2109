-- written for this claim by a program of this session (wip/inject.py), which drives the kit's print
import Derived.Test.YtbechikaaiinlaaPTermsResetsx0
import Derived.Test.YtbechikaaiinlaaPTermsResetsx1
import Derived.Test.YtbechikaaiinlaaPTermsResetsx3
namespace Go.Proofs.Ytbechikaaiinlaa.PTermsResets
open Go.RowKit Go.Proofs.YtbechikaaiinlaaW.PrintWords Go.Proofs.YtbechikaaiinlaaW.PrintLast Go.Proofs.YtbechikaaiinlaaW.PrintMore
attribute [local go_sem] max2_int min2_int max_two min_two max_three min_three max_four min_four   -- for this text's walks alone
set_option linter.unusedVariables false
set_option linter.unusedSimpArgs false

set_option linter.unnecessarySimpa false
attribute [local go_sem high] errEqI errNeI errEqL errNeL errEqR errNeR
/-! ### trivetref11_Reset: function 27 -/
mutual
def trivetref11_Reset.l0 : Nat → Int → Int → Int → Int → Int → Int → Option (Int)
  | 0, _, _, _, _, _, _ => none
  | k + 1, x0, x2, x3, x4, x11, x12 => if (wrap64 (x12 + 1250)) ≤ x11 then (trivetref11_Reset.l0 k x0 x2 x3 x4 x11 (wrap64 (x12 + 1250))) else (if (wrap64 (x11 - x12)) ≥ 625 then (trivetref11_Reset.j1 k x0 x2 x3 x4 (wrap64 (x12 + 1250))) else (trivetref11_Reset.j1 k x0 x2 x3 x4 x12))
def trivetref11_Reset.j1 : Nat → Int → Int → Int → Int → Int → Option (Int)
  | 0, _, _, _, _, _ => none
  | k + 1, x0, x2, x3, x4, x12 => if x12 > (wrap64 (x0 + x3)) then (trivetref11_Reset.j2 k x0 x2 x3 x4 (wrap64 (x0 + x3))) else (trivetref11_Reset.j2 k x0 x2 x3 x4 x12)
def trivetref11_Reset.j2 : Nat → Int → Int → Int → Int → Int → Option (Int)
  | 0, _, _, _, _, _ => none
  | k + 1, x0, x2, x3, x4, x12 => if x12 < (wrap64 (x0 - x3)) then (trivetref11_Reset.j3 k x2 x4 (wrap64 (x0 - x3))) else (trivetref11_Reset.j3 k x2 x4 x12)
def trivetref11_Reset.j3 : Nat → Int → Int → Int → Option (Int)
  | 0, _, _, _ => none
  | k + 1, x2, x4, x12 => if x12 > x4 then (if x4 < x2 then (some x2) else (some x4)) else (if x12 < x2 then (some x2) else (some x12))
end
def trivetref11_Reset.f (k : Nat) (a0 : Int) (a1 : Int) (a2 : Int) (a3 : Int) (a4 : Int) : Option (Int) := trivetref11_Reset.l0 k a0 a2 a3 a4 (wrap64 (a1 + a2)) 0
theorem trivetref11_Reset.mono_l : ∀ k, (∀ y0 y1 y2 y3 y4 y5, LeO (trivetref11_Reset.l0 k y0 y1 y2 y3 y4 y5) (trivetref11_Reset.l0 (k + 1) y0 y1 y2 y3 y4 y5)) ∧ (∀ y0 y1 y2 y3 y4, LeO (trivetref11_Reset.j1 k y0 y1 y2 y3 y4) (trivetref11_Reset.j1 (k + 1) y0 y1 y2 y3 y4)) ∧ (∀ y0 y1 y2 y3 y4, LeO (trivetref11_Reset.j2 k y0 y1 y2 y3 y4) (trivetref11_Reset.j2 (k + 1) y0 y1 y2 y3 y4)) ∧ (∀ y0 y1 y2, LeO (trivetref11_Reset.j3 k y0 y1 y2) (trivetref11_Reset.j3 (k + 1) y0 y1 y2))
  | 0 => ⟨fun _ _ _ _ _ _ r h => by simp [trivetref11_Reset.l0] at h, fun _ _ _ _ _ r h => by simp [trivetref11_Reset.j1] at h, fun _ _ _ _ _ r h => by simp [trivetref11_Reset.j2] at h, fun _ _ _ r h => by simp [trivetref11_Reset.j3] at h⟩
  | k + 1 => by
    obtain ⟨ih0, ih1, ih2, ih3⟩ := trivetref11_Reset.mono_l k
    refine ⟨?_, ?_, ?_, ?_⟩
    · intro y0 y1 y2 y3 y4 y5
      unfold trivetref11_Reset.l0
      repeat' first
      | (with_reducible exact ih0 _ _ _ _ _ _)
      | (with_reducible exact ih1 _ _ _ _ _)
      | (with_reducible exact ih2 _ _ _ _ _)
      | (with_reducible exact ih3 _ _ _)
      | (with_reducible exact LeO.refl _)
      | (with_reducible exact LeO.none _)
      | (with_reducible refine LeO.ite ?_ ?_)
      | (with_reducible refine LeO.bind ?_ (fun _ => ?_))
      | exact ih0 _ _ _ _ _ _
      | exact ih1 _ _ _ _ _
      | exact ih2 _ _ _ _ _
      | exact ih3 _ _ _
      | exact LeO.none _
      | refine LeO.ite ?_ ?_
      | refine LeO.bind ?_ (fun _ => ?_)
    · intro y0 y1 y2 y3 y4
      unfold trivetref11_Reset.j1
      repeat' first
      | (with_reducible exact ih0 _ _ _ _ _ _)
      | (with_reducible exact ih1 _ _ _ _ _)
      | (with_reducible exact ih2 _ _ _ _ _)
      | (with_reducible exact ih3 _ _ _)
      | (with_reducible exact LeO.refl _)
      | (with_reducible exact LeO.none _)
      | (with_reducible refine LeO.ite ?_ ?_)
      | (with_reducible refine LeO.bind ?_ (fun _ => ?_))
      | exact ih0 _ _ _ _ _ _
      | exact ih1 _ _ _ _ _
      | exact ih2 _ _ _ _ _
      | exact ih3 _ _ _
      | exact LeO.none _
      | refine LeO.ite ?_ ?_
      | refine LeO.bind ?_ (fun _ => ?_)
    · intro y0 y1 y2 y3 y4
      unfold trivetref11_Reset.j2
      repeat' first
      | (with_reducible exact ih0 _ _ _ _ _ _)
      | (with_reducible exact ih1 _ _ _ _ _)
      | (with_reducible exact ih2 _ _ _ _ _)
      | (with_reducible exact ih3 _ _ _)
      | (with_reducible exact LeO.refl _)
      | (with_reducible exact LeO.none _)
      | (with_reducible refine LeO.ite ?_ ?_)
      | (with_reducible refine LeO.bind ?_ (fun _ => ?_))
      | exact ih0 _ _ _ _ _ _
      | exact ih1 _ _ _ _ _
      | exact ih2 _ _ _ _ _
      | exact ih3 _ _ _
      | exact LeO.none _
      | refine LeO.ite ?_ ?_
      | refine LeO.bind ?_ (fun _ => ?_)
    · intro y0 y1 y2
      unfold trivetref11_Reset.j3
      repeat' first
      | (with_reducible exact ih0 _ _ _ _ _ _)
      | (with_reducible exact ih1 _ _ _ _ _)
      | (with_reducible exact ih2 _ _ _ _ _)
      | (with_reducible exact ih3 _ _ _)
      | (with_reducible exact LeO.refl _)
      | (with_reducible exact LeO.none _)
      | (with_reducible refine LeO.ite ?_ ?_)
      | (with_reducible refine LeO.bind ?_ (fun _ => ?_))
      | exact ih0 _ _ _ _ _ _
      | exact ih1 _ _ _ _ _
      | exact ih2 _ _ _ _ _
      | exact ih3 _ _ _
      | exact LeO.none _
      | refine LeO.ite ?_ ?_
      | refine LeO.bind ?_ (fun _ => ?_)
theorem trivetref11_Reset.mono : ∀ a0 a1 a2 a3 a4 k, LeO (trivetref11_Reset.f k a0 a1 a2 a3 a4) (trivetref11_Reset.f (k + 1) a0 a1 a2 a3 a4) := by
  intro a0 a1 a2 a3 a4 k
  obtain ⟨ih0, ih1, ih2, ih3⟩ := trivetref11_Reset.mono_l k
  unfold trivetref11_Reset.f
  repeat' first
      | (with_reducible exact ih0 _ _ _ _ _ _)
      | (with_reducible exact ih1 _ _ _ _ _)
      | (with_reducible exact ih2 _ _ _ _ _)
      | (with_reducible exact ih3 _ _ _)
      | (with_reducible exact LeO.refl _)
      | (with_reducible exact LeO.none _)
      | (with_reducible refine LeO.ite ?_ ?_)
      | (with_reducible refine LeO.bind ?_ (fun _ => ?_))
      | exact ih0 _ _ _ _ _ _
      | exact ih1 _ _ _ _ _
      | exact ih2 _ _ _ _ _
      | exact ih3 _ _ _
      | exact LeO.none _
      | refine LeO.ite ?_ ?_
      | refine LeO.bind ?_ (fun _ => ?_)
set_option maxHeartbeats 8000000 in
set_option maxRecDepth 100000 in
theorem trivetref11_Reset.calls (k : Nat) (a0 : Int) (a1 : Int) (a2 : Int) (a3 : Int) (a4 : Int) (r : Int) (w : World) (h : trivetref11_Reset.f k a0 a1 a2 a3 a4 = some r) :
    Calls Try.prog 27 #[.int .i64 a0, .int .i64 a1, .int .i64 a2, .int .i64 a3, .int .i64 a4] w fun e w' => e = .returned (.int .i64 r) ∧ Drawn0 w w' := by
  have H : (trivetref11_Reset.l0 k a0 a2 a3 a4 (wrap64 (a1 + a2)) 0) = some r := h
  clear h
  have H' := Aside0.mk H
  clear H
  go_enter Try.func27, Try.ntmps27
  go_wp2
  go_loopg [12] k (fun kq v12 w' => ∃ (x12_1 : Int), v12 = .int .i64 x12_1 ∧ Aside0 (trivetref11_Reset.l0 kq a0 a2 a3 a4 (wrap64 (a1 + a2)) x12_1 = some r) ∧ Aside0 (kq ≤ k) ∧ Drawn0 w w')
  case atStart => exact ⟨(0), (by first | rfl | (simp; done) | (simp [*]; done)), H', ⟨Nat.le_refl _⟩, by repeat (first | exact Drawn0.refl _ | apply Drawn0.step)⟩
  case round =>
    clear H'
    try clear c2
    try clear p2
    obtain ⟨x12_1, rfl, HA, HK1, ⟨m1, rfl⟩⟩ := hrel
    cases gk with
    | zero => exact absurd HA.out (by simp [trivetref11_Reset.l0])
    | succ k1 =>
      have H := HA.out
      clear HA
      simp only [trivetref11_Reset.l0] at H
      by_cases c6 : (wrap64 (x12_1 + 1250)) ≤ (wrap64 (a1 + a2))
      · rw [if_pos c6] at H
        have c6b0 : decide ((wrap64 (x12_1 + 1250)) ≤ (wrap64 (a1 + a2))) = true := decide_eq_true c6
        clear c6
        have H' := Aside0.mk H
        clear H
        go_wp2
        go_roundg k1
        case measure => have := HK1.out; omega
        case rel => exact ⟨(wrap64 (x12_1 + 1250)), (by first | rfl | (simp; done) | (simp [*]; done)), H', ⟨by have := HK1.out; omega⟩, by repeat (first | exact Drawn0.refl _ | apply Drawn0.step)⟩
      · rw [if_neg c6] at H
        have c6b0 : decide ((wrap64 (x12_1 + 1250)) ≤ (wrap64 (a1 + a2))) = false := decide_eq_false c6
        clear c6
        have HC7 := Aside0.mk H
        clear H
        go_upto_if 25 with (fail)
        go_cut [12] (fun v12 wc => ∃ (kq : Nat) (x12_6 : Int), v12 = .int .i64 x12_6 ∧ Aside0 (trivetref11_Reset.j1 kq a0 a2 a3 a4 x12_6 = some r) ∧ Aside0 (kq ≤ k1) ∧ Drawn0 w wc)
        case first =>
          have H := HC7.out
          clear HC7
          by_cases c8 : (wrap64 ((wrap64 (a1 + a2)) - x12_1)) ≥ 625
          · rw [if_pos c8] at H
            have c8b0 : decide (625 ≤ (wrap64 ((wrap64 (a1 + a2)) - x12_1))) = true := decide_eq_true c8
            clear c8
            (first | rw [c8b0] | (simp only [i64_w, i32_w]; rw [c8b0]) | skip)
            have H' := Aside0.mk H
            clear H
            go_wp2
            go_meet
            case rel => exact ⟨_, (wrap64 (x12_1 + 1250)), (by first | rfl | (simp; done) | (simp [*]; done)), H', ⟨by have := HK1.out; first | omega | exact Nat.le_refl _⟩, by repeat (first | exact Drawn0.refl _ | apply Drawn0.step)⟩
          · rw [if_neg c8] at H
            have c8b0 : decide (625 ≤ (wrap64 ((wrap64 (a1 + a2)) - x12_1))) = false := decide_eq_false c8
            clear c8
            (first | rw [c8b0] | (simp only [i64_w, i32_w]; rw [c8b0]) | skip)
            have H' := Aside0.mk H
            clear H
            go_wp2
            go_meet
            case rel => exact ⟨_, (x12_1), (by first | rfl | (simp; done) | (simp [*]; done)), H', ⟨by have := HK1.out; first | omega | exact Nat.le_refl _⟩, by repeat (first | exact Drawn0.refl _ | apply Drawn0.step)⟩
        case rest =>
          clear HC7
          try clear c2
          try clear p2
          try clear c6
          try clear c6b0
          try clear p6
          try clear c8
          try clear c8b0
          try clear p2
          obtain ⟨kq, x12_6, rfl, HA, HJ6, ⟨mc6, rfl⟩⟩ := hcut
          cases kq with
          | zero => exact absurd HA.out (by simp [trivetref11_Reset.j1])
          | succ kj6 =>
            have H := HA.out
            clear HA
            simp only [trivetref11_Reset.j1] at H
            have HC9 := Aside0.mk H
            clear H
            go_upto_if 32 with (fail)
            go_cut [12] (fun v12 wc => ∃ (kq : Nat) (x12_8 : Int), v12 = .int .i64 x12_8 ∧ Aside0 (trivetref11_Reset.j2 kq a0 a2 a3 a4 x12_8 = some r) ∧ Aside0 (kq ≤ kj6) ∧ Drawn0 w wc)
            case first =>
              have H := HC9.out
              clear HC9
              by_cases c10 : x12_6 > (wrap64 (a0 + a3))
              · rw [if_pos c10] at H
                have c10b0 : decide ((wrap64 (a0 + a3)) < x12_6) = true := decide_eq_true c10
                clear c10
                (first | rw [c10b0] | (simp only [i64_w, i32_w]; rw [c10b0]) | skip)
                have H' := Aside0.mk H
                clear H
                go_wp2
                go_meet
                case rel => exact ⟨_, (wrap64 (a0 + a3)), (by first | rfl | (simp; done) | (simp [*]; done)), H', ⟨by have := HK1.out; have := HJ6.out; first | omega | exact Nat.le_refl _⟩, by repeat (first | exact Drawn0.refl _ | apply Drawn0.step)⟩
              · rw [if_neg c10] at H
                have c10b0 : decide ((wrap64 (a0 + a3)) < x12_6) = false := decide_eq_false c10
                clear c10
                (first | rw [c10b0] | (simp only [i64_w, i32_w]; rw [c10b0]) | skip)
                have H' := Aside0.mk H
                clear H
                go_wp2
                go_meet
                case rel => exact ⟨_, (x12_6), (by first | rfl | (simp; done) | (simp [*]; done)), H', ⟨by have := HK1.out; have := HJ6.out; first | omega | exact Nat.le_refl _⟩, by repeat (first | exact Drawn0.refl _ | apply Drawn0.step)⟩
            case rest =>
              clear HC9
              try clear c1
              try clear c2
              try clear p2
              try clear c6
              try clear c6b0
              try clear p6
              try clear c8
              try clear c8b0
              try clear c10
              try clear c10b0
              try clear p2
              try clear p6
              obtain ⟨kq, x12_8, rfl, HA, HJ8, ⟨mc8, rfl⟩⟩ := hcut
              cases kq with
              | zero => exact absurd HA.out (by simp [trivetref11_Reset.j2])
              | succ kj8 =>
                have H := HA.out
                clear HA
                simp only [trivetref11_Reset.j2] at H
                have HC11 := Aside0.mk H
                clear H
                go_upto_if 40 with (fail)
                go_cut [12] (fun v12 wc => ∃ (kq : Nat) (x12_10 : Int), v12 = .int .i64 x12_10 ∧ Aside0 (trivetref11_Reset.j3 kq a2 a4 x12_10 = some r) ∧ Aside0 (kq ≤ kj8) ∧ Drawn0 w wc)
                case first =>
                  have H := HC11.out
                  clear HC11
                  by_cases c12 : x12_8 < (wrap64 (a0 - a3))
                  · rw [if_pos c12] at H
                    have c12b0 : decide (x12_8 < (wrap64 (a0 - a3))) = true := decide_eq_true c12
                    clear c12
                    (first | rw [c12b0] | (simp only [i64_w, i32_w]; rw [c12b0]) | skip)
                    have H' := Aside0.mk H
                    clear H
                    go_wp2
                    go_meet
                    case rel => exact ⟨_, (wrap64 (a0 - a3)), (by first | rfl | (simp; done) | (simp [*]; done)), H', ⟨by have := HK1.out; have := HJ6.out; have := HJ8.out; first | omega | exact Nat.le_refl _⟩, by repeat (first | exact Drawn0.refl _ | apply Drawn0.step)⟩
                  · rw [if_neg c12] at H
                    have c12b0 : decide (x12_8 < (wrap64 (a0 - a3))) = false := decide_eq_false c12
                    clear c12
                    (first | rw [c12b0] | (simp only [i64_w, i32_w]; rw [c12b0]) | skip)
                    have H' := Aside0.mk H
                    clear H
                    go_wp2
                    go_meet
                    case rel => exact ⟨_, (x12_8), (by first | rfl | (simp; done) | (simp [*]; done)), H', ⟨by have := HK1.out; have := HJ6.out; have := HJ8.out; first | omega | exact Nat.le_refl _⟩, by repeat (first | exact Drawn0.refl _ | apply Drawn0.step)⟩
                case rest =>
                  clear HC11
                  try clear c1
                  try clear c2
                  try clear p2
                  try clear c6
                  try clear c6b0
                  try clear p6
                  try clear c8
                  try clear c8b0
                  try clear c10
                  try clear c10b0
                  try clear c12
                  try clear c12b0
                  try clear p2
                  try clear p6
                  obtain ⟨kq, x12_10, rfl, HA, HJ10, ⟨mc10, rfl⟩⟩ := hcut
                  cases kq with
                  | zero => exact absurd HA.out (by simp [trivetref11_Reset.j3])
                  | succ kj10 =>
                    have H := HA.out
                    clear HA
                    simp only [trivetref11_Reset.j3] at H
                    by_cases c13 : x12_10 > a4
                    · rw [if_pos c13] at H
                      have c13b0 : decide (a4 < x12_10) = true := decide_eq_true c13
                      clear c13
                      by_cases c14 : a4 < a2
                      · rw [if_pos c14] at H
                        have c14b0 : decide (a4 < a2) = true := decide_eq_true c14
                        clear c14
                        obtain rfl := Option.some.inj H
                        go_wp2
                        go_ret
                        exact ⟨by first | rfl | (simp; done) | (simp [*]; done), by repeat (first | exact Drawn0.refl _ | apply Drawn0.step)⟩
                      · rw [if_neg c14] at H
                        have c14b0 : decide (a4 < a2) = false := decide_eq_false c14
                        clear c14
                        obtain rfl := Option.some.inj H
                        go_wp2
                        go_ret
                        exact ⟨by first | rfl | (simp; done) | (simp [*]; done), by repeat (first | exact Drawn0.refl _ | apply Drawn0.step)⟩
                    · rw [if_neg c13] at H
                      have c13b0 : decide (a4 < x12_10) = false := decide_eq_false c13
                      clear c13
                      by_cases c15 : x12_10 < a2
                      · rw [if_pos c15] at H
                        have c15b0 : decide (x12_10 < a2) = true := decide_eq_true c15
                        clear c15
                        obtain rfl := Option.some.inj H
                        go_wp2
                        go_ret
                        exact ⟨by first | rfl | (simp; done) | (simp [*]; done), by repeat (first | exact Drawn0.refl _ | apply Drawn0.step)⟩
                      · rw [if_neg c15] at H
                        have c15b0 : decide (x12_10 < a2) = false := decide_eq_false c15
                        clear c15
                        obtain rfl := Option.some.inj H
                        go_wp2
                        go_ret
                        exact ⟨by first | rfl | (simp; done) | (simp [*]; done), by repeat (first | exact Drawn0.refl _ | apply Drawn0.step)⟩

/-! ### trivetlaw11_TermsResets: function 8 -/
def trivetlaw11_TermsResets.l0 : Nat → Int → Int → Int → Int → Int → Bool → Int → Option Int → List Int → Bool → Int → Option (Bool)
  | 0, _, _, _, _, _, _, _, _, _, _, _ => none
  | k + 1, x0, x1, x2, x3, x4, x11, x12, x13, x14, x15, x16 => if x16 < (x14.length : Int) then (if x15 = true then (if 0 ≤ x16 then (if (rd x14 x16) ≥ 0 then (trivetlaw11_TermsResets.l0 k x0 x1 x2 x3 x4 x11 x12 x13 x14 (decide ((rd x14 x16) ≤ 300000)) (wrap64 (x16 + 1))) else (trivetlaw11_TermsResets.l0 k x0 x1 x2 x3 x4 x11 x12 x13 x14 false (wrap64 (x16 + 1)))) else (none)) else (trivetlaw11_TermsResets.l0 k x0 x1 x2 x3 x4 x11 x12 x13 x14 false (wrap64 (x16 + 1)))) else (if x15 = true then (if x11 = true then (if x13.isNone = true then ((trivetref11_Reset.f k x0 x1 x2 x3 x4).bind fun t148 => (some (x12 == t148))) else (some false)) else (some false)) else (if x11 = true then (if x13.isNone = true then (some false) else (if (x13.getD 0) = 1 then (some (x12 == 0)) else (some false))) else (some false)))
def trivetlaw11_TermsResets.f (k : Nat) (a0 : Int) (a1 : Int) (a2 : Int) (a3 : Int) (a4 : Int) : Option (Bool) := (trivetlaw11_up.f k).bind fun t139 => ((terms_Reset.f k a0 a1 a2 a3 a4).bind fun bt140 => (trivetlaw11_TermsResets.l0 k a0 a1 a2 a3 a4 t139 bt140.1 bt140.2 (([a0, a1, a2, a3, a4] : List Int)) (decide (a2 ≤ a4)) 0))
theorem trivetlaw11_TermsResets.mono_l : ∀ k, (∀ y0 y1 y2 y3 y4 y5 y6 y7 y8 y9 y10, LeO (trivetlaw11_TermsResets.l0 k y0 y1 y2 y3 y4 y5 y6 y7 y8 y9 y10) (trivetlaw11_TermsResets.l0 (k + 1) y0 y1 y2 y3 y4 y5 y6 y7 y8 y9 y10))
  | 0 => fun _ _ _ _ _ _ _ _ _ _ _ r h => by simp [trivetlaw11_TermsResets.l0] at h
  | k + 1 => by
    have ih0 := trivetlaw11_TermsResets.mono_l k
    · intro y0 y1 y2 y3 y4 y5 y6 y7 y8 y9 y10
      unfold trivetlaw11_TermsResets.l0
      repeat' first
      | (with_reducible exact ih0 _ _ _ _ _ _ _ _ _ _ _)
      | (with_reducible exact terms_Reset.mono _ _ _ _ _ _)
      | (with_reducible exact trivetlaw11_up.mono _)
      | (with_reducible exact trivetref11_Reset.mono _ _ _ _ _ _)
      | (with_reducible exact LeO.refl _)
      | (with_reducible exact LeO.none _)
      | (with_reducible refine LeO.ite ?_ ?_)
      | (with_reducible refine LeO.bind ?_ (fun _ => ?_))
      | exact ih0 _ _ _ _ _ _ _ _ _ _ _
      | exact terms_Reset.mono _ _ _ _ _ _
      | exact trivetlaw11_up.mono _
      | exact trivetref11_Reset.mono _ _ _ _ _ _
      | exact LeO.none _
      | refine LeO.ite ?_ ?_
      | refine LeO.bind ?_ (fun _ => ?_)
theorem trivetlaw11_TermsResets.mono : ∀ a0 a1 a2 a3 a4 k, LeO (trivetlaw11_TermsResets.f k a0 a1 a2 a3 a4) (trivetlaw11_TermsResets.f (k + 1) a0 a1 a2 a3 a4) := by
  intro a0 a1 a2 a3 a4 k
  have ih0 := trivetlaw11_TermsResets.mono_l k
  unfold trivetlaw11_TermsResets.f
  repeat' first
      | (with_reducible exact ih0 _ _ _ _ _ _ _ _ _ _ _)
      | (with_reducible exact terms_Reset.mono _ _ _ _ _ _)
      | (with_reducible exact trivetlaw11_up.mono _)
      | (with_reducible exact trivetref11_Reset.mono _ _ _ _ _ _)
      | (with_reducible exact LeO.refl _)
      | (with_reducible exact LeO.none _)
      | (with_reducible refine LeO.ite ?_ ?_)
      | (with_reducible refine LeO.bind ?_ (fun _ => ?_))
      | exact ih0 _ _ _ _ _ _ _ _ _ _ _
      | exact terms_Reset.mono _ _ _ _ _ _
      | exact trivetlaw11_up.mono _
      | exact trivetref11_Reset.mono _ _ _ _ _ _
      | exact LeO.none _
      | refine LeO.ite ?_ ?_
      | refine LeO.bind ?_ (fun _ => ?_)
set_option maxHeartbeats 8000000 in
set_option maxRecDepth 100000 in
theorem trivetlaw11_TermsResets.calls (k : Nat) (a0 : Int) (a1 : Int) (a2 : Int) (a3 : Int) (a4 : Int) (r : Bool) (w : World) (h : trivetlaw11_TermsResets.f k a0 a1 a2 a3 a4 = some r) :
    Calls Try.prog 8 #[.int .i64 a0, .int .i64 a1, .int .i64 a2, .int .i64 a3, .int .i64 a4] w fun e w' => e = .returned (.bool r) ∧ Below w.heap.size w w' := by
  have hu28 := Try.underlying28
  have hu35 := Try.underlying35
  have HB := Aside0.mk (Below.refl w.heap.size w)
  have H : ((trivetlaw11_up.f k).bind fun t139 => ((terms_Reset.f k a0 a1 a2 a3 a4).bind fun bt140 => (trivetlaw11_TermsResets.l0 k a0 a1 a2 a3 a4 t139 bt140.1 bt140.2 (([a0, a1, a2, a3, a4] : List Int)) (decide (a2 ≤ a4)) 0))) = some r := h
  clear h
  replace H := Option.bind_eq_some_iff.mp H
  obtain ⟨t139, A60, H⟩ := H
  replace H : ((terms_Reset.f k a0 a1 a2 a3 a4).bind fun bt140 => (trivetlaw11_TermsResets.l0 k a0 a1 a2 a3 a4 t139 bt140.1 bt140.2 (([a0, a1, a2, a3, a4] : List Int)) (decide (a2 ≤ a4)) 0)) = some r := H
  have A6 := Aside0.mk A60
  clear A60
  replace H := Option.bind_eq_some_iff.mp H
  obtain ⟨⟨t140, t141⟩, A70, H⟩ := H
  replace H : (trivetlaw11_TermsResets.l0 k a0 a1 a2 a3 a4 t139 t140 t141 (([a0, a1, a2, a3, a4] : List Int)) (decide (a2 ≤ a4)) 0) = some r := H
  have A7 := Aside0.mk A70
  clear A70
  obtain ⟨y142, hy142⟩ : ∃ y_ : List Int, y_ = (([a0, a1, a2, a3, a4] : List Int)) := ⟨_, rfl⟩
  replace H : (trivetlaw11_TermsResets.l0 k a0 a1 a2 a3 a4 t139 t140 t141 y142 (decide (a2 ≤ a4)) 0) = some r := by first | (rw [hy142]; with_reducible exact H) | (have H2_ := (Option.bind_some _ _).symm.trans H; rw [hy142]; with_reducible exact H2_) | (have H2_ := (Option.bind_some _ _).symm.trans H; with_reducible exact H2_) | with_reducible exact H | (rw [hy142]; exact H) | exact H
  have Ny142 := Aside0.mk hy142
  clear hy142
  have H' := Aside0.mk H
  clear H
  go_enter Try.func8, Try.ntmps8
  go_wp2_with (first | ((with_reducible refine gate_callee (f := 25) rfl ?_); refine goesL_ (some 17) rfl rfl Try.func25 (by kernel_rfl) rfl #[] rfl (by (try simp only [List.map_toArray, List.map_cons, List.map_nil]); first | done | rfl | (simp only [List.length_drop, List.length_take]; rfl)) ?_; (with_reducible refine (trivetlaw11_up.calls k  t139 _ A6.out).mono ?_); rintro e w8 ⟨rfl, hb⟩; refine ⟨_, rfl, ?_⟩; have n0_ := Aside0.mk (below_step (by repeat (first | (with_reducible first | exact HB.out | apply below_alloc | apply pw_below_drewN | apply below_drew1) | exact HB.out)) hb); clear HB; have HB := n0_; clear n0_; (try clear hb); (try clear hb2); (try clear hk); (try clear hi)) | ((with_reducible refine gate_callee (f := 26) rfl ?_); refine goesL_ (some 24) rfl rfl Try.func26 (by kernel_rfl) rfl #[.int .i64 a0, .int .i64 a1, .int .i64 a2, .int .i64 a3, .int .i64 a4] rfl (by (try simp only [List.map_toArray, List.map_cons, List.map_nil]); first | done | rfl | (simp only [List.length_drop, List.length_take]; rfl)) ?_; (with_reducible refine (terms_Reset.calls k a0 a1 a2 a3 a4 t140 t141 _ A7.out).mono ?_); rintro e w9 ⟨rfl, hb⟩; refine ⟨_, rfl, ?_⟩; have n0_ := Aside0.mk (below_step (by repeat (first | (with_reducible first | exact HB.out | apply below_alloc | apply pw_below_drewN | apply below_drew1) | exact HB.out)) hb); clear HB; have HB := n0_; clear n0_; (try clear hb); (try clear hb2); (try clear hk); (try clear hi); (try simp only [errW_none, errW_some])) | ((with_reducible refine gate_dst (N := 32) rfl ?_); refine Kd.R_lit (Kd.int .i64) _ 3 ?hg (N := 32) ?hd (xs := ([a0, a1, a2, a3, a4] : List Int)) (inner := [.int .i64 a0, .int .i64 a1, .int .i64 a2, .int .i64 a3, .int .i64 a4]) (ok := fun _ => True) (okp := fun _ => True) ?hr ?hp (fun _ hk => hk) trivial (Below.refl _ _) (Nat.le_refl _) (by simp) ?_; (case hd => rfl); (case hg => rfl); (case hr => first | (go_simp; done) | (go_simp; rfl)); (case hp => exact (Reps.one (show Kd.M (Kd.int .i64) _ _ _ a0 [.int .i64 a0] from rfl) (Reps.one (show Kd.M (Kd.int .i64) _ _ _ a1 [.int .i64 a1] from rfl) (Reps.one (show Kd.M (Kd.int .i64) _ _ _ a2 [.int .i64 a2] from rfl) (Reps.one (show Kd.M (Kd.int .i64) _ _ _ a3 [.int .i64 a3] from rfl) (Reps.one (show Kd.M (Kd.int .i64) _ _ _ a4 [.int .i64 a4] from rfl) (Reps.none _ _))))))); intro v143 w10 ho11 hb hg_ hnew_; clear hg_ hnew_; (first | rw [← Ny142.out] at ho11 | (simp only [Int.reduceToNat] at ho11; rw [← Ny142.out] at ho11)); have n0_ := Aside0.mk (Kd.R_lower ho11 (below_size (by repeat (first | (with_reducible first | exact HB.out | apply below_alloc | apply pw_below_drewN | apply below_drew1) | exact HB.out)))); have n1_ := Aside0.mk (below_step (by repeat (first | (with_reducible first | exact HB.out | apply below_alloc | apply pw_below_drewN | apply below_drew1) | exact HB.out)) hb); clear HB; have HO144 := n0_; have HB := n1_; clear n0_ n1_; clear hb ho11))
  go_loopg [15, 16] k (fun kq v15 v16 w' => ∃ (x15_1 : Bool) (x16_1 : Int), v15 = .bool x15_1 ∧ v16 = .int .i64 x16_1 ∧ Aside0 (trivetlaw11_TermsResets.l0 kq a0 a1 a2 a3 a4 t139 t140 t141 y142 x15_1 x16_1 = some r) ∧ Aside0 (kq ≤ k) ∧ Aside0 (Kd.R (Kd.int .i64) 3 w' w.heap.size (fun _ => True) v143 y142) ∧ Aside0 (Below w.heap.size w w'))
  case atStart => exact ⟨(decide (a2 ≤ a4)), (0), (by first | rfl | (simp; done) | (simp [*]; done)), (by first | rfl | (simp; done) | (simp [*]; done)), H', ⟨Nat.le_refl _⟩, ⟨by (with_reducible repeat (first | apply Kd.R_alloc | apply Kd.R_drewN | apply Kd.R_drew)); exact HO144.out⟩, ⟨by repeat (first | (with_reducible first | exact HB.out | apply below_alloc | apply pw_below_drewN | apply below_drew1) | exact HB.out)⟩⟩
  case round =>
    clear H'
    try clear c2
    try clear p2
    try clear c8
    obtain ⟨x15_1, x16_1, rfl, rfl, HA, HK1, HO_14, HB⟩ := hrel
    cases gk with
    | zero => exact absurd HA.out (by simp [trivetlaw11_TermsResets.l0])
    | succ k1 =>
      have H := HA.out
      clear HA
      simp only [trivetlaw11_TermsResets.l0] at H
      by_cases c12 : x16_1 < (y142.length : Int)
      · rw [if_pos c12] at H
        have c12b0 : decide (x16_1 < (y142.length : Int)) = true := decide_eq_true c12
        clear c12
        by_cases c13 : x15_1 = true
        · subst c13
          have H1 : (if 0 ≤ x16_1 then (if (rd y142 x16_1) ≥ 0 then (trivetlaw11_TermsResets.l0 k1 a0 a1 a2 a3 a4 t139 t140 t141 y142 (decide ((rd y142 x16_1) ≤ 300000)) (wrap64 (x16_1 + 1))) else (trivetlaw11_TermsResets.l0 k1 a0 a1 a2 a3 a4 t139 t140 t141 y142 false (wrap64 (x16_1 + 1)))) else (none)) = some r := by rw [if_pos rfl] at H; exact H
          clear H
          have H := H1
          clear H1
          by_cases c14 : 0 ≤ x16_1
          · rw [if_pos c14] at H
            have c14b0 : decide (0 ≤ x16_1) = true := decide_eq_true c14
            clear c14
            by_cases c15 : (rd y142 x16_1) ≥ 0
            · rw [if_pos c15] at H
              have c15b0 : decide (0 ≤ (rd y142 x16_1)) = true := decide_eq_true c15
              clear c15
              have H' := Aside0.mk H
              clear H
              obtain ⟨Ao16, co16, eo16⟩ := Kd.R_slice HO_14.out
              subst eo16
              have p145 : 0 ≤ (x16_1 : Int) := of_decide_eq_true (by first | (with_reducible assumption) | assumption)
              have q145 : x16_1 < (y142.length : Int) := of_decide_eq_true (by first | (with_reducible assumption) | assumption)
              obtain ⟨ad145, e145, hx145_0⟩ := Kd.at_int (Kd.R_reads' HO_14.out).2.2 x16_1 p145 q145
              cases e145
              replace p145 := eq_true p145
              replace q145 := eq_true q145
              have p146 : 0 ≤ (x16_1 : Int) := of_decide_eq_true (by first | (with_reducible assumption) | assumption)
              have q146 : x16_1 < (y142.length : Int) := of_decide_eq_true (by first | (with_reducible assumption) | assumption)
              obtain ⟨ad146, e146, hx146_0⟩ := Kd.at_int (Kd.R_reads' HO_14.out).2.2 x16_1 p146 q146
              obtain rfl : ad145 = ad146 := (by injection e146)
              replace p146 := eq_true p146
              replace q146 := eq_true q146
              go_wp2
              go_roundg k1
              case measure => have := HK1.out; omega
              case rel => exact ⟨(decide ((rd y142 x16_1) ≤ 300000)), (wrap64 (x16_1 + 1)), (by first | rfl | (simp; done) | (simp [*]; done)), (by first | rfl | (simp; done) | (simp [*]; done)), H', ⟨by have := HK1.out; omega⟩, ⟨by (with_reducible repeat (first | apply Kd.R_alloc | apply Kd.R_drewN | apply Kd.R_drew)); exact HO_14.out⟩, ⟨by repeat (first | (with_reducible first | exact HB.out | apply below_alloc | apply pw_below_drewN | apply below_drew1) | exact HB.out)⟩⟩
            · rw [if_neg c15] at H
              have c15b0 : decide (0 ≤ (rd y142 x16_1)) = false := decide_eq_false c15
              clear c15
              have H' := Aside0.mk H
              clear H
              obtain ⟨Ao17, co17, eo17⟩ := Kd.R_slice HO_14.out
              subst eo17
              have p145 : 0 ≤ (x16_1 : Int) := of_decide_eq_true (by first | (with_reducible assumption) | assumption)
              have q145 : x16_1 < (y142.length : Int) := of_decide_eq_true (by first | (with_reducible assumption) | assumption)
              obtain ⟨ad145, e145, hx145_0⟩ := Kd.at_int (Kd.R_reads' HO_14.out).2.2 x16_1 p145 q145
              cases e145
              replace p145 := eq_true p145
              replace q145 := eq_true q145
              go_wp2
              go_roundg k1
              case measure => have := HK1.out; omega
              case rel => exact ⟨(false), (wrap64 (x16_1 + 1)), (by first | rfl | (simp; done) | (simp [*]; done)), (by first | rfl | (simp; done) | (simp [*]; done)), H', ⟨by have := HK1.out; omega⟩, ⟨by (with_reducible repeat (first | apply Kd.R_alloc | apply Kd.R_drewN | apply Kd.R_drew)); exact HO_14.out⟩, ⟨by repeat (first | (with_reducible first | exact HB.out | apply below_alloc | apply pw_below_drewN | apply below_drew1) | exact HB.out)⟩⟩
          · rw [if_neg c14] at H
            exact absurd H (by simp)
        · replace c13 := Bool.eq_false_iff.mpr c13
          subst c13
          have H1 : (trivetlaw11_TermsResets.l0 k1 a0 a1 a2 a3 a4 t139 t140 t141 y142 false (wrap64 (x16_1 + 1))) = some r := by rw [if_neg (show ¬ (false = true) by decide)] at H; exact H
          clear H
          have H := H1
          clear H1
          have H' := Aside0.mk H
          clear H
          obtain ⟨Ao18, co18, eo18⟩ := Kd.R_slice HO_14.out
          subst eo18
          go_wp2
          go_roundg k1
          case measure => have := HK1.out; omega
          case rel => exact ⟨(false), (wrap64 (x16_1 + 1)), (by first | rfl | (simp; done) | (simp [*]; done)), (by first | rfl | (simp; done) | (simp [*]; done)), H', ⟨by have := HK1.out; omega⟩, ⟨by (with_reducible repeat (first | apply Kd.R_alloc | apply Kd.R_drewN | apply Kd.R_drew)); exact HO_14.out⟩, ⟨by repeat (first | (with_reducible first | exact HB.out | apply below_alloc | apply pw_below_drewN | apply below_drew1) | exact HB.out)⟩⟩
      · rw [if_neg c12] at H
        have c12b0 : decide (x16_1 < (y142.length : Int)) = false := decide_eq_false c12
        clear c12
        by_cases c19 : x15_1 = true
        · subst c19
          have H1 : (if t139 = true then (if t141.isNone = true then ((trivetref11_Reset.f k1 a0 a1 a2 a3 a4).bind fun t148 => (some (t140 == t148))) else (some false)) else (some false)) = some r := by rw [if_pos rfl] at H; exact H
          clear H
          have H := H1
          clear H1
          by_cases c20 : t139 = true
          · subst c20
            have H1 : (if t141.isNone = true then ((trivetref11_Reset.f k1 a0 a1 a2 a3 a4).bind fun t148 => (some (t140 == t148))) else (some false)) = some r := by rw [if_pos rfl] at H; exact H
            clear H
            have H := H1
            clear H1
            rcases t141 with _ | q147
            · have H1 : ((trivetref11_Reset.f k1 a0 a1 a2 a3 a4).bind fun t148 => (some (t140 == t148))) = some r := by rw [if_pos (show (none : Option Int).isNone = true by rfl)] at H; exact H
              clear H
              have H := H1
              clear H1
              try simp only [errW_none, errW_some]
              replace H := Option.bind_eq_some_iff.mp H
              obtain ⟨t148, A210, H⟩ := H
              replace H : (some (t140 == t148)) = some r := H
              have A21 := Aside0.mk A210
              clear A210
              obtain rfl := Option.some.inj H
              obtain ⟨Ao22, co22, eo22⟩ := Kd.R_slice HO_14.out
              subst eo22
              go_wp2_with (first | (go_at_call 27; (with_reducible refine (trivetref11_Reset.calls k1 a0 a1 a2 a3 a4 t148 _ A21.out).mono ?_); rintro e w' ⟨rfl, ⟨nd, rfl⟩⟩))
              go_ret
              exact ⟨by first | rfl | (simp [errW_none, errW_some] <;> rfl) | (simp [*, errW_none, errW_some] <;> rfl), by repeat (first | (with_reducible first | exact HB.out | apply below_alloc | apply pw_below_drewN | apply below_drew1) | exact HB.out)⟩
            · have H1 : (some false) = some r := by rw [if_neg (show ¬ (some q147).isNone = true by simp)] at H; exact H
              clear H
              have H := H1
              clear H1
              try simp only [errW_none, errW_some]
              obtain rfl := Option.some.inj H
              obtain ⟨Ao23, co23, eo23⟩ := Kd.R_slice HO_14.out
              subst eo23
              go_wp2
              go_ret
              exact ⟨by first | rfl | (simp [errW_none, errW_some] <;> rfl) | (simp [*, errW_none, errW_some] <;> rfl), by repeat (first | (with_reducible first | exact HB.out | apply below_alloc | apply pw_below_drewN | apply below_drew1) | exact HB.out)⟩
          · replace c20 := Bool.eq_false_iff.mpr c20
            subst c20
            have H1 : (some false) = some r := by rw [if_neg (show ¬ (false = true) by decide)] at H; exact H
            clear H
            have H := H1
            clear H1
            obtain rfl := Option.some.inj H
            obtain ⟨Ao24, co24, eo24⟩ := Kd.R_slice HO_14.out
            subst eo24
            go_wp2
            go_ret
            exact ⟨by first | rfl | (simp [errW_none, errW_some] <;> rfl) | (simp [*, errW_none, errW_some] <;> rfl), by repeat (first | (with_reducible first | exact HB.out | apply below_alloc | apply pw_below_drewN | apply below_drew1) | exact HB.out)⟩
        · replace c19 := Bool.eq_false_iff.mpr c19
          subst c19
          have H1 : (if t139 = true then (if t141.isNone = true then (some false) else (if (t141.getD 0) = 1 then (some (t140 == 0)) else (some false))) else (some false)) = some r := by rw [if_neg (show ¬ (false = true) by decide)] at H; exact H
          clear H
          have H := H1
          clear H1
          by_cases c25 : t139 = true
          · subst c25
            have H1 : (if t141.isNone = true then (some false) else (if (t141.getD 0) = 1 then (some (t140 == 0)) else (some false))) = some r := by rw [if_pos rfl] at H; exact H
            clear H
            have H := H1
            clear H1
            rcases t141 with _ | q149
            · have H1 : (some false) = some r := by rw [if_pos (show (none : Option Int).isNone = true by rfl)] at H; exact H
              clear H
              have H := H1
              clear H1
              try simp only [errW_none, errW_some]
              obtain rfl := Option.some.inj H
              obtain ⟨Ao26, co26, eo26⟩ := Kd.R_slice HO_14.out
              subst eo26
              go_wp2
              go_ret
              exact ⟨by first | rfl | (simp [errW_none, errW_some] <;> rfl) | (simp [*, errW_none, errW_some] <;> rfl), by repeat (first | (with_reducible first | exact HB.out | apply below_alloc | apply pw_below_drewN | apply below_drew1) | exact HB.out)⟩
            · have H1 : (if q149 = 1 then (some (t140 == 0)) else (some false)) = some r := by rw [if_neg (show ¬ (some q149).isNone = true by simp)] at H; exact H
              clear H
              have H := H1
              clear H1
              try simp only [errW_none, errW_some]
              by_cases c27 : q149 = 1
              · rw [if_pos c27] at H
                have c27b0 : (q149 == 1) = true := beq_iff_eq.mpr c27
                have c27b1 : (q149 != 1) = false := bne_eq_false_iff_eq.mpr c27
                clear c27
                obtain rfl := Option.some.inj H
                obtain ⟨Ao28, co28, eo28⟩ := Kd.R_slice HO_14.out
                subst eo28
                go_wp2
                go_ret
                exact ⟨by first | rfl | (simp [errW_none, errW_some] <;> rfl) | (simp [*, errW_none, errW_some] <;> rfl), by repeat (first | (with_reducible first | exact HB.out | apply below_alloc | apply pw_below_drewN | apply below_drew1) | exact HB.out)⟩
              · rw [if_neg c27] at H
                have c27b0 : (q149 == 1) = false := beq_eq_false_iff_ne.mpr c27
                have c27b1 : (q149 != 1) = true := bne_iff_ne.mpr c27
                obtain rfl := Option.some.inj H
                obtain ⟨Ao29, co29, eo29⟩ := Kd.R_slice HO_14.out
                subst eo29
                go_wp2
                go_ret
                exact ⟨by first | rfl | (simp [errW_none, errW_some] <;> rfl) | (simp [*, errW_none, errW_some] <;> rfl), by repeat (first | (with_reducible first | exact HB.out | apply below_alloc | apply pw_below_drewN | apply below_drew1) | exact HB.out)⟩
          · replace c25 := Bool.eq_false_iff.mpr c25
            subst c25
            have H1 : (some false) = some r := by rw [if_neg (show ¬ (false = true) by decide)] at H; exact H
            clear H
            have H := H1
            clear H1
            obtain rfl := Option.some.inj H
            obtain ⟨Ao30, co30, eo30⟩ := Kd.R_slice HO_14.out
            subst eo30
            go_wp2
            go_ret
            exact ⟨by first | rfl | (simp [errW_none, errW_some] <;> rfl) | (simp [*, errW_none, errW_some] <;> rfl), by repeat (first | (with_reducible first | exact HB.out | apply below_alloc | apply pw_below_drewN | apply below_drew1) | exact HB.out)⟩

/-- THE ONE PURE STATEMENT of trivetlaw11_TermsResets: yours. -/
def trivetlaw11_TermsResets.Pure : Prop := ∀ (a0 : Int) (a1 : Int) (a2 : Int) (a3 : Int) (a4 : Int), (Lit.int .i64 a0).wf = true → (Lit.int .i64 a1).wf = true → (Lit.int .i64 a2).wf = true → (Lit.int .i64 a3).wf = true → (Lit.int .i64 a4).wf = true → ∃ k, trivetlaw11_TermsResets.f k a0 a1 a2 a3 a4 = some true
theorem trivetlaw11_TermsResets.walk (P : trivetlaw11_TermsResets.Pure) (a0 : Int) (a1 : Int) (a2 : Int) (a3 : Int) (a4 : Int) (w : World) (w0 : (Lit.int .i64 a0).wf = true) (w1 : (Lit.int .i64 a1).wf = true) (w2 : (Lit.int .i64 a2).wf = true) (w3 : (Lit.int .i64 a3).wf = true) (w4 : (Lit.int .i64 a4).wf = true) :
    Calls Try.prog 8 #[.int .i64 a0, .int .i64 a1, .int .i64 a2, .int .i64 a3, .int .i64 a4] w fun e w' => e = .returned (.bool true) ∧ Below w.heap.size w w' := by
  obtain ⟨k, h⟩ := P a0 a1 a2 a3 a4 w0 w1 w2 w3 w4
  refine (trivetlaw11_TermsResets.calls k a0 a1 a2 a3 a4 true w h).mono ?_
  rintro e w' ⟨rfl, hd⟩
  exact ⟨rfl, hd⟩

end Go.Proofs.Ytbechikaaiinlaa.PTermsResets
