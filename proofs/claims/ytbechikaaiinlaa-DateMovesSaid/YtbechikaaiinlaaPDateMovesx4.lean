-- written for this claim by a program of this session (wip/inject.py), which drives the kit's print
import Derived.Test.YtbechikaaiinlaaPDateMovesx0
import Derived.Test.YtbechikaaiinlaaPDateMovesx1
import Derived.Test.YtbechikaaiinlaaPDateMovesx2
import Derived.Test.YtbechikaaiinlaaPDateMovesx3
namespace Go.Proofs.Ytbechikaaiinlaa.PDateMoves
open Go.RowKit Go.Proofs.YtbechikaaiinlaaW.PrintWords Go.Proofs.YtbechikaaiinlaaW.PrintLast Go.Proofs.YtbechikaaiinlaaW.PrintMore
attribute [local go_sem] max2_int min2_int max_two min_two max_three min_three max_four min_four   -- for this text's walks alone
set_option linter.unusedVariables false
set_option linter.unusedSimpArgs false

set_option linter.unnecessarySimpa false
attribute [local go_sem high] errEqI errNeI errEqL errNeL errEqR errNeR
/-! ### trivetref04_Months: function 21 -/
def rmat (y m n : Int) : Int := y * 12 + m - 1 + n
def rfin (Y M d dm : Int) : Int × Int × Int × Bool := if dm = 0 then (0, 0, 0, false) else if dm < d then (Y, M, dm, true) else (Y, M, d, true)
def rm_ok (n Y M A : Int) : Prop := 1 ≤ M ∧ M ≤ 12 ∧ rmat Y M n = A ∧ -3600 ≤ n ∧ n ≤ 3600
set_option maxHeartbeats 2000000 in
set_option maxRecDepth 100000 in
theorem rm_walk (y m d n A dm : Int) (w : World) (hok : rm_ok n y m A) (hA0 : 18000 ≤ A) (hA1 : A ≤ 32000) (r1 r2 r3 : Int) (r4 : Bool)
    (hr : rfin (A / 12) (A % 12 + 1) d dm = (r1, r2, r3, r4))
    (Q : Aside0 (∀ W : World, Calls Try.prog 16 #[.int .i64 (A / 12), .int .i64 (A % 12 + 1)] W fun e w' => e = .returned (.int .i64 dm) ∧ Drawn0 W w')) :
    Calls Try.prog 21 #[.agg #[.int .i64 y, .int .i64 m, .int .i64 d], .int .i64 n] w fun e w' => e = .returned (.tuple #[.agg #[.int .i64 r1, .int .i64 r2, .int .i64 r3], .bool r4]) ∧ Below w.heap.size w w' := by
  have HR := Aside0.mk hr
  have HO := Aside0.mk hok
  clear hr
  have t1 : decide (n < -3600) = false := decide_eq_false (by have := hok.2.2.2.1; omega)
  have t2 : decide (3600 < n) = false := decide_eq_false (by have := hok.2.2.2.2; omega)
  clear hok
  go_enter Try.func21, Try.ntmps21
  go_wp2
  go_loopw [1] (fun v1 wr => ∃ a Y M : Int, v1 = .int .i64 a ∧ Aside0 (rm_ok a Y M A) ∧ Aside0 (wr.heap[w.heap.size]? = some (.cells #[.int .i64 Y, .int .i64 M, .int .i64 d] 23 (0, 0))) ∧ Aside0 (wr.heap[w.heap.size + 1]? = some (.cells #[.int .i64 0, .int .i64 0, .int .i64 0] 23 (0, 0))) ∧ Aside0 (Below w.heap.size w wr)) (fun v1 _ => (intOf v1).toNat)
  case atStart =>
    refine ⟨n, y, m, rfl, HO, ⟨?_⟩, ⟨?_⟩, ⟨below_alloc (below_alloc (Below.refl _ _) _) _⟩⟩
    · exact blk_alloc (heap_alloc_new w _) _
    · have := heap_alloc_new (w.alloc (.cells #[.int .i64 y, .int .i64 m, .int .i64 d] 23)) (.cells #[.int .i64 0, .int .i64 0, .int .i64 0] 23)
      simpa using this
  case round =>
    obtain ⟨a, Y, M, rfl, HA, HB1, HB2, HB⟩ := hrel
    have c0 : wr.cell? ⟨w.heap.size, 0, none⟩ = some (.int .i64 Y) := (blk_cell HB1.out 0).trans rfl
    have c1 : wr.cell? ⟨w.heap.size, 1, none⟩ = some (.int .i64 M) := (blk_cell HB1.out 1).trans rfl
    have c2 : wr.cell? ⟨w.heap.size, 2, none⟩ = some (.int .i64 d) := (blk_cell HB1.out 2).trans rfl
    have f0 := blk_frozen HB1.out 0
    have f1 := blk_frozen HB1.out 1
    have f2 := blk_frozen HB1.out 2
    have o := HA.out
    unfold rm_ok rmat at o
    by_cases g : 0 < a
    · have gb : decide (0 < a) = true := decide_eq_true g
      have b1 : 1 ≤ M := o.1
      have b2 : M ≤ 12 := o.2.1
      have b3 : 1000 ≤ Y := by omega
      have b4 : Y ≤ 3000 := by omega
      have b5 : a ≤ 3600 := o.2.2.2.2
      have O := Aside0.mk o
      clear o t1 t2
      by_cases g2 : 12 < M + 1
      · have g2b : decide (12 < M + 1) = true := decide_eq_true g2
        go_wp2
        go_roundw
        case measure => simp [intOf]; omega
        case rel =>
          refine ⟨a - 1, Y + 1, 1, rfl, ⟨by have := O.out; unfold rm_ok rmat; omega⟩, ⟨?_⟩, ⟨?_⟩, ⟨?_⟩⟩
          · refine blk_put (cs := #[.int .i64 Y, .int .i64 1, .int .i64 d]) ?_ 0 _ rfl
            refine blk_put (cs := #[.int .i64 Y, .int .i64 (M + 1), .int .i64 d]) ?_ 1 _ rfl
            exact blk_put (cs := #[.int .i64 Y, .int .i64 M, .int .i64 d]) HB1.out 1 _ rfl
          · exact blk_far (blk_far (blk_far HB2.out (by simp) _) (by simp) _) (by simp) _
          · exact ((HB.out.setCell (by simp) _).setCell (by simp) _).setCell (by simp) _
      · have g2b : decide (12 < M + 1) = false := decide_eq_false g2
        go_wp2
        go_roundw
        case measure => simp [intOf]; omega
        case rel =>
          refine ⟨a - 1, Y, M + 1, rfl, ⟨by have := O.out; unfold rm_ok rmat; omega⟩, ⟨?_⟩, ⟨?_⟩, ⟨?_⟩⟩
          · exact blk_put (cs := #[.int .i64 Y, .int .i64 M, .int .i64 d]) HB1.out 1 _ rfl
          · exact blk_far HB2.out (by simp) _
          · exact HB.out.setCell (by simp) _
    · have gb : decide (0 < a) = false := decide_eq_false g
      have ha : a ≤ 0 := by omega
      clear o t1 t2 g
      clear c0 c1 c2 f0 f1 f2
      go_wp2
      obtain ⟨wo, rfl⟩ : ∃ wo : World, wo = wr := ⟨_, rfl⟩
      go_loopw [1] (fun v1 wr => ∃ a Y M : Int, v1 = .int .i64 a ∧ Aside0 (rm_ok a Y M A ∧ a ≤ 0) ∧ Aside0 (wr.heap[w.heap.size]? = some (.cells #[.int .i64 Y, .int .i64 M, .int .i64 d] 23 (0, 0))) ∧ Aside0 (wr.heap[w.heap.size + 1]? = some (.cells #[.int .i64 0, .int .i64 0, .int .i64 0] 23 (0, 0))) ∧ Aside0 (Below w.heap.size w wr)) (fun v1 _ => (- intOf v1).toNat)
      case atStart => exact ⟨a, Y, M, rfl, ⟨HA.out, ha⟩, HB1, HB2, HB⟩
      case round =>
        clear HB1 HB2 HB HA ha
        obtain ⟨a, Y, M, rfl, HA, HB1, HB2, HB⟩ := hrel
        have c0 : wr.cell? ⟨w.heap.size, 0, none⟩ = some (.int .i64 Y) := (blk_cell HB1.out 0).trans rfl
        have c1 : wr.cell? ⟨w.heap.size, 1, none⟩ = some (.int .i64 M) := (blk_cell HB1.out 1).trans rfl
        have c2 : wr.cell? ⟨w.heap.size, 2, none⟩ = some (.int .i64 d) := (blk_cell HB1.out 2).trans rfl
        have f0 := blk_frozen HB1.out 0
        have f1 := blk_frozen HB1.out 1
        have f2 := blk_frozen HB1.out 2
        have o := HA.out
        unfold rm_ok rmat at o
        by_cases g : a < 0
        · have gb : decide (a < 0) = true := decide_eq_true g
          have b1 : 1 ≤ M := o.1.1
          have b2 : M ≤ 12 := o.1.2.1
          have b3 : 1000 ≤ Y := by omega
          have b4 : Y ≤ 3000 := by omega
          have b5 : -3600 ≤ a := o.1.2.2.2.1
          have O := Aside0.mk o
          clear o
          by_cases g2 : M - 1 < 1
          · have g2b : decide (M - 1 < 1) = true := decide_eq_true g2
            have g2c : decide (M ≤ 1) = true := decide_eq_true (by omega)
            go_wp2
            go_roundw
            case measure => simp [intOf]; omega
            case rel =>
              refine ⟨a + 1, Y - 1, 12, rfl, ⟨by have := O.out; unfold rm_ok rmat; omega⟩, ⟨?_⟩, ⟨?_⟩, ⟨?_⟩⟩
              · refine blk_put (cs := #[.int .i64 Y, .int .i64 12, .int .i64 d]) ?_ 0 _ rfl
                refine blk_put (cs := #[.int .i64 Y, .int .i64 (M - 1), .int .i64 d]) ?_ 1 _ rfl
                exact blk_put (cs := #[.int .i64 Y, .int .i64 M, .int .i64 d]) HB1.out 1 _ rfl
              · exact blk_far (blk_far (blk_far HB2.out (by simp) _) (by simp) _) (by simp) _
              · exact ((HB.out.setCell (by simp) _).setCell (by simp) _).setCell (by simp) _
          · have g2b : decide (M - 1 < 1) = false := decide_eq_false g2
            have g2c : decide (M ≤ 1) = false := decide_eq_false (by omega)
            go_wp2
            go_roundw
            case measure => simp [intOf]; omega
            case rel =>
              refine ⟨a + 1, Y, M - 1, rfl, ⟨by have := O.out; unfold rm_ok rmat; omega⟩, ⟨?_⟩, ⟨?_⟩, ⟨?_⟩⟩
              · exact blk_put (cs := #[.int .i64 Y, .int .i64 M, .int .i64 d]) HB1.out 1 _ rfl
              · exact blk_far HB2.out (by simp) _
              · exact HB.out.setCell (by simp) _
        · have gb : decide (a < 0) = false := decide_eq_false g
          have eY : Y = A / 12 := by omega
          have eM : M = A % 12 + 1 := by omega
          clear o g
          subst eY eM
          go_wp2_with fail
          refine (Q.out _).mono ?_
          rintro e w' ⟨rfl, ⟨nd, rfl⟩⟩
          have G1 := Aside0.mk (blk_drewN HB1.out nd)
          have e0 : wr.cell? ⟨w.heap.size + 1, 0, none⟩ = some (.int .i64 0) := (blk_cell HB2.out 0).trans rfl
          have e1 : wr.cell? ⟨w.heap.size + 1, 1, none⟩ = some (.int .i64 0) := (blk_cell HB2.out 1).trans rfl
          have e2 : wr.cell? ⟨w.heap.size + 1, 2, none⟩ = some (.int .i64 0) := (blk_cell HB2.out 2).trans rfl
          have h0 := blk_frozen HB2.out 0
          have h1 := blk_frozen HB2.out 1
          have h2 := blk_frozen HB2.out 2
          by_cases z : dm = 0
          · have zb : (dm == 0) = true := beq_iff_eq.mpr z
            have e := HR.out
            unfold rfin at e
            rw [if_pos z] at e
            simp only [Prod.mk.injEq] at e
            obtain ⟨rfl, rfl, rfl, rfl⟩ := e
            clear z
            go_wp2
            exact bodyPost_ret (v := .tuple #[.agg #[.int .i64 0, .int .i64 0, .int .i64 0], .bool false]) (by simp [results, Try.results21, go_sem, e0, e1, e2]) rfl ⟨rfl, by repeat (first | exact HB.out | apply pw_below_drewN | refine Below.setCell ?_ (by simp) _)⟩
          · have zb : (dm == 0) = false := beq_eq_false_iff_ne.mpr z
            have e := HR.out
            unfold rfin at e
            rw [if_neg z] at e
            by_cases u : dm < d
            · have ub : decide (dm < d) = true := decide_eq_true u
              rw [if_pos u] at e
              simp only [Prod.mk.injEq] at e
              obtain ⟨rfl, rfl, rfl, rfl⟩ := e
              clear z u
              go_wp2
              exact bodyPost_ret (v := .tuple #[.agg #[.int .i64 (A / 12), .int .i64 (A % 12 + 1), .int .i64 dm], .bool true]) (by simp [results, Try.results21, go_sem, e0, e1, e2]) rfl ⟨rfl, by repeat (first | exact HB.out | apply pw_below_drewN | refine Below.setCell ?_ (by simp) _)⟩
            · have ub : decide (dm < d) = false := decide_eq_false u
              rw [if_neg u] at e
              simp only [Prod.mk.injEq] at e
              obtain ⟨rfl, rfl, rfl, rfl⟩ := e
              clear z u
              go_wp2
              exact bodyPost_ret (v := .tuple #[.agg #[.int .i64 (A / 12), .int .i64 (A % 12 + 1), .int .i64 d], .bool true]) (by simp [results, Try.results21, go_sem, e0, e1, e2]) rfl ⟨rfl, by repeat (first | exact HB.out | apply pw_below_drewN | refine Below.setCell ?_ (by simp) _)⟩
set_option maxHeartbeats 1000000 in
set_option maxRecDepth 100000 in
theorem rm_far (y m d n : Int) (w : World) (hn : n < -3600 ∨ 3600 < n) :
    Calls Try.prog 21 #[.agg #[.int .i64 y, .int .i64 m, .int .i64 d], .int .i64 n] w fun e w' => e = .returned (.tuple #[.agg #[.int .i64 0, .int .i64 0, .int .i64 0], .bool false]) ∧ Below w.heap.size w w' := by
  by_cases c : n < -3600
  · have t1 : decide (n < -3600) = true := decide_eq_true c
    clear hn c
    go_enter Try.func21, Try.ntmps21
    go_wp2
    exact bodyPost_ret (v := .tuple #[.agg #[.int .i64 0, .int .i64 0, .int .i64 0], .bool false]) (by simp [results, Try.results21, go_sem]) rfl ⟨rfl, by repeat (first | exact Below.refl _ _ | apply below_alloc | refine Below.setCell ?_ (by simp) _)⟩
  · have t1 : decide (n < -3600) = false := decide_eq_false c
    have t2 : decide (3600 < n) = true := decide_eq_true (by omega)
    clear hn c
    go_enter Try.func21, Try.ntmps21
    go_wp2
    exact bodyPost_ret (v := .tuple #[.agg #[.int .i64 0, .int .i64 0, .int .i64 0], .bool false]) (by simp [results, Try.results21, go_sem]) rfl ⟨rfl, by repeat (first | exact Below.refl _ _ | apply below_alloc | refine Below.setCell ?_ (by simp) _)⟩
def trivetref04_Months.f (k : Nat) (a0_0 : Int) (a0_1 : Int) (a0_2 : Int) (a1 : Int) : Option (Int × Int × Int × Bool) :=
  if a1 < -3600 ∨ 3600 < a1 then some (0, 0, 0, false) else if 1 ≤ a0_1 ∧ a0_1 ≤ 12 ∧ 1900 ≤ a0_0 ∧ a0_0 ≤ 2199 then (trivetref04_Days.f k (rmat a0_0 a0_1 a1 / 12) (rmat a0_0 a0_1 a1 % 12 + 1)).bind fun dm => some (rfin (rmat a0_0 a0_1 a1 / 12) (rmat a0_0 a0_1 a1 % 12 + 1) a0_2 dm) else none
theorem trivetref04_Months.mono : ∀ a0 a1 a2 a3 k, LeO (trivetref04_Months.f k a0 a1 a2 a3) (trivetref04_Months.f (k + 1) a0 a1 a2 a3) := by
  intro a0 a1 a2 a3 k
  unfold trivetref04_Months.f
  refine LeO.ite (LeO.refl _) (LeO.ite (LeO.bind (trivetref04_Days.mono _ _ _) (fun _ => LeO.refl _)) (LeO.refl _))
theorem trivetref04_Months.calls (k : Nat) (a0_0 : Int) (a0_1 : Int) (a0_2 : Int) (a1 : Int) (r1 : Int) (r2 : Int) (r3 : Int) (r4 : Bool) (w : World) (h : trivetref04_Months.f k a0_0 a0_1 a0_2 a1 = some (r1, r2, r3, r4)) :
    Calls Try.prog 21 #[.agg #[.int .i64 a0_0, .int .i64 a0_1, .int .i64 a0_2], .int .i64 a1] w fun e w' => e = .returned (.tuple #[.agg #[.int .i64 r1, .int .i64 r2, .int .i64 r3], .bool r4]) ∧ Below w.heap.size w w' := by
  unfold trivetref04_Months.f at h
  by_cases c1 : a1 < -3600 ∨ 3600 < a1
  · rw [if_pos c1] at h
    simp only [Option.some.injEq, Prod.mk.injEq] at h
    obtain ⟨rfl, rfl, rfl, rfl⟩ := h
    exact rm_far _ _ _ _ w c1
  rw [if_neg c1] at h
  by_cases c2 : 1 ≤ a0_1 ∧ a0_1 ≤ 12 ∧ 1900 ≤ a0_0 ∧ a0_0 ≤ 2199
  · rw [if_pos c2] at h
    cases e : trivetref04_Days.f k (rmat a0_0 a0_1 a1 / 12) (rmat a0_0 a0_1 a1 % 12 + 1) with
    | none => rw [e] at h; simp at h
    | some dm =>
      rw [e] at h
      have h2 := Option.some.inj h
      exact rm_walk a0_0 a0_1 a0_2 a1 (rmat a0_0 a0_1 a1) dm w ⟨c2.1, c2.2.1, rfl, by omega, by omega⟩ (by unfold rmat; omega) (by unfold rmat; omega) r1 r2 r3 r4 h2 ⟨fun W => trivetref04_Days.calls k _ _ _ W e⟩
  · rw [if_neg c2] at h
    simp at h

/-! ### trivetlaw04_DateMoves: function 5 -/
theorem w64 (x : Int) (h0 : -9223372036854775808 ≤ x) (h1 : x ≤ 9223372036854775807) : wrap64 x = x := by
  unfold wrap64
  omega
def lp (y : Int) : Prop := y % 4 = 0 ∧ y % 100 ≠ 0 ∨ y % 400 = 0
instance (y : Int) : Decidable (lp y) := by unfold lp; infer_instance
/-- How many days a month has. -/
def dim (y m : Int) : Int := if y < 1900 ∨ 2199 < y ∨ m < 1 ∨ 12 < m then 0 else if m = 2 then (if lp y then 29 else 28) else if m = 4 ∨ m = 6 ∨ m = 9 ∨ m = 11 then 30 else 31
theorem dim_out (y m : Int) (h : y < 1900 ∨ 2199 < y ∨ m < 1 ∨ 12 < m) : dim y m = 0 := by unfold dim; rw [if_pos h]
theorem dim_in (y m : Int) (h : ¬ (y < 1900 ∨ 2199 < y ∨ m < 1 ∨ 12 < m)) : dim y m = if m = 2 then (if lp y then 29 else 28) else if m = 4 ∨ m = 6 ∨ m = 9 ∨ m = 11 then 30 else 31 := by unfold dim; rw [if_neg h]
theorem leap_f (y : Int) (h : 0 ≤ y) : date_leap.f y = some (decide (lp y)) := by
  unfold date_leap.f lp
  rw [Int.tmod_eq_emod_of_nonneg h, Int.tmod_eq_emod_of_nonneg h, Int.tmod_eq_emod_of_nonneg h]
  by_cases h1 : y % 4 = 0
  · rw [if_pos h1]
    by_cases h2 : y % 100 = 0
    · rw [if_pos h2]; simp [h1, h2]; rw [Bool.eq_iff_iff]; simp
    · rw [if_neg h2]; simp [h1, h2]
  · rw [if_neg h1]; simp [h1]; rw [Bool.eq_iff_iff]; simp
theorem days_f (y m : Int) : date_Days.f y m = some (dim y m) := by
  unfold date_Days.f
  by_cases h1 : y < 1900
  · rw [if_pos h1, dim_out y m (.inl h1)]
  rw [if_neg h1]
  by_cases h2 : y > 2199
  · rw [if_pos h2, dim_out y m (by omega)]
  rw [if_neg h2]
  by_cases h3 : m < 1
  · rw [if_pos h3, dim_out y m (by omega)]
  rw [if_neg h3]
  by_cases h4 : m > 12
  · rw [if_pos h4, dim_out y m (by omega)]
  rw [if_neg h4, dim_in y m (by omega)]
  by_cases h5 : m = 2
  · rw [if_pos h5, if_pos h5, leap_f y (by omega)]
    simp
  · rw [if_neg h5, if_neg h5]
    unfold date_tab
    rw [if_neg h5]
theorem may_f (y m d : Int) : date_May.f y m d = some (decide (1 ≤ d ∧ d ≤ dim y m)) := by
  unfold date_May.f
  rw [days_f]
  by_cases h : d ≥ 1
  · rw [if_pos h]
    simp; intro; omega
  · rw [if_neg h, decide_eq_false (by omega)]

theorem ref_days (y m : Int) (k : Nat) (hk : 5 ≤ k) : trivetref04_Days.f k y m = some (dim y m) := by
  obtain ⟨k, rfl⟩ : ∃ n, k = n + 2 := ⟨k - 2, by omega⟩
  have j1 : ∀ b, trivetref04_Days.j1 (k + 1) b = some (if b = true then 29 else 28) := by
    intro b
    cases b <;> simp [trivetref04_Days.j1]
  have no : (y < 1900 ∨ 2199 < y ∨ m < 1 ∨ 12 < m) → trivetref04_Days.j0 (k + 2) y m true = some (dim y m) := by
    intro h
    rw [dim_out y m h]
    simp [trivetref04_Days.j0]
  unfold trivetref04_Days.f
  by_cases h1 : y < 1900
  · rw [if_pos h1]; exact no (.inl h1)
  rw [if_neg h1]
  by_cases h2 : y > 2199
  · rw [if_pos h2]; exact no (by omega)
  rw [if_neg h2]
  by_cases h3 : m < 1
  · rw [if_pos h3]; exact no (by omega)
  rw [if_neg h3]
  by_cases h4 : m > 12
  · rw [decide_eq_true h4]; exact no (by omega)
  rw [decide_eq_false h4]
  rw [dim_in y m (by omega), trivetref04_Days.j0, if_neg (by simp)]
  by_cases h5 : m = 2
  · rw [if_pos h5, if_pos h5]
    rw [Int.tmod_eq_emod_of_nonneg (by omega), Int.tmod_eq_emod_of_nonneg (by omega), Int.tmod_eq_emod_of_nonneg (by omega)]
    by_cases g1 : y % 400 = 0
    · have : lp y := .inr g1
      simp [g1, j1, this]
    by_cases g2 : y % 4 = 0
    · by_cases g3 : y % 100 = 0
      · have : ¬ lp y := by unfold lp; omega
        simp [g1, g2, g3, j1, this]
      · have : lp y := .inl ⟨g2, g3⟩
        simp [g1, g2, g3, j1, this]
    · have : ¬ lp y := by unfold lp; omega
      simp [g1, g2, j1, this]
  · rw [if_neg h5, if_neg h5]
    by_cases g1 : m = 4
    · simp [g1]
    by_cases g2 : m = 6
    · simp [g2]
    by_cases g3 : m = 9
    · simp [g3]
    by_cases g4 : m = 11
    · simp [g4]
    simp [g1, g2, g3, g4]

theorem ref_may (y m d : Int) (k : Nat) (hk : 5 ≤ k) : trivetref04_May.f k y m d = some (decide (1 ≤ d ∧ d ≤ dim y m)) := by
  unfold trivetref04_May.f
  rw [ref_days y m k hk]
  by_cases h : d ≥ 1
  · rw [if_pos h]
    simp; intro; omega
  · rw [if_neg h, decide_eq_false (by omega)]

theorem up_f (k : Nat) (hk : 20 ≤ k) : trivetlaw04_up.f k = some true :=
  at_rounds (g := fun k => trivetlaw04_up.f k) (fun k => trivetlaw04_up.mono k) hk (by decide +kernel)

/-- A day's number, in one formula. -/
def numP (y m d : Int) : Int := 365 * y + y / 4 - y / 100 + y / 400 + (153 * (m - 3) + 2) / 5 + d - 719469
def num (y m d : Int) : Int := if m ≤ 2 then numP (y - 1) (m + 12) d else numP y m d
theorem civil_f (y m d : Int) (hy0 : 1800 ≤ y) (hy1 : y ≤ 2300) (hm0 : 1 ≤ m) (hm1 : m ≤ 12) (hd0 : 0 ≤ d) (hd1 : d ≤ 1000) : date_civil.f y m d = some (num y m d) := by
  have key : ∀ a b : Int, 1799 ≤ a → a ≤ 2300 → 3 ≤ b → b ≤ 14 → (wrap64 ((wrap64 ((wrap64 ((wrap64 ((wrap64 ((wrap64 ((wrap64 ((wrap64 ((wrap64 (Int.tdiv a 400)) * 146097)) + (wrap64 ((Int.tmod a 400) * 365)))) + (wrap64 (Int.tdiv (Int.tmod a 400) 4)))) - (wrap64 (Int.tdiv (Int.tmod a 400) 100)))) + (wrap64 (Int.tdiv (wrap64 ((wrap64 (153 * (wrap64 (b - 3)))) + 2)) 5)))) + d)) - 1)) - 719468)) = numP a b d := by
    intro a b ha0 ha1 hb0 hb1
    rw [Int.tdiv_eq_ediv_of_nonneg (show 0 ≤ a by omega), Int.tmod_eq_emod_of_nonneg (show 0 ≤ a by omega), Int.tdiv_eq_ediv_of_nonneg (show 0 ≤ a % 400 by omega), Int.tdiv_eq_ediv_of_nonneg (show 0 ≤ a % 400 by omega)]
    rw [w64 (b - 3) (by omega) (by omega), w64 (153 * (b - 3)) (by omega) (by omega), w64 (153 * (b - 3) + 2) (by omega) (by omega), Int.tdiv_eq_ediv_of_nonneg (show 0 ≤ 153 * (b - 3) + 2 by omega)]
    have c0 : 0 ≤ (153 * (b - 3) + 2) / 5 ∧ (153 * (b - 3) + 2) / 5 ≤ 400 := by omega
    rw [w64 ((153 * (b - 3) + 2) / 5) (by omega) (by omega)]
    have g : 0 ≤ a / 400 ∧ a / 400 ≤ 6 := by omega
    have r : 0 ≤ a % 400 ∧ a % 400 ≤ 399 := by omega
    have r4 : 0 ≤ a % 400 / 4 ∧ a % 400 / 4 ≤ 99 := by omega
    have r100 : 0 ≤ a % 400 / 100 ∧ a % 400 / 100 ≤ 3 := by omega
    unfold numP
    generalize hc : (153 * (b - 3) + 2) / 5 = c at *
    generalize hg : a / 400 = q at *
    generalize hr : a % 400 = s at *
    rw [w64 q (by omega) (by omega), w64 (q * 146097) (by omega) (by omega), w64 (s * 365) (by omega) (by omega), w64 (q * 146097 + s * 365) (by omega) (by omega), w64 (s / 4) (by omega) (by omega), w64 (s / 100) (by omega) (by omega)]
    rw [w64 (q * 146097 + s * 365 + s / 4) (by omega) (by omega), w64 (q * 146097 + s * 365 + s / 4 - s / 100) (by omega) (by omega), w64 (q * 146097 + s * 365 + s / 4 - s / 100 + c) (by omega) (by omega), w64 (q * 146097 + s * 365 + s / 4 - s / 100 + c + d) (by omega) (by omega), w64 (q * 146097 + s * 365 + s / 4 - s / 100 + c + d - 1) (by omega) (by omega), w64 (q * 146097 + s * 365 + s / 4 - s / 100 + c + d - 1 - 719468) (by omega) (by omega)]
    have e1 : a = 400 * q + s := by omega
    subst e1
    omega
  unfold date_civil.f num
  by_cases h : m ≤ 2
  · rw [if_pos h, if_pos h, w64 (y - 1) (by omega) (by omega), w64 (m + 12) (by omega) (by omega), key (y - 1) (m + 12) (by omega) (by omega) (by omega) (by omega)]
  · rw [if_neg h, if_neg h, key y m (by omega) (by omega) (by omega) (by omega)]
theorem num_month (y m : Int) (hy0 : 1900 ≤ y) (hy1 : y ≤ 2199) (hm0 : 1 ≤ m) (hm1 : m ≤ 11) : num y (m + 1) 1 = num y m 1 + dim y m := by
  rw [dim_in y m (by omega)]
  have hm : m = 1 ∨ m = 2 ∨ m = 3 ∨ m = 4 ∨ m = 5 ∨ m = 6 ∨ m = 7 ∨ m = 8 ∨ m = 9 ∨ m = 10 ∨ m = 11 := by omega
  rcases hm with rfl | rfl | rfl | rfl | rfl | rfl | rfl | rfl | rfl | rfl | rfl
  · simp [num, numP]; omega
  · by_cases h : lp y
    · simp only [if_pos h, if_true]; unfold lp at h; simp [num, numP]; omega
    · simp only [if_neg h, if_true]; unfold lp at h; simp [num, numP]; omega
  all_goals (simp [num, numP]; try omega)
theorem num_year (y : Int) (hy0 : 1900 ≤ y) (hy1 : y ≤ 2199) : num (y + 1) 1 1 = num y 1 1 + (337 + dim y 2) := by
  rw [dim_in y 2 (by omega)]
  by_cases h : lp y
  · simp only [if_pos h, if_true]; unfold lp at h; simp [num, numP]; omega
  · simp only [if_neg h, if_true]; unfold lp at h; simp [num, numP]; omega
theorem num_december (y : Int) (hy0 : 1900 ≤ y) (hy1 : y ≤ 2199) : num (y + 1) 1 1 = num y 12 1 + dim y 12 := by
  rw [dim_in y 12 (by omega)]
  simp [num, numP]
  omega
theorem num_day (y m d : Int) : num y m d = num y m 1 + (d - 1) := by
  unfold num numP
  split <;> omega
theorem num_mono (a b : Int) (h0 : 1900 ≤ a) (h : a ≤ b) (h1 : b ≤ 2200) : num a 1 1 ≤ num b 1 1 := by
  simp [num, numP]
  omega
theorem dim_bounds (y m : Int) (h : ¬ (y < 1900 ∨ 2199 < y ∨ m < 1 ∨ 12 < m)) : 28 ≤ dim y m ∧ dim y m ≤ 31 := by
  rw [dim_in y m h]
  split
  · split <;> omega
  · split <;> omega
theorem num_bounds (y m d : Int) (h : ¬ (y < 1900 ∨ 2199 < y ∨ m < 1 ∨ 12 < m)) (hd0 : 0 ≤ d) (hd1 : d ≤ 1000) : -30000 ≤ num y m d ∧ num y m d ≤ 90000 := by
  unfold num numP
  split <;> omega
def Valid (y m d : Int) : Prop := ¬ (y < 1900 ∨ 2199 < y ∨ m < 1 ∨ 12 < m) ∧ 1 ≤ d ∧ d ≤ dim y m
theorem valid_of (y m d : Int) (h : 1 ≤ d ∧ d ≤ dim y m) : Valid y m d := by
  refine ⟨fun g => ?_, h⟩
  rw [dim_out y m g] at h
  omega
theorem number_f (y m d : Int) : date_Number.f y m d = some (if 1 ≤ d ∧ d ≤ dim y m then (num y m d, none) else (0, some 2)) := by
  unfold date_Number.f
  rw [may_f]
  by_cases h : 1 ≤ d ∧ d ≤ dim y m
  · have v := (valid_of y m d h).1
    have := dim_bounds y m v
    rw [decide_eq_true h, if_pos h]
    simp only [Option.bind_some, if_true]
    rw [civil_f y m d (by omega) (by omega) (by omega) (by omega) (by omega) (by omega)]
    rfl
  · rw [decide_eq_false h, if_neg h]
    simp

def wday (n : Int) : Int := (n + 4) % 7
theorem weekday_f (y m d : Int) (h : Valid y m d) : date_Weekday.f y m d = some (wday (num y m d), none) := by
  have hv := h.1
  have hd := dim_bounds y m hv
  have hb := num_bounds y m d hv (by have := h.2; omega) (by have := h.2; omega)
  unfold date_Weekday.f
  rw [number_f, if_pos h.2]
  simp only [Option.bind_some, Option.isNone_none, if_true]
  rw [w64 (num y m d + 4) (by omega) (by omega)]
  congr 2
  unfold wday
  generalize num y m d = n at *
  by_cases c : 0 ≤ n + 4
  · rw [Int.tmod_eq_emod_of_nonneg c, w64 _ (by omega) (by omega), Int.tmod_eq_emod_of_nonneg (by omega)]
    omega
  · have e : Int.tmod (n + 4) 7 = -((-(n + 4)) % 7) := by
      have := Int.neg_tmod (-(n + 4)) 7
      rw [Int.neg_neg] at this
      rw [this, Int.tmod_eq_emod_of_nonneg (by omega)]
    rw [e, w64 _ (by omega) (by omega), Int.tmod_eq_emod_of_nonneg (by omega)]
    omega

theorem ref_year (y : Int) (k : Nat) (hk : 5 ≤ k) : trivetref04_year.f k y = some (337 + dim y 2) := by
  unfold trivetref04_year.f
  rw [ref_days y 2 k hk]
  have : 0 ≤ dim y 2 ∧ dim y 2 ≤ 31 := by
    by_cases h : y < 1900 ∨ 2199 < y ∨ (2 : Int) < 1 ∨ 12 < (2 : Int)
    · rw [dim_out y 2 h]; omega
    · have := dim_bounds y 2 h; omega
  simp only [Option.bind_some]
  rw [w64 (337 + dim y 2) (by omega) (by omega)]
theorem num_1970 : num 1970 1 1 = 0 := by decide
theorem num_y_bounds (y : Int) (h0 : 1900 ≤ y) (h1 : y ≤ 2200) : -30000 ≤ num y 1 1 ∧ num y 1 1 ≤ 90000 := by
  simp [num, numP]
  omega
theorem ref_num2 : ∀ (n k : Nat) (t X : Int), 1900 ≤ t → t + n = 1970 → n + 8 < k → -200000 ≤ X + num t 1 1 → X + num t 1 1 ≤ 200000 → trivetref04_Number.l2 k X t = some (X + num t 1 1) := by
  intro n
  induction n with
  | zero =>
    intro k t X h0 h1 hk hx0 hx1
    obtain ⟨k, rfl⟩ : ∃ m, k = m + 1 := ⟨k - 1, by omega⟩
    obtain rfl : t = 1970 := by omega
    rw [trivetref04_Number.l2, if_neg (by omega), num_1970]
    simp
  | succ n ih =>
    intro k t X h0 h1 hk hx0 hx1
    obtain ⟨k, rfl⟩ : ∃ m, k = m + 1 := ⟨k - 1, by omega⟩
    have hy := num_year t h0 (by omega)
    have b1 := num_y_bounds t (by omega) (by omega)
    have hd := dim_bounds t 2 (by omega)
    rw [trivetref04_Number.l2, if_pos (by omega), ref_year t k (by omega)]
    simp only [Option.bind_some]
    rw [w64 (X - (337 + dim t 2)) (by omega) (by omega), w64 (t + 1) (by omega) (by omega)]
    rw [ih k (t + 1) _ (by omega) (by omega) (by omega) (by omega) (by omega)]
    congr 1
    omega
theorem ref_num1_up (y m d S : Int) (hy : y ≤ 2199) (hS0 : -200000 ≤ S) (hS1 : S ≤ 200000) : ∀ (n k : Nat) (t X : Int), 1970 ≤ t → t + n = y → n + 8 < k → X = S + num t 1 1 → trivetref04_Number.l1 k X t y m d = some (S + num y 1 1) := by
  intro n
  induction n with
  | zero =>
    intro k t X h0 h1 hk hX
    obtain ⟨k, rfl⟩ : ∃ m, k = m + 2 := ⟨k - 2, by omega⟩
    obtain rfl : t = y := by omega
    rw [trivetref04_Number.l1, if_neg (by omega), trivetref04_Number.l2, if_neg (by omega), hX]
  | succ n ih =>
    intro k t X h0 h1 hk hX
    obtain ⟨k, rfl⟩ : ∃ m, k = m + 1 := ⟨k - 1, by omega⟩
    have hyr := num_year t (by omega) (by omega)
    have b1 := num_y_bounds t (by omega) (by omega)
    have hd := dim_bounds t 2 (by omega)
    rw [trivetref04_Number.l1, if_pos (by omega), ref_year t k (by omega)]
    simp only [Option.bind_some]
    rw [w64 (X + (337 + dim t 2)) (by omega) (by omega), w64 (t + 1) (by omega) (by omega)]
    exact ih k (t + 1) _ (by omega) (by omega) (by omega) (by omega)
theorem ref_num1 (y m d X : Int) (h0 : 1900 ≤ y) (h1 : y ≤ 2199) (hx0 : -1000 ≤ X) (hx1 : X ≤ 1000) (k : Nat) (hk : 300 ≤ k) : trivetref04_Number.l1 k X 1970 y m d = some (X + num y 1 1) := by
  by_cases c : 1970 ≤ y
  · obtain ⟨n, hn⟩ := Int.eq_ofNat_of_zero_le (show 0 ≤ y - 1970 by omega)
    exact ref_num1_up y m d X h1 (by omega) (by omega) n k 1970 X (by omega) (by omega) (by omega) (by rw [num_1970]; omega)
  · obtain ⟨k, rfl⟩ : ∃ m, k = m + 1 := ⟨k - 1, by omega⟩
    obtain ⟨n, hn⟩ := Int.eq_ofNat_of_zero_le (show 0 ≤ 1970 - y by omega)
    have b1 := num_y_bounds y (by omega) (by omega)
    rw [trivetref04_Number.l1, if_neg (by omega)]
    exact ref_num2 n k y X h0 (by omega) (by omega) (by omega) (by omega)
theorem num_m_bounds (y m : Int) (h : ¬ (y < 1900 ∨ 2199 < y ∨ m < 1 ∨ 12 < m)) : 0 ≤ num y m 1 - num y 1 1 ∧ num y m 1 - num y 1 1 ≤ 400 := by
  unfold num numP
  rw [if_pos (show (1 : Int) ≤ 2 by omega)]
  split <;> omega
theorem ref_num0 (y m d : Int) (hv : ¬ (y < 1900 ∨ 2199 < y ∨ m < 1 ∨ 12 < m)) (hd0 : 0 ≤ d) (hd1 : d ≤ 100) : ∀ (n k : Nat) (t X : Int), 1 ≤ t → t + n = m → n + 320 ≤ k → X = d - 1 + (num y t 1 - num y 1 1) → trivetref04_Number.l0 k X t y m d = some (num y m d) := by
  intro n
  induction n with
  | zero =>
    intro k t X h0 h1 hk hX
    obtain ⟨k, rfl⟩ : ∃ m, k = m + 1 := ⟨k - 1, by omega⟩
    obtain rfl : t = m := by omega
    have b := num_m_bounds y t hv
    rw [trivetref04_Number.l0, if_neg (by omega), ref_num1 y t d X (by omega) (by omega) (by omega) (by omega) k (by omega), num_day y t d]
    congr 1
    omega
  | succ n ih =>
    intro k t X h0 h1 hk hX
    obtain ⟨k, rfl⟩ : ∃ m, k = m + 1 := ⟨k - 1, by omega⟩
    have b := num_m_bounds y t (by omega)
    have hm := num_month y t (by omega) (by omega) h0 (by omega)
    have hd := dim_bounds y t (by omega)
    rw [trivetref04_Number.l0, if_pos (by omega), ref_days y t k (by omega)]
    simp only [Option.bind_some]
    rw [w64 (X + dim y t) (by omega) (by omega), w64 (t + 1) (by omega) (by omega)]
    exact ih k (t + 1) _ (by omega) (by omega) (by omega) (by omega)
theorem ref_number (y m d : Int) (h : Valid y m d) (k : Nat) (hk : 400 ≤ k) : trivetref04_Number.f k y m d = some (num y m d) := by
  have hv := h.1
  have hd := dim_bounds y m hv
  have h1 := h.2
  unfold trivetref04_Number.f
  rw [w64 (d - 1) (by omega) (by omega)]
  obtain ⟨n, hn⟩ := Int.eq_ofNat_of_zero_le (show 0 ≤ m - 1 by omega)
  exact ref_num0 y m d hv (by omega) (by omega) n k 1 (d - 1) (by omega) (by omega) (by omega) (by omega)

def mat (y m n : Int) : Int := y * 12 + m - 1 + n
def moved (y m d n : Int) : Int × Int × Int × Option Int :=
  if n < -3600 ∨ 3600 < n then (0, 0, 0, some 1) else if dim (mat y m n / 12) (mat y m n % 12 + 1) = 0 then (0, 0, 0, some 1) else (mat y m n / 12, mat y m n % 12 + 1, mn d (dim (mat y m n / 12) (mat y m n % 12 + 1)), none)
theorem months_no (y m d n : Int) (h : ¬ (1 ≤ d ∧ d ≤ dim y m)) (k : Nat) : date_Months.f k y m d n = some (0, 0, 0, some 2) := by
  unfold date_Months.f
  rw [may_f, decide_eq_false h]
  simp
theorem months_f (y m d n : Int) (h : 1 ≤ d ∧ d ≤ dim y m) (k : Nat) (hk : 2 ≤ k) : date_Months.f k y m d n = some (moved y m d n) := by
  obtain ⟨k, rfl⟩ : ∃ j, k = j + 1 := ⟨k - 1, by omega⟩
  have v := (valid_of y m d h).1
  unfold date_Months.f moved
  rw [may_f, decide_eq_true h]
  simp only [Option.bind_some, if_true]
  by_cases c1 : n < -3600
  · rw [if_pos c1, if_pos (.inl c1)]
    simp [date_Months.j0]
  rw [if_neg c1]
  by_cases c2 : n > 3600
  · rw [if_pos (.inr c2), decide_eq_true c2]
    simp [date_Months.j0]
  have e : wrap64 ((wrap64 ((wrap64 ((wrap64 (y * 12)) + m)) - 1)) + n) = mat y m n := by
    unfold mat
    rw [w64 (y * 12) (by omega) (by omega), w64 (y * 12 + m) (by omega) (by omega), w64 (y * 12 + m - 1) (by omega) (by omega), w64 (y * 12 + m - 1 + n) (by omega) (by omega)]
  have hm : 0 ≤ mat y m n ∧ mat y m n ≤ 40000 := by unfold mat; omega
  rw [decide_eq_false c2, if_neg (by omega), date_Months.j0, if_neg (by simp), e, Int.tdiv_eq_ediv_of_nonneg hm.1, Int.tmod_eq_emod_of_nonneg hm.1, w64 (mat y m n / 12) (by omega) (by omega), w64 (mat y m n % 12 + 1) (by omega) (by omega), days_f]
  simp only [Option.bind_some]
  by_cases c3 : dim (mat y m n / 12) (mat y m n % 12 + 1) = 0
  · rw [if_pos c3, if_pos c3]
  · rw [if_neg c3, if_neg c3]
theorem moved_yes (y m d n : Int) (h : 1 ≤ d ∧ d ≤ 28) (hn : -3600 ≤ n ∧ n ≤ 3600) (hm : 22800 ≤ mat y m n ∧ mat y m n ≤ 26399) : moved y m d n = (mat y m n / 12, mat y m n % 12 + 1, d, none) ∧ Valid (mat y m n / 12) (mat y m n % 12 + 1) d := by
  have hv : ¬ (mat y m n / 12 < 1900 ∨ 2199 < mat y m n / 12 ∨ mat y m n % 12 + 1 < 1 ∨ 12 < mat y m n % 12 + 1) := by omega
  have hb := dim_bounds _ _ hv
  constructor
  · unfold moved
    rw [if_neg (by omega), if_neg (by omega)]
    have : mn d (dim (mat y m n / 12) (mat y m n % 12 + 1)) = d := by unfold mn; split <;> omega
    rw [this]
  · exact ⟨hv, by omega, by omega⟩
theorem moved_no (y m d n : Int) (h : n < -3600 ∨ 3600 < n ∨ mat y m n < 22800 ∨ 26399 < mat y m n) : moved y m d n = (0, 0, 0, some 1) := by
  unfold moved
  by_cases c : n < -3600 ∨ 3600 < n
  · rw [if_pos c]
  · rw [if_neg c, if_pos (dim_out _ _ (by omega))]

theorem ref_months (y m d n : Int) (h : Valid y m d) (k : Nat) (hk : 9 ≤ k) : trivetref04_Months.f k y m d n = some ((moved y m d n).1, (moved y m d n).2.1, (moved y m d n).2.2.1, (moved y m d n).2.2.2.isNone) := by
  have hv := h.1
  have hd := h.2
  unfold trivetref04_Months.f
  by_cases c : n < -3600 ∨ 3600 < n
  · rw [if_pos c, moved_no y m d n (by omega)]
    rfl
  rw [if_neg c, if_pos (by omega), ref_days _ _ k (by omega)]
  show some (rfin (mat y m n / 12) (mat y m n % 12 + 1) d (dim (mat y m n / 12) (mat y m n % 12 + 1))) = _
  unfold moved rfin
  rw [if_neg c]
  split
  · rfl
  · unfold mn
    split
    · rfl
    · rfl
theorem last_f (y m d : Int) (h : Valid y m d) : date_Last.f y m d = some (y, m, dim y m, none) := by
  unfold date_Last.f
  rw [may_f, decide_eq_true h.2, days_f]
  rfl
theorem last_no (y m d : Int) (h : ¬ (1 ≤ d ∧ d ≤ dim y m)) : date_Last.f y m d = some (0, 0, 0, some 2) := by
  unfold date_Last.f
  rw [may_f, decide_eq_false h]
  rfl
theorem weekday_no (y m d : Int) (h : ¬ (1 ≤ d ∧ d ≤ dim y m)) : date_Weekday.f y m d = some (0, some 2) := by
  unfold date_Weekday.f
  rw [number_f, if_neg h]
  rfl

attribute [local go_sem high] errEqI errNeI errEqL errNeL errEqR errNeR eqA23
def trivetlaw04_DateMoves.f (a0_0 a0_1 a0_2 : Int) (a1 : Int) : Option Bool := some true
theorem moves_cell {W w1 : World} (hb : Below W.heap.size W w1) : (∀ b o, b < W.heap.size → w1.cell? ⟨b, o, none⟩ = W.cell? ⟨b, o, none⟩) ∧ (∀ b o, b < W.heap.size → w1.frozen? ⟨b, o, none⟩ = W.frozen? ⟨b, o, none⟩) :=
  ⟨fun b o h => hb.cell (p := ⟨b, o, none⟩) h, fun b o h => hb.frozen (p := ⟨b, o, none⟩) h⟩
set_option maxHeartbeats 1000000 in
set_option maxRecDepth 100000 in
theorem moves_no (y m d n : Int) (w : World) (h : ¬ (1 ≤ d ∧ d ≤ dim y m)) : Calls Try.prog 5 #[.agg #[.int .i64 y, .int .i64 m, .int .i64 d], .int .i64 n] w fun e w' => e = .returned (.bool true) ∧ Below w.heap.size w w' := by
  have U := Aside0.mk (fun W => trivetlaw04_up.calls 30 true W (up_f 30 (by omega)))
  have X := Aside0.mk (show ∀ W : World, Calls Try.prog 17 #[.agg #[.int .i64 y, .int .i64 m, .int .i64 d], .int .i64 n] W fun e w' => e = .returned (.tuple #[.agg #[.int .i64 0, .int .i64 0, .int .i64 0], .iface 35 (.int .i64 2)]) ∧ Below W.heap.size W w' from fun W => date_Months.calls 9 y m d n _ _ _ _ W (months_no y m d n h 9))
  have K := Aside0.mk (show ∀ W : World, Calls Try.prog 18 #[.agg #[.int .i64 y, .int .i64 m, .int .i64 d]] W fun e w' => e = .returned (.tuple #[.int .i64 0, .iface 35 (.int .i64 2)]) ∧ Below W.heap.size W w' from fun W => date_Weekday.calls y m d _ _ W (weekday_no y m d h))
  have L := Aside0.mk (show ∀ W : World, Calls Try.prog 19 #[.agg #[.int .i64 y, .int .i64 m, .int .i64 d]] W fun e w' => e = .returned (.tuple #[.agg #[.int .i64 0, .int .i64 0, .int .i64 0], .iface 35 (.int .i64 2)]) ∧ Below W.heap.size W w' from fun W => date_Last.calls y m d _ _ _ _ W (last_no y m d h))
  have M := Aside0.mk (show ∀ W : World, Calls Try.prog 14 #[.agg #[.int .i64 y, .int .i64 m, .int .i64 d]] W fun e w' => e = .returned (.bool false) ∧ Below W.heap.size W w' from fun W => trivetref04_May.calls 9 y m d _ W (by rw [ref_may y m d 9 (by omega), decide_eq_false h]))
  clear h
  go_enter Try.func5, Try.ntmps5
  go_wp2_with fail
  refine (U.out _).mono ?_
  rintro e w1 ⟨rfl, hb1⟩
  have B1 := Aside0.mk hb1
  obtain ⟨hc1, hf1⟩ := moves_cell hb1
  have z1 : w.heap.size < w1.heap.size := by have := B1.out.size; simp at this; omega
  clear hb1
  go_wp2_with fail
  refine (X.out _).mono ?_
  rintro e w2 ⟨rfl, hb2⟩
  have B2 := Aside0.mk hb2
  obtain ⟨hc2, hf2⟩ := moves_cell hb2
  have z2 : w.heap.size < w2.heap.size := by have := B2.out.size; omega
  have y2 : w.heap.size < w2.heap.size + 1 := by omega
  clear hb2
  go_wp2_with fail
  refine (K.out _).mono ?_
  rintro e w3 ⟨rfl, hb3⟩
  have B3 := Aside0.mk hb3
  obtain ⟨hc3, hf3⟩ := moves_cell hb3
  have z3 : w.heap.size < w3.heap.size := by have := B3.out.size; simp at this; omega
  have x3 : w2.heap.size < w3.heap.size := by have := B3.out.size; simp at this; omega
  clear hb3
  go_wp2_with fail
  refine (L.out _).mono ?_
  rintro e w4 ⟨rfl, hb4⟩
  have B4 := Aside0.mk hb4
  obtain ⟨hc4, hf4⟩ := moves_cell hb4
  have z4 : w.heap.size < w4.heap.size := by have := B4.out.size; omega
  have x4 : w2.heap.size < w4.heap.size := by have := B4.out.size; omega
  have y4 : w.heap.size < w4.heap.size + 1 := by omega
  have v4 : w2.heap.size < w4.heap.size + 1 := by omega
  clear hb4
  go_wp2_with fail
  refine (M.out _).mono ?_
  rintro e w5 ⟨rfl, hb5⟩
  have B5 := Aside0.mk hb5
  obtain ⟨hc5, hf5⟩ := moves_cell hb5
  have z5 : w.heap.size < w5.heap.size := by have := B5.out.size; simp at this; omega
  have x5 : w2.heap.size < w5.heap.size := by have := B5.out.size; simp at this; omega
  have v5 : w4.heap.size < w5.heap.size := by have := B5.out.size; simp at this; omega
  clear hb5
  go_wp2
  go_ret
  exact ⟨rfl, below_step (below_alloc (below_step (below_step (below_alloc (below_step (below_step (below_alloc (Below.refl _ _) _) B1.out) B2.out) _) B3.out) B4.out) _) B5.out⟩
set_option maxHeartbeats 1600000 in
set_option maxRecDepth 100000 in
theorem moves_yes (y m d n a b c N q dm : Int) (w : World) (hN0 : -30000 ≤ N) (hN1 : N ≤ 90000) (hq : (N + 4 + 700000) % 7 = q)
    (X : Aside0 (∀ W : World, Calls Try.prog 17 #[.agg #[.int .i64 y, .int .i64 m, .int .i64 d], .int .i64 n] W fun e w' => e = .returned (.tuple #[.agg #[.int .i64 a, .int .i64 b, .int .i64 c], .nilIface]) ∧ Below W.heap.size W w'))
    (K : Aside0 (∀ W : World, Calls Try.prog 18 #[.agg #[.int .i64 y, .int .i64 m, .int .i64 d]] W fun e w' => e = .returned (.tuple #[.int .i64 q, .nilIface]) ∧ Below W.heap.size W w'))
    (L : Aside0 (∀ W : World, Calls Try.prog 19 #[.agg #[.int .i64 y, .int .i64 m, .int .i64 d]] W fun e w' => e = .returned (.tuple #[.agg #[.int .i64 y, .int .i64 m, .int .i64 dm], .nilIface]) ∧ Below W.heap.size W w'))
    (M : Aside0 (∀ W : World, Calls Try.prog 14 #[.agg #[.int .i64 y, .int .i64 m, .int .i64 d]] W fun e w' => e = .returned (.bool true) ∧ Below W.heap.size W w'))
    (C : Aside0 (∀ W : World, Calls Try.prog 20 #[.agg #[.int .i64 y, .int .i64 m, .int .i64 d]] W fun e w' => e = .returned (.int .i64 N) ∧ Below W.heap.size W w'))
    (Q : Aside0 (∀ W : World, Calls Try.prog 16 #[.int .i64 y, .int .i64 m] W fun e w' => e = .returned (.int .i64 dm) ∧ Drawn0 W w'))
    (R : Aside0 (∀ W : World, Calls Try.prog 21 #[.agg #[.int .i64 y, .int .i64 m, .int .i64 d], .int .i64 n] W fun e w' => e = .returned (.tuple #[.agg #[.int .i64 a, .int .i64 b, .int .i64 c], .bool true]) ∧ Below W.heap.size W w')) :
    Calls Try.prog 5 #[.agg #[.int .i64 y, .int .i64 m, .int .i64 d], .int .i64 n] w fun e w' => e = .returned (.bool true) ∧ Below w.heap.size w w' := by
  have U := Aside0.mk (fun W => trivetlaw04_up.calls 30 true W (up_f 30 (by omega)))
  go_enter Try.func5, Try.ntmps5
  go_wp2_with fail
  refine (U.out _).mono ?_
  rintro e w1 ⟨rfl, hb1⟩
  have B1 := Aside0.mk hb1
  obtain ⟨hc1, hf1⟩ := moves_cell hb1
  have z1 : w.heap.size < w1.heap.size := by have := B1.out.size; simp at this; omega
  clear hb1
  go_wp2_with fail
  refine (X.out _).mono ?_
  rintro e w2 ⟨rfl, hb2⟩
  have B2 := Aside0.mk hb2
  obtain ⟨hc2, hf2⟩ := moves_cell hb2
  have z2 : w.heap.size < w2.heap.size := by have := B2.out.size; omega
  have y2 : w.heap.size < w2.heap.size + 1 := by omega
  clear hb2
  go_wp2_with fail
  refine (K.out _).mono ?_
  rintro e w3 ⟨rfl, hb3⟩
  have B3 := Aside0.mk hb3
  obtain ⟨hc3, hf3⟩ := moves_cell hb3
  have z3 : w.heap.size < w3.heap.size := by have := B3.out.size; simp at this; omega
  have x3 : w2.heap.size < w3.heap.size := by have := B3.out.size; simp at this; omega
  clear hb3
  go_wp2_with fail
  refine (L.out _).mono ?_
  rintro e w4 ⟨rfl, hb4⟩
  have B4 := Aside0.mk hb4
  obtain ⟨hc4, hf4⟩ := moves_cell hb4
  have z4 : w.heap.size < w4.heap.size := by have := B4.out.size; omega
  have x4 : w2.heap.size < w4.heap.size := by have := B4.out.size; omega
  have y4 : w.heap.size < w4.heap.size + 1 := by omega
  have v4 : w2.heap.size < w4.heap.size + 1 := by omega
  clear hb4
  go_wp2_with fail
  refine (M.out _).mono ?_
  rintro e w5 ⟨rfl, hb5⟩
  have B5 := Aside0.mk hb5
  obtain ⟨hc5, hf5⟩ := moves_cell hb5
  have z5 : w.heap.size < w5.heap.size := by have := B5.out.size; simp at this; omega
  have x5 : w2.heap.size < w5.heap.size := by have := B5.out.size; simp at this; omega
  have v5 : w4.heap.size < w5.heap.size := by have := B5.out.size; simp at this; omega
  clear hb5
  go_wp2_with fail
  refine (C.out _).mono ?_
  rintro e w6 ⟨rfl, hb6⟩
  have B6 := Aside0.mk hb6
  clear hb6
  have BA : Below (w.alloc (.cells #[.int .i64 y, .int .i64 m, .int .i64 d] 23)).heap.size (w.alloc (.cells #[.int .i64 y, .int .i64 m, .int .i64 d] 23)) w6 := below_step (below_step (below_alloc (below_step (below_step (below_alloc (below_step B1.out B2.out) _) B3.out) B4.out) _) B5.out) B6.out
  have BX : Below (w2.alloc (.cells #[.int .i64 a, .int .i64 b, .int .i64 c] 23)).heap.size (w2.alloc (.cells #[.int .i64 a, .int .i64 b, .int .i64 c] 23)) w6 := below_step (below_step (below_alloc (below_step B3.out B4.out) _) B5.out) B6.out
  have BL : Below (w4.alloc (.cells #[.int .i64 y, .int .i64 m, .int .i64 dm] 23)).heap.size (w4.alloc (.cells #[.int .i64 y, .int .i64 m, .int .i64 dm] 23)) w6 := below_step B5.out B6.out
  have k0 : w6.cell? ⟨w.heap.size, 0, none⟩ = some (.int .i64 y) := (BA.cell (p := ⟨w.heap.size, 0, none⟩) (by simp)).trans (by go_simp)
  have k1 : w6.cell? ⟨w.heap.size, 1, none⟩ = some (.int .i64 m) := (BA.cell (p := ⟨w.heap.size, 1, none⟩) (by simp)).trans (by go_simp)
  have k2 : w6.cell? ⟨w.heap.size, 2, none⟩ = some (.int .i64 d) := (BA.cell (p := ⟨w.heap.size, 2, none⟩) (by simp)).trans (by go_simp)
  have l0 : w6.cell? ⟨w4.heap.size, 0, none⟩ = some (.int .i64 y) := (BL.cell (p := ⟨w4.heap.size, 0, none⟩) (by simp)).trans (by go_simp)
  have l1 : w6.cell? ⟨w4.heap.size, 1, none⟩ = some (.int .i64 m) := (BL.cell (p := ⟨w4.heap.size, 1, none⟩) (by simp)).trans (by go_simp)
  have l2 : w6.cell? ⟨w4.heap.size, 2, none⟩ = some (.int .i64 dm) := (BL.cell (p := ⟨w4.heap.size, 2, none⟩) (by simp)).trans (by go_simp)
  clear hc1 hc2 hc3 hc4 hc5 hf1 hf2 hf3 hf4 hf5 z1 z2 y2 z3 x3 z4 x4 y4 v4 z5 x5 v5 BL
  have BA := Aside0.mk BA
  have BX := Aside0.mk BX
  go_wp2
  go_quiet ((go_at_call 16; exact Calls.quiet_of ((Q.out _).mono fun _ _ h => ⟨h.1, h.2.out⟩)))
  go_wp2_with fail
  refine (R.out _).mono ?_
  rintro e w7 ⟨rfl, hb7⟩
  have B7 := Aside0.mk hb7
  have z7 : w2.heap.size < w7.heap.size := by have h1 := BX.out.size; have h2 := B7.out.size; simp at h1 h2; omega
  have C7 := fun p h => B7.out.cell (p := p) h
  clear hb7
  have hz : w2.heap.size < w6.heap.size := by have h1 := BX.out.size; simp at h1; omega
  have x0 : w7.cell? ⟨w2.heap.size, 0, none⟩ = some (.int .i64 a) := (B7.out.cell (p := ⟨w2.heap.size, 0, none⟩) (by simpa using hz)).trans (((by go_simp : World.cell? (World.drewN w6 _) _ = w6.cell? _)).trans ((BX.out.cell (p := ⟨w2.heap.size, 0, none⟩) (by simp)).trans (by go_simp)))
  have x1 : w7.cell? ⟨w2.heap.size, 1, none⟩ = some (.int .i64 b) := (B7.out.cell (p := ⟨w2.heap.size, 1, none⟩) (by simpa using hz)).trans (((by go_simp : World.cell? (World.drewN w6 _) _ = w6.cell? _)).trans ((BX.out.cell (p := ⟨w2.heap.size, 1, none⟩) (by simp)).trans (by go_simp)))
  have x2 : w7.cell? ⟨w2.heap.size, 2, none⟩ = some (.int .i64 c) := (B7.out.cell (p := ⟨w2.heap.size, 2, none⟩) (by simpa using hz)).trans (((by go_simp : World.cell? (World.drewN w6 _) _ = w6.cell? _)).trans ((BX.out.cell (p := ⟨w2.heap.size, 2, none⟩) (by simp)).trans (by go_simp)))
  clear C7
  go_wp2
  go_ret
  exact ⟨rfl, below_alloc (below_step (pw_below_drewN (below_step (below_step (below_alloc (below_step (below_step (below_alloc (below_step (below_step (below_alloc (Below.refl _ _) _) B1.out) B2.out) _) B3.out) B4.out) _) B5.out) B6.out) _) B7.out) _⟩
set_option maxHeartbeats 1600000 in
set_option maxRecDepth 100000 in
theorem moves_bad (y m d n N q dm : Int) (w : World) (hN0 : -30000 ≤ N) (hN1 : N ≤ 90000) (hq : (N + 4 + 700000) % 7 = q)
    (X : Aside0 (∀ W : World, Calls Try.prog 17 #[.agg #[.int .i64 y, .int .i64 m, .int .i64 d], .int .i64 n] W fun e w' => e = .returned (.tuple #[.agg #[.int .i64 0, .int .i64 0, .int .i64 0], .iface 35 (.int .i64 1)]) ∧ Below W.heap.size W w'))
    (K : Aside0 (∀ W : World, Calls Try.prog 18 #[.agg #[.int .i64 y, .int .i64 m, .int .i64 d]] W fun e w' => e = .returned (.tuple #[.int .i64 q, .nilIface]) ∧ Below W.heap.size W w'))
    (L : Aside0 (∀ W : World, Calls Try.prog 19 #[.agg #[.int .i64 y, .int .i64 m, .int .i64 d]] W fun e w' => e = .returned (.tuple #[.agg #[.int .i64 y, .int .i64 m, .int .i64 dm], .nilIface]) ∧ Below W.heap.size W w'))
    (M : Aside0 (∀ W : World, Calls Try.prog 14 #[.agg #[.int .i64 y, .int .i64 m, .int .i64 d]] W fun e w' => e = .returned (.bool true) ∧ Below W.heap.size W w'))
    (C : Aside0 (∀ W : World, Calls Try.prog 20 #[.agg #[.int .i64 y, .int .i64 m, .int .i64 d]] W fun e w' => e = .returned (.int .i64 N) ∧ Below W.heap.size W w'))
    (Q : Aside0 (∀ W : World, Calls Try.prog 16 #[.int .i64 y, .int .i64 m] W fun e w' => e = .returned (.int .i64 dm) ∧ Drawn0 W w'))
    (R : Aside0 (∀ W : World, Calls Try.prog 21 #[.agg #[.int .i64 y, .int .i64 m, .int .i64 d], .int .i64 n] W fun e w' => e = .returned (.tuple #[.agg #[.int .i64 0, .int .i64 0, .int .i64 0], .bool false]) ∧ Below W.heap.size W w')) :
    Calls Try.prog 5 #[.agg #[.int .i64 y, .int .i64 m, .int .i64 d], .int .i64 n] w fun e w' => e = .returned (.bool true) ∧ Below w.heap.size w w' := by
  have U := Aside0.mk (fun W => trivetlaw04_up.calls 30 true W (up_f 30 (by omega)))
  go_enter Try.func5, Try.ntmps5
  go_wp2_with fail
  refine (U.out _).mono ?_
  rintro e w1 ⟨rfl, hb1⟩
  have B1 := Aside0.mk hb1
  obtain ⟨hc1, hf1⟩ := moves_cell hb1
  have z1 : w.heap.size < w1.heap.size := by have := B1.out.size; simp at this; omega
  clear hb1
  go_wp2_with fail
  refine (X.out _).mono ?_
  rintro e w2 ⟨rfl, hb2⟩
  have B2 := Aside0.mk hb2
  obtain ⟨hc2, hf2⟩ := moves_cell hb2
  have z2 : w.heap.size < w2.heap.size := by have := B2.out.size; omega
  have y2 : w.heap.size < w2.heap.size + 1 := by omega
  clear hb2
  go_wp2_with fail
  refine (K.out _).mono ?_
  rintro e w3 ⟨rfl, hb3⟩
  have B3 := Aside0.mk hb3
  obtain ⟨hc3, hf3⟩ := moves_cell hb3
  have z3 : w.heap.size < w3.heap.size := by have := B3.out.size; simp at this; omega
  have x3 : w2.heap.size < w3.heap.size := by have := B3.out.size; simp at this; omega
  clear hb3
  go_wp2_with fail
  refine (L.out _).mono ?_
  rintro e w4 ⟨rfl, hb4⟩
  have B4 := Aside0.mk hb4
  obtain ⟨hc4, hf4⟩ := moves_cell hb4
  have z4 : w.heap.size < w4.heap.size := by have := B4.out.size; omega
  have x4 : w2.heap.size < w4.heap.size := by have := B4.out.size; omega
  have y4 : w.heap.size < w4.heap.size + 1 := by omega
  have v4 : w2.heap.size < w4.heap.size + 1 := by omega
  clear hb4
  go_wp2_with fail
  refine (M.out _).mono ?_
  rintro e w5 ⟨rfl, hb5⟩
  have B5 := Aside0.mk hb5
  obtain ⟨hc5, hf5⟩ := moves_cell hb5
  have z5 : w.heap.size < w5.heap.size := by have := B5.out.size; simp at this; omega
  have x5 : w2.heap.size < w5.heap.size := by have := B5.out.size; simp at this; omega
  have v5 : w4.heap.size < w5.heap.size := by have := B5.out.size; simp at this; omega
  clear hb5
  go_wp2_with fail
  refine (C.out _).mono ?_
  rintro e w6 ⟨rfl, hb6⟩
  have B6 := Aside0.mk hb6
  clear hb6
  have BA : Below (w.alloc (.cells #[.int .i64 y, .int .i64 m, .int .i64 d] 23)).heap.size (w.alloc (.cells #[.int .i64 y, .int .i64 m, .int .i64 d] 23)) w6 := below_step (below_step (below_alloc (below_step (below_step (below_alloc (below_step B1.out B2.out) _) B3.out) B4.out) _) B5.out) B6.out
  have BX : Below (w2.alloc (.cells #[.int .i64 0, .int .i64 0, .int .i64 0] 23)).heap.size (w2.alloc (.cells #[.int .i64 0, .int .i64 0, .int .i64 0] 23)) w6 := below_step (below_step (below_alloc (below_step B3.out B4.out) _) B5.out) B6.out
  have BL : Below (w4.alloc (.cells #[.int .i64 y, .int .i64 m, .int .i64 dm] 23)).heap.size (w4.alloc (.cells #[.int .i64 y, .int .i64 m, .int .i64 dm] 23)) w6 := below_step B5.out B6.out
  have k0 : w6.cell? ⟨w.heap.size, 0, none⟩ = some (.int .i64 y) := (BA.cell (p := ⟨w.heap.size, 0, none⟩) (by simp)).trans (by go_simp)
  have k1 : w6.cell? ⟨w.heap.size, 1, none⟩ = some (.int .i64 m) := (BA.cell (p := ⟨w.heap.size, 1, none⟩) (by simp)).trans (by go_simp)
  have k2 : w6.cell? ⟨w.heap.size, 2, none⟩ = some (.int .i64 d) := (BA.cell (p := ⟨w.heap.size, 2, none⟩) (by simp)).trans (by go_simp)
  have l0 : w6.cell? ⟨w4.heap.size, 0, none⟩ = some (.int .i64 y) := (BL.cell (p := ⟨w4.heap.size, 0, none⟩) (by simp)).trans (by go_simp)
  have l1 : w6.cell? ⟨w4.heap.size, 1, none⟩ = some (.int .i64 m) := (BL.cell (p := ⟨w4.heap.size, 1, none⟩) (by simp)).trans (by go_simp)
  have l2 : w6.cell? ⟨w4.heap.size, 2, none⟩ = some (.int .i64 dm) := (BL.cell (p := ⟨w4.heap.size, 2, none⟩) (by simp)).trans (by go_simp)
  clear hc1 hc2 hc3 hc4 hc5 hf1 hf2 hf3 hf4 hf5 z1 z2 y2 z3 x3 z4 x4 y4 v4 z5 x5 v5 BL
  have BA := Aside0.mk BA
  have BX := Aside0.mk BX
  go_wp2
  go_quiet ((go_at_call 16; exact Calls.quiet_of ((Q.out _).mono fun _ _ h => ⟨h.1, h.2.out⟩)))
  go_wp2_with fail
  refine (R.out _).mono ?_
  rintro e w7 ⟨rfl, hb7⟩
  have B7 := Aside0.mk hb7
  have z7 : w2.heap.size < w7.heap.size := by have h1 := BX.out.size; have h2 := B7.out.size; simp at h1 h2; omega
  have C7 := fun p h => B7.out.cell (p := p) h
  clear hb7
  have hz : w2.heap.size < w6.heap.size := by have h1 := BX.out.size; simp at h1; omega
  have x0 : w7.cell? ⟨w2.heap.size, 0, none⟩ = some (.int .i64 0) := (B7.out.cell (p := ⟨w2.heap.size, 0, none⟩) (by simpa using hz)).trans (((by go_simp : World.cell? (World.drewN w6 _) _ = w6.cell? _)).trans ((BX.out.cell (p := ⟨w2.heap.size, 0, none⟩) (by simp)).trans (by go_simp)))
  have x1 : w7.cell? ⟨w2.heap.size, 1, none⟩ = some (.int .i64 0) := (B7.out.cell (p := ⟨w2.heap.size, 1, none⟩) (by simpa using hz)).trans (((by go_simp : World.cell? (World.drewN w6 _) _ = w6.cell? _)).trans ((BX.out.cell (p := ⟨w2.heap.size, 1, none⟩) (by simp)).trans (by go_simp)))
  have x2 : w7.cell? ⟨w2.heap.size, 2, none⟩ = some (.int .i64 0) := (B7.out.cell (p := ⟨w2.heap.size, 2, none⟩) (by simpa using hz)).trans (((by go_simp : World.cell? (World.drewN w6 _) _ = w6.cell? _)).trans ((BX.out.cell (p := ⟨w2.heap.size, 2, none⟩) (by simp)).trans (by go_simp)))
  clear C7
  go_wp2
  go_ret
  exact ⟨rfl, below_alloc (below_step (pw_below_drewN (below_step (below_step (below_alloc (below_step (below_step (below_alloc (below_step (below_step (below_alloc (Below.refl _ _) _) B1.out) B2.out) _) B3.out) B4.out) _) B5.out) B6.out) _) B7.out) _⟩
theorem moved_cases (y m d n : Int) : moved y m d n = (0, 0, 0, some 1) ∨ ∃ a b c, moved y m d n = (a, b, c, none) := by
  unfold moved
  split
  · exact .inl rfl
  · split
    · exact .inl rfl
    · exact .inr ⟨_, _, _, rfl⟩
theorem trivetlaw04_DateMoves.calls (a0_0 : Int) (a0_1 : Int) (a0_2 : Int) (a1 : Int) (r : Bool) (w : World) (h : trivetlaw04_DateMoves.f a0_0 a0_1 a0_2 a1 = some r) :
    Calls Try.prog 5 #[.agg #[.int .i64 a0_0, .int .i64 a0_1, .int .i64 a0_2], .int .i64 a1] w fun e w' => e = .returned (.bool r) ∧ Below w.heap.size w w' := by
  obtain rfl : true = r := Option.some.inj h
  by_cases hv : 1 ≤ a0_2 ∧ a0_2 ≤ dim a0_0 a0_1
  · have v := valid_of a0_0 a0_1 a0_2 hv
    have hd := dim_bounds _ _ v.1
    have hb := num_bounds a0_0 a0_1 a0_2 v.1 (by omega) (by omega)
    have hq : (num a0_0 a0_1 a0_2 + 4 + 700000) % 7 = wday (num a0_0 a0_1 a0_2) := by unfold wday; omega
    have K := Aside0.mk (show ∀ W : World, Calls Try.prog 18 #[.agg #[.int .i64 a0_0, .int .i64 a0_1, .int .i64 a0_2]] W fun e w' => e = .returned (.tuple #[.int .i64 (wday (num a0_0 a0_1 a0_2)), .nilIface]) ∧ Below W.heap.size W w' from fun W => date_Weekday.calls _ _ _ _ _ W (weekday_f _ _ _ v))
    have L := Aside0.mk (show ∀ W : World, Calls Try.prog 19 #[.agg #[.int .i64 a0_0, .int .i64 a0_1, .int .i64 a0_2]] W fun e w' => e = .returned (.tuple #[.agg #[.int .i64 a0_0, .int .i64 a0_1, .int .i64 (dim a0_0 a0_1)], .nilIface]) ∧ Below W.heap.size W w' from fun W => date_Last.calls _ _ _ _ _ _ _ W (last_f _ _ _ v))
    have M := Aside0.mk (show ∀ W : World, Calls Try.prog 14 #[.agg #[.int .i64 a0_0, .int .i64 a0_1, .int .i64 a0_2]] W fun e w' => e = .returned (.bool true) ∧ Below W.heap.size W w' from fun W => trivetref04_May.calls 9 _ _ _ _ W (by rw [ref_may _ _ _ 9 (by omega), decide_eq_true hv]))
    have C := Aside0.mk (show ∀ W : World, Calls Try.prog 20 #[.agg #[.int .i64 a0_0, .int .i64 a0_1, .int .i64 a0_2]] W fun e w' => e = .returned (.int .i64 (num a0_0 a0_1 a0_2)) ∧ Below W.heap.size W w' from fun W => trivetref04_Number.calls 500 _ _ _ _ W (ref_number _ _ _ v 500 (by omega)))
    have Q := Aside0.mk (show ∀ W : World, Calls Try.prog 16 #[.int .i64 a0_0, .int .i64 a0_1] W fun e w' => e = .returned (.int .i64 (dim a0_0 a0_1)) ∧ Drawn0 W w' from fun W => trivetref04_Days.calls 9 _ _ _ W (ref_days _ _ 9 (by omega)))
    rcases moved_cases a0_0 a0_1 a0_2 a1 with e | ⟨a, b, c, e⟩
    · have m1 := months_f a0_0 a0_1 a0_2 a1 hv 9 (by omega)
      have m2 := ref_months a0_0 a0_1 a0_2 a1 v 5000 (by omega)
      rw [e] at m1 m2
      have X := Aside0.mk (show ∀ W : World, Calls Try.prog 17 #[.agg #[.int .i64 a0_0, .int .i64 a0_1, .int .i64 a0_2], .int .i64 a1] W fun e w' => e = .returned (.tuple #[.agg #[.int .i64 0, .int .i64 0, .int .i64 0], .iface 35 (.int .i64 1)]) ∧ Below W.heap.size W w' from fun W => date_Months.calls 9 _ _ _ _ _ _ _ _ W m1)
      have R := Aside0.mk (show ∀ W : World, Calls Try.prog 21 #[.agg #[.int .i64 a0_0, .int .i64 a0_1, .int .i64 a0_2], .int .i64 a1] W fun e w' => e = .returned (.tuple #[.agg #[.int .i64 0, .int .i64 0, .int .i64 0], .bool false]) ∧ Below W.heap.size W w' from fun W => trivetref04_Months.calls 5000 _ _ _ _ _ _ _ _ W m2)
      exact moves_bad _ _ _ _ _ _ _ w (by omega) (by omega) hq X K L M C Q R
    · have m1 := months_f a0_0 a0_1 a0_2 a1 hv 9 (by omega)
      have m2 := ref_months a0_0 a0_1 a0_2 a1 v 5000 (by omega)
      rw [e] at m1 m2
      have X := Aside0.mk (show ∀ W : World, Calls Try.prog 17 #[.agg #[.int .i64 a0_0, .int .i64 a0_1, .int .i64 a0_2], .int .i64 a1] W fun e w' => e = .returned (.tuple #[.agg #[.int .i64 a, .int .i64 b, .int .i64 c], .nilIface]) ∧ Below W.heap.size W w' from fun W => date_Months.calls 9 _ _ _ _ _ _ _ _ W m1)
      have R := Aside0.mk (show ∀ W : World, Calls Try.prog 21 #[.agg #[.int .i64 a0_0, .int .i64 a0_1, .int .i64 a0_2], .int .i64 a1] W fun e w' => e = .returned (.tuple #[.agg #[.int .i64 a, .int .i64 b, .int .i64 c], .bool true]) ∧ Below W.heap.size W w' from fun W => trivetref04_Months.calls 5000 _ _ _ _ _ _ _ _ W m2)
      exact moves_yes _ _ _ _ a b c _ _ _ w (by omega) (by omega) hq X K L M C Q R
  · exact moves_no _ _ _ _ w hv

def good23 (x : S23) : Prop := ((Lit.int .i64 x.f0).wf = true) ∧ ((Lit.int .i64 x.f1).wf = true) ∧ ((Lit.int .i64 x.f2).wf = true)
/-- THE ONE PURE STATEMENT of trivetlaw04_DateMoves. -/
def trivetlaw04_DateMoves.Pure : Prop := ∀ (x0 : S23) (x1 : Int), (good23 x0) → ((Lit.int .i64 x1).wf = true) → trivetlaw04_DateMoves.f x0.f0 x0.f1 x0.f2 x1 = some true

end Go.Proofs.Ytbechikaaiinlaa.PDateMoves
