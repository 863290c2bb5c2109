import Derived.Test.YtcdhnglefldalaaDoorPChartOrderx0
namespace Go.Proofs.YtcdhnglefldalaaDoor.PChartOrder
open Go.RowKit Go.Proofs.YtcdhnglefldalaaDoorW.PrintWords Go.Proofs.YtcdhnglefldalaaDoorW.PrintLast Go.Proofs.YtcdhnglefldalaaDoorW.PrintMore
set_option linter.unusedVariables false
set_option linter.unusedSimpArgs false

theorem cerEqI (a b : Int) (w : World) : (binOp .eql 26 (.iface 31 (.int .i64 a)) (.iface 31 (.int .i64 b))).run Tryd.prog w = .ok (.bool (a == b)) w := by
  obtain ⟨ms, hi⟩ : ∃ ms, Tryd.prog.underlying 26 = some (.interface ms) := ⟨_, Tryd.underlying26⟩
  obtain ⟨i, hi2, hc⟩ : ∃ i, Tryd.prog.info? 31 = some i ∧ i.comparable = true := ⟨_, rfl, by kernel_rfl⟩
  have hn : Tryd.prog.underlying 31 = some (.int .i64) := Tryd.underlying31
  have h : ∀ d, (Op.equalIn (d + 2) 26 (.iface 31 (.int .i64 a)) (.iface 31 (.int .i64 b))).run Tryd.prog w = .ok (a == b) w := fun d => by simp [Op.equalIn, run_underlying hi, run_underlying hn, typeInfo, hi2, hc]
  simp only [binOp]
  simp [Op.equal, Op.maxDepth, h 9998, bne]
theorem cerEqL (b : Int) (w : World) : (binOp .eql 26 (.nilIface) (.iface 31 (.int .i64 b))).run Tryd.prog w = .ok (.bool false) w := by
  obtain ⟨ms, hi⟩ : ∃ ms, Tryd.prog.underlying 26 = some (.interface ms) := ⟨_, Tryd.underlying26⟩
  have h : ∀ d, (Op.equalIn (d + 2) 26 (.nilIface) (.iface 31 (.int .i64 b))).run Tryd.prog w = .ok false w := fun d => by simp [Op.equalIn, run_underlying hi]
  simp only [binOp]
  simp [Op.equal, Op.maxDepth, h 9998]
theorem cerEqR (b : Int) (w : World) : (binOp .eql 26 (.iface 31 (.int .i64 b)) (.nilIface)).run Tryd.prog w = .ok (.bool false) w := by
  obtain ⟨ms, hi⟩ : ∃ ms, Tryd.prog.underlying 26 = some (.interface ms) := ⟨_, Tryd.underlying26⟩
  have h : ∀ d, (Op.equalIn (d + 2) 26 (.iface 31 (.int .i64 b)) (.nilIface)).run Tryd.prog w = .ok false w := fun d => by simp [Op.equalIn, run_underlying hi]
  simp only [binOp]
  simp [Op.equal, Op.maxDepth, h 9998]
theorem cerNeI (a b : Int) (w : World) : (binOp .neq 26 (.iface 31 (.int .i64 a)) (.iface 31 (.int .i64 b))).run Tryd.prog w = .ok (.bool (a != b)) w := by
  obtain ⟨ms, hi⟩ : ∃ ms, Tryd.prog.underlying 26 = some (.interface ms) := ⟨_, Tryd.underlying26⟩
  obtain ⟨i, hi2, hc⟩ : ∃ i, Tryd.prog.info? 31 = some i ∧ i.comparable = true := ⟨_, rfl, by kernel_rfl⟩
  have hn : Tryd.prog.underlying 31 = some (.int .i64) := Tryd.underlying31
  have h : ∀ d, (Op.equalIn (d + 2) 26 (.iface 31 (.int .i64 a)) (.iface 31 (.int .i64 b))).run Tryd.prog w = .ok (a == b) w := fun d => by simp [Op.equalIn, run_underlying hi, run_underlying hn, typeInfo, hi2, hc]
  simp only [binOp]
  simp [Op.equal, Op.maxDepth, h 9998, bne]
theorem cerNeL (b : Int) (w : World) : (binOp .neq 26 (.nilIface) (.iface 31 (.int .i64 b))).run Tryd.prog w = .ok (.bool true) w := by
  obtain ⟨ms, hi⟩ : ∃ ms, Tryd.prog.underlying 26 = some (.interface ms) := ⟨_, Tryd.underlying26⟩
  have h : ∀ d, (Op.equalIn (d + 2) 26 (.nilIface) (.iface 31 (.int .i64 b))).run Tryd.prog w = .ok false w := fun d => by simp [Op.equalIn, run_underlying hi]
  simp only [binOp]
  simp [Op.equal, Op.maxDepth, h 9998]
theorem cerNeR (b : Int) (w : World) : (binOp .neq 26 (.iface 31 (.int .i64 b)) (.nilIface)).run Tryd.prog w = .ok (.bool true) w := by
  obtain ⟨ms, hi⟩ : ∃ ms, Tryd.prog.underlying 26 = some (.interface ms) := ⟨_, Tryd.underlying26⟩
  have h : ∀ d, (Op.equalIn (d + 2) 26 (.iface 31 (.int .i64 b)) (.nilIface)).run Tryd.prog w = .ok false w := fun d => by simp [Op.equalIn, run_underlying hi]
  simp only [binOp]
  simp [Op.equal, Op.maxDepth, h 9998]
def cerr : Option Int → Value
  | none => .nilIface
  | some c => .iface 31 (.int .i64 c)
def cn_list : List ByteArray := [(⟨#[]⟩ : ByteArray), (⟨#[99, 97, 115, 104]⟩ : ByteArray), (⟨#[116, 114, 117, 115, 116]⟩ : ByteArray), (⟨#[111, 119, 110]⟩ : ByteArray), (⟨#[105, 110, 118, 101, 115, 116, 111, 114]⟩ : ByteArray), (⟨#[101, 115, 99, 114, 111, 119]⟩ : ByteArray), (⟨#[115, 117, 115, 112, 101, 110, 115, 101]⟩ : ByteArray), (⟨#[97, 100, 118, 97, 110, 99, 101]⟩ : ByteArray), (⟨#[102, 101, 101]⟩ : ByteArray), (⟨#[103, 117, 97, 114, 97, 110, 116, 121]⟩ : ByteArray), (⟨#[108, 97, 116, 101]⟩ : ByteArray), (⟨#[112, 114, 105, 110, 99, 105, 112, 97, 108]⟩ : ByteArray), (⟨#[108, 111, 97, 110]⟩ : ByteArray)]
def cn_nm (k : Int) : ByteArray := cn_list.getD k.toNat ⟨#[]⟩
def cn_cells : Array Value := #[.string ⟨#[]⟩, .string ⟨#[99, 97, 115, 104]⟩, .string ⟨#[116, 114, 117, 115, 116]⟩, .string ⟨#[111, 119, 110]⟩, .string ⟨#[105, 110, 118, 101, 115, 116, 111, 114]⟩, .string ⟨#[101, 115, 99, 114, 111, 119]⟩, .string ⟨#[115, 117, 115, 112, 101, 110, 115, 101]⟩, .string ⟨#[97, 100, 118, 97, 110, 99, 101]⟩, .string ⟨#[102, 101, 101]⟩, .string ⟨#[103, 117, 97, 114, 97, 110, 116, 121]⟩, .string ⟨#[108, 97, 116, 101]⟩, .string ⟨#[112, 114, 105, 110, 99, 105, 112, 97, 108]⟩, .string ⟨#[108, 111, 97, 110]⟩]
theorem cn_names (w : World) : Calls Tryd.prog 18 #[] w fun e w' => e = .returned (.slice (some ⟨w.heap.size, 0, none⟩) 13 13) ∧ w' = w.alloc (.cells #[.string ⟨#[]⟩, .string ⟨#[99, 97, 115, 104]⟩, .string ⟨#[116, 114, 117, 115, 116]⟩, .string ⟨#[111, 119, 110]⟩, .string ⟨#[105, 110, 118, 101, 115, 116, 111, 114]⟩, .string ⟨#[101, 115, 99, 114, 111, 119]⟩, .string ⟨#[115, 117, 115, 112, 101, 110, 115, 101]⟩, .string ⟨#[97, 100, 118, 97, 110, 99, 101]⟩, .string ⟨#[102, 101, 101]⟩, .string ⟨#[103, 117, 97, 114, 97, 110, 116, 121]⟩, .string ⟨#[108, 97, 116, 101]⟩, .string ⟨#[112, 114, 105, 110, 99, 105, 112, 97, 108]⟩, .string ⟨#[108, 111, 97, 110]⟩] 9) := by
  go_enter Tryd.func18, Tryd.ntmps18
  go_wp2
  go_ret
  exact ⟨rfl, rfl⟩
def cn_may (k o : Int) : Bool := decide (1 ≤ k) && decide (k ≤ 12) && (if k ≤ 3 then decide (o = 0) else decide (1 ≤ o) && decide (o ≤ 65536))
theorem chart_may (k o : Int) (w : World) : Calls Tryd.prog 13 #[.agg #[.int .i64 k, .int .i64 o]] w fun e w' => e = .returned (.bool (cn_may k o)) ∧ Below w.heap.size w w' := by
  unfold cn_may
  by_cases c1 : k < 1
  · have e1 : decide (k < 1) = true := decide_eq_true c1
    have e2 : decide (1 ≤ k) = false := decide_eq_false (by omega)
    rw [e2]
    go_enter Tryd.func13, Tryd.ntmps13
    go_wp2
    go_ret
    exact ⟨rfl, below_alloc (Below.refl _ _) _⟩
  have e1 : decide (k < 1) = false := decide_eq_false c1
  have e2 : decide (1 ≤ k) = true := decide_eq_true (by omega)
  rw [e2]
  by_cases c2 : 12 < k
  · have e3 : decide (12 < k) = true := decide_eq_true c2
    have e4 : decide (k ≤ 12) = false := decide_eq_false (by omega)
    rw [e4]
    go_enter Tryd.func13, Tryd.ntmps13
    go_wp2
    go_ret
    exact ⟨rfl, below_alloc (Below.refl _ _) _⟩
  have e3 : decide (12 < k) = false := decide_eq_false c2
  have e4 : decide (k ≤ 12) = true := decide_eq_true (by omega)
  rw [e4]
  by_cases c3 : k ≤ 3
  · have e5 : decide (k ≤ 3) = true := decide_eq_true c3
    rw [if_pos c3]
    obtain ⟨z, hz⟩ : ∃ z, (o == 0) = z := ⟨_, rfl⟩
    have e6 : decide (o = 0) = z := by rw [← hz]; rfl
    rw [e6]
    go_enter Tryd.func13, Tryd.ntmps13
    go_wp2
    go_ret
    exact ⟨by simp, below_alloc (Below.refl _ _) _⟩
  · have e5 : decide (k ≤ 3) = false := decide_eq_false c3
    rw [if_neg c3]
    by_cases c4 : 1 ≤ o
    · have e6 : decide (1 ≤ o) = true := decide_eq_true c4
      rw [e6]
      go_enter Tryd.func13, Tryd.ntmps13
      go_wp2
      go_ret
      exact ⟨by simp, below_alloc (Below.refl _ _) _⟩
    · have e6 : decide (1 ≤ o) = false := decide_eq_false c4
      rw [e6]
      go_enter Tryd.func13, Tryd.ntmps13
      go_wp2
      go_ret
      exact ⟨by simp, below_alloc (Below.refl _ _) _⟩
theorem cn_bad (k o : Int) (w : World) (h : cn_may k o = false) : Calls Tryd.prog 10 #[.agg #[.int .i64 k, .int .i64 o]] w fun e w' => e = .returned (.tuple #[.string ⟨#[]⟩, .iface 31 (.int .i64 1)]) ∧ Below w.heap.size w w' := by
  have M := Aside0.mk (fun W => chart_may k o W)
  rw [h] at M
  clear h
  go_enter Tryd.func10, Tryd.ntmps10
  go_wp2_with fail
  refine (M.out _).mono ?_
  rintro e w1 ⟨rfl, hb1⟩
  have B1 := Aside0.mk (below_step (below_alloc (Below.refl w.heap.size w) _) hb1)
  clear hb1
  go_wp2
  go_ret2
  exact ⟨rfl, B1.out⟩
theorem cn_elem (w w' : World) (k : Int) (h : Below (w.alloc (.cells #[.string ⟨#[]⟩, .string ⟨#[99, 97, 115, 104]⟩, .string ⟨#[116, 114, 117, 115, 116]⟩, .string ⟨#[111, 119, 110]⟩, .string ⟨#[105, 110, 118, 101, 115, 116, 111, 114]⟩, .string ⟨#[101, 115, 99, 114, 111, 119]⟩, .string ⟨#[115, 117, 115, 112, 101, 110, 115, 101]⟩, .string ⟨#[97, 100, 118, 97, 110, 99, 101]⟩, .string ⟨#[102, 101, 101]⟩, .string ⟨#[103, 117, 97, 114, 97, 110, 116, 121]⟩, .string ⟨#[108, 97, 116, 101]⟩, .string ⟨#[112, 114, 105, 110, 99, 105, 112, 97, 108]⟩, .string ⟨#[108, 111, 97, 110]⟩] 9)).heap.size (w.alloc (.cells #[.string ⟨#[]⟩, .string ⟨#[99, 97, 115, 104]⟩, .string ⟨#[116, 114, 117, 115, 116]⟩, .string ⟨#[111, 119, 110]⟩, .string ⟨#[105, 110, 118, 101, 115, 116, 111, 114]⟩, .string ⟨#[101, 115, 99, 114, 111, 119]⟩, .string ⟨#[115, 117, 115, 112, 101, 110, 115, 101]⟩, .string ⟨#[97, 100, 118, 97, 110, 99, 101]⟩, .string ⟨#[102, 101, 101]⟩, .string ⟨#[103, 117, 97, 114, 97, 110, 116, 121]⟩, .string ⟨#[108, 97, 116, 101]⟩, .string ⟨#[112, 114, 105, 110, 99, 105, 112, 97, 108]⟩, .string ⟨#[108, 111, 97, 110]⟩] 9)) w') (h0 : 0 ≤ k) (h1 : k ≤ 12) : w'.cell? ⟨w.heap.size, k.toNat, none⟩ = some (.string (cn_nm k)) := by
  have hz := blk_below (blk_new w (.cells #[.string ⟨#[]⟩, .string ⟨#[99, 97, 115, 104]⟩, .string ⟨#[116, 114, 117, 115, 116]⟩, .string ⟨#[111, 119, 110]⟩, .string ⟨#[105, 110, 118, 101, 115, 116, 111, 114]⟩, .string ⟨#[101, 115, 99, 114, 111, 119]⟩, .string ⟨#[115, 117, 115, 112, 101, 110, 115, 101]⟩, .string ⟨#[97, 100, 118, 97, 110, 99, 101]⟩, .string ⟨#[102, 101, 101]⟩, .string ⟨#[103, 117, 97, 114, 97, 110, 116, 121]⟩, .string ⟨#[108, 97, 116, 101]⟩, .string ⟨#[112, 114, 105, 110, 99, 105, 112, 97, 108]⟩, .string ⟨#[108, 111, 97, 110]⟩] 9)) h
  have key : ∀ j : Fin 13, (#[.string ⟨#[]⟩, .string ⟨#[99, 97, 115, 104]⟩, .string ⟨#[116, 114, 117, 115, 116]⟩, .string ⟨#[111, 119, 110]⟩, .string ⟨#[105, 110, 118, 101, 115, 116, 111, 114]⟩, .string ⟨#[101, 115, 99, 114, 111, 119]⟩, .string ⟨#[115, 117, 115, 112, 101, 110, 115, 101]⟩, .string ⟨#[97, 100, 118, 97, 110, 99, 101]⟩, .string ⟨#[102, 101, 101]⟩, .string ⟨#[103, 117, 97, 114, 97, 110, 116, 121]⟩, .string ⟨#[108, 97, 116, 101]⟩, .string ⟨#[112, 114, 105, 110, 99, 105, 112, 97, 108]⟩, .string ⟨#[108, 111, 97, 110]⟩] : Array Value)[j.val]? = some (.string (cn_list.getD j.val ⟨#[]⟩)) := by
    intro j
    rcases j with ⟨j, hj⟩
    rcases j with _ | _ | _ | _ | _ | _ | _ | _ | _ | _ | _ | _ | _ | j
    all_goals first | rfl | (exfalso; omega)
  exact (blk_cell hz k.toNat).trans (key ⟨k.toNat, by omega⟩)
set_option maxRecDepth 100000 in
theorem cn_plain (k : Int) (w : World) (h0 : 1 ≤ k) (h1 : k ≤ 3) : Calls Tryd.prog 10 #[.agg #[.int .i64 k, .int .i64 0]] w fun e w' => e = .returned (.tuple #[.string (cn_nm k), .nilIface]) ∧ Below w.heap.size w w' := by
  have M := Aside0.mk (fun W => chart_may k 0 W)
  rw [show cn_may k 0 = true by unfold cn_may; rw [decide_eq_true h0, decide_eq_true (show k ≤ 12 by omega), if_pos h1]; rfl] at M
  go_enter Tryd.func10, Tryd.ntmps10
  go_wp2_with fail
  refine (M.out _).mono ?_
  rintro e w1 ⟨rfl, hb1⟩
  have G1 := Aside0.mk (blk_below (blk_new w (.cells #[.int .i64 k, .int .i64 0] 24)) hb1)
  have B1 := Aside0.mk (below_step (below_alloc (Below.refl w.heap.size w) _) hb1)
  clear hb1
  have c0 := (blk_cell G1.out 0).trans rfl
  have c1 := (blk_cell G1.out 1).trans rfl
  go_wp2_with fail
  have hk0 : (0 ≤ k) = True := eq_true (by omega)
  have hk1 : (k < 13) = True := eq_true (by omega)
  have hk0b : decide (0 ≤ k) = true := decide_eq_true (by omega)
  have hk1b : decide (k < 13) = true := decide_eq_true (by omega)
  have S0 : (w1.drew).cell? ⟨w.heap.size, 0, none⟩ = some (.int .i64 k) := c0
  refine start_ (n := 7) (S := fun w' => w'.cell? ⟨w.heap.size, 0, none⟩ = some (.int .i64 k)) (ds := []) #[false, false, false, false, false, false, false] (by kernel_rfl) rfl rfl S0 (fun hHeld => ?_)
  have Gd := Aside0.mk (blk_drew G1.out)
  have Bd := Aside0.mk (below_drew1 B1.out)
  generalize w1.drew = wd at hHeld Gd Bd ⊢
  clear c0 c1 G1 B1 S0
  refine pure_ (i := 1) (N := some 14) (v := ?_) (a' := ?_) #[false, true, false, false, false, false, false] rfl rfl (by kernel_rfl) (fun _ _ _ h => h) (Or.inl ⟨by rfl, ?_⟩) ?_ ?_
  rotate_left
  · intro w'
    go_simp
    with_reducible rfl
  rotate_left
  · simp only [Act.put, List.setIfInBounds_toArray, List.set_cons_zero, List.set_cons_succ, i64_w, i32_w]
    rfl
  refine take_ (i := 2) (N := some 15) (v := ?_) (a' := ?_) #[false, true, true, false, false, false, false] rfl rfl (by kernel_rfl) (fun _ _ _ h => h) (Or.inl ⟨by rfl, ?_⟩) hHeld ?_ ?_
  rotate_left
  · rintro w' s0
    go_simp
    with_reducible rfl
  rotate_left
  · simp only [Act.put, List.setIfInBounds_toArray, List.set_cons_zero, List.set_cons_succ, i64_w, i32_w]
    rfl
  refine one_ (i := 0) (N := some 13) #[true, true, true, false, false, false, false] rfl rfl (by kernel_rfl) (by decide) (fun K hK => ?_)
  refine goes_ Tryd.func18 (by kernel_rfl) rfl #[] (by rfl) rfl rfl (by simp only [List.map_toArray, List.map_cons, List.map_nil]; first | done | rfl) ?_
  refine (cn_names _).mono ?_
  rintro e w2 ⟨rfl, e2⟩
  refine ⟨_, rfl, ?_⟩
  have E2 := Aside0.mk (cn_elem wd w2 k (by rw [e2]; exact Below.refl _ _) (by omega) (by omega))
  have B2 := Aside0.mk (show Below w.heap.size w w2 by rw [e2]; exact below_alloc Bd.out _)
  have G2 := Aside0.mk (show w2.heap[w.heap.size]? = some (.cells #[.int .i64 k, .int .i64 0] 24 (0, 0)) by rw [e2]; exact blk_alloc Gd.out _)
  refine hK.out _ _ ((blk_cell G2.out 0).trans rfl) (fun hHeld => ?_)
  clear hK K e2
  refine norm_ (a' := ?_) ?_ ?_
  rotate_left
  · show Act.put _ (some 13) _ = _
    simp only [Act.put, List.setIfInBounds_toArray, List.set_cons_zero, List.set_cons_succ, i64_w, i32_w]
    rfl
  refine pure_ (i := 3) (N := some 16) (v := ?_) (a' := ?_) #[true, true, true, true, false, false, false] rfl rfl (by kernel_rfl) (fun _ _ _ h => h) (Or.inl ⟨by rfl, ?_⟩) ?_ ?_
  rotate_left
  · intro w'
    go_simp
    with_reducible rfl
  rotate_left
  · simp only [Act.put, List.setIfInBounds_toArray, List.set_cons_zero, List.set_cons_succ, i64_w, i32_w]
    rfl
  refine one_ (i := 4) (N := some 17) #[true, true, true, true, true, false, false] rfl rfl (by kernel_rfl) (by decide) (fun K hK => ?_)
  have hE := E2.out
  refine value_ (w1 := ?_) (v := ?_) (by rfl) rfl ?_ ?_
  rotate_left 2
  · go_simp
    constructor
    · rfl
    · rfl
  clear hE
  refine hK.out _ _ ((blk_cell G2.out 0).trans rfl) (fun hHeld => ?_)
  clear hK K
  refine norm_ (a' := ?_) ?_ ?_
  rotate_left
  · show Act.put _ (some 17) _ = _
    simp only [Act.put, List.setIfInBounds_toArray, List.set_cons_zero, List.set_cons_succ, i64_w, i32_w]
    rfl
  refine pure_ (i := 5) (N := some 2) (v := ?_) (a' := ?_) #[true, true, true, true, true, true, false] rfl rfl (by kernel_rfl) (fun _ _ _ h => h) (Or.inl ⟨by rfl, ?_⟩) ?_ ?_
  rotate_left
  · intro w'
    go_simp
    with_reducible rfl
  rotate_left
  · simp only [Act.put, List.setIfInBounds_toArray, List.set_cons_zero, List.set_cons_succ, i64_w, i32_w]
    rfl
  refine pure_ (i := 6) (N := some 3) (v := ?_) (a' := ?_) #[true, true, true, true, true, true, true] rfl rfl (by kernel_rfl) (fun _ _ _ h => h) (Or.inl ⟨by rfl, ?_⟩) ?_ ?_
  rotate_left
  · intro w'
    go_simp
    with_reducible rfl
  rotate_left
  · simp only [Act.put, List.setIfInBounds_toArray, List.set_cons_zero, List.set_cons_succ, i64_w, i32_w]
    rfl
  refine done_ (by kernel_rfl) ?_
  go_wp2
  go_ret2
  exact ⟨rfl, B2.out⟩
theorem cn_size (k : Int) : (cn_nm k).size ≤ 9 := by
  have key : ∀ j : Fin 13, (cn_list.getD j.val ⟨#[]⟩).size ≤ 9 := by decide
  by_cases c : k.toNat < 13
  · exact key ⟨k.toNat, c⟩
  · unfold cn_nm
    rw [List.getD_eq_getElem?_getD, List.getElem?_eq_none (by simp [cn_list]; omega)]
    decide
set_option maxHeartbeats 1000000 in
set_option maxRecDepth 100000 in
theorem cn_dot (k o : Int) (dig : ByteArray) (w : World) (h0 : 4 ≤ k) (h1 : k ≤ 12) (h2 : 1 ≤ o) (h3 : o ≤ 65536) (hd : dig.size ≤ 100)
    (IT : Aside0 (∀ W, Below w.heap.size w W → Calls Tryd.prog 21 #[.int .i64 o] W fun e w' => e = .returned (.string dig) ∧ Below W.heap.size W w')) :
    Calls Tryd.prog 10 #[.agg #[.int .i64 k, .int .i64 o]] w fun e w' => e = .returned (.tuple #[.string (cn_nm k ++ (⟨#[46]⟩ : ByteArray) ++ dig), .nilIface]) ∧ Below w.heap.size w w' := by
  have M := Aside0.mk (fun W => chart_may k o W)
  rw [show cn_may k o = true by unfold cn_may; rw [decide_eq_true (show 1 ≤ k by omega), decide_eq_true h1, if_neg (by omega), decide_eq_true h2, decide_eq_true h3]; rfl] at M
  have o0 : (o == 0) = false := beq_eq_false_iff_ne.mpr (by omega)
  have zk : (cn_nm k).size ≤ 9 := cn_size k
  have z1 : (9223372036854775807 < (cn_nm k).size + 1) = False := eq_false (by omega)
  have z2 : (9223372036854775807 < (cn_nm k).size + 1 + dig.size) = False := eq_false (by omega)
  go_enter Tryd.func10, Tryd.ntmps10
  go_wp2_with fail
  refine (M.out _).mono ?_
  rintro e w1 ⟨rfl, hb1⟩
  have G1 := Aside0.mk (blk_below (blk_new w (.cells #[.int .i64 k, .int .i64 o] 24)) hb1)
  have B1 := Aside0.mk (below_step (below_alloc (Below.refl w.heap.size w) _) hb1)
  clear hb1
  have c0 := (blk_cell G1.out 0).trans rfl
  have c1 := (blk_cell G1.out 1).trans rfl
  go_wp2_with fail
  have hk0 : (0 ≤ k) = True := eq_true (by omega)
  have hk1 : (k < 13) = True := eq_true (by omega)
  have hk0b : decide (0 ≤ k) = true := decide_eq_true (by omega)
  have hk1b : decide (k < 13) = true := decide_eq_true (by omega)
  refine start_ (n := 12) (S := (fun w' => w'.cell? ⟨w.heap.size, 0, none⟩ = some (.int .i64 k) ∧ w'.cell? ⟨w.heap.size, 1, none⟩ = some (.int .i64 o))) (ds := []) #[false, false, false, false, false, false, false, false, false, false, false, false] (by kernel_rfl) rfl rfl ⟨c0, c1⟩ (fun hHeld => ?_)
  have Gd := Aside0.mk (blk_drew G1.out)
  have Bd := Aside0.mk (below_drew1 B1.out)
  generalize w1.drew = wd at hHeld Gd Bd ⊢
  clear c0 c1 G1 B1
  refine pure_ (i := 1) (N := some 19) (v := ?_) (a' := ?_) #[false, true, false, false, false, false, false, false, false, false, false, false] rfl rfl (by kernel_rfl) (fun _ _ _ h => h) (Or.inl ⟨by rfl, ?_⟩) ?_ ?_
  rotate_left
  · intro w'
    go_simp
    with_reducible rfl
  rotate_left
  · simp only [Act.put, List.setIfInBounds_toArray, List.set_cons_zero, List.set_cons_succ, i64_w, i32_w]
    rfl
  refine pure_ (i := 6) (N := some 24) (v := ?_) (a' := ?_) #[false, true, false, false, false, false, true, false, false, false, false, false] rfl rfl (by kernel_rfl) (fun _ _ _ h => h) (Or.inl ⟨by rfl, ?_⟩) ?_ ?_
  rotate_left
  · intro w'
    go_simp
    with_reducible rfl
  rotate_left
  · simp only [Act.put, List.setIfInBounds_toArray, List.set_cons_zero, List.set_cons_succ, i64_w, i32_w]
    rfl
  refine take_ (i := 2) (N := some 20) (v := ?_) (a' := ?_) #[false, true, true, false, false, false, true, false, false, false, false, false] rfl rfl (by kernel_rfl) (fun _ _ _ h => h) (Or.inl ⟨by rfl, ?_⟩) hHeld ?_ ?_
  rotate_left
  · rintro w' ⟨s0, s1⟩
    go_simp
    with_reducible rfl
  rotate_left
  · simp only [Act.put, List.setIfInBounds_toArray, List.set_cons_zero, List.set_cons_succ, i64_w, i32_w]
    rfl
  refine take_ (i := 7) (N := some 25) (v := ?_) (a' := ?_) #[false, true, true, false, false, false, true, true, false, false, false, false] rfl rfl (by kernel_rfl) (fun _ _ _ h => h) (Or.inl ⟨by rfl, ?_⟩) hHeld ?_ ?_
  rotate_left
  · rintro w' ⟨s0, s1⟩
    go_simp
    with_reducible rfl
  rotate_left
  · simp only [Act.put, List.setIfInBounds_toArray, List.set_cons_zero, List.set_cons_succ, i64_w, i32_w]
    rfl
  refine one_ (i := 0) (N := some 18) #[true, true, true, false, false, false, true, true, false, false, false, false] rfl rfl (by kernel_rfl) (by decide) (fun K hK => ?_)
  refine goes_ Tryd.func18 (by kernel_rfl) rfl #[] (by rfl) rfl rfl (by simp only [List.map_toArray, List.map_cons, List.map_nil]; first | done | rfl) ?_
  refine (cn_names _).mono ?_
  rintro e w2 ⟨rfl, e2⟩
  refine ⟨_, rfl, ?_⟩
  have E2 := Aside0.mk (cn_elem wd w2 k (by rw [e2]; exact Below.refl _ _) (by omega) (by omega))
  have B2 := Aside0.mk (show Below w.heap.size w w2 by rw [e2]; exact below_alloc Bd.out _)
  have G2 := Aside0.mk (show w2.heap[w.heap.size]? = some (.cells #[.int .i64 k, .int .i64 o] 24 (0, 0)) by rw [e2]; exact blk_alloc Gd.out _)
  refine hK.out _ _ ⟨(blk_cell G2.out 0).trans rfl, (blk_cell G2.out 1).trans rfl⟩ (fun hHeld => ?_)
  clear hK K e2
  refine norm_ (a' := ?_) ?_ ?_
  rotate_left
  · show Act.put _ (some 18) _ = _
    simp only [Act.put, List.setIfInBounds_toArray, List.set_cons_zero, List.set_cons_succ, i64_w, i32_w]
    rfl
  refine pure_ (i := 3) (N := some 21) (v := ?_) (a' := ?_) #[true, true, true, true, false, false, true, true, false, false, false, false] rfl rfl (by kernel_rfl) (fun _ _ _ h => h) (Or.inl ⟨by rfl, ?_⟩) ?_ ?_
  rotate_left
  · intro w'
    go_simp
    with_reducible rfl
  rotate_left
  · simp only [Act.put, List.setIfInBounds_toArray, List.set_cons_zero, List.set_cons_succ, i64_w, i32_w]
    rfl
  refine two_ (i := 4) (j := 8) (Ni := some 22) (Nj := some 26) #[true, true, true, true, true, false, true, true, false, false, false, false] #[true, true, true, true, false, false, true, true, true, false, false, false] rfl rfl rfl rfl (by kernel_rfl) (by decide) (by decide) (fun K hK => ?_) (fun K hK => ?_)
  · have hE := E2.out
    refine value_ (w1 := ?_) (v := ?_) (by rfl) rfl ?_ ?_
    rotate_left 2
    · go_simp
      constructor
      · rfl
      · rfl
    clear hE
    refine hK.out _ _ ⟨(blk_cell G2.out 0).trans rfl, (blk_cell G2.out 1).trans rfl⟩ (fun hHeld => ?_)
    clear hK K
    refine norm_ (a' := ?_) ?_ ?_
    rotate_left
    · show Act.put _ (some 22) _ = _
      simp only [Act.put, List.setIfInBounds_toArray, List.set_cons_zero, List.set_cons_succ, i64_w, i32_w]
      rfl
    refine pure_ (i := 5) (N := some 23) (v := ?_) (a' := ?_) #[true, true, true, true, true, true, true, true, false, false, false, false] rfl rfl (by kernel_rfl) (fun _ _ _ h => h) (Or.inl ⟨by rfl, ?_⟩) ?_ ?_
    rotate_left
    · intro w'
      go_simp
      with_reducible rfl
    rotate_left
    · simp only [Act.put, List.setIfInBounds_toArray, List.set_cons_zero, List.set_cons_succ, i64_w, i32_w]
      rfl
    refine one_ (i := 8) (N := some 26) #[true, true, true, true, true, true, true, true, true, false, false, false] rfl rfl (by kernel_rfl) (by decide) (fun K hK => ?_)
    refine goes_ Tryd.func21 (by kernel_rfl) rfl #[.int .i64 o] (by rfl) rfl rfl (by simp only [List.map_toArray, List.map_cons, List.map_nil]; first | done | rfl) ?_
    refine (IT.out _ B2.out).mono ?_
    rintro e w3 ⟨rfl, hbo⟩
    refine ⟨_, rfl, ?_⟩
    have E3 := Aside0.mk ((hbo.cell (World.block_lt_of_cell? w2 _ E2.out)).trans E2.out)
    have B3 := Aside0.mk (below_step B2.out hbo)
    have G3 := Aside0.mk (blk_below G2.out hbo)
    refine hK.out _ _ ⟨(blk_cell G3.out 0).trans rfl, (blk_cell G3.out 1).trans rfl⟩ (fun hHeld => ?_)
    clear hK K hbo
    refine norm_ (a' := ?_) ?_ ?_
    rotate_left
    · show Act.put _ (some 26) _ = _
      simp only [Act.put, List.setIfInBounds_toArray, List.set_cons_zero, List.set_cons_succ, i64_w, i32_w]
      rfl
    refine pure_ (i := 9) (N := some 27) (v := ?_) (a' := ?_) #[true, true, true, true, true, true, true, true, true, true, false, false] rfl rfl (by kernel_rfl) (fun _ _ _ h => h) (Or.inl ⟨by rfl, ?_⟩) ?_ ?_
    rotate_left
    · intro w'
      go_simp
      with_reducible rfl
    rotate_left
    · simp only [Act.put, List.setIfInBounds_toArray, List.set_cons_zero, List.set_cons_succ, i64_w, i32_w]
      rfl
    refine pure_ (i := 10) (N := some 2) (v := ?_) (a' := ?_) #[true, true, true, true, true, true, true, true, true, true, true, false] rfl rfl (by kernel_rfl) (fun _ _ _ h => h) (Or.inl ⟨by rfl, ?_⟩) ?_ ?_
    rotate_left
    · intro w'
      go_simp
      with_reducible rfl
    rotate_left
    · simp only [Act.put, List.setIfInBounds_toArray, List.set_cons_zero, List.set_cons_succ, i64_w, i32_w]
      rfl
    refine pure_ (i := 11) (N := some 3) (v := ?_) (a' := ?_) #[true, true, true, true, true, true, true, true, true, true, true, true] rfl rfl (by kernel_rfl) (fun _ _ _ h => h) (Or.inl ⟨by rfl, ?_⟩) ?_ ?_
    rotate_left
    · intro w'
      go_simp
      with_reducible rfl
    rotate_left
    · simp only [Act.put, List.setIfInBounds_toArray, List.set_cons_zero, List.set_cons_succ, i64_w, i32_w]
      rfl
    refine done_ (by kernel_rfl) ?_
    go_wp2
    go_ret2
    exact ⟨rfl, B3.out⟩
  · refine goes_ Tryd.func21 (by kernel_rfl) rfl #[.int .i64 o] (by rfl) rfl rfl (by simp only [List.map_toArray, List.map_cons, List.map_nil]; first | done | rfl) ?_
    refine (IT.out _ B2.out).mono ?_
    rintro e w3 ⟨rfl, hbo⟩
    refine ⟨_, rfl, ?_⟩
    have E3 := Aside0.mk ((hbo.cell (World.block_lt_of_cell? w2 _ E2.out)).trans E2.out)
    have B3 := Aside0.mk (below_step B2.out hbo)
    have G3 := Aside0.mk (blk_below G2.out hbo)
    refine hK.out _ _ ⟨(blk_cell G3.out 0).trans rfl, (blk_cell G3.out 1).trans rfl⟩ (fun hHeld => ?_)
    clear hK K hbo
    refine norm_ (a' := ?_) ?_ ?_
    rotate_left
    · show Act.put _ (some 26) _ = _
      simp only [Act.put, List.setIfInBounds_toArray, List.set_cons_zero, List.set_cons_succ, i64_w, i32_w]
      rfl
    refine one_ (i := 4) (N := some 22) #[true, true, true, true, true, false, true, true, true, false, false, false] rfl rfl (by kernel_rfl) (by decide) (fun K hK => ?_)
    have hE := E3.out
    refine value_ (w1 := ?_) (v := ?_) (by rfl) rfl ?_ ?_
    rotate_left 2
    · go_simp
      constructor
      · rfl
      · rfl
    clear hE
    refine hK.out _ _ ⟨(blk_cell G3.out 0).trans rfl, (blk_cell G3.out 1).trans rfl⟩ (fun hHeld => ?_)
    clear hK K
    refine norm_ (a' := ?_) ?_ ?_
    rotate_left
    · show Act.put _ (some 22) _ = _
      simp only [Act.put, List.setIfInBounds_toArray, List.set_cons_zero, List.set_cons_succ, i64_w, i32_w]
      rfl
    refine pure_ (i := 5) (N := some 23) (v := ?_) (a' := ?_) #[true, true, true, true, true, true, true, true, true, false, false, false] rfl rfl (by kernel_rfl) (fun _ _ _ h => h) (Or.inl ⟨by rfl, ?_⟩) ?_ ?_
    rotate_left
    · intro w'
      go_simp
      with_reducible rfl
    rotate_left
    · simp only [Act.put, List.setIfInBounds_toArray, List.set_cons_zero, List.set_cons_succ, i64_w, i32_w]
      rfl
    refine pure_ (i := 9) (N := some 27) (v := ?_) (a' := ?_) #[true, true, true, true, true, true, true, true, true, true, false, false] rfl rfl (by kernel_rfl) (fun _ _ _ h => h) (Or.inl ⟨by rfl, ?_⟩) ?_ ?_
    rotate_left
    · intro w'
      go_simp
      with_reducible rfl
    rotate_left
    · simp only [Act.put, List.setIfInBounds_toArray, List.set_cons_zero, List.set_cons_succ, i64_w, i32_w]
      rfl
    refine pure_ (i := 10) (N := some 2) (v := ?_) (a' := ?_) #[true, true, true, true, true, true, true, true, true, true, true, false] rfl rfl (by kernel_rfl) (fun _ _ _ h => h) (Or.inl ⟨by rfl, ?_⟩) ?_ ?_
    rotate_left
    · intro w'
      go_simp
      with_reducible rfl
    rotate_left
    · simp only [Act.put, List.setIfInBounds_toArray, List.set_cons_zero, List.set_cons_succ, i64_w, i32_w]
      rfl
    refine pure_ (i := 11) (N := some 3) (v := ?_) (a' := ?_) #[true, true, true, true, true, true, true, true, true, true, true, true] rfl rfl (by kernel_rfl) (fun _ _ _ h => h) (Or.inl ⟨by rfl, ?_⟩) ?_ ?_
    rotate_left
    · intro w'
      go_simp
      with_reducible rfl
    rotate_left
    · simp only [Act.put, List.setIfInBounds_toArray, List.set_cons_zero, List.set_cons_succ, i64_w, i32_w]
      rfl
    refine done_ (by kernel_rfl) ?_
    go_wp2
    go_ret2
    exact ⟨rfl, B3.out⟩
/-- A name, or that it is none's. -/
def cn_name (k o : Int) (dig : ByteArray) : ByteArray × Option Int :=
  if cn_may k o = false then (⟨#[]⟩, some 1) else if o = 0 then (cn_nm k, none) else (cn_nm k ++ (⟨#[46]⟩ : ByteArray) ++ dig, none)
theorem cn_calls (k o : Int) (dig : ByteArray) (w : World) (s : ByteArray) (e : Option Int) (h : cn_name k o dig = (s, e)) (hd : 1 ≤ o → o ≤ 65536 → dig.size ≤ 100)
    (IT : Aside0 (1 ≤ o → o ≤ 65536 → ∀ W, Below w.heap.size w W → Calls Tryd.prog 21 #[.int .i64 o] W fun e w' => e = .returned (.string dig) ∧ Below W.heap.size W w')) :
    Calls Tryd.prog 10 #[.agg #[.int .i64 k, .int .i64 o]] w fun e' w' => e' = .returned (.tuple #[.string s, cerr e]) ∧ Below w.heap.size w w' := by
  unfold cn_name at h
  by_cases c : cn_may k o = false
  · rw [if_pos c] at h
    simp only [Prod.mk.injEq] at h
    obtain ⟨rfl, rfl⟩ := h
    exact cn_bad k o w c
  · rw [if_neg c] at h
    have c : cn_may k o = true := by cases h : cn_may k o with | true => rfl | false => exact absurd h c
    unfold cn_may at c
    simp only [Bool.and_eq_true, decide_eq_true_eq] at c
    obtain ⟨⟨c1, c2⟩, c3⟩ := c
    by_cases d : k ≤ 3
    · rw [if_pos d] at c3
      have c3 := of_decide_eq_true c3
      subst c3
      rw [if_pos rfl] at h
      simp only [Prod.mk.injEq] at h
      obtain ⟨rfl, rfl⟩ := h
      exact cn_plain k w c1 d
    · rw [if_neg d] at c3
      simp only [Bool.and_eq_true, decide_eq_true_eq] at c3
      obtain ⟨c3, c4⟩ := c3
      rw [if_neg (by omega)] at h
      simp only [Prod.mk.injEq] at h
      obtain ⟨rfl, rfl⟩ := h
      exact cn_dot k o dig w (by omega) c2 c3 c4 (hd c3 c4) ⟨IT.out c3 c4⟩

end Go.Proofs.YtcdhnglefldalaaDoor.PChartOrder
