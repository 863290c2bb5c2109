import Derived.Test.YtcdhnglefldalaaDoorCName
import Derived.Test.YtcdhnglefldalaaDoorShelf
namespace Go.Proofs.YtcdhnglefldalaaDoor.PChartOrder
open Go.RowKit Go.Proofs.YtcdhnglefldalaaDoorW.PrintWords Go.Proofs.YtcdhnglefldalaaDoorW.PrintLast Go.Proofs.YtcdhnglefldalaaDoorW.PrintMore
set_option linter.unusedVariables false
set_option linter.unusedSimpArgs false

theorem cp_index (x : ByteArray) (w w' : World) (h : Below (w.alloc (.cells #[.string ⟨#[]⟩, .string ⟨#[99, 97, 115, 104]⟩, .string ⟨#[116, 114, 117, 115, 116]⟩, .string ⟨#[111, 119, 110]⟩, .string ⟨#[105, 110, 118, 101, 115, 116, 111, 114]⟩, .string ⟨#[101, 115, 99, 114, 111, 119]⟩, .string ⟨#[115, 117, 115, 112, 101, 110, 115, 101]⟩, .string ⟨#[97, 100, 118, 97, 110, 99, 101]⟩, .string ⟨#[102, 101, 101]⟩, .string ⟨#[103, 117, 97, 114, 97, 110, 116, 121]⟩, .string ⟨#[108, 97, 116, 101]⟩, .string ⟨#[112, 114, 105, 110, 99, 105, 112, 97, 108]⟩, .string ⟨#[108, 111, 97, 110]⟩] 9)).heap.size (w.alloc (.cells #[.string ⟨#[]⟩, .string ⟨#[99, 97, 115, 104]⟩, .string ⟨#[116, 114, 117, 115, 116]⟩, .string ⟨#[111, 119, 110]⟩, .string ⟨#[105, 110, 118, 101, 115, 116, 111, 114]⟩, .string ⟨#[101, 115, 99, 114, 111, 119]⟩, .string ⟨#[115, 117, 115, 112, 101, 110, 115, 101]⟩, .string ⟨#[97, 100, 118, 97, 110, 99, 101]⟩, .string ⟨#[102, 101, 101]⟩, .string ⟨#[103, 117, 97, 114, 97, 110, 116, 121]⟩, .string ⟨#[108, 97, 116, 101]⟩, .string ⟨#[112, 114, 105, 110, 99, 105, 112, 97, 108]⟩, .string ⟨#[108, 111, 97, 110]⟩] 9)) w') :
    Calls Tryd.prog 17 #[.slice (some ⟨w.heap.size, 0, none⟩) 13 13, .string x] w' fun e w2 => e = .returned (.int .i64 (Lib.idxOfS cn_list x)) ∧ w2 = w' := by
  have key : ∀ j : Nat, j < cn_list.length → w'.cell? ⟨w.heap.size, 0 + j, none⟩ = some (.string (cn_list.getD j ByteArray.empty)) := by
    intro j hj
    have hj : j < 13 := hj
    rw [Nat.zero_add]
    have := cn_elem w w' (j : Int) h (by omega) (by omega)
    rw [Int.toNat_natCast] at this
    exact this
  exact Tryd.slices_Index_string w.heap.size 0 13 13 cn_list x w' (by decide) (by decide) key
theorem cp_fin {w W : World} {g : Nat} {T : TypeId} {a b : Value} (h : W.heap[g]? = some (.cells #[a, b] T (0, 0))) (hB : Below w.heap.size w W) (hg : w.heap.size ≤ g) (u0 u1 : Value) (W6 : World) (e : W6 = (W.setCell ⟨g, 0, none⟩ u0).setCell ⟨g, 1, none⟩ u1) :
    W6.cell? ⟨g, 0, none⟩ = some u0 ∧ W6.cell? ⟨g, 1, none⟩ = some u1 ∧ Below w.heap.size w W6 := by
  have k : W6.heap[g]? = some (.cells #[u0, u1] T (0, 0)) := by
    rw [e]
    exact blk_put (blk_put h 0 u0 rfl) 1 u1 rfl
  refine ⟨(blk_cell k 0).trans rfl, (blk_cell k 1).trans rfl, ?_⟩
  rw [e]
  exact (hB.setCell (p := ⟨g, 0, none⟩) hg u0).setCell (p := ⟨g, 1, none⟩) hg u1
set_option maxHeartbeats 1000000 in
set_option maxRecDepth 100000 in
theorem cp_nodot (s kd of : ByteArray) (ix o : Int) (tn : ByteArray) (er : Option Int) (w : World) (hix : Lib.idxOfS cn_list kd = ix)
    (CT : Aside0 (∀ W, Below w.heap.size w W → Calls Tryd.prog 16 #[.string s, .string ⟨#[46]⟩] W fun e w' => e = .returned (.tuple #[.string kd, .string of, .bool false]) ∧ ∃ n, w' = W.drewN n))
    (NM : Aside0 (∀ W, Below w.heap.size w W → Calls Tryd.prog 10 #[.agg #[.int .i64 ix, .int .i64 0]] W fun e' w' => e' = .returned (.tuple #[.string tn, cerr er]) ∧ Below W.heap.size W w'))
    (V : Value) (HV : Aside0 ((er = none ∧ tn = s → V = .tuple #[.agg #[.int .i64 ix, .int .i64 0], .nilIface]) ∧ (¬ (er = none ∧ tn = s) → V = .tuple #[.agg #[.int .i64 0, .int .i64 0], .iface 31 (.int .i64 2)]))) :
    Calls Tryd.prog 8 #[.string s] w fun e w' => e = .returned V ∧ Below w.heap.size w w' := by
  go_enter Tryd.func8, Tryd.ntmps8
  go_wp2_with fail
  refine (CT.out _ (below_alloc (Below.refl _ _) _)).mono ?_
  rintro e w1 ⟨rfl, n1, e1⟩
  have G1 := Aside0.mk (show w1.heap[w.heap.size]? = some (.cells #[.int .i64 0, .int .i64 0] 24 (0, 0)) by rw [e1]; exact blk_drewN (blk_new w _) n1)
  have B1 := Aside0.mk (show Below w.heap.size w w1 by rw [e1]; exact pw_below_drewN (below_alloc (Below.refl _ _) _) n1)
  clear e1 CT
  go_wp2_with fail
  refine (cn_names _).mono ?_
  rintro e w2 ⟨rfl, e2⟩
  have I2 := cp_index kd w1 w2 (by rw [e2]; exact Below.refl _ _)
  rw [hix] at I2
  have I2 := Aside0.mk I2
  have G2 := Aside0.mk (show w2.heap[w.heap.size]? = some (.cells #[.int .i64 0, .int .i64 0] 24 (0, 0)) by rw [e2]; exact blk_alloc G1.out _)
  have B2 := Aside0.mk (show Below w.heap.size w w2 by rw [e2]; exact below_alloc B1.out _)
  clear e2 G1 B1
  go_wp2_with fail
  refine I2.out.mono ?_
  rintro e w3 ⟨rfl, rfl⟩
  have G3 := Aside0.mk (blk_alloc G2.out (.cells #[.int .i64 ix, .int .i64 0] 24))
  have B3 := Aside0.mk (below_alloc B2.out (.cells #[.int .i64 ix, .int .i64 0] 24))
  have A3 := Aside0.mk (blk_new w3 (.cells #[.int .i64 ix, .int .i64 0] 24))
  have Z3 := Aside0.mk (blk_lt G2.out)
  clear G2 B2 I2
  go_upto_region 3 with (fail)
  generalize w3.alloc (.cells #[.int .i64 ix, .int .i64 0] 24) = w4 at G3 B3 A3 ⊢
  generalize w3.heap.size = ab at A3 Z3 ⊢
  have k0 := (blk_cell A3.out 0).trans rfl
  have k1 := (blk_cell A3.out 1).trans rfl
  go_wp2_with fail
  refine (NM.out _ B3.out).mono ?_
  rintro e w5 ⟨rfl, hb5⟩
  have G5 := blk_below G3.out hb5
  have A5 := blk_below A3.out hb5
  have B5 := below_step B3.out hb5
  clear hb5 G3 A3 B3 NM k0 k1
  have k0 := (blk_cell A5 0).trans rfl
  have k1 := (blk_cell A5 1).trans rfl
  have q0 := (blk_cell G5 0).trans rfl
  have q1 := (blk_cell G5 1).trans rfl
  have f0 := blk_frozen G5 0
  have f1 := blk_frozen G5 1
  have z1 : (w.heap.size = ab) = False := eq_false (by have := Z3.out; omega)
  have z2 : (ab = w.heap.size) = False := eq_false (by have := Z3.out; omega)
  have G5 := Aside0.mk G5
  have B5 := Aside0.mk B5
  clear A5
  cases er with
  | some c =>
    simp only [cerr]
    go_wp2
    generalize hW : ((w5.setCell ⟨w.heap.size, 0, none⟩ _).setCell ⟨w.heap.size, 1, none⟩ _) = W6
    obtain ⟨g0, g1, B⟩ := cp_fin G5.out B5.out (Nat.le_refl _) _ _ W6 hW.symm
    exact bodyPost_ret (v := .tuple #[.agg #[.int .i64 0, .int .i64 0], .iface 31 (.int .i64 2)]) (by simp [results, Tryd.results8, go_sem, g0, g1]) rfl ⟨by rw [HV.out.2 (by simp)], B⟩
  | none =>
    simp only [cerr]
    by_cases c : tn = s
    · subst c
      go_wp2
      generalize hW : ((w5.setCell ⟨w.heap.size, 0, none⟩ _).setCell ⟨w.heap.size, 1, none⟩ _) = W6
      obtain ⟨g0, g1, B⟩ := cp_fin G5.out B5.out (Nat.le_refl _) _ _ W6 hW.symm
      exact bodyPost_ret (v := .tuple #[.agg #[.int .i64 ix, .int .i64 0], .nilIface]) (by simp [results, Tryd.results8, go_sem, g0, g1]) rfl ⟨by rw [HV.out.1 (by simp)], B⟩
    · have cl : ¬ tn.toList = s.toList := fun h => c (by
        apply ByteArray.ext
        apply Array.ext'
        rw [← Lib.toList_data, ← Lib.toList_data]
        exact h)
      have hne : (tn.toList != s.toList) = true := bne_iff_ne.mpr cl
      have heq : (tn.toList == s.toList) = false := beq_eq_false_iff_ne.mpr cl
      have cno := Aside0.mk c
      clear cl c
      go_wp2
      generalize hW : ((w5.setCell ⟨w.heap.size, 0, none⟩ _).setCell ⟨w.heap.size, 1, none⟩ _) = W6
      obtain ⟨g0, g1, B⟩ := cp_fin G5.out B5.out (Nat.le_refl _) _ _ W6 hW.symm
      exact bodyPost_ret (v := .tuple #[.agg #[.int .i64 0, .int .i64 0], .iface 31 (.int .i64 2)]) (by simp [results, Tryd.results8, go_sem, g0, g1]) rfl ⟨by rw [HV.out.2 (fun h => cno.out h.2)], B⟩
set_option maxHeartbeats 1000000 in
set_option maxRecDepth 100000 in
theorem cp_dot (s kd of : ByteArray) (ix o : Int) (tn : ByteArray) (er : Option Int) (w : World) (hix : Lib.idxOfS cn_list kd = ix)
    (CT : Aside0 (∀ W, Below w.heap.size w W → Calls Tryd.prog 16 #[.string s, .string ⟨#[46]⟩] W fun e w' => e = .returned (.tuple #[.string kd, .string of, .bool true]) ∧ ∃ n, w' = W.drewN n))
    (AT : Aside0 (∀ W, Below w.heap.size w W → Calls Tryd.prog 19 #[.string of] W fun e w' => e = .returned (.tuple #[.int .i64 o, .nilIface]) ∧ Below W.heap.size W w'))
    (NM : Aside0 (∀ W, Below w.heap.size w W → Calls Tryd.prog 10 #[.agg #[.int .i64 ix, .int .i64 o]] W fun e' w' => e' = .returned (.tuple #[.string tn, cerr er]) ∧ Below W.heap.size W w'))
    (V : Value) (HV : Aside0 ((er = none ∧ tn = s → V = .tuple #[.agg #[.int .i64 ix, .int .i64 o], .nilIface]) ∧ (¬ (er = none ∧ tn = s) → V = .tuple #[.agg #[.int .i64 0, .int .i64 0], .iface 31 (.int .i64 2)]))) :
    Calls Tryd.prog 8 #[.string s] w fun e w' => e = .returned V ∧ Below w.heap.size w w' := by
  go_enter Tryd.func8, Tryd.ntmps8
  go_wp2_with fail
  refine (CT.out _ (below_alloc (Below.refl _ _) _)).mono ?_
  rintro e w1 ⟨rfl, n1, e1⟩
  have G1 := Aside0.mk (show w1.heap[w.heap.size]? = some (.cells #[.int .i64 0, .int .i64 0] 24 (0, 0)) by rw [e1]; exact blk_drewN (blk_new w _) n1)
  have B1 := Aside0.mk (show Below w.heap.size w w1 by rw [e1]; exact pw_below_drewN (below_alloc (Below.refl _ _) _) n1)
  clear e1 CT
  go_wp2_with fail
  refine (cn_names _).mono ?_
  rintro e w2 ⟨rfl, e2⟩
  have I2 := cp_index kd w1 w2 (by rw [e2]; exact Below.refl _ _)
  rw [hix] at I2
  have I2 := Aside0.mk I2
  have G2 := Aside0.mk (show w2.heap[w.heap.size]? = some (.cells #[.int .i64 0, .int .i64 0] 24 (0, 0)) by rw [e2]; exact blk_alloc G1.out _)
  have B2 := Aside0.mk (show Below w.heap.size w w2 by rw [e2]; exact below_alloc B1.out _)
  clear e2 G1 B1
  go_wp2_with fail
  refine I2.out.mono ?_
  rintro e w3 ⟨rfl, rfl⟩
  have G3 := Aside0.mk (blk_alloc G2.out (.cells #[.int .i64 ix, .int .i64 0] 24))
  have B3 := Aside0.mk (below_alloc B2.out (.cells #[.int .i64 ix, .int .i64 0] 24))
  have A3 := Aside0.mk (blk_new w3 (.cells #[.int .i64 ix, .int .i64 0] 24))
  have Z3 := Aside0.mk (blk_lt G2.out)
  clear G2 B2 I2
  go_upto_region 3 with (fail)
  generalize w3.alloc (.cells #[.int .i64 ix, .int .i64 0] 24) = w4 at G3 B3 A3 ⊢
  generalize w3.heap.size = ab at A3 Z3 ⊢
  go_wp2_with fail
  refine (AT.out _ B3.out).mono ?_
  rintro e w6 ⟨rfl, hb6⟩
  have G6 := Aside0.mk (blk_below G3.out hb6)
  have A6 := Aside0.mk (blk_below A3.out hb6)
  have B6 := Aside0.mk (below_step B3.out hb6)
  clear hb6 G3 A3 B3 AT
  have k0 := (blk_cell A6.out 0).trans rfl
  have k1 := (blk_cell A6.out 1).trans rfl
  have f1 := blk_frozen A6.out 1
  go_upto_region 8 with (fail)
  clear k0 k1 f1
  have A3 := Aside0.mk (blk_put A6.out 1 (.int .i64 o) rfl)
  have G3 := Aside0.mk (blk_far G6.out (p := ⟨ab, 1, none⟩) (by have := Z3.out; simp; omega) (.int .i64 o))
  have B3 := Aside0.mk (B6.out.setCell (p := ⟨ab, 1, none⟩) (by have := Z3.out; simp; omega) (.int .i64 o))
  generalize w6.setCell ⟨ab, 1, none⟩ (.int .i64 o) = w7 at A3 G3 B3 ⊢
  clear G6 A6 B6
  have k0 := (blk_cell A3.out 0).trans rfl
  have k1 := (blk_cell A3.out 1).trans rfl
  go_wp2_with fail
  refine (NM.out _ B3.out).mono ?_
  rintro e w5 ⟨rfl, hb5⟩
  have G5 := blk_below G3.out hb5
  have A5 := blk_below A3.out hb5
  have B5 := below_step B3.out hb5
  clear hb5 G3 A3 B3 NM k0 k1
  have k0 := (blk_cell A5 0).trans rfl
  have k1 := (blk_cell A5 1).trans rfl
  have q0 := (blk_cell G5 0).trans rfl
  have q1 := (blk_cell G5 1).trans rfl
  have f0 := blk_frozen G5 0
  have f1 := blk_frozen G5 1
  have z1 : (w.heap.size = ab) = False := eq_false (by have := Z3.out; omega)
  have z2 : (ab = w.heap.size) = False := eq_false (by have := Z3.out; omega)
  have G5 := Aside0.mk G5
  have B5 := Aside0.mk B5
  clear A5
  cases er with
  | some c =>
    simp only [cerr]
    go_wp2
    generalize hW : ((w5.setCell ⟨w.heap.size, 0, none⟩ _).setCell ⟨w.heap.size, 1, none⟩ _) = W6
    obtain ⟨g0, g1, B⟩ := cp_fin G5.out B5.out (Nat.le_refl _) _ _ W6 hW.symm
    exact bodyPost_ret (v := .tuple #[.agg #[.int .i64 0, .int .i64 0], .iface 31 (.int .i64 2)]) (by simp [results, Tryd.results8, go_sem, g0, g1]) rfl ⟨by rw [HV.out.2 (by simp)], B⟩
  | none =>
    simp only [cerr]
    by_cases c : tn = s
    · subst c
      go_wp2
      generalize hW : ((w5.setCell ⟨w.heap.size, 0, none⟩ _).setCell ⟨w.heap.size, 1, none⟩ _) = W6
      obtain ⟨g0, g1, B⟩ := cp_fin G5.out B5.out (Nat.le_refl _) _ _ W6 hW.symm
      exact bodyPost_ret (v := .tuple #[.agg #[.int .i64 ix, .int .i64 o], .nilIface]) (by simp [results, Tryd.results8, go_sem, g0, g1]) rfl ⟨by rw [HV.out.1 (by simp)], B⟩
    · have cl : ¬ tn.toList = s.toList := fun h => c (by
        apply ByteArray.ext
        apply Array.ext'
        rw [← Lib.toList_data, ← Lib.toList_data]
        exact h)
      have hne : (tn.toList != s.toList) = true := bne_iff_ne.mpr cl
      have heq : (tn.toList == s.toList) = false := beq_eq_false_iff_ne.mpr cl
      have cno := Aside0.mk c
      clear cl c
      go_wp2
      generalize hW : ((w5.setCell ⟨w.heap.size, 0, none⟩ _).setCell ⟨w.heap.size, 1, none⟩ _) = W6
      obtain ⟨g0, g1, B⟩ := cp_fin G5.out B5.out (Nat.le_refl _) _ _ W6 hW.symm
      exact bodyPost_ret (v := .tuple #[.agg #[.int .i64 0, .int .i64 0], .iface 31 (.int .i64 2)]) (by simp [results, Tryd.results8, go_sem, g0, g1]) rfl ⟨by rw [HV.out.2 (fun h => cno.out h.2)], B⟩
set_option maxHeartbeats 1000000 in
set_option maxRecDepth 100000 in
theorem cp_bad (s kd of : ByteArray) (ix o : Int) (tn : ByteArray) (er : Option Int) (w : World) (hix : Lib.idxOfS cn_list kd = ix)
    (CT : Aside0 (∀ W, Below w.heap.size w W → Calls Tryd.prog 16 #[.string s, .string ⟨#[46]⟩] W fun e w' => e = .returned (.tuple #[.string kd, .string of, .bool true]) ∧ ∃ n, w' = W.drewN n))
    (AT : Aside0 (∀ W, Below w.heap.size w W → Calls Tryd.prog 19 #[.string of] W fun e w' => (∃ n T p, e = .returned (.tuple #[.int .i64 n, .iface T p])) ∧ Below W.heap.size W w')) :
    Calls Tryd.prog 8 #[.string s] w fun e w' => e = .returned (.tuple #[.agg #[.int .i64 0, .int .i64 0], .iface 31 (.int .i64 2)]) ∧ Below w.heap.size w w' := by
  go_enter Tryd.func8, Tryd.ntmps8
  go_wp2_with fail
  refine (CT.out _ (below_alloc (Below.refl _ _) _)).mono ?_
  rintro e w1 ⟨rfl, n1, e1⟩
  have G1 := Aside0.mk (show w1.heap[w.heap.size]? = some (.cells #[.int .i64 0, .int .i64 0] 24 (0, 0)) by rw [e1]; exact blk_drewN (blk_new w _) n1)
  have B1 := Aside0.mk (show Below w.heap.size w w1 by rw [e1]; exact pw_below_drewN (below_alloc (Below.refl _ _) _) n1)
  clear e1 CT
  go_wp2_with fail
  refine (cn_names _).mono ?_
  rintro e w2 ⟨rfl, e2⟩
  have I2 := cp_index kd w1 w2 (by rw [e2]; exact Below.refl _ _)
  rw [hix] at I2
  have I2 := Aside0.mk I2
  have G2 := Aside0.mk (show w2.heap[w.heap.size]? = some (.cells #[.int .i64 0, .int .i64 0] 24 (0, 0)) by rw [e2]; exact blk_alloc G1.out _)
  have B2 := Aside0.mk (show Below w.heap.size w w2 by rw [e2]; exact below_alloc B1.out _)
  clear e2 G1 B1
  go_wp2_with fail
  refine I2.out.mono ?_
  rintro e w3 ⟨rfl, rfl⟩
  have G3 := Aside0.mk (blk_alloc G2.out (.cells #[.int .i64 ix, .int .i64 0] 24))
  have B3 := Aside0.mk (below_alloc B2.out (.cells #[.int .i64 ix, .int .i64 0] 24))
  have A3 := Aside0.mk (blk_new w3 (.cells #[.int .i64 ix, .int .i64 0] 24))
  have Z3 := Aside0.mk (blk_lt G2.out)
  clear G2 B2 I2
  go_upto_region 3 with (fail)
  generalize w3.alloc (.cells #[.int .i64 ix, .int .i64 0] 24) = w4 at G3 B3 A3 ⊢
  generalize w3.heap.size = ab at A3 Z3 ⊢
  go_wp2_with fail
  refine (AT.out _ B3.out).mono ?_
  rintro e w6 ⟨⟨n, T, p, rfl⟩, hb6⟩
  have G6 := blk_below G3.out hb6
  have B6 := Aside0.mk (below_step B3.out hb6)
  clear hb6 G3 A3 B3 AT
  have q0 := (blk_cell G6 0).trans rfl
  have q1 := (blk_cell G6 1).trans rfl
  have f0 := blk_frozen G6 0
  have f1 := blk_frozen G6 1
  have G6 := Aside0.mk G6
  go_wp2
  generalize hW : ((w6.setCell ⟨w.heap.size, 0, none⟩ _).setCell ⟨w.heap.size, 1, none⟩ _) = W6
  obtain ⟨g0, g1, B⟩ := cp_fin G6.out B6.out (Nat.le_refl _) _ _ W6 hW.symm
  exact bodyPost_ret (v := .tuple #[.agg #[.int .i64 0, .int .i64 0], .iface 31 (.int .i64 2)]) (by simp [results, Tryd.results8, go_sem, g0, g1]) rfl ⟨rfl, B⟩

end Go.Proofs.YtcdhnglefldalaaDoor.PChartOrder
