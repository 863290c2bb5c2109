import Derived.Test.YthblaehmdailhaaJW
namespace Go.Proofs.Ythblaehmdailhaa.PJournalStays
open Go.RowKit Go.Proofs.YthblaehmdailhaaW.PrintWords Go.Proofs.YthblaehmdailhaaW.PrintLast Go.Proofs.YthblaehmdailhaaW.PrintMore
set_option linter.unusedVariables false
set_option linter.unusedSimpArgs false
attribute [local go_sem high] slEq slNe slEq0 slNe0 cerEqI cerEqL cerEqR cerNeI cerNeL cerNeR
theorem Src.lt {w : World} {ad : Addr} {l : List Int} (h : Src w ad l) (hl : 1 ≤ l.length) : ad.block < w.heap.size := by
  have := World.block_lt_of_cell? w _ (h 0 l[0] (List.getElem?_eq_getElem (by omega)))
  have hb : (ad.add 0).block = ad.block := by unfold Addr.add; split <;> rfl
  rwa [hb] at this
set_option maxHeartbeats 4000000 in
set_option maxRecDepth 100000 in
theorem jord_tt (a0 : Addr) (c0 : Nat) (l0 : List Int) (a1 : Addr) (c1 : Nat) (l1 : List Int) (w : World) (s0 : Src w a0 l0) (p0 : 1 ≤ l0.length) (m0 : l0.length ≤ 300) (s1 : Src w a1 l1) (p1 : 1 ≤ l1.length) (m1 : l1.length ≤ 300) : Calls Try.prog 5 #[.slice (some a0) l0.length c0, .slice (some a1) l1.length c1] w fun e w' => e = .returned (.bool true) ∧ Below w.heap.size w w' := by
  have U := Aside0.mk (fun W => jy_up W)
  have S0 := Aside0.mk s0
  clear s0
  have m0b : decide ((300 : Int) < ↑l0.length) = false := decide_eq_false (by omega)
  have S1 := Aside0.mk s1
  clear s1
  have m1b : decide ((300 : Int) < ↑l1.length) = false := decide_eq_false (by omega)
  go_enter Try.func5, Try.ntmps5
  go_wp2_with fail
  refine (U.out _).mono ?_
  rintro e w0 ⟨rfl, hb⟩
  have B0 := Aside0.mk hb
  clear hb
  go_wp2_with fail
  refine (jd_new 16 _ (by decide) (by decide)).mono ?_
  rintro e w1 ⟨bd, bs, bn, bm, rfl, hD, g1, g2, g3, g4, hb⟩
  have HD1 : Aside0 (Dk w1 bd bs bn bm 1024 (List.replicate 1024 0) (List.replicate 1024 0) 0 (.map [])) := ⟨hD⟩
  have B1 := Aside0.mk (below_step B0.out hb)
  have G1 : Aside0 (w.heap.size ≤ bd ∧ w.heap.size ≤ bs ∧ w.heap.size ≤ bn ∧ w.heap.size ≤ bm) := ⟨by have := B0.out.size; omega⟩
  clear hD g1 g2 g3 g4 hb
  go_wp2_with fail
  refine (js_new w.heap.size B1.out.size HD1.out (by decide) (by decide) (by decide)).mono ?_
  rintro e w2 ⟨bj, v, rfl, hbj, hJ, hv, ht⟩
  have HJ2 := Aside0.mk hJ
  have B2 := Aside0.mk (Tn.below B1.out ht B1.out.size (fun k q => by have := G1.out; rcases q with q | q | q <;> omega))
  have HV2 := Aside0.mk hv
  have HBJ : Aside0 (w.heap.size ≤ bj) := ⟨Nat.le_trans B1.out.size hbj⟩
  clear hJ hv ht hbj
  go_wp2_with fail
  refine (js_free HJ2.out (by decide)).mono ?_
  rintro e w3 ⟨rfl, hb⟩
  have HJ3 := Aside0.mk (HJ2.out.below hb)
  have B3 := Aside0.mk (below_step B2.out hb)
  have HV3 := HV2
  clear hb
  rw [show jfree 1024 (enc ([] : List (List Int))).length = 1016 by decide]
  go_wp2_with fail
  have sl := S0.out.lt p0
  have AP := js_append HJ3.out B3.out.size (by decide) a0 l0 c0 (S0.out.below B3.out) (by have := G1.out; omega) p0 (by omega) (by simp [enc, hdl, hd4]; omega) (by simp; omega)
  refine AP.mono ?_
  rintro e w4 ⟨rfl, v4, hJ, t, hv⟩
  have HJ4 := Aside0.mk hJ
  have HV4 : Aside0 (∀ k, v4.ownBlock = some k → w.heap.size ≤ k) := ⟨fun k hk => by
    rcases hv with q | ⟨k', q, hk'⟩
    · exact HV3.out k (by rw [← q]; exact hk)
    · rw [q] at hk; cases hk; exact Nat.le_trans B3.out.size hk'⟩
  have B4 := Aside0.mk (Tn.below B3.out t B3.out.size (fun k q => by
    have h1 := G1.out
    have h2 := HBJ.out
    rcases q with q | q | q | q | q
    · omega
    · omega
    · omega
    · omega
    · exact HV3.out k q))
  clear sl AP hJ t hv
  go_wp2_with fail
  refine (js_free HJ4.out (by decide)).mono ?_
  rintro e w5 ⟨rfl, hb⟩
  have HJ5 := Aside0.mk (HJ4.out.below hb)
  have B5 := Aside0.mk (below_step B4.out hb)
  have HV5 := HV4
  clear hb
  rw [show jfree 1024 (enc ([] ++ [l0])).length = 1016 - (↑l0.length + 8) by simp [enc, jfree, hdl, hd4]; omega]
  go_wp2_with fail
  have sl := S1.out.lt p1
  have AP := js_append HJ5.out B5.out.size (by decide) a1 l1 c1 (S1.out.below B5.out) (by have := G1.out; omega) p1 (by omega) (by simp [enc, hdl, hd4]; omega) (by simp; omega)
  refine AP.mono ?_
  rintro e w6 ⟨rfl, v6, hJ, t, hv⟩
  have HJ6 := Aside0.mk hJ
  have HV6 : Aside0 (∀ k, v6.ownBlock = some k → w.heap.size ≤ k) := ⟨fun k hk => by
    rcases hv with q | ⟨k', q, hk'⟩
    · exact HV5.out k (by rw [← q]; exact hk)
    · rw [q] at hk; cases hk; exact Nat.le_trans B5.out.size hk'⟩
  have B6 := Aside0.mk (Tn.below B5.out t B5.out.size (fun k q => by
    have h1 := G1.out
    have h2 := HBJ.out
    rcases q with q | q | q | q | q
    · omega
    · omega
    · omega
    · omega
    · exact HV5.out k q))
  clear sl AP hJ t hv
  obtain ⟨i0, hi, hz0, hz1, hz2⟩ := info_parts jo_info
  have HI := Aside0.mk hi
  clear hi
  have BL := Aside0.mk B6.out.size
  have W6 := Aside0.mk (Wt.nil w6 w.heap.size)
  go_wp2_with (first | (at_builtin; refine wpList_append_own_at _ rfl _ _ 44 rfl w6.heap.size 22 i0 (.slice none 0 0) 1 24 Try.underlying44 HI.out hz0 hz1 hz2 rfl (by decide) (.slice none 0 0) 0 [] rfl (World.ownsRow_nil _ _ _ 1) ⟨w6.heap.size, 0, none⟩ 1 1 [.slice (some a0) l0.length c0] rfl rfl (jo_one _ _) (by simp [Value.oneCell']) (by unfold maxLen; omega) (by omega) (by simp) ?_; intro vw0 w7 hw0 hg0 hnw0 hlw0; obtain ⟨Aw0, cw0, rfl⟩ := own_slice hw0; have OW0 := Aside0.mk hw0; have GW0 := Aside0.mk hg0; clear hw0 hg0 hnw0 hlw0) | (at_builtin; refine wpList_append_own_at _ rfl _ _ 44 rfl w6.heap.size 22 i0 (.slice none 0 0) 1 24 Try.underlying44 HI.out hz0 hz1 hz2 rfl (by decide) (Value.slice Aw0 1 cw0) 1 [.slice (some a0) l0.length c0] rfl (OW0.out.alloc _) ⟨w7.heap.size, 0, none⟩ 1 1 [.slice (some a1) l1.length c1] rfl rfl (jo_one _ _) (by simp [Value.oneCell']) (by unfold maxLen; omega) (by omega) (by have := GW0.out.size; simp at this ⊢; omega) ?_; intro vw1 w8 hw1 hg1 hnw1 hlw1; obtain ⟨Aw1, cw1, rfl⟩ := own_slice hw1; have OW1 := Aside0.mk hw1; have GW1 := Aside0.mk hg1; clear hw1 hg1 hnw1 hlw1))
  have Z0 : Below w6.heap.size w6 w7 := (jn_tn GW0.out).to_below (fun k q => by cases q)
  have Z1 := Tn.below Z0 (jn_tn GW1.out) Z0.size (fun k q => own_base OW0.out q)
  have ZZ := Aside0.mk Z1
  have B8 := Aside0.mk (below_step B6.out ZZ.out)
  have q0 := S0.out.lt p0
  have qb0 := B6.out.size
  have q1 := S1.out.lt p1
  have qb1 := B6.out.size
  have WT : Wt w8 w6.heap.size (Value.slice Aw1 2 cw1) ([l0, l1] : List (List Int)) := ⟨_, OW1.out, fun i r hi => by
    match i, hi with
    | 0, hi => cases hi; exact ⟨a0, c0, rfl, S0.out.below B8.out, by omega, by omega⟩
    | 1, hi => cases hi; exact ⟨a1, c1, rfl, S1.out.below B8.out, by omega, by omega⟩
    | i + 2, hi => cases hi⟩
  have HW := Aside0.mk WT
  clear WT Z0 Z1 q0 qb0 q1 qb1
  refine (js_records (HJ6.out.below ZZ.out) (by decide)).mono ?_
  rintro e w9 ⟨vo, rfl, hro, hb9⟩
  have RV1 : Rv w9 vo ([l0, l1] : List (List Int)) := hro.rv
  have RV2 := HW.out.rv.below hb9
  have SM := Aside0.mk (jz_same RV1 RV2 (by simp))
  have B9 := Aside0.mk (below_step B8.out hb9)
  clear RV1 RV2 hro hb9
  go_wp2_with fail
  refine SM.out.mono ?_
  rintro e w10 ⟨rfl, hb10⟩
  have B10 := Aside0.mk (below_step B9.out hb10)
  clear hb10
  go_wp2_with fail
  go_ret
  exact ⟨rfl, B10.out⟩
set_option maxHeartbeats 4000000 in
set_option maxRecDepth 100000 in
theorem jord_tf (a0 : Addr) (c0 : Nat) (l0 : List Int) (A1 : Option Addr) (c1 : Nat) (w : World) (s0 : Src w a0 l0) (p0 : 1 ≤ l0.length) (m0 : l0.length ≤ 300) : Calls Try.prog 5 #[.slice (some a0) l0.length c0, .slice A1 0 c1] w fun e w' => e = .returned (.bool true) ∧ Below w.heap.size w w' := by
  have U := Aside0.mk (fun W => jy_up W)
  have S0 := Aside0.mk s0
  clear s0
  have m0b : decide ((300 : Int) < ↑l0.length) = false := decide_eq_false (by omega)
  go_enter Try.func5, Try.ntmps5
  go_wp2_with fail
  refine (U.out _).mono ?_
  rintro e w0 ⟨rfl, hb⟩
  have B0 := Aside0.mk hb
  clear hb
  go_wp2_with fail
  refine (jd_new 16 _ (by decide) (by decide)).mono ?_
  rintro e w1 ⟨bd, bs, bn, bm, rfl, hD, g1, g2, g3, g4, hb⟩
  have HD1 : Aside0 (Dk w1 bd bs bn bm 1024 (List.replicate 1024 0) (List.replicate 1024 0) 0 (.map [])) := ⟨hD⟩
  have B1 := Aside0.mk (below_step B0.out hb)
  have G1 : Aside0 (w.heap.size ≤ bd ∧ w.heap.size ≤ bs ∧ w.heap.size ≤ bn ∧ w.heap.size ≤ bm) := ⟨by have := B0.out.size; omega⟩
  clear hD g1 g2 g3 g4 hb
  go_wp2_with fail
  refine (js_new w.heap.size B1.out.size HD1.out (by decide) (by decide) (by decide)).mono ?_
  rintro e w2 ⟨bj, v, rfl, hbj, hJ, hv, ht⟩
  have HJ2 := Aside0.mk hJ
  have B2 := Aside0.mk (Tn.below B1.out ht B1.out.size (fun k q => by have := G1.out; rcases q with q | q | q <;> omega))
  have HV2 := Aside0.mk hv
  have HBJ : Aside0 (w.heap.size ≤ bj) := ⟨Nat.le_trans B1.out.size hbj⟩
  clear hJ hv ht hbj
  go_wp2_with fail
  refine (js_free HJ2.out (by decide)).mono ?_
  rintro e w3 ⟨rfl, hb⟩
  have HJ3 := Aside0.mk (HJ2.out.below hb)
  have B3 := Aside0.mk (below_step B2.out hb)
  have HV3 := HV2
  clear hb
  rw [show jfree 1024 (enc ([] : List (List Int))).length = 1016 by decide]
  go_wp2_with fail
  have sl := S0.out.lt p0
  have AP := js_append HJ3.out B3.out.size (by decide) a0 l0 c0 (S0.out.below B3.out) (by have := G1.out; omega) p0 (by omega) (by simp [enc, hdl, hd4]; omega) (by simp; omega)
  refine AP.mono ?_
  rintro e w4 ⟨rfl, v4, hJ, t, hv⟩
  have HJ4 := Aside0.mk hJ
  have HV4 : Aside0 (∀ k, v4.ownBlock = some k → w.heap.size ≤ k) := ⟨fun k hk => by
    rcases hv with q | ⟨k', q, hk'⟩
    · exact HV3.out k (by rw [← q]; exact hk)
    · rw [q] at hk; cases hk; exact Nat.le_trans B3.out.size hk'⟩
  have B4 := Aside0.mk (Tn.below B3.out t B3.out.size (fun k q => by
    have h1 := G1.out
    have h2 := HBJ.out
    rcases q with q | q | q | q | q
    · omega
    · omega
    · omega
    · omega
    · exact HV3.out k q))
  clear sl AP hJ t hv
  go_wp2_with fail
  refine (js_free HJ4.out (by decide)).mono ?_
  rintro e w5 ⟨rfl, hb⟩
  have HJ5 := Aside0.mk (HJ4.out.below hb)
  have B5 := Aside0.mk (below_step B4.out hb)
  have HV5 := HV4
  clear hb
  rw [show jfree 1024 (enc ([] ++ [l0])).length = 1016 - (↑l0.length + 8) by simp [enc, jfree, hdl, hd4]; omega]
  go_wp2_with fail
  refine (js_refuse HJ5.out (by decide) A1 0 c1 (by decide) 1 (by rfl)).mono ?_
  rintro e w6 ⟨rfl, hb⟩
  have HJ6 := Aside0.mk (HJ5.out.below hb)
  have B6 := Aside0.mk (below_step B5.out hb)
  have HV6 := HV5
  clear hb
  obtain ⟨i0, hi, hz0, hz1, hz2⟩ := info_parts jo_info
  have HI := Aside0.mk hi
  clear hi
  have BL := Aside0.mk B6.out.size
  have W6 := Aside0.mk (Wt.nil w6 w.heap.size)
  go_wp2_with (first | (at_builtin; refine wpList_append_own_at _ rfl _ _ 44 rfl w6.heap.size 22 i0 (.slice none 0 0) 1 24 Try.underlying44 HI.out hz0 hz1 hz2 rfl (by decide) (.slice none 0 0) 0 [] rfl (World.ownsRow_nil _ _ _ 1) ⟨w6.heap.size, 0, none⟩ 1 1 [.slice (some a0) l0.length c0] rfl rfl (jo_one _ _) (by simp [Value.oneCell']) (by unfold maxLen; omega) (by omega) (by simp) ?_; intro vw0 w7 hw0 hg0 hnw0 hlw0; obtain ⟨Aw0, cw0, rfl⟩ := own_slice hw0; have OW0 := Aside0.mk hw0; have GW0 := Aside0.mk hg0; clear hw0 hg0 hnw0 hlw0))
  have Z0 : Below w6.heap.size w6 w7 := (jn_tn GW0.out).to_below (fun k q => by cases q)
  have ZZ := Aside0.mk Z0
  have B8 := Aside0.mk (below_step B6.out ZZ.out)
  have q0 := S0.out.lt p0
  have qb0 := B6.out.size
  have WT : Wt w7 w6.heap.size (Value.slice Aw0 1 cw0) ([l0] : List (List Int)) := ⟨_, OW0.out, fun i r hi => by
    match i, hi with
    | 0, hi => cases hi; exact ⟨a0, c0, rfl, S0.out.below B8.out, by omega, by omega⟩
    | i + 1, hi => cases hi⟩
  have HW := Aside0.mk WT
  clear WT Z0 q0 qb0
  refine (js_records (HJ6.out.below ZZ.out) (by decide)).mono ?_
  rintro e w9 ⟨vo, rfl, hro, hb9⟩
  have RV1 : Rv w9 vo ([l0] : List (List Int)) := hro.rv
  have RV2 := HW.out.rv.below hb9
  have SM := Aside0.mk (jz_same RV1 RV2 (by simp))
  have B9 := Aside0.mk (below_step B8.out hb9)
  clear RV1 RV2 hro hb9
  go_wp2_with fail
  refine SM.out.mono ?_
  rintro e w10 ⟨rfl, hb10⟩
  have B10 := Aside0.mk (below_step B9.out hb10)
  clear hb10
  go_wp2_with fail
  go_ret
  exact ⟨rfl, B10.out⟩
set_option maxHeartbeats 4000000 in
set_option maxRecDepth 100000 in
theorem jord_ft (A0 : Option Addr) (c0 : Nat) (a1 : Addr) (c1 : Nat) (l1 : List Int) (w : World) (s1 : Src w a1 l1) (p1 : 1 ≤ l1.length) (m1 : l1.length ≤ 300) : Calls Try.prog 5 #[.slice A0 0 c0, .slice (some a1) l1.length c1] w fun e w' => e = .returned (.bool true) ∧ Below w.heap.size w w' := by
  have U := Aside0.mk (fun W => jy_up W)
  have S1 := Aside0.mk s1
  clear s1
  have m1b : decide ((300 : Int) < ↑l1.length) = false := decide_eq_false (by omega)
  go_enter Try.func5, Try.ntmps5
  go_wp2_with fail
  refine (U.out _).mono ?_
  rintro e w0 ⟨rfl, hb⟩
  have B0 := Aside0.mk hb
  clear hb
  go_wp2_with fail
  refine (jd_new 16 _ (by decide) (by decide)).mono ?_
  rintro e w1 ⟨bd, bs, bn, bm, rfl, hD, g1, g2, g3, g4, hb⟩
  have HD1 : Aside0 (Dk w1 bd bs bn bm 1024 (List.replicate 1024 0) (List.replicate 1024 0) 0 (.map [])) := ⟨hD⟩
  have B1 := Aside0.mk (below_step B0.out hb)
  have G1 : Aside0 (w.heap.size ≤ bd ∧ w.heap.size ≤ bs ∧ w.heap.size ≤ bn ∧ w.heap.size ≤ bm) := ⟨by have := B0.out.size; omega⟩
  clear hD g1 g2 g3 g4 hb
  go_wp2_with fail
  refine (js_new w.heap.size B1.out.size HD1.out (by decide) (by decide) (by decide)).mono ?_
  rintro e w2 ⟨bj, v, rfl, hbj, hJ, hv, ht⟩
  have HJ2 := Aside0.mk hJ
  have B2 := Aside0.mk (Tn.below B1.out ht B1.out.size (fun k q => by have := G1.out; rcases q with q | q | q <;> omega))
  have HV2 := Aside0.mk hv
  have HBJ : Aside0 (w.heap.size ≤ bj) := ⟨Nat.le_trans B1.out.size hbj⟩
  clear hJ hv ht hbj
  go_wp2_with fail
  refine (js_free HJ2.out (by decide)).mono ?_
  rintro e w3 ⟨rfl, hb⟩
  have HJ3 := Aside0.mk (HJ2.out.below hb)
  have B3 := Aside0.mk (below_step B2.out hb)
  have HV3 := HV2
  clear hb
  rw [show jfree 1024 (enc ([] : List (List Int))).length = 1016 by decide]
  go_wp2_with fail
  refine (js_refuse HJ3.out (by decide) A0 0 c0 (by decide) 1 (by rfl)).mono ?_
  rintro e w4 ⟨rfl, hb⟩
  have HJ4 := Aside0.mk (HJ3.out.below hb)
  have B4 := Aside0.mk (below_step B3.out hb)
  have HV4 := HV3
  clear hb
  go_wp2_with fail
  refine (js_free HJ4.out (by decide)).mono ?_
  rintro e w5 ⟨rfl, hb⟩
  have HJ5 := Aside0.mk (HJ4.out.below hb)
  have B5 := Aside0.mk (below_step B4.out hb)
  have HV5 := HV4
  clear hb
  rw [show jfree 1024 (enc ([] : List (List Int))).length = 1016 by decide]
  go_wp2_with fail
  have sl := S1.out.lt p1
  have AP := js_append HJ5.out B5.out.size (by decide) a1 l1 c1 (S1.out.below B5.out) (by have := G1.out; omega) p1 (by omega) (by simp [enc, hdl, hd4]; omega) (by simp; omega)
  refine AP.mono ?_
  rintro e w6 ⟨rfl, v6, hJ, t, hv⟩
  have HJ6 := Aside0.mk hJ
  have HV6 : Aside0 (∀ k, v6.ownBlock = some k → w.heap.size ≤ k) := ⟨fun k hk => by
    rcases hv with q | ⟨k', q, hk'⟩
    · exact HV5.out k (by rw [← q]; exact hk)
    · rw [q] at hk; cases hk; exact Nat.le_trans B5.out.size hk'⟩
  have B6 := Aside0.mk (Tn.below B5.out t B5.out.size (fun k q => by
    have h1 := G1.out
    have h2 := HBJ.out
    rcases q with q | q | q | q | q
    · omega
    · omega
    · omega
    · omega
    · exact HV5.out k q))
  clear sl AP hJ t hv
  obtain ⟨i0, hi, hz0, hz1, hz2⟩ := info_parts jo_info
  have HI := Aside0.mk hi
  clear hi
  have BL := Aside0.mk B6.out.size
  have W6 := Aside0.mk (Wt.nil w6 w.heap.size)
  go_wp2_with (first | (at_builtin; refine wpList_append_own_at _ rfl _ _ 44 rfl w6.heap.size 22 i0 (.slice none 0 0) 1 24 Try.underlying44 HI.out hz0 hz1 hz2 rfl (by decide) (.slice none 0 0) 0 [] rfl (World.ownsRow_nil _ _ _ 1) ⟨w6.heap.size, 0, none⟩ 1 1 [.slice (some a1) l1.length c1] rfl rfl (jo_one _ _) (by simp [Value.oneCell']) (by unfold maxLen; omega) (by omega) (by simp) ?_; intro vw0 w7 hw0 hg0 hnw0 hlw0; obtain ⟨Aw0, cw0, rfl⟩ := own_slice hw0; have OW0 := Aside0.mk hw0; have GW0 := Aside0.mk hg0; clear hw0 hg0 hnw0 hlw0))
  have Z0 : Below w6.heap.size w6 w7 := (jn_tn GW0.out).to_below (fun k q => by cases q)
  have ZZ := Aside0.mk Z0
  have B8 := Aside0.mk (below_step B6.out ZZ.out)
  have q1 := S1.out.lt p1
  have qb1 := B6.out.size
  have WT : Wt w7 w6.heap.size (Value.slice Aw0 1 cw0) ([l1] : List (List Int)) := ⟨_, OW0.out, fun i r hi => by
    match i, hi with
    | 0, hi => cases hi; exact ⟨a1, c1, rfl, S1.out.below B8.out, by omega, by omega⟩
    | i + 1, hi => cases hi⟩
  have HW := Aside0.mk WT
  clear WT Z0 q1 qb1
  refine (js_records (HJ6.out.below ZZ.out) (by decide)).mono ?_
  rintro e w9 ⟨vo, rfl, hro, hb9⟩
  have RV1 : Rv w9 vo ([l1] : List (List Int)) := hro.rv
  have RV2 := HW.out.rv.below hb9
  have SM := Aside0.mk (jz_same RV1 RV2 (by simp))
  have B9 := Aside0.mk (below_step B8.out hb9)
  clear RV1 RV2 hro hb9
  go_wp2_with fail
  refine SM.out.mono ?_
  rintro e w10 ⟨rfl, hb10⟩
  have B10 := Aside0.mk (below_step B9.out hb10)
  clear hb10
  go_wp2_with fail
  go_ret
  exact ⟨rfl, B10.out⟩
set_option maxHeartbeats 4000000 in
set_option maxRecDepth 100000 in
theorem jord_ff (A0 : Option Addr) (c0 : Nat) (A1 : Option Addr) (c1 : Nat) (w : World)  : Calls Try.prog 5 #[.slice A0 0 c0, .slice A1 0 c1] w fun e w' => e = .returned (.bool true) ∧ Below w.heap.size w w' := by
  have U := Aside0.mk (fun W => jy_up W)
  go_enter Try.func5, Try.ntmps5
  go_wp2_with fail
  refine (U.out _).mono ?_
  rintro e w0 ⟨rfl, hb⟩
  have B0 := Aside0.mk hb
  clear hb
  go_wp2_with fail
  refine (jd_new 16 _ (by decide) (by decide)).mono ?_
  rintro e w1 ⟨bd, bs, bn, bm, rfl, hD, g1, g2, g3, g4, hb⟩
  have HD1 : Aside0 (Dk w1 bd bs bn bm 1024 (List.replicate 1024 0) (List.replicate 1024 0) 0 (.map [])) := ⟨hD⟩
  have B1 := Aside0.mk (below_step B0.out hb)
  have G1 : Aside0 (w.heap.size ≤ bd ∧ w.heap.size ≤ bs ∧ w.heap.size ≤ bn ∧ w.heap.size ≤ bm) := ⟨by have := B0.out.size; omega⟩
  clear hD g1 g2 g3 g4 hb
  go_wp2_with fail
  refine (js_new w.heap.size B1.out.size HD1.out (by decide) (by decide) (by decide)).mono ?_
  rintro e w2 ⟨bj, v, rfl, hbj, hJ, hv, ht⟩
  have HJ2 := Aside0.mk hJ
  have B2 := Aside0.mk (Tn.below B1.out ht B1.out.size (fun k q => by have := G1.out; rcases q with q | q | q <;> omega))
  have HV2 := Aside0.mk hv
  have HBJ : Aside0 (w.heap.size ≤ bj) := ⟨Nat.le_trans B1.out.size hbj⟩
  clear hJ hv ht hbj
  go_wp2_with fail
  refine (js_free HJ2.out (by decide)).mono ?_
  rintro e w3 ⟨rfl, hb⟩
  have HJ3 := Aside0.mk (HJ2.out.below hb)
  have B3 := Aside0.mk (below_step B2.out hb)
  have HV3 := HV2
  clear hb
  rw [show jfree 1024 (enc ([] : List (List Int))).length = 1016 by decide]
  go_wp2_with fail
  refine (js_refuse HJ3.out (by decide) A0 0 c0 (by decide) 1 (by rfl)).mono ?_
  rintro e w4 ⟨rfl, hb⟩
  have HJ4 := Aside0.mk (HJ3.out.below hb)
  have B4 := Aside0.mk (below_step B3.out hb)
  have HV4 := HV3
  clear hb
  go_wp2_with fail
  refine (js_free HJ4.out (by decide)).mono ?_
  rintro e w5 ⟨rfl, hb⟩
  have HJ5 := Aside0.mk (HJ4.out.below hb)
  have B5 := Aside0.mk (below_step B4.out hb)
  have HV5 := HV4
  clear hb
  rw [show jfree 1024 (enc ([] : List (List Int))).length = 1016 by decide]
  go_wp2_with fail
  refine (js_refuse HJ5.out (by decide) A1 0 c1 (by decide) 1 (by rfl)).mono ?_
  rintro e w6 ⟨rfl, hb⟩
  have HJ6 := Aside0.mk (HJ5.out.below hb)
  have B6 := Aside0.mk (below_step B5.out hb)
  have HV6 := HV5
  clear hb
  obtain ⟨i0, hi, hz0, hz1, hz2⟩ := info_parts jo_info
  have HI := Aside0.mk hi
  clear hi
  have BL := Aside0.mk B6.out.size
  have W6 := Aside0.mk (Wt.nil w6 w.heap.size)
  go_wp2_with fail
  have ZZ := Aside0.mk (Below.refl w6.heap.size w6)
  have B8 := Aside0.mk (below_step B6.out ZZ.out)
  have WT : Wt w6 w6.heap.size (.slice none 0 0) ([] : List (List Int)) := ⟨_, World.ownsRow_nil _ _ _ 1, fun i r hi => by
    match i, hi with
    | i + 0, hi => cases hi⟩
  have HW := Aside0.mk WT
  clear WT 
  refine (js_records (HJ6.out.below ZZ.out) (by decide)).mono ?_
  rintro e w9 ⟨vo, rfl, hro, hb9⟩
  have RV1 : Rv w9 vo ([] : List (List Int)) := hro.rv
  have RV2 := HW.out.rv.below hb9
  have SM := Aside0.mk (jz_same RV1 RV2 (by simp))
  have B9 := Aside0.mk (below_step B8.out hb9)
  clear RV1 RV2 hro hb9
  go_wp2_with fail
  refine SM.out.mono ?_
  rintro e w10 ⟨rfl, hb10⟩
  have B10 := Aside0.mk (below_step B9.out hb10)
  clear hb10
  go_wp2_with fail
  go_ret
  exact ⟨rfl, B10.out⟩
set_option maxRecDepth 100000 in
theorem jord_long (A0 A1 : Option Addr) (c0 c1 : Nat) (l0 l1 : List Int) (w : World) (hl : ¬ (l0.length ≤ 300 ∧ l1.length ≤ 300)) : Calls Try.prog 5 #[.slice A0 l0.length c0, .slice A1 l1.length c1] w fun e w' => e = .returned (.bool true) ∧ Below w.heap.size w w' := by
  have U := Aside0.mk (fun W => jy_up W)
  obtain ⟨s, hs⟩ : ∃ s, decide ((300 : Int) < ↑l0.length) = s := ⟨_, rfl⟩
  have t1 : s = true ∨ decide ((300 : Int) < ↑l1.length) = true := by
    by_cases c : l0.length ≤ 300
    · exact .inr (decide_eq_true (by omega))
    · exact .inl (by rw [← hs]; exact decide_eq_true (by omega))
  clear hl
  go_enter Try.func5, Try.ntmps5
  go_wp2_with fail
  refine (U.out _).mono ?_
  rintro e w1 ⟨rfl, hb1⟩
  have B1 := Aside0.mk hb1
  clear hb1
  cases s with
  | true =>
    clear t1
    go_wp2
    go_ret
    exact ⟨rfl, B1.out⟩
  | false =>
    have t2 : decide ((300 : Int) < ↑l1.length) = true := by
      rcases t1 with h | h
      · cases h
      · exact h
    clear t1
    go_wp2
    go_ret
    exact ⟨rfl, B1.out⟩

end Go.Proofs.Ythblaehmdailhaa.PJournalStays
