import Derived.Test.YthblaehmdailhaaJDU
namespace Go.Proofs.Ythblaehmdailhaa.PJournalStays
open Go.RowKit Go.Proofs.YthblaehmdailhaaW.PrintWords Go.Proofs.YthblaehmdailhaaW.PrintLast Go.Proofs.YthblaehmdailhaaW.PrintMore
set_option linter.unusedVariables false
set_option linter.unusedSimpArgs false
attribute [local go_sem high] slEq slNe slEq0 slNe0
theorem dw_no {w : World} {bd bs bn bm n : Nat} {st nw : List Int} {N : Nat} {D : DataW Unit} (h : Dk w bd bs bn bm n st nw N D) (hn : n ≤ 65536) (at_ : Int) (A : Option Addr) (len cap : Nat) (hl : len ≤ 9223372036854775807) (hf : ¬ (0 ≤ at_ ∧ at_ + len ≤ n)) :
    Calls Try.prog 14 #[.pointer (some ⟨bd, 0, none⟩), .int .i64 at_, .slice A len cap] w fun e w' => e = .returned (.iface 55 (.int .i64 1)) ∧ Below w.heap.size w w' := by
  have TH := Aside0.mk (jd_there h at_ len hn)
  rw [decide_eq_false (show ¬ ((0 : Int) ≤ at_ ∧ (0 : Int) ≤ ↑len ∧ at_ ≤ ↑n ∧ (↑len : Int) ≤ ↑n - at_) by omega)] at TH
  clear hf
  go_enter Try.func14, Try.ntmps14
  go_wp2_with fail
  refine TH.out.mono ?_
  rintro e w1 ⟨rfl, hb⟩
  have B1 := Aside0.mk hb
  clear hb
  go_wp2_with fail
  go_ret
  exact ⟨rfl, B1.out⟩
theorem dr_no {w : World} {bd bs bn bm n : Nat} {st nw : List Int} {N : Nat} {D : DataW Unit} (h : Dk w bd bs bn bm n st nw N D) (hn : n ≤ 65536) (at_ k : Int) (hf : ¬ (0 ≤ at_ ∧ 0 ≤ k ∧ at_ ≤ n ∧ k ≤ n - at_)) :
    Calls Try.prog 21 #[.pointer (some ⟨bd, 0, none⟩), .int .i64 at_, .int .i64 k] w fun e w' => e = .returned (.tuple #[.slice none 0 0, .iface 55 (.int .i64 1)]) ∧ Below w.heap.size w w' := by
  have TH := Aside0.mk (jd_there h at_ k hn)
  rw [decide_eq_false hf] at TH
  clear hf
  go_enter Try.func21, Try.ntmps21
  go_wp2_with fail
  refine TH.out.mono ?_
  rintro e w1 ⟨rfl, hb⟩
  have B1 := Aside0.mk hb
  clear hb
  go_wp2_with fail
  go_ret2
  exact ⟨rfl, B1.out⟩
set_option maxRecDepth 100000 in
theorem dw_zero {w : World} {bd bs bn bm n : Nat} {st nw : List Int} {N : Nat} {D : DataW Unit} (h : Dk w bd bs bn bm n st nw N D) (hn : n ≤ 65536) (n0 : 0 < n) (at_ : Nat) (hat : at_ ≤ n) (A : Option Addr) (cap : Nat) :
    Calls Try.prog 14 #[.pointer (some ⟨bd, 0, none⟩), .int .i64 ↑at_, .slice A 0 cap] w fun e w' => e = .returned .nilIface ∧ Below w.heap.size w w' := by
  have TH := Aside0.mk (jd_there h at_ 0 hn)
  rw [decide_eq_true (show (0 : Int) ≤ ↑at_ ∧ (0 : Int) ≤ 0 ∧ (↑at_ : Int) ≤ ↑n ∧ (0 : Int) ≤ ↑n - ↑at_ by omega)] at TH
  have HD := Aside0.mk h
  clear h
  go_enter Try.func14, Try.ntmps14
  go_wp2_with fail
  refine TH.out.mono ?_
  rintro e w1 ⟨rfl, hb⟩
  have HD1 := Aside0.mk (HD.out.below hb)
  have B1 := Aside0.mk hb
  clear hb
  obtain ⟨c0, c1, c2⟩ := HD1.out.cells
  have hcp := fun x l c => run_copy_none (P := Try.prog) w1 22 22 3 5 x A l c 0 cap Try.underlying22 jd_size1 (by simp)
  have q1 : (0 : Int) ≤ ↑at_ := by omega
  have q2 : (↑at_ : Int) ≤ ↑n := by omega
  by_cases ca : n = at_
  · have cb : (n = at_) = True := eq_true ca
    clear ca
    go_wp2_with fail
    clear hcp
    go_loopw [25] (fun v25 wr => v25 = .int .i64 0 ∧ wr = w1) (fun _ _ => 0)
    case atStart => exact ⟨rfl, rfl⟩
    case round =>
      obtain ⟨rfl, rfl⟩ := hrel
      go_wp2_with fail
      go_ret
      exact ⟨rfl, B1.out⟩
  · have cb : (n = at_) = False := eq_false ca
    clear ca
    go_wp2_with fail
    clear hcp
    go_loopw [25] (fun v25 wr => v25 = .int .i64 0 ∧ wr = w1) (fun _ _ => 0)
    case atStart => exact ⟨rfl, rfl⟩
    case round =>
      obtain ⟨rfl, rfl⟩ := hrel
      go_wp2_with fail
      go_ret
      exact ⟨rfl, B1.out⟩
theorem ow_slice {w : World} {base e sz n : Nat} {v : Value} {xs : List Value} (h : w.ownsRow base e sz v n xs) : ∃ A c, v = .slice A n c := by
  obtain ⟨h1, ⟨rfl, rfl⟩ | ⟨g, cap, cur, rfl, h4⟩⟩ := h
  · exact ⟨_, _, rfl⟩
  · exact ⟨_, _, rfl⟩
set_option maxRecDepth 100000 in
theorem jd_clone0 {w : World} (ad : Addr) (cap : Nat) : Calls Try.prog 41 #[.slice (some ad) 0 cap] w fun e w' => ∃ A' cap', e = .returned (.slice A' 0 cap') ∧ Below w.heap.size w w' := by
  obtain ⟨i0, hi, hz0, hz1, hz2⟩ := info_parts jd_info
  have HI := Aside0.mk hi
  clear hi
  go_enter Try.func41, Try.ntmps41
  go_wp2_with (at_builtin; refine wpList_append_own_at _ rfl _ _ 22 rfl w.heap.size 5 i0 (.int .u8 0) 1 1 Try.underlying22 HI.out hz0 hz1 hz2 rfl (by decide) (.slice (some ⟨w.heap.size, 0, none⟩) 0 0) 0 [] rfl (own_empty w) ad 0 cap (bv []) rfl (by simp [bv]) (fun j u hu => by cases hu) (bv_one []) (by unfold maxLen; omega) (by omega) (by simp) ?_; intro v' w1 hown' hgrow hnil hloc)
  go_ret
  obtain ⟨A', c', rfl⟩ := ow_slice hown'
  exact ⟨⟨A', c', rfl⟩, (below_alloc (Below.refl w.heap.size w) _).grown hgrow (by simp) (fun k hk => by cases hk; exact Nat.le_refl _)⟩
set_option maxRecDepth 100000 in
theorem dr_zero {w : World} {bd bs bn bm n : Nat} {st nw : List Int} {N : Nat} {D : DataW Unit} (h : Dk w bd bs bn bm n st nw N D) (at_ : Nat) (hn : n ≤ 65536) (hat : at_ ≤ n) : Calls Try.prog 21 #[.pointer (some ⟨bd, 0, none⟩), .int .i64 at_, .int .i64 0] w fun e w' => ∃ A cap, e = .returned (.tuple #[.slice A 0 cap, .nilIface]) ∧ Below w.heap.size w w' := by
  have TH := Aside0.mk (jd_there h at_ 0 hn)
  rw [decide_eq_true (show (0 : Int) ≤ ↑at_ ∧ (0 : Int) ≤ 0 ∧ (↑at_ : Int) ≤ ↑n ∧ (0 : Int) ≤ ↑n - ↑at_ by omega)] at TH
  have HD := Aside0.mk h
  clear h
  go_enter Try.func21, Try.ntmps21
  go_wp2_with fail
  refine TH.out.mono ?_
  rintro e w1 ⟨rfl, hb⟩
  have HD1 := Aside0.mk (HD.out.below hb)
  have HB := Aside0.mk hb
  clear hb
  obtain ⟨c0, c1, c2⟩ := HD1.out.cells
  have q2 : (0 : Int) ≤ ↑at_ := by omega
  have q1 : (↑at_ : Int) ≤ ↑n := by omega
  by_cases ca : n = at_
  · have cb : (n = at_) = True := eq_true ca
    clear ca
    go_wp2_with fail
    refine (jd_clone0 _ _).mono ?_
    rintro e w2 ⟨A', c', rfl, hb2⟩
    have B2 := Aside0.mk (below_step HB.out hb2)
    clear hb2
    go_wp2_with fail
    go_ret2
    exact ⟨A', c', rfl, B2.out⟩
  · have cb : (n = at_) = False := eq_false ca
    clear ca
    go_wp2_with fail
    refine (jd_clone0 _ _).mono ?_
    rintro e w2 ⟨A', c', rfl, hb2⟩
    have B2 := Aside0.mk (below_step HB.out hb2)
    clear hb2
    go_wp2_with fail
    go_ret2
    exact ⟨A', c', rfl, B2.out⟩

end Go.Proofs.Ythblaehmdailhaa.PJournalStays
