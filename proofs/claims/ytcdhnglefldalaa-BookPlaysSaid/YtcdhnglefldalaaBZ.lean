import Derived.Test.YtcdhnglefldalaaBC
namespace Go.Proofs.Ytcdhnglefldalaa.PBook
open Go.RowKit Go.Proofs.YtcdhnglefldalaaW.PrintWords Go.Proofs.YtcdhnglefldalaaW.PrintLast Go.Proofs.YtcdhnglefldalaaW.PrintMore
set_option linter.unusedVariables false
set_option linter.unusedSimpArgs false
open Go.Proofs.Ytcdhnglefldalaa.PBookPlays (S32 S34 S40 k32 k34 k40 z32 z34 z40 rd_T34 at_T34 rd_T40 at_T40 errEqI errEqL errEqR errNeI errNeL errNeR)
attribute [local go_sem high] errEqI errNeI errEqL errNeL errEqR errNeR
theorem bz_info : (Try.prog.info? 2).map (fun i => (i.zero, i.size, i.bytes)) = some (some (.int .i64 0), 1, 8) := by kernel_rfl
theorem one2 (w : World) (o1 : Obj) (v : Value) (T : TypeId) : ∀ j u, [v][j]? = some u → ((w.alloc o1).alloc (.cells #[v] T)).cell? ((⟨w.heap.size + 1, 0, none⟩ : Addr).add j) = some u := by
  intro j u hu
  have e : (w.alloc o1).heap.size = w.heap.size + 1 := Array.size_push _
  match j, hu with
  | 0, hu =>
    rw [ad_add, ← e]
    exact ((blk_cell (blk_new (w.alloc o1) (.cells #[v] T)) 0).trans rfl).trans hu
  | k + 1, hu => cases hu
theorem own_ir {w : World} {base : Nat} {v : Value} {l : List Int} (h : w.ownsRow base 2 1 v l.length (i64s l)) : ∃ A c, v = .slice A l.length c ∧ Ir w A l := by
  obtain ⟨hl, ⟨rfl, h0⟩ | ⟨g, cap, cur, rfl, hg, hb, hc, hcm, -, ht⟩⟩ := h
  · refine ⟨none, 0, by rw [h0], fun j x hx => ?_⟩
    rw [List.eq_nil_of_length_eq_zero h0] at hx
    cases hx
  · refine ⟨_, cap, rfl, fun j x hx => ⟨_, rfl, ?_⟩⟩
    have hj : j < l.length := (List.getElem?_eq_some_iff.1 hx).1
    rw [ad_add, Nat.zero_add]
    refine (blk_cell hb j).trans ?_
    rw [← Array.getElem?_toList]
    have e : (i64s l)[j]? = some (.int .i64 x) := by unfold i64s; rw [List.getElem?_map, hx]; rfl
    rw [← ht, Nat.mul_one, List.getElem?_take, if_pos hj] at e
    exact e
def amts (l : List S34) : List Int := l.map (·.f1)
set_option maxHeartbeats 1000000 in
set_option maxRecDepth 100000 in
theorem bz_zero (A : Option Addr) (cap : Nat) (l : List S34) (w : World) (hs : Lr w A l) (hl : l.length ≤ 65536) (hb : ∀ x ∈ l, -9223372036854775808 ≤ x.f1 ∧ x.f1 ≤ 9223372036854775807) : Calls Try.prog 27 #[.slice A l.length cap] w fun e w' => e = .returned (.bool (decide ((amts l).sum = 0))) ∧ Below w.heap.size w w' := by
  have HS := Aside0.mk hs
  have HB := Aside0.mk hb
  obtain ⟨i0, hi, hz0, hz1, hz2⟩ := info_parts bz_info
  have HI := Aside0.mk hi
  obtain ⟨S, hS⟩ : ∃ S, (amts l).sum = S := ⟨_, rfl⟩
  rw [hS]
  have HSS := Aside0.mk hS
  obtain ⟨zd, hzd⟩ : ∃ zd, decide (S = 0) = zd := ⟨_, rfl⟩
  rw [hzd]
  have HZD := Aside0.mk hzd
  clear hs hb hi hS hzd
  go_enter Try.func27, Try.ntmps27
  go_wp2_with fail
  go_loopw [3, 10] (fun v3 v10 wr => ∃ i : Nat, v10 = .int .i64 ↑i ∧ Aside0 (i ≤ l.length ∧ wr.ownsRow w.heap.size 2 1 v3 i (i64s ((amts l).take i)) ∧ Below w.heap.size w wr)) (fun _ v10 _ => (l.length - intOf v10).toNat)
  case atStart => exact ⟨0, rfl, ⟨Nat.zero_le _, World.ownsRow_nil w w.heap.size _ 1, Below.refl _ _⟩⟩
  case round =>
    obtain ⟨i, rfl, HX⟩ := hrel
    by_cases ci : i < l.length
    · have ci2 : (↑i : Int) < ↑l.length := by omega
      have i0' : (0 : Int) ≤ ↑i := by omega
      obtain ⟨x, hx⟩ : ∃ x, l[i]? = some x := ⟨l[i], List.getElem?_eq_getElem ci⟩
      obtain ⟨ad, rfl, c0, c1, c2⟩ := (HS.out.below HX.out.2.2) i x hx
      have HXX := Aside0.mk hx
      clear hx
      go_wp2_with (at_builtin; refine wpList_append_own_at _ rfl _ _ 90 rfl w.heap.size 2 i0 (.int .i64 0) 1 8 Try.underlying90 HI.out hz0 hz1 hz2 rfl (by decide) u3 i _ rfl ((HX.out.2.1.alloc _).alloc _) ⟨wr.heap.size + 1, 0, none⟩ 1 1 [.int .i64 x.f1] rfl rfl (one2 _ _ _ _) (by simp [Value.oneCell']) (by unfold maxLen; omega) (by omega) (by have := HX.out.2.2.size; simp; omega) ?_; intro v3 w3 hown hgrow _ _)
      refine ⟨⟨i + 1, rfl, ⟨by omega, ?_, ?_⟩⟩, by simp [intOf]; omega⟩
      · have e : i64s ((amts l).take (i + 1)) = i64s ((amts l).take i) ++ [.int .i64 x.f1] := by
          have h : (amts l)[i]? = some x.f1 := by unfold amts; rw [List.getElem?_map, HXX.out]; rfl
          rw [List.take_add_one, h]
          simp [i64s]
        rw [e]
        exact hown
      · refine ((HX.out.2.2.trans ((below_alloc (below_alloc (Below.refl wr.heap.size wr) _) _).mono HX.out.2.2.size)).grown hgrow ?_ (fun k hk => own_base HX.out.2.1 hk))
        have := HX.out.2.2.size
        simp
        omega
    · have ci2 : ¬ (↑i : Int) < ↑l.length := by omega
      obtain ⟨h1, h2, h3⟩ := HX.out
      have le : (amts l).length = l.length := List.length_map _
      rw [List.take_of_length_le (by omega), show i = (amts l).length by omega] at h2
      obtain ⟨Av, cv, rfl, hir⟩ := own_ir h2
      have SU := bc_sum Av cv (amts l) wr hir (by omega) (fun y hy => by obtain ⟨x, hx, rfl⟩ := List.mem_map.1 hy; exact HB.out x hx)
      have B3 := Aside0.mk h3
      rw [HSS.out, le] at SU
      have HSU := Aside0.mk SU
      clear SU h1 h2 h3 hir HX
      go_wp2_with fail
      refine HSU.out.mono ?_
      rintro e w5 ⟨rfl, hb⟩
      have B5 := Aside0.mk (below_step B3.out hb)
      clear hb HSU
      have hz := HZD.out
      by_cases q : -9223372036854775808 ≤ S ∧ S ≤ 9223372036854775807
      · rw [if_pos q]
        by_cases z : S = 0
        · rw [decide_eq_true z] at hz
          subst hz
          subst z
          go_wp2_with fail
          go_ret
          exact ⟨rfl, B5.out⟩
        · have zb : (S == 0) = false := beq_eq_false_iff_ne.2 z
          rw [decide_eq_false z] at hz
          subst hz
          clear z q
          go_wp2_with fail
          go_ret
          exact ⟨rfl, B5.out⟩
      · rw [decide_eq_false (by omega)] at hz
        subst hz
        rw [if_neg q]
        clear q
        go_wp2_with fail
        go_ret
        exact ⟨rfl, B5.out⟩

end Go.Proofs.Ytcdhnglefldalaa.PBook
