import Derived.Test.YthblaehmdailhaaJDW
namespace Go.Proofs.Ythblaehmdailhaa.PJournalStays
open Go.RowKit Go.Proofs.YthblaehmdailhaaW.PrintWords Go.Proofs.YthblaehmdailhaaW.PrintLast Go.Proofs.YthblaehmdailhaaW.PrintMore
set_option linter.unusedVariables false
set_option linter.unusedSimpArgs false
attribute [local go_sem high] slEq slNe slEq0 slNe0 cerEqI cerEqL cerEqR cerNeI cerNeL cerNeR
theorem sp_nil (a : List Int) (at_ : Nat) (h : at_ ≤ a.length) : splice a at_ [] = a := by
  unfold splice
  rw [List.nil_append, List.length_nil, Nat.add_zero, List.take_append_drop]
theorem sp_at (a l : List Int) (k : Nat) (h : k + l.length ≤ a.length) : ((splice a k l).drop k).take l.length = l := by
  have e : (a.take k).length = k := by rw [List.length_take]; omega
  unfold splice
  rw [List.drop_append, e, Nat.sub_self, List.drop_zero, List.drop_eq_nil_of_le (by omega), List.nil_append, List.take_append_of_le_length (Nat.le_refl _), List.take_length]
theorem C_nil (w : World) (A : Option Addr) : Kd.C (Kd.int .u8) w A 0 [] := ⟨rfl, by omega, fun h => absurd h (by omega)⟩
/-- A row of one's own. -/
def Ow (w : World) (base : Nat) (A : Option Addr) (l : List Int) : Prop := 0 < l.length → ∃ g, A = some ⟨g, 0, none⟩ ∧ base ≤ g ∧ Blk w g l
theorem Ow.turn {w W : World} {base : Nat} {A : Option Addr} {l : List Int} {S : Nat → Prop} (h : Ow w base A l) (t : Tn S w W) (hs : ∀ k, S k → k < base) : Ow W base A l := fun p => by
  obtain ⟨g, e, hg, hb⟩ := h p
  exact ⟨g, e, hg, hb.turn t (fun q => by have := hs g q; omega)⟩
theorem Ow.below {w W : World} {base : Nat} {A : Option Addr} {l : List Int} (h : Ow w base A l) (t : Below w.heap.size w W) : Ow W base A l :=
  h.turn (S := fun _ => False) (Tn.of_below t) (fun k q => q.elim)
theorem Ow.lower {w : World} {base b : Nat} {A : Option Addr} {l : List Int} (h : Ow w base A l) (hb : b ≤ base) : Ow w b A l := fun p => by
  obtain ⟨g, e, hg, hb'⟩ := h p
  exact ⟨g, e, by omega, hb'⟩
theorem Ow.C {w : World} {base : Nat} {A : Option Addr} {l : List Int} (h : Ow w base A l) (hl : l.length ≤ 65536) : Kd.C (Kd.int .u8) w A l.length l := by
  by_cases p : 0 < l.length
  · obtain ⟨g, e, hg, hb⟩ := h p
    subst e
    exact hb.src0.C (by omega)
  · obtain rfl : l = [] := List.eq_nil_of_length_eq_zero (by omega)
    exact C_nil w A
theorem C_str {w : World} {A : Option Addr} {l : List Int} (h : Kd.C (Kd.int .u8) w A l.length l) (c : Nat) : (convert 22 9 (.slice A l.length c)).run Try.prog w = .ok (.string (strOfNums l)) w :=
  Kd.C_string (P := Try.prog) Try.underlying22 Try.underlying5 Try.underlying9 h
theorem ow_own {w : World} {base n : Nat} {v : Value} {l : List Int} (h : w.ownsRow base 5 1 v n (bv l)) : ∃ A c, v = .slice A l.length c ∧ Ow w base A l := by
  have hn : n = l.length := by have := h.1; simp [bv] at this; omega
  subst hn
  by_cases p : 0 < l.length
  · obtain ⟨g, c, e, hg, hb, -⟩ := own_blk h p
    exact ⟨_, c, e, fun _ => ⟨g, rfl, hg, hb⟩⟩
  · obtain ⟨A, c, e⟩ := ow_slice h
    exact ⟨A, c, e, fun q => absurd q p⟩
theorem dw_any {w : World} {bd bs bn bm n : Nat} {st nw : List Int} {N : Nat} {D : DataW Unit} (h : Dk w bd bs bn bm n st nw N D) (hn : n ≤ 65536) (n0 : 0 < n) (at_ : Nat) (A : Option Addr) (l : List Int) (cap : Nat) (hs : Kd.C (Kd.int .u8) w A l.length l) (hf : at_ + l.length ≤ n) (hN : N + l.length < 4294967296) :
    Calls Try.prog 14 #[.pointer (some ⟨bd, 0, none⟩), .int .i64 ↑at_, .slice A l.length cap] w fun e w' => e = .returned .nilIface ∧ Dk w' bd bs bn bm n st (splice nw at_ l) (N + l.length) (dirt D at_ l.length) ∧ Tn (fun k => k = bn ∨ k = bm) w w' := by
  by_cases p : 0 < l.length
  · obtain ⟨ad, rfl, hs'⟩ := Src.of_C hs p
    exact jd_write h hn (fun q => by obtain ⟨r, hr⟩ := h.hn; exact ty_ne (q ▸ h.hd) hr (by decide)) at_ ad l cap p hs' hf hN
  · obtain rfl : l = [] := List.eq_nil_of_length_eq_zero (by omega)
    refine (dw_zero h hn n0 at_ (by simpa using hf) A cap).mono ?_
    rintro e w' ⟨rfl, hb⟩
    exact ⟨rfl, by rw [sp_nil _ _ (by rw [h.ln]; simpa using hf)]; exact h.below hb, Tn.of_below hb⟩
theorem dr_any {w : World} {bd bs bn bm n : Nat} {st nw : List Int} {N : Nat} {D : DataW Unit} (h : Dk w bd bs bn bm n st nw N D) (hn : n ≤ 65536) (at_ k : Nat) (hf : at_ + k ≤ n) :
    Calls Try.prog 21 #[.pointer (some ⟨bd, 0, none⟩), .int .i64 ↑at_, .int .i64 ↑k] w fun e w' => ∃ A c, e = .returned (.tuple #[.slice A k c, .nilIface]) ∧ Ow w' w.heap.size A ((nw.drop at_).take k) ∧ Below w.heap.size w w' := by
  by_cases p : 0 < k
  · refine (jd_read h at_ k hn p hf).mono ?_
    rintro e w' ⟨g, c, rfl, hg, hb, -, hB⟩
    exact ⟨_, c, rfl, fun _ => ⟨g, rfl, hg, hb⟩, hB⟩
  · obtain rfl : k = 0 := by omega
    refine (dr_zero h at_ hn (by omega)).mono ?_
    rintro e w' ⟨A, c, rfl, hB⟩
    exact ⟨A, c, rfl, fun q => by simp at q, hB⟩
set_option maxHeartbeats 1000000 in
set_option maxRecDepth 100000 in
theorem ds_main (at_ : Int) (A0 : Option Addr) (c0 : Nat) (l : List Int) (w : World) (h0 : -9223372036854775808 ≤ at_) (h1 : at_ ≤ 9223372036854775807) (hr : Kd.C (Kd.int .u8) w A0 l.length l) (hl : l.length ≤ 500) : Calls Try.prog 7 #[.int .i64 at_, .slice A0 l.length c0] w fun e w' => e = .returned (.bool true) ∧ Below w.heap.size w w' := by
  have U := Aside0.mk (fun W => d_up W)
  have lb : decide ((500 : Int) < ↑l.length) = false := decide_eq_false (by omega)
  have HC := Aside0.mk hr
  clear hr
  go_enter Try.func7, Try.ntmps7
  go_wp2_with fail
  refine (U.out _).mono ?_
  rintro e w0 ⟨rfl, hb⟩
  have B0 := Aside0.mk hb
  clear hb
  go_wp2_with fail
  refine (jd_new 8 _ (by decide) (by decide)).mono ?_
  rintro e w1 ⟨bd, bs, bn, bm, rfl, hD, g1, g2, g3, g4, hb⟩
  have HD1 := Aside0.mk (show Dk w1 bd bs bn bm 512 (List.replicate 512 0) (List.replicate 512 0) 0 (.map []) from hD)
  have B1 := Aside0.mk (below_step B0.out hb)
  have G1 : Aside0 (w.heap.size ≤ bd ∧ w.heap.size ≤ bs ∧ w.heap.size ≤ bn ∧ w.heap.size ≤ bm) := ⟨by have := B0.out.size; omega⟩
  clear hD g1 g2 g3 g4 hb
  have LT : Aside0 (bd < w1.heap.size ∧ bs < w1.heap.size ∧ bn < w1.heap.size ∧ bm < w1.heap.size) := ⟨by
    have h := HD1.out
    obtain ⟨es, cl, hm⟩ := h.map
    exact ⟨blk_lt h.hd, h.hs.lt, h.hn.lt, blk_lt hm⟩⟩
  cases A0 with
  | none =>
    have e : l = [] := by
      rcases l with _ | ⟨x, t⟩
      · rfl
      · obtain ⟨ad, q, -⟩ := Src.of_C HC.out (Nat.succ_pos _); cases q
    subst e
    have hp : ∀ W, Sem.run Try.prog (pure #[]) W = .ok (#[] : Array Value) W := fun W => rfl
    have hst : ∀ W ad, (storeCells ad []).run Try.prog W = .ok () W := fun _ _ => rfl
    go_wp2_with fail
    clear hp hst
    have Z2 := Aside0.mk (below_alloc (Below.refl w1.heap.size w1) (.cells #[] 5))
    generalize w1.alloc (.cells #[] 5) = w2 at Z2 ⊢
    have HN : Aside0 (w1.heap.size = w1.heap.size) := ⟨rfl⟩
    generalize (some (⟨w1.heap.size, 0, none⟩ : Addr)) = Ao
    have OW : Aside0 (Ow w2 w1.heap.size Ao []) := ⟨fun q => by simp at q⟩
    have HD2 := Aside0.mk (HD1.out.below Z2.out)
    have B2 := Aside0.mk (below_step B1.out Z2.out)
    have CO := Aside0.mk (OW.out.C (by omega))
    go_wp2_with fail
    by_cases hf : 0 ≤ at_ ∧ at_ + (0 : Nat) ≤ 512
    · obtain ⟨k, rfl⟩ : ∃ k : Nat, at_ = ↑k := ⟨at_.toNat, by omega⟩
      have hk : k + 0 ≤ 512 := by omega
      clear hf
      refine (dw_any HD2.out (by omega) (by omega) k Ao [] 0 CO.out hk (by omega)).mono ?_
      rintro e w3 ⟨rfl, hD, ht⟩
      have OW3 := Aside0.mk (OW.out.turn ht (fun j q => by have := LT.out; rcases q with q | q <;> omega))
      have B3 := Aside0.mk (Tn.below B2.out ht B2.out.size (fun j q => by have := G1.out; rcases q with q | q <;> omega))
      have HD3 := Aside0.mk hD
      clear hD ht
      have sq1 : (convert 22 9 (.slice Ao 0 0)).run Try.prog w3 = .ok (.string (strOfNums [])) w3 := C_str (l := []) (OW3.out.C (by omega)) 0
      have sq2 : (convert 22 9 (.slice none 0 c0)).run Try.prog w3 = .ok (.string (strOfNums [])) w3 := C_str (l := []) (Kd.C_below HC.out B3.out) c0
      have sb : ((strOfNums []).toList == (strOfNums []).toList) = true := beq_self_eq_true _
      have nb : ((strOfNums []).toList != (strOfNums []).toList) = false := bne_self_eq_false _
      obtain ⟨sr, hsr⟩ : ∃ sr, strOfNums [] = sr := ⟨_, rfl⟩
      rw [hsr] at sq1 sq2 sb nb
      have HSR := Aside0.mk hsr
      clear hsr
      go_wp2_with fail
      clear sq1 sq2
      have OWL := OW3
      go_loopw [11] (fun v11 wr => ∃ i : Nat, v11 = .int .i64 ↑i ∧ Aside0 (Tn (fun k => w1.heap.size ≤ k) w3 wr ∧ ∃ l' : List Int, l'.length = 0 ∧ Ow wr w1.heap.size Ao l')) (fun v11 _ => (0 - intOf v11).toNat)
      case atStart => exact ⟨0, rfl, ⟨Tn.refl _ _, [], rfl, OWL.out⟩⟩
      case round =>
        obtain ⟨i, rfl, HX⟩ := hrel
        obtain ⟨t5, l', hl', how⟩ := HX.out
        by_cases ci : i < 0
        · exact absurd ci (by omega)
        · have ci2 : ¬ (↑i : Int) < ↑0 := by omega
          have HD4 := Aside0.mk (HD3.out.turn t5 (by have := LT.out; omega) (by have := LT.out; omega) (by have := LT.out; omega) (by have := LT.out; omega))
          have B4 := Aside0.mk (Tn.below B3.out t5 B3.out.size (fun k q => by have := B1.out.size; omega))
          clear t5 how HX hl'
          go_wp2_with fail
          refine (dr_any HD4.out (by omega) k 0 (by omega)).mono ?_
          rintro e w5 ⟨A5, c5, rfl, ho5, hb5⟩
          have ho5' := Eq.mp (congrArg (Ow w5 wr.heap.size A5) (sp_at (List.replicate 512 0) [] k (by rw [List.length_replicate]; exact hk))) ho5
          have OWL := Aside0.mk ho5'
          have HD5 := Aside0.mk (HD4.out.below hb5)
          have B5 := Aside0.mk (below_step B4.out hb5)
          have LT5 : Aside0 (bd < wr.heap.size ∧ bs < wr.heap.size ∧ bn < wr.heap.size ∧ bm < wr.heap.size) := ⟨by
            have h := HD4.out
            obtain ⟨es, cl, hm⟩ := h.map
            exact ⟨blk_lt h.hd, h.hs.lt, h.hn.lt, blk_lt hm⟩⟩
          clear ho5 ho5' hb5
          have sq1 : (convert 22 9 (.slice A5 0 c5)).run Try.prog w5 = .ok (.string (strOfNums [])) w5 := C_str (l := []) (OWL.out.C (by omega)) c5
          rw [HSR.out] at sq1
          go_wp2_with fail
          clear sq1
          have LB : Aside0 (w.heap.size ≤ wr.heap.size) := ⟨B4.out.size⟩
          generalize wr.heap.size = B9 at OWL LT5 LB
          go_loopw [15] (fun v15 wr => ∃ i : Nat, v15 = .int .i64 ↑i ∧ Aside0 (Tn (fun k => B9 ≤ k) w5 wr ∧ ∃ l' : List Int, l'.length = 0 ∧ Ow wr B9 A5 l')) (fun v15 _ => (0 - intOf v15).toNat)
          case atStart => exact ⟨0, rfl, ⟨Tn.refl _ _, [], rfl, OWL.out⟩⟩
          case round =>
            obtain ⟨i, rfl, HX⟩ := hrel
            obtain ⟨t5, l', hl', how⟩ := HX.out
            by_cases ci : i < 0
            · exact absurd ci (by omega)
            · have ci2 : ¬ (↑i : Int) < ↑0 := by omega
              have HD6 := Aside0.mk (HD5.out.turn t5 (by have := LT5.out; omega) (by have := LT5.out; omega) (by have := LT5.out; omega) (by have := LT5.out; omega))
              have B6 := Aside0.mk (Tn.below B5.out t5 B5.out.size (fun k q => by have := LB.out; omega))
              clear t5 how HX hl'
              go_wp2_with fail
              refine (dr_any HD6.out (by omega) k 0 (by omega)).mono ?_
              rintro e w7 ⟨A7, c7, rfl, ho7, hb7⟩
              have ho7' := Eq.mp (congrArg (Ow w7 wr.heap.size A7) (sp_at (List.replicate 512 0) [] k (by rw [List.length_replicate]; exact hk))) ho7
              have OW7 := Aside0.mk ho7'
              have B7 := Aside0.mk (below_step B6.out hb7)
              clear ho7 ho7' hb7
              have sq1 : (convert 22 9 (.slice A7 0 c7)).run Try.prog w7 = .ok (.string (strOfNums [])) w7 := C_str (l := []) (OW7.out.C (by omega)) c7
              have sq2 : (convert 22 9 (.slice none 0 c0)).run Try.prog w7 = .ok (.string (strOfNums [])) w7 := C_str (l := []) (Kd.C_below HC.out B7.out) c0
              rw [HSR.out] at sq1 sq2
              go_wp2_with fail
              go_ret
              exact ⟨rfl, B7.out⟩
    · refine (dw_no HD2.out (by omega) at_ Ao 0 0 (by omega) hf).mono ?_
      rintro e w3 ⟨rfl, hb⟩
      have OW3 := Aside0.mk (OW.out.below hb)
      have B3 := Aside0.mk (below_step B2.out hb)
      clear hb hf
      have sq1 : (convert 22 9 (.slice Ao 0 0)).run Try.prog w3 = .ok (.string (strOfNums [])) w3 := C_str (l := []) (OW3.out.C (by omega)) 0
      have sq2 : (convert 22 9 (.slice none 0 c0)).run Try.prog w3 = .ok (.string (strOfNums [])) w3 := C_str (l := []) (Kd.C_below HC.out B3.out) c0
      have sb : ((strOfNums []).toList == (strOfNums []).toList) = true := beq_self_eq_true _
      have nb : ((strOfNums []).toList != (strOfNums []).toList) = false := bne_self_eq_false _
      obtain ⟨sr, hsr⟩ : ∃ sr, strOfNums [] = sr := ⟨_, rfl⟩
      rw [hsr] at sq1 sq2 sb nb
      have HSR := Aside0.mk hsr
      clear hsr
      go_wp2_with fail
      clear sq1 sq2
      have OWL := OW3
      go_loopw [11] (fun v11 wr => ∃ i : Nat, v11 = .int .i64 ↑i ∧ Aside0 (Tn (fun k => w1.heap.size ≤ k) w3 wr ∧ ∃ l' : List Int, l'.length = 0 ∧ Ow wr w1.heap.size Ao l')) (fun v11 _ => (0 - intOf v11).toNat)
      case atStart => exact ⟨0, rfl, ⟨Tn.refl _ _, [], rfl, OWL.out⟩⟩
      case round =>
        obtain ⟨i, rfl, HX⟩ := hrel
        obtain ⟨t5, l', hl', how⟩ := HX.out
        by_cases ci : i < 0
        · exact absurd ci (by omega)
        · have ci2 : ¬ (↑i : Int) < ↑0 := by omega
          have B4 := Aside0.mk (Tn.below B3.out t5 B3.out.size (fun k q => by have := B1.out.size; omega))
          clear t5 how HX hl'
          go_wp2_with fail
          go_ret
          exact ⟨rfl, B4.out⟩
  | some a0 =>
    have HS : Aside0 (Src w a0 l) := ⟨by
      by_cases p : 0 < l.length
      · obtain ⟨ad, q, h⟩ := Src.of_C HC.out p
        cases q
        exact h
      · intro j x hx
        rw [List.getElem?_eq_none (by omega)] at hx
        cases hx⟩
    obtain ⟨i0, hi, hz0, hz1, hz2⟩ := info_parts jd_info
    have HI := Aside0.mk hi
    clear hi
    go_wp2_with (at_builtin; go_loud (refine wpList_append_own_at _ rfl _ _ 22 rfl w1.heap.size 5 i0 (.int .u8 0) 1 1 Try.underlying22 HI.out hz0 hz1 hz2 rfl (by decide) (.slice (some ⟨w1.heap.size, 0, none⟩) 0 0) 0 [] rfl (own_empty w1) a0 l.length c0 (bv l) rfl (by simp [bv]) (bv_cells ((HS.out.below B1.out).alloc _)) (bv_one l) (by unfold maxLen; omega) (by omega) (by simp) ?_); intro vo w2 hown hgrow hnil hloc; go_loud (obtain ⟨Ao, co, rfl, hOw⟩ := ow_own hown); have OW := Aside0.mk hOw; have Z2 := Aside0.mk ((below_alloc (Below.refl w1.heap.size w1) _).grown hgrow (by simp) (fun k hk => by cases hk; exact Nat.le_refl _)); clear hown hgrow hnil hloc hOw)
    clear HS HI hz0 hz1 hz2
    have HD2 := Aside0.mk (HD1.out.below Z2.out)
    have B2 := Aside0.mk (below_step B1.out Z2.out)
    have CO := Aside0.mk (OW.out.C (by omega))
    go_wp2_with fail
    by_cases hf : 0 ≤ at_ ∧ at_ + (l.length : Nat) ≤ 512
    · obtain ⟨k, rfl⟩ : ∃ k : Nat, at_ = ↑k := ⟨at_.toNat, by omega⟩
      have hk : k + l.length ≤ 512 := by omega
      clear hf
      refine (dw_any HD2.out (by omega) (by omega) k Ao l co CO.out hk (by omega)).mono ?_
      rintro e w3 ⟨rfl, hD, ht⟩
      have OW3 := Aside0.mk (OW.out.turn ht (fun j q => by have := LT.out; rcases q with q | q <;> omega))
      have B3 := Aside0.mk (Tn.below B2.out ht B2.out.size (fun j q => by have := G1.out; rcases q with q | q <;> omega))
      have HD3 := Aside0.mk hD
      clear hD ht
      have sq1 : (convert 22 9 (.slice Ao l.length co)).run Try.prog w3 = .ok (.string (strOfNums l)) w3 := C_str (l := l) (OW3.out.C (by omega)) co
      have sq2 : (convert 22 9 (.slice (some a0) l.length c0)).run Try.prog w3 = .ok (.string (strOfNums l)) w3 := C_str (l := l) (Kd.C_below HC.out B3.out) c0
      have sb : ((strOfNums l).toList == (strOfNums l).toList) = true := beq_self_eq_true _
      have nb : ((strOfNums l).toList != (strOfNums l).toList) = false := bne_self_eq_false _
      obtain ⟨sr, hsr⟩ : ∃ sr, strOfNums l = sr := ⟨_, rfl⟩
      rw [hsr] at sq1 sq2 sb nb
      have HSR := Aside0.mk hsr
      clear hsr
      go_wp2_with fail
      clear sq1 sq2
      have OWL := OW3
      go_loopw [11] (fun v11 wr => ∃ i : Nat, v11 = .int .i64 ↑i ∧ Aside0 (Tn (fun k => w1.heap.size ≤ k) w3 wr ∧ ∃ l' : List Int, l'.length = l.length ∧ Ow wr w1.heap.size Ao l')) (fun v11 _ => (l.length - intOf v11).toNat)
      case atStart => exact ⟨0, rfl, ⟨Tn.refl _ _, l, rfl, OWL.out⟩⟩
      case round =>
        obtain ⟨i, rfl, HX⟩ := hrel
        obtain ⟨t5, l', hl', how⟩ := HX.out
        by_cases ci : i < l.length
        · have ci2 : (↑i : Int) < ↑l.length := by omega
          have i0' : (0 : Int) ≤ ↑i := by omega
          obtain ⟨x, hx⟩ : ∃ x, l'[i]? = some x := ⟨l'[i], List.getElem?_eq_getElem (by omega)⟩
          obtain ⟨g, e, hg, hbl⟩ := how (by omega)
          subst e
          have c := hbl.cell hx
          have f : wr.frozen? ⟨g, i, none⟩ = false := by obtain ⟨rs, hr⟩ := hbl; exact blk_frozen hr i
          have T5 := Aside0.mk t5
          have BL := Aside0.mk hbl
          have HG := Aside0.mk hg
          clear hx t5 hbl HX how hg
          go_wp2_with fail
          exact ⟨⟨i + 1, rfl, ⟨T5.out.trans ((tn_set _ _ _ _).mono (fun k _ q => by have := HG.out; omega)), _, (List.length_set ..).trans hl', fun _ => ⟨g, rfl, HG.out, BL.out.set (by omega) _⟩⟩⟩, by simp [intOf]; omega⟩
        · have ci2 : ¬ (↑i : Int) < ↑l.length := by omega
          have HD4 := Aside0.mk (HD3.out.turn t5 (by have := LT.out; omega) (by have := LT.out; omega) (by have := LT.out; omega) (by have := LT.out; omega))
          have B4 := Aside0.mk (Tn.below B3.out t5 B3.out.size (fun k q => by have := B1.out.size; omega))
          clear t5 how HX hl'
          go_wp2_with fail
          refine (dr_any HD4.out (by omega) k l.length (by omega)).mono ?_
          rintro e w5 ⟨A5, c5, rfl, ho5, hb5⟩
          have ho5' := Eq.mp (congrArg (Ow w5 wr.heap.size A5) (sp_at (List.replicate 512 0) l k (by rw [List.length_replicate]; exact hk))) ho5
          have OWL := Aside0.mk ho5'
          have HD5 := Aside0.mk (HD4.out.below hb5)
          have B5 := Aside0.mk (below_step B4.out hb5)
          have LT5 : Aside0 (bd < wr.heap.size ∧ bs < wr.heap.size ∧ bn < wr.heap.size ∧ bm < wr.heap.size) := ⟨by
            have h := HD4.out
            obtain ⟨es, cl, hm⟩ := h.map
            exact ⟨blk_lt h.hd, h.hs.lt, h.hn.lt, blk_lt hm⟩⟩
          clear ho5 ho5' hb5
          have sq1 : (convert 22 9 (.slice A5 l.length c5)).run Try.prog w5 = .ok (.string (strOfNums l)) w5 := C_str (l := l) (OWL.out.C (by omega)) c5
          rw [HSR.out] at sq1
          go_wp2_with fail
          clear sq1
          have LB : Aside0 (w.heap.size ≤ wr.heap.size) := ⟨B4.out.size⟩
          generalize wr.heap.size = B9 at OWL LT5 LB
          go_loopw [15] (fun v15 wr => ∃ i : Nat, v15 = .int .i64 ↑i ∧ Aside0 (Tn (fun k => B9 ≤ k) w5 wr ∧ ∃ l' : List Int, l'.length = l.length ∧ Ow wr B9 A5 l')) (fun v15 _ => (l.length - intOf v15).toNat)
          case atStart => exact ⟨0, rfl, ⟨Tn.refl _ _, l, rfl, OWL.out⟩⟩
          case round =>
            obtain ⟨i, rfl, HX⟩ := hrel
            obtain ⟨t5, l', hl', how⟩ := HX.out
            by_cases ci : i < l.length
            · have ci2 : (↑i : Int) < ↑l.length := by omega
              have i0' : (0 : Int) ≤ ↑i := by omega
              obtain ⟨x, hx⟩ : ∃ x, l'[i]? = some x := ⟨l'[i], List.getElem?_eq_getElem (by omega)⟩
              obtain ⟨g, e, hg, hbl⟩ := how (by omega)
              subst e
              have c := hbl.cell hx
              have f : wr.frozen? ⟨g, i, none⟩ = false := by obtain ⟨rs, hr⟩ := hbl; exact blk_frozen hr i
              have T5 := Aside0.mk t5
              have BL := Aside0.mk hbl
              have HG := Aside0.mk hg
              clear hx t5 hbl HX how hg
              go_wp2_with fail
              exact ⟨⟨i + 1, rfl, ⟨T5.out.trans ((tn_set _ _ _ _).mono (fun k _ q => by have := HG.out; omega)), _, (List.length_set ..).trans hl', fun _ => ⟨g, rfl, HG.out, BL.out.set (by omega) _⟩⟩⟩, by simp [intOf]; omega⟩
            · have ci2 : ¬ (↑i : Int) < ↑l.length := by omega
              have HD6 := Aside0.mk (HD5.out.turn t5 (by have := LT5.out; omega) (by have := LT5.out; omega) (by have := LT5.out; omega) (by have := LT5.out; omega))
              have B6 := Aside0.mk (Tn.below B5.out t5 B5.out.size (fun k q => by have := LB.out; omega))
              clear t5 how HX hl'
              go_wp2_with fail
              refine (dr_any HD6.out (by omega) k l.length (by omega)).mono ?_
              rintro e w7 ⟨A7, c7, rfl, ho7, hb7⟩
              have ho7' := Eq.mp (congrArg (Ow w7 wr.heap.size A7) (sp_at (List.replicate 512 0) l k (by rw [List.length_replicate]; exact hk))) ho7
              have OW7 := Aside0.mk ho7'
              have B7 := Aside0.mk (below_step B6.out hb7)
              clear ho7 ho7' hb7
              have sq1 : (convert 22 9 (.slice A7 l.length c7)).run Try.prog w7 = .ok (.string (strOfNums l)) w7 := C_str (l := l) (OW7.out.C (by omega)) c7
              have sq2 : (convert 22 9 (.slice (some a0) l.length c0)).run Try.prog w7 = .ok (.string (strOfNums l)) w7 := C_str (l := l) (Kd.C_below HC.out B7.out) c0
              rw [HSR.out] at sq1 sq2
              go_wp2_with fail
              go_ret
              exact ⟨rfl, B7.out⟩
    · refine (dw_no HD2.out (by omega) at_ Ao l.length co (by omega) hf).mono ?_
      rintro e w3 ⟨rfl, hb⟩
      have OW3 := Aside0.mk (OW.out.below hb)
      have B3 := Aside0.mk (below_step B2.out hb)
      clear hb hf
      have sq1 : (convert 22 9 (.slice Ao l.length co)).run Try.prog w3 = .ok (.string (strOfNums l)) w3 := C_str (l := l) (OW3.out.C (by omega)) co
      have sq2 : (convert 22 9 (.slice (some a0) l.length c0)).run Try.prog w3 = .ok (.string (strOfNums l)) w3 := C_str (l := l) (Kd.C_below HC.out B3.out) c0
      have sb : ((strOfNums l).toList == (strOfNums l).toList) = true := beq_self_eq_true _
      have nb : ((strOfNums l).toList != (strOfNums l).toList) = false := bne_self_eq_false _
      obtain ⟨sr, hsr⟩ : ∃ sr, strOfNums l = sr := ⟨_, rfl⟩
      rw [hsr] at sq1 sq2 sb nb
      have HSR := Aside0.mk hsr
      clear hsr
      go_wp2_with fail
      clear sq1 sq2
      have OWL := OW3
      go_loopw [11] (fun v11 wr => ∃ i : Nat, v11 = .int .i64 ↑i ∧ Aside0 (Tn (fun k => w1.heap.size ≤ k) w3 wr ∧ ∃ l' : List Int, l'.length = l.length ∧ Ow wr w1.heap.size Ao l')) (fun v11 _ => (l.length - intOf v11).toNat)
      case atStart => exact ⟨0, rfl, ⟨Tn.refl _ _, l, rfl, OWL.out⟩⟩
      case round =>
        obtain ⟨i, rfl, HX⟩ := hrel
        obtain ⟨t5, l', hl', how⟩ := HX.out
        by_cases ci : i < l.length
        · have ci2 : (↑i : Int) < ↑l.length := by omega
          have i0' : (0 : Int) ≤ ↑i := by omega
          obtain ⟨x, hx⟩ : ∃ x, l'[i]? = some x := ⟨l'[i], List.getElem?_eq_getElem (by omega)⟩
          obtain ⟨g, e, hg, hbl⟩ := how (by omega)
          subst e
          have c := hbl.cell hx
          have f : wr.frozen? ⟨g, i, none⟩ = false := by obtain ⟨rs, hr⟩ := hbl; exact blk_frozen hr i
          have T5 := Aside0.mk t5
          have BL := Aside0.mk hbl
          have HG := Aside0.mk hg
          clear hx t5 hbl HX how hg
          go_wp2_with fail
          exact ⟨⟨i + 1, rfl, ⟨T5.out.trans ((tn_set _ _ _ _).mono (fun k _ q => by have := HG.out; omega)), _, (List.length_set ..).trans hl', fun _ => ⟨g, rfl, HG.out, BL.out.set (by omega) _⟩⟩⟩, by simp [intOf]; omega⟩
        · have ci2 : ¬ (↑i : Int) < ↑l.length := by omega
          have B4 := Aside0.mk (Tn.below B3.out t5 B3.out.size (fun k q => by have := B1.out.size; omega))
          clear t5 how HX hl'
          go_wp2_with fail
          go_ret
          exact ⟨rfl, B4.out⟩

end Go.Proofs.Ythblaehmdailhaa.PJournalStays
