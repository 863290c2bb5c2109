import Derived.Test.YthblaehmdailhaaJDN
namespace Go.Proofs.Ythblaehmdailhaa.PJournalStays
open Go.RowKit Go.Proofs.YthblaehmdailhaaW.PrintWords Go.Proofs.YthblaehmdailhaaW.PrintLast Go.Proofs.YthblaehmdailhaaW.PrintMore
set_option linter.unusedVariables false
set_option linter.unusedSimpArgs false
attribute [local go_sem high] slEq slNe slEq0 slNe0 cerEqI cerEqL cerEqR cerNeI cerNeL cerNeR
theorem sp_get (L cs : List Int) (off p : Nat) (h : off + cs.length ≤ L.length) : (splice L off cs)[p]? = if off ≤ p ∧ p < off + cs.length then cs[p - off]? else L[p]? := by
  unfold splice
  have e : (L.take off).length = off := by rw [List.length_take]; omega
  by_cases h1 : p < off
  · rw [if_neg (by omega), List.getElem?_append_left (by omega), List.getElem?_take, if_pos h1]
  · rw [List.getElem?_append_right (by omega), e]
    by_cases h2 : p < off + cs.length
    · rw [if_pos ⟨by omega, h2⟩, List.getElem?_append_left (by omega)]
    · rw [if_neg (by omega), List.getElem?_append_right (by omega), List.getElem?_drop]
      congr 1
      omega
theorem crash_step {st nw : List Int} {ks : List Nat} {P : List Int} {n : Nat} (h1 : st.length = n) (h2 : nw.length = n) (hk : ∀ b ∈ ks, b * 64 + 64 ≤ n) (i b p : Nat) (hb : ks[i]? = some b) :
    (crashN st nw ks P (i + 1))[p]? = if b * 64 ≤ p ∧ p < b * 64 + keepN P i then nw[p]? else (crashN st nw ks P i)[p]? := by
  have hl := crashN_length h1 h2 hk (P := P) i
  have kl := keepN_le P i
  have hm := hk b (List.mem_of_getElem? hb)
  have e : ((nw.drop (b * 64)).take (keepN P i)).length = keepN P i := by rw [List.length_take, List.length_drop]; omega
  have ec : crashN st nw ks P (i + 1) = splice (crashN st nw ks P i) (b * 64) ((nw.drop (b * 64)).take (keepN P i)) := by
    show (match ks[i]? with | some b => splice (crashN st nw ks P i) (b * 64) ((nw.drop (b * 64)).take (keepN P i)) | none => crashN st nw ks P i) = _
    rw [hb]
  rw [ec, sp_get _ _ _ _ (by rw [e]; omega), e]
  by_cases c : b * 64 ≤ p ∧ p < b * 64 + keepN P i
  · rw [if_pos c, if_pos c, List.getElem?_take, if_pos (by omega), List.getElem?_drop]
    congr 1
    omega
  · rw [if_neg c, if_neg c]
theorem crash_none {st nw : List Int} {ks : List Nat} {P : List Int} (i : Nat) (h : ks[i]? = none) : crashN st nw ks P (i + 1) = crashN st nw ks P i := by
  show (match ks[i]? with | some b => splice (crashN st nw ks P i) (b * 64) ((nw.drop (b * 64)).take (keepN P i)) | none => crashN st nw ks P i) = _
  rw [h]
theorem crash_at {st nw : List Int} {ks : List Nat} {P : List Int} {n : Nat} (h1 : st.length = n) (h2 : nw.length = n) (hk : ∀ b ∈ ks, b * 64 + 64 ≤ n) (i p : Nat) : (crashN st nw ks P i)[p]? = st[p]? ∨ (crashN st nw ks P i)[p]? = nw[p]? := by
  induction i with
  | zero => exact Or.inl rfl
  | succ i ih =>
    cases hb : ks[i]? with
    | none => rw [crash_none i hb]; exact ih
    | some b =>
      rw [crash_step h1 h2 hk i b p hb]
      split
      · exact Or.inr rfl
      · exact ih
theorem crash_full {st nw : List Int} {ks : List Nat} {P : List Int} {n : Nat} (h1 : st.length = n) (h2 : nw.length = n) (hk : ∀ b ∈ ks, b * 64 + 64 ≤ n) (hP : ∀ j, j < ks.length → keepN P j = 64) (hs : ∀ p, p / 64 ∈ ks ∨ st[p]? = nw[p]?) : crashN st nw ks P ks.length = nw := by
  have key : ∀ i, i ≤ ks.length → ∀ p j, j < i → ks[j]? = some (p / 64) → (crashN st nw ks P i)[p]? = nw[p]? := by
    intro i
    induction i with
    | zero => intro _ p j hj; omega
    | succ i ih =>
      intro hi p j hj hp
      obtain ⟨b, hb⟩ : ∃ b, ks[i]? = some b := ⟨ks[i], List.getElem?_eq_getElem (by omega)⟩
      rw [crash_step h1 h2 hk i b p hb, hP i (by omega)]
      by_cases c : b * 64 ≤ p ∧ p < b * 64 + 64
      · rw [if_pos c]
      · rw [if_neg c]
        have hj2 : j < i := by
          rcases Nat.lt_succ_iff_lt_or_eq.1 hj with h | rfl
          · exact h
          · rw [hb] at hp; have := Option.some.inj hp; omega
        exact ih (by omega) p j hj2 hp
  apply List.ext_getElem?
  intro p
  rcases hs p with h | h
  · obtain ⟨j, hj, e⟩ := List.getElem_of_mem h
    exact key _ (Nat.le_refl _) p j hj (by rw [List.getElem?_eq_getElem hj, e])
  · rcases crash_at h1 h2 hk (P := P) ks.length p with e | e
    · rw [e, h]
    · exact e
theorem asc_ge : ∀ (l : List Nat) (c : Nat), l.Pairwise (· < ·) → (∀ b ∈ l, c ≤ b) → ∀ i (h : i < l.length), c + i ≤ l[i] := by
  intro l
  induction l with
  | nil => intro c _ _ i h; cases h
  | cons a t ih =>
    intro c hp hc i h
    rcases i with _ | i
    · exact hc a (List.mem_cons_self ..)
    · have ha := hc a (List.mem_cons_self ..)
      have := ih (a + 1) (List.pairwise_cons.1 hp).2 (fun b hb => (List.pairwise_cons.1 hp).1 b hb) i (by simpa using h)
      simp only [List.getElem_cons_succ]
      omega
theorem asc_len {l : List Nat} {M : Nat} (hp : l.Pairwise (· < ·)) (hM : ∀ b ∈ l, b < M) : l.length ≤ M := by
  by_cases c : l.length ≤ M
  · exact c
  · have := asc_ge l 0 hp (fun b _ => Nat.zero_le b) M (by omega)
    have := hM l[M] (List.getElem_mem _)
    omega
theorem ks_dirt (at_ k M : Nat) (h : at_ + k ≤ M * 64) : ∃ ks, Ks (dirt (.map [] : DataW Unit) at_ k) ks ∧ (∀ b ∈ ks, b * 64 + 64 ≤ M * 64) ∧ ks.length ≤ M ∧ ∀ i, i < k → (at_ + i) / 64 ∈ ks := by
  obtain ⟨ks, hk, hm⟩ := Ks.dirt Go.Maps.isMap_empty Ks.nil at_ k
  have hb : ∀ b ∈ ks, b < M := fun b hb => by
    rcases (hm b).1 hb with h | ⟨i, h1, h2⟩
    · cases h
    · omega
  exact ⟨ks, hk, fun b q => by have := hb b q; omega, asc_len hk.1 hb, fun i hi => (hm _).2 (Or.inr ⟨i, hi, rfl⟩)⟩
theorem Pk.of_C {w : World} {A : Option Addr} {l : List Int} (h : Kd.C (Kd.int .i64) w A l.length l) : ∀ (i : Nat) (p : Int), l[i]? = some p → ∃ ad, A = some ad ∧ w.cell? (ad.add i) = some (.int .i64 p) := by
  intro i p hi
  obtain ⟨ad, e, hc⟩ := h.2.2 (by have := (List.getElem?_eq_some_iff.1 hi).1; omega)
  refine ⟨ad, e, ?_⟩
  obtain ⟨c, hl, hk, hcell⟩ := hc i p hi
  have hk : c = [.int .i64 p] := hk
  subst hk
  have := hcell 0 _ rfl
  exact (congrArg (fun z => w.cell? (ad.add z)) (by show i = i * 1 + 0; omega)).trans this
theorem pk_crash {w W : World} {A : Option Addr} {l : List Int} {bs : Nat} (h : Kd.C (Kd.int .i64) w A l.length l) (hb : Below w.heap.size w W) (g : w.heap.size ≤ bs) : ∀ (i : Nat) (p : Int), l[i]? = some p → ∃ ad, A = some ad ∧ ad.block ≠ bs ∧ W.cell? (ad.add i) = some (.int .i64 p) := by
  intro i p hi
  obtain ⟨ad, e, hc⟩ := Pk.of_C h i p hi
  have lt := World.block_lt_of_cell? w _ hc
  refine ⟨ad, e, ?_, (hb.cell lt).trans hc⟩
  rw [ad_block] at lt
  omega
theorem sz_row (w : World) (i : Nat) (p : Int) (h : ([64, 64, 64, 64, 64, 64, 64, 64] : List Int)[i]? = some p) : (w.alloc (.cells #[.int .i64 64, .int .i64 64, .int .i64 64, .int .i64 64, .int .i64 64, .int .i64 64, .int .i64 64, .int .i64 64] 3)).cell? ⟨w.heap.size, i, none⟩ = some (.int .i64 p) := by
  refine (blk_cell (blk_new w _) i).trans ?_
  rcases i with _ | _ | _ | _ | _ | _ | _ | _ | i
  all_goals first | (have e := Option.some.inj h; subst e; rfl) | cases h
theorem sz_keep (j : Nat) (h : j < 8) : keepN [64, 64, 64, 64, 64, 64, 64, 64] j = 64 := by
  rcases j with _ | _ | _ | _ | _ | _ | _ | _ | j
  all_goals first | rfl | omega
theorem dk_cr (a b P : List Int) (ks : List Nat) (k m : Nat) (hk : k + a.length ≤ 512) (hm : m + b.length ≤ 512) (hkb : ∀ b ∈ ks, b * 64 + 64 ≤ 512) :
    (crashN (splice (List.replicate 512 0) k a) (splice (splice (List.replicate 512 0) k a) m b) ks P ks.length).length = 512 ∧
    ∀ i x, a[i]? = some x → ∃ y, (crashN (splice (List.replicate 512 0) k a) (splice (splice (List.replicate 512 0) k a) m b) ks P ks.length)[k + i]? = some y ∧ (y = x ∨ (m ≤ k + i ∧ k + i < m + b.length ∧ b[k + i - m]? = some y)) := by
  have z : (List.replicate 512 (0 : Int)).length = 512 := List.length_replicate
  have l1 : (splice (List.replicate 512 0) k a).length = 512 := (length_splice _ _ _ (by rw [z]; exact hk)).trans z
  have l2 : (splice (splice (List.replicate 512 0) k a) m b).length = 512 := (length_splice _ _ _ (by rw [l1]; exact hm)).trans l1
  refine ⟨crashN_length l1 l2 hkb _, fun i x hx => ?_⟩
  have hi : i < a.length := (List.getElem?_eq_some_iff.1 hx).1
  have e1 : (splice (List.replicate 512 0) k a)[k + i]? = some x := by
    rw [sp_get _ _ _ _ (by rw [z]; exact hk), if_pos (by omega), ← hx]
    congr 1
    omega
  have e2 := sp_get (splice (List.replicate 512 0) k a) b m (k + i) (by rw [l1]; exact hm)
  rcases crash_at l1 l2 hkb (P := P) ks.length (k + i) with h | h
  · exact ⟨x, h.trans e1, Or.inl rfl⟩
  · rw [e2] at h
    by_cases c : m ≤ k + i ∧ k + i < m + b.length
    · rw [if_pos c] at h
      have hb : k + i - m < b.length := by omega
      refine ⟨b[k + i - m], h.trans (List.getElem?_eq_getElem hb), Or.inr ⟨c.1, c.2, List.getElem?_eq_getElem hb⟩⟩
    · rw [if_neg c] at h
      exact ⟨x, h.trans e1, Or.inl rfl⟩
theorem dk_sz (cr b : List Int) (ks : List Nat) (m : Nat) (hl : cr.length = 512) (hm : m + b.length ≤ 512) (hkb : ∀ b ∈ ks, b * 64 + 64 ≤ 512) (hkl : ks.length ≤ 8) (hkm : ∀ i, i < b.length → (m + i) / 64 ∈ ks) : crashN cr (splice cr m b) ks [64, 64, 64, 64, 64, 64, 64, 64] ks.length = splice cr m b := by
  refine crash_full hl ((length_splice _ _ _ (by rw [hl]; exact hm)).trans hl) hkb (fun j hj => sz_keep j (by omega)) (fun p => ?_)
  rw [sp_get _ _ _ _ (by rw [hl]; exact hm)]
  by_cases c : m ≤ p ∧ p < m + b.length
  · left
    have := hkm (p - m) (by omega)
    rwa [show m + (p - m) = p by omega] at this
  · right
    rw [if_neg c]
set_option maxHeartbeats 2000000 in
set_option maxRecDepth 100000 in
theorem dk_main (at_ : Int) (A0 : Option Addr) (c0 : Nat) (a : List Int) (on : Int) (A1 : Option Addr) (c1 : Nat) (b : List Int) (A2 : Option Addr) (c2 : Nat) (P : List Int) (w : World) (h0 : -9223372036854775808 ≤ at_) (h1 : at_ ≤ 9223372036854775807) (h2 : -9223372036854775808 ≤ on) (h3 : on ≤ 9223372036854775807) (hr0 : Kd.C (Kd.int .u8) w A0 a.length a) (hr1 : Kd.C (Kd.int .u8) w A1 b.length b) (hr2 : Kd.C (Kd.int .i64) w A2 P.length P) (la : a.length ≤ 500) (lb : b.length ≤ 500) (lp : P.length ≤ 2000) (hP : ∀ p ∈ P, -9223372036854775808 ≤ p ∧ p ≤ 9223372036854775807) :
    Calls Try.prog 9 #[.int .i64 at_, .slice A0 a.length c0, .int .i64 on, .slice A1 b.length c1, .slice A2 P.length c2] w fun e w' => e = .returned (.bool true) ∧ Below w.heap.size w w' := by
  have U := Aside0.mk (fun W => d_up W)
  have ea : decide ((500 : Int) < ↑a.length) = false := decide_eq_false (by omega)
  have eb : decide ((500 : Int) < ↑b.length) = false := decide_eq_false (by omega)
  have ep : decide ((2000 : Int) < ↑P.length) = false := decide_eq_false (by omega)
  have HA := Aside0.mk hr0
  have HB := Aside0.mk hr1
  have HC := Aside0.mk hr2
  have HPB := Aside0.mk hP
  clear hr0 hr1 hr2 hP
  go_enter Try.func9, Try.ntmps9
  go_wp2_with fail
  refine (U.out _).mono ?_
  rintro e w0 ⟨rfl, hb⟩
  have B0 := Aside0.mk hb
  clear hb
  go_wp2_with fail
  refine (jd_new 8 _ (by decide) (by decide)).mono ?_
  rintro e w1 ⟨bd, bs, bn, bm, rfl, hD, g1, g2, g3, g4, hb⟩
  have HD1 := Aside0.mk (show Dk w1 bd bs bn bm 512 (List.replicate 512 0) (List.replicate 512 0) 0 (.map []) from hD)
  have B1 := Aside0.mk (below_step B0.out hb)
  have G1 : Aside0 (w.heap.size ≤ bd ∧ w.heap.size ≤ bs ∧ w.heap.size ≤ bn ∧ w.heap.size ≤ bm) := ⟨by have := B0.out.size; omega⟩
  clear hD g1 g2 g3 g4 hb
  have NE : Aside0 (bd ≠ bs) := ⟨fun q => by obtain ⟨r, hr⟩ := HD1.out.hs; exact ty_ne (q ▸ HD1.out.hd) hr (by decide)⟩
  go_wp2_with fail
  by_cases hf : 0 ≤ at_ ∧ at_ + a.length ≤ 512
  · obtain ⟨k, rfl⟩ : ∃ k : Nat, at_ = ↑k := ⟨at_.toNat, by omega⟩
    have hk : k + a.length ≤ 512 := by omega
    clear hf
    refine (dw_any HD1.out (by omega) (by omega) k A0 a c0 (Kd.C_below HA.out B1.out) hk (by omega)).mono ?_
    rintro e w2 ⟨rfl, hD, ht⟩
    have HD2 := Aside0.mk hD
    have B2 := Aside0.mk (Tn.below B1.out ht B1.out.size (fun j q => by have := G1.out; rcases q with q | q <;> omega))
    clear hD ht
    go_wp2_with fail
    refine (jd_sync HD2.out (by decide) (by decide) NE.out).mono ?_
    rintro e w3 ⟨rfl, hD, ht⟩
    have HD3 := Aside0.mk hD
    have B3 := Aside0.mk (Tn.below B2.out ht B2.out.size (fun j q => by have := G1.out; rcases q with q | q <;> omega))
    clear hD ht
    go_wp2_with fail
    by_cases hg : 0 ≤ on ∧ on + b.length ≤ 512
    · obtain ⟨m, rfl⟩ : ∃ m : Nat, on = ↑m := ⟨on.toNat, by omega⟩
      have hm : m + b.length ≤ 512 := by omega
      clear hg
      refine (dw_any HD3.out (by omega) (by omega) m A1 b c1 (Kd.C_below HB.out B3.out) hm (by omega)).mono ?_
      rintro e w4 ⟨rfl, hD, ht⟩
      have HD4 := Aside0.mk hD
      have B4 := Aside0.mk (Tn.below B3.out ht B3.out.size (fun j q => by have := G1.out; rcases q with q | q <;> omega))
      obtain ⟨ks, hks, hkb, hkl, hkm⟩ := ks_dirt m b.length 8 (by omega)
      have HK := Aside0.mk (And.intro hks (And.intro hkb (And.intro hkl hkm)))
      clear hD ht hks hkb hkl hkm
      go_wp2_with fail
      refine (jd_crash HD4.out HK.out.1 HK.out.2.1 (by omega) (by decide) (by decide) A2 P c2 (by omega) (pk_crash HC.out B4.out G1.out.2.1) HPB.out).mono ?_
      rintro e w5 ⟨rfl, hD, ht⟩
      have HD5 := Aside0.mk hD
      have B5 := Aside0.mk (Tn.below B4.out ht B4.out.size (fun j q => by have := G1.out; rcases q with q | q | q <;> omega))
      clear hD ht
      go_wp2_with fail
      obtain ⟨cl, cf⟩ := dk_cr a b P ks k m hk hm HK.out.2.1
      obtain ⟨cr, hcr⟩ : ∃ cr, crashN (splice (List.replicate 512 0) k a) (splice (splice (List.replicate 512 0) k a) m b) ks P ks.length = cr := ⟨_, rfl⟩
      rw [hcr] at cl cf HD5
      have CF := Aside0.mk cf
      clear hcr cf HD4 HD3 HD2 HD1
      refine (dr_any HD5.out (by omega) k a.length (by omega)).mono ?_
      rintro e w6 ⟨A6, c6, rfl, ho, hb⟩
      have OW6 := Aside0.mk ho
      have HD6 := Aside0.mk (HD5.out.below hb)
      have B6 := Aside0.mk (below_step B5.out hb)
      clear ho hb HD5
      go_wp2_with fail
      go_loopw [18] (fun v18 wr => ∃ i : Nat, v18 = .int .i64 ↑i ∧ Aside0 (i ≤ a.length ∧ Below w6.heap.size w6 wr)) (fun v18 _ => (a.length - intOf v18).toNat)
      case atStart => exact ⟨0, rfl, ⟨Nat.zero_le _, Below.refl _ _⟩⟩
      case round =>
        obtain ⟨i, rfl, HX⟩ := hrel
        by_cases ci : i < a.length
        · have ci2 : (↑i : Int) < ↑a.length := by omega
          have i0' : (0 : Int) ≤ ↑i := by omega
          obtain ⟨x, hx⟩ : ∃ x, a[i]? = some x := ⟨a[i], List.getElem?_eq_getElem (by omega)⟩
          obtain ⟨y, hy, hyx⟩ := CF.out i x hx
          obtain ⟨g, e, -, hbl⟩ := OW6.out (by rw [List.length_take, List.length_drop]; omega)
          subst e
          obtain ⟨a0, e, hs0⟩ := Src.of_C HA.out (by omega)
          subst e
          have k0 := hbl.cell (j := i) (x := y) (by rw [List.getElem?_take, if_pos ci, List.getElem?_drop]; exact hy)
          have c6' : ∀ p : GWrld wr, p.w'.cell? ⟨g, i, none⟩ = some (.int .u8 y) := fun p => ((below_step HX.out.2 p.b).cell (World.block_lt_of_cell? w6 _ k0)).trans k0
          have k1 := hs0 i x hx
          have c1' : ∀ p : GWrld wr, p.w'.cell? (a0.add i) = some (.int .u8 x) := fun p => ((below_step (below_step B6.out HX.out.2) p.b).cell (World.block_lt_of_cell? w _ k1)).trans k1
          have hq : ∀ q : Int, q = ↑k + ↑i → -9223372036854775808 ≤ q ∧ q ≤ 9223372036854775807 := fun q h => by omega
          clear hq
          clear k0 k1 hy hbl hs0 hx
          by_cases o1 : (↑m : Int) ≤ ↑k + ↑i
          · by_cases o2 : (↑k + ↑i : Int) < ↑m + ↑b.length
            · by_cases yx : y = x
              · subst yx
                clear hyx
                go_wp2_with fail
                refine gb_region (by kernel_rfl) (by kernel_rfl) ?_
                repeat (go_big_quiet_step (fail))
                refine wpQuiet_nil ?_
                intro _ hw'
                obtain ⟨gq, hw''⟩ := hw'
                subst hw''
                go_wp2_with fail
                exact ⟨⟨i + 1, rfl, ⟨by omega, below_step HX.out.2 gq.b⟩⟩, by simp [intOf]; omega⟩

              · obtain ⟨-, -, hz⟩ := hyx.resolve_left yx
                obtain ⟨a1, e, hs1⟩ := Src.of_C HB.out (by omega)
                subst e
                have k3 := hs1 (k + i - m) y hz
                have c3' : ∀ p : GWrld wr, p.w'.cell? (a1.add (k + i - m)) = some (.int .u8 y) := fun p => ((below_step (below_step B6.out HX.out.2) p.b).cell (World.block_lt_of_cell? w _ k3)).trans k3
                have ne1 : (y == x) = false := beq_eq_false_iff_ne.2 yx
                have ne2 : (y != x) = true := bne_iff_ne.2 yx
                have z3 : (0 : Int) ≤ ↑k + ↑i - ↑m := by omega
                have z4 : (↑k + ↑i - ↑m : Int) < ↑b.length := by omega
                have z5 : (↑k + ↑i - ↑m : Int).toNat = k + i - m := by omega
                clear k3 hs1 hz hyx yx
                go_wp2_with fail
                refine gb_region (by kernel_rfl) (by kernel_rfl) ?_
                repeat (go_big_quiet_step (fail))
                refine wpQuiet_nil ?_
                intro _ hw'
                obtain ⟨gq, hw''⟩ := hw'
                subst hw''
                go_wp2_with fail
                exact ⟨⟨i + 1, rfl, ⟨by omega, below_step HX.out.2 gq.b⟩⟩, by simp [intOf]; omega⟩

            · have yx : y = x := hyx.resolve_right (fun h => by omega)
              subst yx
              clear hyx
              go_wp2_with fail
              refine gb_region (by kernel_rfl) (by kernel_rfl) ?_
              repeat (go_big_quiet_step (fail))
              refine wpQuiet_nil ?_
              intro _ hw'
              obtain ⟨gq, hw''⟩ := hw'
              subst hw''
              go_wp2_with fail
              exact ⟨⟨i + 1, rfl, ⟨by omega, below_step HX.out.2 gq.b⟩⟩, by simp [intOf]; omega⟩

          · have yx : y = x := hyx.resolve_right (fun h => by omega)
            subst yx
            clear hyx
            go_wp2_with fail
            refine gb_region (by kernel_rfl) (by kernel_rfl) ?_
            repeat (go_big_quiet_step (fail))
            refine wpQuiet_nil ?_
            intro _ hw'
            obtain ⟨gq, hw''⟩ := hw'
            subst hw''
            go_wp2_with fail
            exact ⟨⟨i + 1, rfl, ⟨by omega, below_step HX.out.2 gq.b⟩⟩, by simp [intOf]; omega⟩

        · have ci2 : ¬ (↑i : Int) < ↑a.length := by omega
          have HD7 := Aside0.mk (HD6.out.below HX.out.2)
          have B7 := Aside0.mk (below_step B6.out HX.out.2)
          clear HX
          go_wp2_with fail
          refine (dw_any HD7.out (by omega) (by omega) m A1 b c1 (Kd.C_below HB.out B7.out) hm (by omega)).mono ?_
          rintro e w8 ⟨rfl, hD, ht⟩
          have HD8 := Aside0.mk hD
          have B8 := Aside0.mk (Tn.below B7.out ht B7.out.size (fun j q => by have := G1.out; rcases q with q | q <;> omega))
          clear hD ht HD7
          go_wp2_with fail
          have al := below_alloc (Below.refl w8.heap.size w8) (.cells #[.int .i64 64, .int .i64 64, .int .i64 64, .int .i64 64, .int .i64 64, .int .i64 64, .int .i64 64, .int .i64 64] 3)
          have B9 := Aside0.mk (below_step B8.out al)
          refine (jd_crash (HD8.out.below al) HK.out.1 HK.out.2.1 (by omega) (by decide) (by decide) (some ⟨w8.heap.size, 0, none⟩) [64, 64, 64, 64, 64, 64, 64, 64] 8 (by decide) (fun i p h => ⟨_, rfl, fun q => by have := HD8.out.hs.lt; rw [← show w8.heap.size = bs from q] at this; omega, by rw [ad_add, Nat.zero_add]; exact sz_row w8 i p h⟩) (fun p h => by simp at h; omega)).mono ?_
          rintro e w10 ⟨rfl, hD, ht⟩
          rw [dk_sz cr b ks m cl hm HK.out.2.1 HK.out.2.2.1 HK.out.2.2.2] at hD
          have HD10 := Aside0.mk hD
          have B10 := Aside0.mk (Tn.below B9.out ht B9.out.size (fun j q => by have := G1.out; rcases q with q | q | q <;> omega))
          clear hD ht HD8 al
          go_wp2_with fail
          refine (dr_any HD10.out (by omega) m b.length (by omega)).mono ?_
          rintro e w11 ⟨A11, c11, rfl, ho, hb⟩
          rw [sp_at _ _ _ (by rw [cl]; exact hm)] at ho
          have B11 := Aside0.mk (below_step B10.out hb)
          have sq1 := C_str (ho.C (by omega)) c11
          have sq2 := C_str (Kd.C_below HB.out B11.out) c1
          have sb : ((strOfNums b).toList == (strOfNums b).toList) = true := beq_self_eq_true _
          clear ho hb HD10
          go_wp2_with fail
          go_ret
          exact ⟨rfl, B11.out⟩
    · refine (dw_no HD3.out (by omega) on A1 b.length c1 (by omega) hg).mono ?_
      rintro e w4 ⟨rfl, hb⟩
      have HD4 := Aside0.mk (HD3.out.below hb)
      have B4 := Aside0.mk (below_step B3.out hb)
      clear hb hg
      go_wp2_with fail
      refine (jd_crash HD4.out Ks.nil (fun b h => by cases h) (by omega) (by decide) (by decide) A2 P c2 (by omega) (pk_crash HC.out B4.out G1.out.2.1) HPB.out).mono ?_
      rintro e w5 ⟨rfl, hD, ht⟩
      have HD5 := Aside0.mk hD
      have B5 := Aside0.mk (Tn.below B4.out ht B4.out.size (fun j q => by have := G1.out; rcases q with q | q | q <;> omega))
      clear hD ht
      go_wp2_with fail
      go_ret
      exact ⟨rfl, B5.out⟩
  · refine (dw_no HD1.out (by omega) at_ A0 a.length c0 (by omega) hf).mono ?_
    rintro e w2 ⟨rfl, hb⟩
    have HD2 := Aside0.mk (HD1.out.below hb)
    have B2 := Aside0.mk (below_step B1.out hb)
    clear hb hf
    go_wp2_with fail
    refine (jd_sync HD2.out (by decide) (by decide) NE.out).mono ?_
    rintro e w3 ⟨rfl, hD, ht⟩
    have HD3 := Aside0.mk hD
    have B3 := Aside0.mk (Tn.below B2.out ht B2.out.size (fun j q => by have := G1.out; rcases q with q | q <;> omega))
    clear hD ht
    go_wp2_with fail
    by_cases hg : 0 ≤ on ∧ on + b.length ≤ 512
    · obtain ⟨m, rfl⟩ : ∃ m : Nat, on = ↑m := ⟨on.toNat, by omega⟩
      have hm : m + b.length ≤ 512 := by omega
      clear hg
      refine (dw_any HD3.out (by omega) (by omega) m A1 b c1 (Kd.C_below HB.out B3.out) hm (by omega)).mono ?_
      rintro e w4 ⟨rfl, hD, ht⟩
      have HD4 := Aside0.mk hD
      have B4 := Aside0.mk (Tn.below B3.out ht B3.out.size (fun j q => by have := G1.out; rcases q with q | q <;> omega))
      obtain ⟨ks, hks, hkb, hkl, hkm⟩ := ks_dirt m b.length 8 (by omega)
      have HK := Aside0.mk (And.intro hks (And.intro hkb (And.intro hkl hkm)))
      clear hD ht hks hkb hkl hkm
      go_wp2_with fail
      refine (jd_crash HD4.out HK.out.1 HK.out.2.1 (by omega) (by decide) (by decide) A2 P c2 (by omega) (pk_crash HC.out B4.out G1.out.2.1) HPB.out).mono ?_
      rintro e w5 ⟨rfl, hD, ht⟩
      have HD5 := Aside0.mk hD
      have B5 := Aside0.mk (Tn.below B4.out ht B4.out.size (fun j q => by have := G1.out; rcases q with q | q | q <;> omega))
      clear hD ht
      go_wp2_with fail
      go_ret
      exact ⟨rfl, B5.out⟩
    · refine (dw_no HD3.out (by omega) on A1 b.length c1 (by omega) hg).mono ?_
      rintro e w4 ⟨rfl, hb⟩
      have HD4 := Aside0.mk (HD3.out.below hb)
      have B4 := Aside0.mk (below_step B3.out hb)
      clear hb hg
      go_wp2_with fail
      refine (jd_crash HD4.out Ks.nil (fun b h => by cases h) (by omega) (by decide) (by decide) A2 P c2 (by omega) (pk_crash HC.out B4.out G1.out.2.1) HPB.out).mono ?_
      rintro e w5 ⟨rfl, hD, ht⟩
      have HD5 := Aside0.mk hD
      have B5 := Aside0.mk (Tn.below B4.out ht B4.out.size (fun j q => by have := G1.out; rcases q with q | q | q <;> omega))
      clear hD ht
      go_wp2_with fail
      go_ret
      exact ⟨rfl, B5.out⟩


end Go.Proofs.Ythblaehmdailhaa.PJournalStays
