import Derived.Test.YthblaehmdailhaaJW
namespace Go.Proofs.Ythblaehmdailhaa.PJournalStays
open Go.RowKit Go.Proofs.YthblaehmdailhaaW.PrintWords Go.Proofs.YthblaehmdailhaaW.PrintLast Go.Proofs.YthblaehmdailhaaW.PrintMore
set_option linter.unusedVariables false
set_option linter.unusedSimpArgs false
attribute [local go_sem high] slEq slNe slEq0 slNe0 cerEqI cerEqL cerEqR cerNeI cerNeL cerNeR
theorem arg_at {w : World} {A : Option Addr} {n : Nat} {xs : List (List Int)} (h : Kd.C (Kd.slice 5 (Kd.int .u8)) w A n xs) {i : Nat} {r : List Int} (hi : xs[i]? = some r) (hn : i < n) : ∃ ad A0 c0, A = some ad ∧ w.cell? (ad.add i) = some (.slice A0 r.length c0) ∧ r.length ≤ c0 ∧ Kd.C (Kd.int .u8) w A0 r.length r := by
  obtain ⟨ad, c, e, _, hK, hc0⟩ := Kd.C_get h ([] : List Int) (i : Int) (by omega) (by omega)
  have hc : ∀ j u, c[j]? = some u → w.cell? (ad.add ((i : Int).toNat * 1 + j)) = some u := hc0
  obtain ⟨A0, c0, rfl, l0, g0⟩ := hK
  have e2 : xs.getD (i : Int).toNat [] = r := by rw [Int.toNat_natCast, List.getD_eq_getElem?_getD, hi]; rfl
  rw [e2] at hc l0 g0
  exact ⟨ad, A0, c0, e, by have hq := hc 0 _ rfl; rwa [Nat.mul_one, Nat.add_zero, Int.toNat_natCast] at hq, l0, g0⟩
theorem Rs.turn2 {S : Nat → Prop} {w W : World} {base : Nat} {bad : Nat → Prop} {v : Value} {rs : List (List Int)} (h : Rs w base bad v rs) (t : Tn S w W) (h1 : ∀ k, v.ownBlock = some k → ¬ S k) (h2 : ∀ k c, S k → w.heap[k]? = some (.cells c 5 (0, 0)) → bad k) : Rs W base bad v rs := by
  obtain ⟨vs, ho, hr⟩ := h
  refine ⟨vs, own_turn ho t h1, fun i r hi => ?_⟩
  obtain ⟨g, o, c, a1, a2, a3, a4, a5, a6, a7, cs, a8⟩ := hr i r hi
  have hn : ¬ S g := fun q => a4 (h2 g cs q a8)
  exact ⟨g, o, c, a1, a2.turn t hn, a3, a4, a5, a6, a7, cs, t.blk a8 hn⟩
theorem Rs.olt {w : World} {base : Nat} {bad : Nat → Prop} {v : Value} {rs : List (List Int)} (h : Rs w base bad v rs) {k : Nat} (hk : v.ownBlock = some k) : base ≤ k ∧ k < w.heap.size ∧ ∃ cs, w.heap[k]? = some (.cells cs 22 (0, 0)) := by
  obtain ⟨vs, ho, -⟩ := h
  obtain ⟨cs, hc⟩ := own_typed ho hk
  exact ⟨own_base ho hk, blk_lt hc, cs, hc⟩
theorem Wt.olt {w : World} {base : Nat} {v : Value} {rs : List (List Int)} (h : Wt w base v rs) {k : Nat} (hk : v.ownBlock = some k) : base ≤ k ∧ k < w.heap.size ∧ ∃ cs, w.heap[k]? = some (.cells cs 22 (0, 0)) := by
  obtain ⟨vs, ho, -⟩ := h
  obtain ⟨cs, hc⟩ := own_typed ho hk
  exact ⟨own_base ho hk, blk_lt hc, cs, hc⟩
/-- A row of the law's own turns: the journal stays. -/
theorem JS.row {w W : World} {B bj bd bs bn bm n N : Nat} {v vw : Value} {rs : List (List Int)} (h : JS w B bj bd bs bn bm n v rs N) (t : Tn (fun k => vw.ownBlock = some k) w W) (hw : ∀ k, vw.ownBlock = some k → ∃ cs, w.heap[k]? = some (.cells cs 22 (0, 0))) (hne : ∀ k, vw.ownBlock = some k → v.ownBlock ≠ some k) : JS W B bj bd bs bn bm n v rs N := by
  obtain ⟨st, D, hd⟩ := h.d
  have hj := h.j
  refine ⟨t.blk h.j (fun q => ?_), h.r.turn2 t (fun k hk q => hne k q hk) (fun k c q hc => ?_), ⟨st, D, hd.turn t (fun q => ?_) (fun q => ?_) (fun q => ?_) (fun q => ?_)⟩, h.e⟩
  · obtain ⟨cs, hc⟩ := hw _ q
    unfold Jb at hj
    exact ty_ne hj hc (by decide)
  · obtain ⟨cs, hc'⟩ := hw _ q
    exact (ty_ne hc hc' (by decide)).elim
  · obtain ⟨cs, hc⟩ := hw _ q
    exact ty_ne hd.hd hc (by decide)
  · obtain ⟨cs, hc⟩ := hw _ q
    obtain ⟨r, hr⟩ := hd.hs
    exact ty_ne hr hc (by decide)
  · obtain ⟨cs, hc⟩ := hw _ q
    obtain ⟨r, hr⟩ := hd.hn
    exact ty_ne hr hc (by decide)
  · obtain ⟨cs, hc⟩ := hw _ q
    obtain ⟨es, cl, hm⟩ := hd.map
    rw [hm] at hc
    cases hc
/-- What holds ahead of each round. -/
structure TW (w wr : World) (bj bd bs bn bm n i : Nat) (v vw : Value) (rs : List (List Int)) (N : Nat) : Prop where
  j : JS wr w.heap.size bj bd bs bn bm n v rs N
  t : Wt wr w.heap.size vw rs
  b : Below w.heap.size w wr
  hN : N ≤ 1024 + i * 2010
  y : ∀ r ∈ rs, ∀ x ∈ r, 0 ≤ x ∧ x ≤ 255
  ne : ∀ k, vw.ownBlock = some k → v.ownBlock ≠ some k
  l : rs.length ≤ i
  il : i ≤ 60
/-- The journal's own doings leave the law's row. -/
theorem Wt.away {w wr W : World} {bj bd bs bn bm n N : Nat} {v vw : Value} {rs rs2 : List (List Int)} (h : Wt wr w.heap.size vw rs2) (hJ : JS wr w.heap.size bj bd bs bn bm n v rs N) (g1 : w.heap.size ≤ bs ∧ w.heap.size ≤ bn ∧ w.heap.size ≤ bm ∧ w.heap.size ≤ bj) (ne : ∀ k, vw.ownBlock = some k → v.ownBlock ≠ some k) (t : Tn (fun k => k = bs ∨ k = bn ∨ k = bm ∨ k = bj ∨ v.ownBlock = some k) wr W) : Wt W w.heap.size vw rs2 := by
  obtain ⟨st, D, hd⟩ := hJ.d
  have hj := hJ.j
  refine h.turn t (fun k q => ?_) (fun k hk q => ?_)
  · rcases q with q | q | q | q | q
    · omega
    · omega
    · omega
    · omega
    · exact (hJ.r.olt q).1
  · obtain ⟨-, -, cs, hc⟩ := h.olt hk
    rcases q with q | q | q | q | q
    · obtain ⟨r, hr⟩ := hd.hs
      exact ty_ne hr (q ▸ hc) (by decide)
    · obtain ⟨r, hr⟩ := hd.hn
      exact ty_ne hr (q ▸ hc) (by decide)
    · obtain ⟨es, cl, hm⟩ := hd.map
      rw [q, hm] at hc
      cases hc
    · unfold Jb at hj
      exact ty_ne hj (q ▸ hc) (by decide)
    · exact ne k hk q
theorem jt_ok {n en len : Nat} (h : jmay n en len = none) : 1 ≤ len ∧ len ≤ 1024 ∧ en + 8 + len ≤ n := by
  unfold jmay jfree at h
  split at h
  · cases h
  · split at h
    · cases h
    · omega
theorem Src.lt {w : World} {ad : Addr} {l : List Int} (h : Src w ad l) (hl : 1 ≤ l.length) : ad.block < w.heap.size := by
  have := World.block_lt_of_cell? w _ (h 0 l[0] (List.getElem?_eq_getElem (by omega)))
  have hb : (ad.add 0).block = ad.block := by unfold Addr.add; split <;> rfl
  rwa [hb] at this
set_option maxRecDepth 100000 in
theorem jt_pick (c : Int) (w : World) (h0 : -9223372036854775808 ≤ c) (h1 : c ≤ 9223372036854775807) : Calls Try.prog 26 #[.int .i64 c, .int .i64 16] w fun e w' => (∃ p : Int, 0 ≤ p ∧ p < 16 ∧ e = .returned (.int .i64 p)) ∧ Below w.heap.size w w' := by
  by_cases cc : c < 0
  · have cb : decide (c < 0) = true := decide_eq_true cc
    go_enter Try.func26, Try.ntmps26
    go_wp2
    go_ret
    have e : -(c + 1).tmod 16 = -(c + 1) % 16 := by rw [← Int.neg_tmod, Int.tmod_eq_emod_of_nonneg (by omega)]
    exact ⟨⟨_, by omega, by omega, rfl⟩, Below.refl _ _⟩
  · have cb : decide (c < 0) = false := decide_eq_false cc
    go_enter Try.func26, Try.ntmps26
    go_wp2
    go_ret
    exact ⟨⟨_, by omega, by omega, rfl⟩, Below.refl _ _⟩
set_option maxHeartbeats 4000000 in
set_option maxRecDepth 100000 in
theorem jtw_main (c : Int) (A0 : Option Addr) (c0 : Nat) (L : List (List Int)) (w : World) (h0 : -9223372036854775808 ≤ c) (h1 : c ≤ 9223372036854775807) (hr : Kd.C (Kd.slice 5 (Kd.int .u8)) w A0 L.length L) (hl : L.length ≤ 60) (hby : ∀ r ∈ L, ∀ x ∈ r, 0 ≤ x ∧ x ≤ 255) : Calls Try.prog 6 #[.int .i64 c, .slice A0 L.length c0] w fun e w' => e = .returned (.bool true) ∧ Below w.heap.size w w' := by
  have U := Aside0.mk (fun W => jy_up W)
  have PK := Aside0.mk (fun W => jt_pick c W h0 h1)
  have HRR := Aside0.mk hr
  have HBY := Aside0.mk hby
  have lb : decide ((60 : Int) < ↑L.length) = false := decide_eq_false (by omega)
  clear hr hby
  go_enter Try.func6, Try.ntmps6
  go_wp2_with fail
  refine (U.out _).mono ?_
  rintro e w0 ⟨rfl, hb⟩
  have B0 := Aside0.mk hb
  clear hb
  go_wp2_with fail
  refine (PK.out _).mono ?_
  rintro e w01 ⟨⟨p, hp0, hp1, rfl⟩, hb⟩
  have B01 := Aside0.mk (below_step B0.out hb)
  clear hb
  go_wp2_with fail
  refine (jd_new (1 + p) _ (by omega) (by omega)).mono ?_
  rintro e w1 ⟨bd, bs, bn, bm, rfl, hD, g1, g2, g3, g4, hb⟩
  obtain ⟨n, hn⟩ : ∃ n, ((1 + p) * 64).toNat = n := ⟨_, rfl⟩
  rw [hn] at hD
  have hn1 : 64 ≤ n ∧ n ≤ 1024 := by omega
  have HD1 := Aside0.mk hD
  have B1 := Aside0.mk (below_step B01.out hb)
  have G1 : Aside0 (w.heap.size ≤ bd ∧ w.heap.size ≤ bs ∧ w.heap.size ≤ bn ∧ w.heap.size ≤ bm) := ⟨by have := B01.out.size; omega⟩
  clear hD g1 g2 g3 g4 hb hn
  go_wp2_with fail
  refine (js_new w.heap.size B1.out.size HD1.out (by omega) (by omega) (by omega)).mono ?_
  rintro e w2 ⟨bj, v, rfl, hbj, hJ, hv, ht⟩
  have HJ2 := Aside0.mk hJ
  have B2 := Aside0.mk (Tn.below B1.out ht B1.out.size (fun k q => by have := G1.out; rcases q with q | q | q <;> omega))
  have HV2 := Aside0.mk hv
  have HBJ : Aside0 (w.heap.size ≤ bj) := ⟨Nat.le_trans B1.out.size hbj⟩
  clear hJ hv ht hbj
  go_wp2_with fail
  have HTW : Aside0 (TW w w2 bj bd bs bn bm n 0 v (.slice none 0 0) [] (0 + n)) := ⟨⟨HJ2.out, Wt.nil _ _, B2.out, by omega, (fun r hr => by cases hr), (fun k hk => by cases hk), Nat.le_refl _, by omega⟩⟩
  have GB : Aside0 (w.heap.size ≤ bs ∧ w.heap.size ≤ bn ∧ w.heap.size ≤ bm ∧ w.heap.size ≤ bj) := ⟨⟨G1.out.2.1, G1.out.2.2.1, G1.out.2.2.2, HBJ.out⟩⟩
  clear HD1 B1 B0 B01 HJ2 B2 HV2
  go_loopw [10, 11] (fun v10 v11 wr => ∃ i : Nat, v11 = .int .i64 ↑i ∧ Aside0 (∃ v rs N, TW w wr bj bd bs bn bm n i v v10 rs N)) (fun _ v11 _ => (L.length - intOf v11).toNat)
  case atStart => exact ⟨0, rfl, ⟨_, _, _, HTW.out⟩⟩
  case round =>
    obtain ⟨i, rfl, HX⟩ := hrel
    obtain ⟨v, rs, N, hT⟩ := HX.out
    have HT := Aside0.mk hT
    clear hT HX
    by_cases ci : i < L.length
    · have ci2 : (↑i : Int) < ↑L.length := by omega
      have i0' : (0 : Int) ≤ ↑i := by omega
      obtain ⟨r, hr⟩ : ∃ r, L[i]? = some r := ⟨L[i], List.getElem?_eq_getElem ci⟩
      have hmem := List.mem_of_getElem? hr
      obtain ⟨ad, A1, c1, rfl, hcell, hc1, hC⟩ := arg_at HRR.out hr ci
      have CW := Aside0.mk hcell
      have hcell := (HT.out.b.cell (World.block_lt_of_cell? w _ hcell)).trans hcell
      have HC := Aside0.mk hC
      have HM := Aside0.mk hmem
      have hr63 : r.length ≤ 9223372036854775807 := hC.2.1
      clear hr hmem hC
      by_cases c2 : 2000 < r.length
      · have c2b : decide ((2000 : Int) < ↑r.length) = true := decide_eq_true (by omega)
        go_wp2_with fail
        go_ret
        exact ⟨rfl, HT.out.b⟩
      · have c2b : decide ((2000 : Int) < ↑r.length) = false := decide_eq_false (by omega)
        rcases hm : jmay n (enc rs).length r.length with _ | c
        · have hok := jt_ok hm
          obtain ⟨ar, rfl, sr⟩ := Src.of_C HC.out (by omega)
          have sl := sr.lt hok.1
          have gb := GB.out
          have AP := js_append HT.out.j HT.out.b.size (by omega) ar r c1 (sr.below HT.out.b) ⟨by omega, by omega, by omega⟩ hok.1 hok.2.1 (by omega) (by have := HT.out.hN; omega)
          have SR := Aside0.mk (And.intro sr sl)
          have HOK := Aside0.mk hok
          have h1024 : r.length ≤ 1024 := hok.2.1
          clear hm sr sl gb hok
          go_wp2_with fail
          refine AP.mono ?_
          rintro e w5 ⟨rfl, v5, hJ5, t5, hv5⟩
          have WT5 := HT.out.t.away HT.out.j GB.out HT.out.ne t5
          have b5 := Tn.below HT.out.b t5 HT.out.b.size (fun k q => by
            have gb := GB.out
            rcases q with q | q | q | q | q
            · omega
            · omega
            · omega
            · omega
            · exact (HT.out.j.r.olt q).1)
          have hne5 : ∀ k, u10.ownBlock = some k → v5.ownBlock ≠ some k := fun k hk hq => by
            rcases hv5 with q | ⟨k', q, hk'⟩
            · exact HT.out.ne k hk (by rw [← q]; exact hq)
            · rw [hq] at q
              have := (HT.out.t.olt hk).2.1
              cases q
              omega
          obtain ⟨vs, ho, hvs⟩ := WT5
          have HO := Aside0.mk ho
          have HVS := Aside0.mk hvs
          have B5 := Aside0.mk b5
          have HJ5 := Aside0.mk hJ5
          have NE5 := Aside0.mk hne5
          obtain ⟨i0, hi, hz0, hz1, hz2⟩ := info_parts jo_info
          have HI := Aside0.mk hi
          have hcell0 := ((b5.cell (World.block_lt_of_cell? w _ (show w.cell? (ad.add i) = _ from CW.out))).trans CW.out)
          have hrsl := HT.out.l
          clear AP ho hvs hJ5 t5 hv5 hne5 hi hcell
          have hcell := hcell0
          clear hcell0 b5
          go_wp2_with (at_builtin; refine wpList_append_own_at _ rfl _ _ 44 rfl w.heap.size 22 i0 (.slice none 0 0) 1 24 Try.underlying44 HI.out hz0 hz1 hz2 rfl (by decide) u10 rs.length vs rfl (HO.out.alloc _) ⟨w5.heap.size, 0, none⟩ 1 1 [.slice (some ar) r.length c1] rfl rfl (jo_one _ _) (by simp [Value.oneCell']) (by unfold maxLen; omega) (by omega) (by have := B5.out.size; simp; omega) ?_; intro vw6 w6 hown6 hgrow6 hnil6 hloc6)
          have t6 := jn_tn hgrow6
          refine ⟨⟨i + 1, rfl, ⟨v5, rs ++ [r], N + r.length + 8, HJ5.out.row t6 (fun k hk => own_typed HO.out hk) NE5.out, Wt.snoc HO.out HVS.out hgrow6 hown6 (SR.out.1.below B5.out) (by omega) SR.out.2, Tn.below B5.out t6 B5.out.size (fun k q => own_base HO.out q), by have := HT.out.hN; omega, fun q hq => ?_, fun k hk hq => ?_, by rw [List.length_append]; simp; omega, by omega⟩⟩, by simp [intOf]; omega⟩
          · rcases List.mem_append.1 hq with hq | hq
            · exact HT.out.y q hq
            · obtain rfl := List.mem_singleton.1 hq
              exact HBY.out q HM.out
          · rcases hloc6 with q | q
            · exact NE5.out k (by rw [← q]; exact hk) hq
            · rw [hk] at q
              have := (HJ5.out.r.olt hq).2.1
              cases q
              simp at this
              omega
        · have RF := js_refuse HT.out.j (by omega) A1 r.length c1 (by omega) c hm
          go_wp2_with fail
          refine RF.mono ?_
          rintro e w4 ⟨rfl, hb⟩
          have HB4 := Aside0.mk hb
          clear RF hb hm
          go_wp2_with fail
          exact ⟨⟨i + 1, rfl, ⟨v, rs, N, HT.out.j.below HB4.out, HT.out.t.below HB4.out, below_step HT.out.b HB4.out, by have := HT.out.hN; omega, HT.out.y, HT.out.ne, by have := HT.out.l; omega, by omega⟩⟩, by simp [intOf]; omega⟩
    · have ci2 : ¬ (↑i : Int) < ↑L.length := by omega
      go_wp2_with fail
      obtain ⟨st, D, hd⟩ := HT.out.j.d
      have hNN := HT.out.hN
      have hil := HT.out.l
      have hi60 := HT.out.il
      have OP := js_open w.heap.size HT.out.b.size hd (by have := HT.out.j.e; omega) HT.out.j.r.lens HT.out.y (by omega) (by omega) (by omega)
      refine OP.mono ?_
      rintro e w5 ⟨bk, v2, rfl, hbk, hJ2, hv2, t5⟩
      have gb := GB.out
      have WT5 : Wt w5 w.heap.size u10 rs := HT.out.t.turn t5 (fun k q => by rcases q with q | q | q <;> omega) (fun k hk q => by
        obtain ⟨-, -, cs, hc⟩ := HT.out.t.olt hk
        rcases q with q | q | q
        · obtain ⟨r, hr⟩ := hd.hs
          exact ty_ne hr (q ▸ hc) (by decide)
        · obtain ⟨r, hr⟩ := hd.hn
          exact ty_ne hr (q ▸ hc) (by decide)
        · obtain ⟨es, cl, hm⟩ := hd.map
          rw [q, hm] at hc
          cases hc)
      have HW5 := Aside0.mk WT5
      have HJ5 : Aside0 (JS w5 w.heap.size bj bd bs bn bm n v rs (N + n)) := ⟨⟨HT.out.j.j.disk hd t5, rs_disk HT.out.j.r (Or.inl rfl) (Or.inr rfl) hd t5, hJ2.d, hJ2.e⟩⟩
      have HK5 := Aside0.mk hJ2
      have B5 := Aside0.mk (Tn.below HT.out.b t5 HT.out.b.size (fun k q => by rcases q with q | q | q <;> omega))
      have HRL : Aside0 (rs.length ≤ 60) := ⟨by omega⟩
      clear OP hd hbk hJ2 hv2 t5 WT5 gb hNN hil hi60
      go_wp2_with fail
      refine (js_free HK5.out (by omega)).mono ?_
      rintro e w6 ⟨rfl, hb6⟩
      have Z6 := Aside0.mk hb6
      clear hb6
      go_wp2_with fail
      refine (js_free (HJ5.out.below Z6.out) (by omega)).mono ?_
      rintro e w7 ⟨rfl, hb7⟩
      have Z7 := Aside0.mk (below_step Z6.out hb7)
      clear hb7
      generalize jfree n (enc rs).length = fr
      have fb : (fr != fr) = false := bne_self_eq_false _
      go_wp2_with fail
      refine (js_records (HK5.out.below Z7.out) (by omega)).mono ?_
      rintro e w8 ⟨vr, rfl, hr8, hb8⟩
      have RV1 := Aside0.mk hr8.rv
      have RV2 := Aside0.mk ((HW5.out.below Z7.out).below hb8).rv
      have B8 := Aside0.mk (below_step (below_step B5.out Z7.out) hb8)
      obtain ⟨Ar, cr, rfl⟩ := hr8.sl
      obtain ⟨Aw, cw, ew, -⟩ := RV2.out
      subst ew
      clear hr8 hb8
      have lb2 : ((↑rs.length : Int) != ↑rs.length) = false := bne_self_eq_false _
      go_wp2_with fail
      obtain ⟨_, _, ea, h0v⟩ := RV1.out
      injection ea with ea1 ea2 ea3
      subst ea1
      subst ea3
      obtain ⟨_, _, eb, h1v⟩ := RV2.out
      injection eb with eb1 eb2 eb3
      subst eb1
      subst eb3
      have H0 := Aside0.mk h0v
      have H1 := Aside0.mk h1v
      clear h0v h1v ea2 eb2
      go_loopw [16] (fun v16 wq => ∃ j : Nat, v16 = .int .i64 ↑j ∧ Aside0 (Below w8.heap.size w8 wq)) (fun v16 _ => (rs.length - intOf v16).toNat)
      case atStart => exact ⟨0, rfl, ⟨Below.refl _ _⟩⟩
      case round =>
        obtain ⟨j, rfl, HX⟩ := hrel
        by_cases cj : j < rs.length
        · have cj2 : (↑j : Int) < ↑rs.length := by omega
          have hrl60 := HRL.out
          have j0' : (0 : Int) ≤ ↑j := by omega
          obtain ⟨r, hr⟩ : ∃ r, rs[j]? = some r := ⟨rs[j], List.getElem?_eq_getElem cj⟩
          obtain ⟨gA, ad0, k0, e0, a0, b0, d0⟩ := H0.out j r hr
          obtain ⟨gB, ad1, k1, e1, a1, b1, d1⟩ := H1.out j r hr
          subst e0
          subst e1
          have a0 := (HX.out.cell (World.block_lt_of_cell? w8 _ a0)).trans a0
          have a1 := (HX.out.cell (World.block_lt_of_cell? w8 _ a1)).trans a1
          have z0 := gb_cell (World.block_lt_of_cell? wr ⟨gA, j, none⟩ a0) a0
          have z1 := gb_cell (World.block_lt_of_cell? wr ⟨gB, j, none⟩ a1) a1
          have S0 := fun p : GWrld wr => ((b0.below HX.out).below p.b).str k0 d0
          have S1 := fun p : GWrld wr => ((b1.below HX.out).below p.b).str k1 d1
          clear hr b0 b1 d0 d1 a0 a1
          generalize r.length = rl at z0 z1 S0 S1
          have sb : ((strOfNums r).toList != (strOfNums r).toList) = false := bne_self_eq_false _
          generalize strOfNums r = sr at S0 S1 sb
          go_wp2_with fail
          refine gb_region (by kernel_rfl) (by kernel_rfl) ?_
          repeat (go_big_quiet_step (fail))
          refine wpQuiet_nil ?_
          intro _ hw'
          obtain ⟨gq, hw''⟩ := hw'
          subst hw''
          have BQ := Aside0.mk (below_step HX.out gq.b)
          go_wp2_with fail
          exact ⟨⟨j + 1, rfl, ⟨BQ.out⟩⟩, by simp [intOf]; omega⟩
        · have cj2 : ¬ (↑j : Int) < ↑rs.length := by omega
          go_wp2_with fail
          go_ret
          exact ⟨rfl, below_step B8.out HX.out⟩
set_option maxRecDepth 100000 in
theorem jtw_long (c : Int) (A0 : Option Addr) (c0 : Nat) (L : List (List Int)) (w : World) (h0 : -9223372036854775808 ≤ c) (h1 : c ≤ 9223372036854775807) (hl : 60 < L.length) (hm : L.length ≤ 9223372036854775807) : Calls Try.prog 6 #[.int .i64 c, .slice A0 L.length c0] w fun e w' => e = .returned (.bool true) ∧ Below w.heap.size w w' := by
  have U := Aside0.mk (fun W => jy_up W)
  have PK := Aside0.mk (fun W => jt_pick c W h0 h1)
  have lb : decide ((60 : Int) < ↑L.length) = true := decide_eq_true (by omega)
  go_enter Try.func6, Try.ntmps6
  go_wp2_with fail
  refine (U.out _).mono ?_
  rintro e w0 ⟨rfl, hb⟩
  have B0 := Aside0.mk hb
  clear hb
  go_wp2_with fail
  refine (PK.out _).mono ?_
  rintro e w01 ⟨⟨p, hp0, hp1, rfl⟩, hb⟩
  have B01 := Aside0.mk (below_step B0.out hb)
  clear hb
  go_wp2_with fail
  refine (jd_new (1 + p) _ (by omega) (by omega)).mono ?_
  rintro e w1 ⟨bd, bs, bn, bm, rfl, -, -, -, -, -, hb⟩
  have B1 := Aside0.mk (below_step B01.out hb)
  clear hb
  go_wp2_with fail
  go_ret
  exact ⟨rfl, B1.out⟩

end Go.Proofs.Ythblaehmdailhaa.PJournalStays
