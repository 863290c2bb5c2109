import Derived.Test.YthblaehmdailhaaJX
namespace Go.Proofs.Ythblaehmdailhaa.PJournalStays
open Go.RowKit Go.Proofs.YthblaehmdailhaaW.PrintWords Go.Proofs.YthblaehmdailhaaW.PrintLast Go.Proofs.YthblaehmdailhaaW.PrintMore
set_option linter.unusedVariables false
set_option linter.unusedSimpArgs false
theorem enc_snoc_len (rs : List (List Int)) (l : List Int) : (enc (rs ++ [l])).length = (enc rs).length + (8 + l.length) := by
  rw [enc_snoc, List.length_append, List.length_append]
  rfl
theorem js_append {w : World} {B bj bd bs bn bm n N : Nat} {v : Value} {rs : List (List Int)} (h : JS w B bj bd bs bn bm n v rs N) (hB : B ≤ w.heap.size) (hn : n ≤ 65536) (ad : Addr) (l : List Int) (cap : Nat) (hs : Src w ad l) (hb : ad.block ≠ bs ∧ ad.block ≠ bn ∧ ad.block ≠ bm) (h1 : 1 ≤ l.length) (h2 : l.length ≤ 1024) (h3 : (enc rs).length + 8 + l.length ≤ n) (hN : N + l.length + 8 < 4294967296) :
    Calls Try.prog 24 #[.pointer (some ⟨bj, 0, none⟩), .slice (some ad) l.length cap] w fun e w' => e = .returned .nilIface ∧ ∃ v', JS w' B bj bd bs bn bm n v' (rs ++ [l]) (N + l.length + 8) ∧ Tn (fun k => k = bs ∨ k = bn ∨ k = bm ∨ k = bj ∨ v.ownBlock = some k) w w' ∧ (v'.ownBlock = v.ownBlock ∨ ∃ k, v'.ownBlock = some k ∧ w.heap.size ≤ k) := by
  obtain ⟨st, D, hD⟩ := h.d
  have he := enc_len rs
  refine (ja_ok h.j h.r (Or.inl rfl) (Or.inr rfl) (fun k q => by rcases q with rfl | rfl; exact hD.hs.lt; exact hD.hn.lt) hB hD hn ad l cap hs hb h1 h2 h3 hN (by omega)).mono ?_
  rintro e w' ⟨rfl, v', hj, hr, ⟨D', hd⟩, ht, hv⟩
  have hl := enc_snoc_len rs l
  rw [splice_put (enc rs) l (hdl ↑l.length) (n - (enc rs).length) rfl (by omega), ← enc_snoc, show n - (enc rs).length - (8 + l.length) = n - (enc (rs ++ [l])).length by omega] at hd
  exact ⟨rfl, v', ⟨by rw [hl]; exact hj, hr, ⟨_, D', hd⟩, by omega⟩, ht, hv⟩
theorem js_refuse {w : World} {B bj bd bs bn bm n N : Nat} {v : Value} {rs : List (List Int)} (h : JS w B bj bd bs bn bm n v rs N) (hn : n ≤ 65536) (A : Option Addr) (len cap : Nat) (hl : len ≤ 65536) (c : Int) (hc : jmay n (enc rs).length len = some c) :
    Calls Try.prog 24 #[.pointer (some ⟨bj, 0, none⟩), .slice A len cap] w fun e w' => e = .returned (.iface 55 (.int .i64 c)) ∧ Below w.heap.size w w' := by
  obtain ⟨st, D, hD⟩ := h.d
  exact ja_fail h.j hD hn h.e A len cap hl c hc
theorem js_free {w : World} {B bj bd bs bn bm n N : Nat} {v : Value} {rs : List (List Int)} (h : JS w B bj bd bs bn bm n v rs N) (hn : n ≤ 65536) : Calls Try.prog 25 #[.pointer (some ⟨bj, 0, none⟩)] w fun e w' => e = .returned (.int .i64 (jfree n (enc rs).length)) ∧ Below w.heap.size w w' := by
  obtain ⟨st, D, hD⟩ := h.d
  exact jp_free h.j hD hn h.e
theorem js_records {w : World} {B bj bd bs bn bm n N : Nat} {v : Value} {rs : List (List Int)} (h : JS w B bj bd bs bn bm n v rs N) (hn : n ≤ 65536) : Calls Try.prog 23 #[.pointer (some ⟨bj, 0, none⟩)] w fun e w' => ∃ vo, e = .returned vo ∧ Rs w' w.heap.size (fun _ => False) vo rs ∧ Below w.heap.size w w' :=
  jq_records h.j h.r (by have := enc_len rs; have := h.e; omega)
theorem JS.lts {w : World} {B bj bd bs bn bm n N : Nat} {v : Value} {rs : List (List Int)} (h : JS w B bj bd bs bn bm n v rs N) : bs < w.heap.size ∧ bn < w.heap.size ∧ bm < w.heap.size ∧ bj < w.heap.size ∧ bd < w.heap.size := by
  obtain ⟨st, D, hd⟩ := h.d
  obtain ⟨es, cl, hm⟩ := hd.map
  exact ⟨hd.hs.lt, hd.hn.lt, blk_lt hm, blk_lt h.j, blk_lt hd.hd⟩
/-- A disk that is new, and its journal. -/
theorem js_new {w : World} {bd bs bn bm n : Nat} {N : Nat} {D : DataW Unit} {st : List Int} (B : Nat) (hB : B ≤ w.heap.size) (h : Dk w bd bs bn bm n st (List.replicate n 0) N D) (hn : n ≤ 65536) (n0 : 8 < n) (hN : N + n < 4294967296) :
    Calls Try.prog 16 #[.pointer (some ⟨bd, 0, none⟩)] w fun e w' => ∃ bj v, e = .returned (.tuple #[.pointer (some ⟨bj, 0, none⟩), .nilIface]) ∧ w.heap.size ≤ bj ∧ JS w' B bj bd bs bn bm n v [] (N + n) ∧ (∀ k, v.ownBlock = some k → B ≤ k) ∧ Tn (fun k => k = bs ∨ k = bn ∨ k = bm) w w' :=
  js_open (rs := []) (k := n) B hB h (by show 0 + n = n; omega) (fun r hr => by cases hr) (fun r hr => by cases hr) hn n0 hN
theorem Blk.str {w : World} {g : Nat} {l : List Int} (h : Blk w g l) (c : Nat) (hl : l.length ≤ 65536) : (convert 22 9 (.slice (some ⟨g, 0, none⟩) l.length c)).run Try.prog w = .ok (.string (strOfNums l)) w :=
  Kd.C_string (P := Try.prog) Try.underlying22 Try.underlying5 Try.underlying9 (h.src0.C (by omega))
theorem Src.str {w : World} {ad : Addr} {l : List Int} (h : Src w ad l) (c : Nat) (hl : l.length ≤ 65536) : (convert 22 9 (.slice (some ad) l.length c)).run Try.prog w = .ok (.string (strOfNums l)) w :=
  Kd.C_string (P := Try.prog) Try.underlying22 Try.underlying5 Try.underlying9 (h.C (by omega))
theorem cerEqI (a b : Int) (w : World) : (binOp .eql 26 (.iface 55 (.int .i64 a)) (.iface 55 (.int .i64 b))).run Try.prog w = .ok (.bool (a == b)) w := by
  obtain ⟨ms, hi⟩ : ∃ ms, Try.prog.underlying 26 = some (.interface ms) := ⟨_, Try.underlying26⟩
  obtain ⟨i, hi2, hc⟩ := Option.map_eq_some_iff.1 (show (Try.prog.info? 55).map (·.comparable) = some true by kernel_rfl)
  have hn : Try.prog.underlying 55 = some (.int .i64) := Try.underlying55
  have h : ∀ d, (Op.equalIn (d + 2) 26 (.iface 55 (.int .i64 a)) (.iface 55 (.int .i64 b))).run Try.prog w = .ok (a == b) w := fun d => by simp [Op.equalIn, run_underlying hi, run_underlying hn, typeInfo, hi2, hc]
  simp only [binOp]
  simp [Op.equal, Op.maxDepth, h 9998, bne]
theorem cerEqL (b : Int) (w : World) : (binOp .eql 26 (.nilIface) (.iface 55 (.int .i64 b))).run Try.prog w = .ok (.bool false) w := by
  obtain ⟨ms, hi⟩ : ∃ ms, Try.prog.underlying 26 = some (.interface ms) := ⟨_, Try.underlying26⟩
  have h : ∀ d, (Op.equalIn (d + 2) 26 (.nilIface) (.iface 55 (.int .i64 b))).run Try.prog w = .ok false w := fun d => by simp [Op.equalIn, run_underlying hi]
  simp only [binOp]
  simp [Op.equal, Op.maxDepth, h 9998]
theorem cerEqR (b : Int) (w : World) : (binOp .eql 26 (.iface 55 (.int .i64 b)) (.nilIface)).run Try.prog w = .ok (.bool false) w := by
  obtain ⟨ms, hi⟩ : ∃ ms, Try.prog.underlying 26 = some (.interface ms) := ⟨_, Try.underlying26⟩
  have h : ∀ d, (Op.equalIn (d + 2) 26 (.iface 55 (.int .i64 b)) (.nilIface)).run Try.prog w = .ok false w := fun d => by simp [Op.equalIn, run_underlying hi]
  simp only [binOp]
  simp [Op.equal, Op.maxDepth, h 9998]
theorem cerNeI (a b : Int) (w : World) : (binOp .neq 26 (.iface 55 (.int .i64 a)) (.iface 55 (.int .i64 b))).run Try.prog w = .ok (.bool (a != b)) w := by
  obtain ⟨ms, hi⟩ : ∃ ms, Try.prog.underlying 26 = some (.interface ms) := ⟨_, Try.underlying26⟩
  obtain ⟨i, hi2, hc⟩ := Option.map_eq_some_iff.1 (show (Try.prog.info? 55).map (·.comparable) = some true by kernel_rfl)
  have hn : Try.prog.underlying 55 = some (.int .i64) := Try.underlying55
  have h : ∀ d, (Op.equalIn (d + 2) 26 (.iface 55 (.int .i64 a)) (.iface 55 (.int .i64 b))).run Try.prog w = .ok (a == b) w := fun d => by simp [Op.equalIn, run_underlying hi, run_underlying hn, typeInfo, hi2, hc]
  simp only [binOp]
  simp [Op.equal, Op.maxDepth, h 9998, bne]
theorem cerNeL (b : Int) (w : World) : (binOp .neq 26 (.nilIface) (.iface 55 (.int .i64 b))).run Try.prog w = .ok (.bool true) w := by
  obtain ⟨ms, hi⟩ : ∃ ms, Try.prog.underlying 26 = some (.interface ms) := ⟨_, Try.underlying26⟩
  have h : ∀ d, (Op.equalIn (d + 2) 26 (.nilIface) (.iface 55 (.int .i64 b))).run Try.prog w = .ok false w := fun d => by simp [Op.equalIn, run_underlying hi]
  simp only [binOp]
  simp [Op.equal, Op.maxDepth, h 9998]
theorem cerNeR (b : Int) (w : World) : (binOp .neq 26 (.iface 55 (.int .i64 b)) (.nilIface)).run Try.prog w = .ok (.bool true) w := by
  obtain ⟨ms, hi⟩ : ∃ ms, Try.prog.underlying 26 = some (.interface ms) := ⟨_, Try.underlying26⟩
  have h : ∀ d, (Op.equalIn (d + 2) 26 (.iface 55 (.int .i64 b)) (.nilIface)).run Try.prog w = .ok false w := fun d => by simp [Op.equalIn, run_underlying hi]
  simp only [binOp]
  simp [Op.equal, Op.maxDepth, h 9998]
attribute [local go_sem high] slEq slNe slEq0 slNe0 cerEqI cerEqL cerEqR cerNeI cerNeL cerNeR
set_option maxHeartbeats 1000000 in
set_option maxRecDepth 100000 in
theorem jy_up (w : World) : Calls Try.prog 12 #[] w fun e w' => e = .returned (.bool true) ∧ Below w.heap.size w w' := by
  have B0 := Aside0.mk (Nat.le_refl w.heap.size)
  go_enter Try.func12, Try.ntmps12
  go_wp2_with fail
  refine (jd_new 1 w (by decide) (by decide)).mono ?_
  rintro e w1 ⟨bd, bs, bn, bm, rfl, hD, g1, g2, g3, g4, hb⟩
  have HD1 := Aside0.mk hD
  have G1 := Aside0.mk (And.intro g1 (And.intro g2 (And.intro g3 (And.intro g4 hb))))
  clear hD g1 g2 g3 g4 hb
  go_wp2_with fail
  refine (js_new w.heap.size G1.out.2.2.2.2.size HD1.out (by decide) (by decide) (by decide)).mono ?_
  rintro e w2 ⟨bj, v, rfl, hbj, hJ, hv, ht⟩
  have HJ2 := Aside0.mk hJ
  have B2 := Aside0.mk (Tn.below G1.out.2.2.2.2 ht G1.out.2.2.2.2.size (fun k q => by have := G1.out; rcases q with q | q | q <;> omega))
  have HV := Aside0.mk hv
  have HBJ := Aside0.mk hbj
  clear hJ hv ht hbj
  go_wp2_with fail
  have L2 := HJ2.out.lts
  have AP := js_append (HJ2.out.below (below_alloc (Below.refl _ _) (.cells #[.int .u8 5] 5))) (by have := B2.out.size; simp; omega) (by decide) ⟨w2.heap.size, 0, none⟩ [5] 1 (jh_src1 w2 5) ⟨by show w2.heap.size ≠ bs; omega, by show w2.heap.size ≠ bn; omega, by show w2.heap.size ≠ bm; omega⟩ (by decide) (by decide) (by decide) (by decide)
  clear L2
  refine AP.mono ?_
  rintro e w3 ⟨rfl, v', hJ3, t3, hv3⟩
  have HJ3 := Aside0.mk hJ3
  have B3 := Aside0.mk (Tn.below (below_alloc B2.out (.cells #[.int .u8 5] 5)) t3 (below_alloc B2.out _).size (fun k q => by
    have h1 := G1.out
    have h2 := HBJ.out
    have h3 := h1.2.2.2.2.size
    rcases q with q | q | q | q | q
    · omega
    · omega
    · omega
    · omega
    · exact HV.out k q))
  clear AP hJ3 t3 hv3
  obtain ⟨st3, D3, hd3⟩ := HJ3.out.d
  have HD3 := Aside0.mk hd3
  clear hd3
  go_wp2_with fail
  refine (jd_read HD3.out 0 9 (by decide) (by decide) (by decide)).mono ?_
  rintro e w4 ⟨gr, cr, rfl, hgr, hbr, hcr, hb4⟩
  have hbr' : Blk w4 gr [1, 0, 0, 0, 254, 255, 255, 255, 5] := hbr
  have BR := Aside0.mk hbr'
  have B4 := Aside0.mk (below_step B3.out hb4)
  clear hgr hbr hbr' hcr hb4
  go_wp2_with fail
  refine (jq_nil _).mono ?_
  rintro e w5 ⟨rfl, hb5⟩
  have BR5 := Aside0.mk (BR.out.turn (S := fun _ => False) (Tn.of_below hb5) id)
  have B5 := Aside0.mk (below_step B4.out hb5)
  clear hb5
  have sq : (convert 22 9 (.slice (some ⟨gr, 0, none⟩) 9 cr)).run Try.prog w5 = .ok (.string ⟨#[1, 0, 0, 0, 254, 255, 255, 255, 5]⟩) w5 := (BR5.out.str cr (by decide)).trans (by rw [show strOfNums [1, 0, 0, 0, 254, 255, 255, 255, 5] = (⟨#[1, 0, 0, 0, 254, 255, 255, 255, 5]⟩ : ByteArray) by kernel_rfl])
  go_wp2_with fail
  go_ret
  exact ⟨rfl, B5.out⟩

end Go.Proofs.Ythblaehmdailhaa.PJournalStays
