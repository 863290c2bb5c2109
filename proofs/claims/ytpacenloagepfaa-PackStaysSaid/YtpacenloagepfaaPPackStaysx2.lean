-- written for this claim by a program of this session (wip/inject.py), which drives the kit's print
import Derived.Test.YtpacenloagepfaaPPackStaysx0
import Derived.Test.YtpacenloagepfaaPPackStaysx1
namespace Go.Proofs.Ytpacenloagepfaa.PPackStays
open Go.RowKit Go.Proofs.YtpacenloagepfaaW.PrintWords Go.Proofs.YtpacenloagepfaaW.PrintLast Go.Proofs.YtpacenloagepfaaW.PrintMore
attribute [local go_sem] max2_int min2_int max_two min_two max_three min_three max_four min_four   -- for this text's walks alone
set_option linter.unusedVariables false
set_option linter.unusedSimpArgs false

set_option linter.unnecessarySimpa false
attribute [local go_sem high] errEqI errNeI errEqL errNeL errEqR errNeR
/-! ### pack_Get: function 10 -/
def pk_acc (u i x : Int) : Int := Go.bits .or .u64 u (IntKind.u64.wrap (IntKind.u64.wrap (Go.bits .and .u8 x 127) * 2 ^ (7 * i).toNat))
def pk_fin (v : Int) : Int := Go.bits .xor .i64 (wrap64 (v / 2)) (wrap64 (-wrap64 (Go.bits .and .u64 v 1)))
/-- What the reader's number tells: the number, whether something is amiss, and what is left. -/
def pk_rd : Nat → Int → Int → List Int → Int × Bool × List Int
  | 0, _, _, l => (0, true, l)
  | _ + 1, _, _, [] => (0, true, [])
  | k + 1, u, i, x :: t => if (x = 0 ∧ 0 < i) ∨ (1 < x ∧ i = 9) then (0, true, t) else if x < 128 then (pk_fin (pk_acc u i x), false, t) else pk_rd k (pk_acc u i x) (i + 1) t
def pk_num (b : Bool) (l : List Int) : Int × Bool × List Int := if b then (0, true, l) else pk_rd 10 0 0 l
def pk_post (wb w : World) (g : Nat) (rb : Bool) (rl : List Int) (w' : World) : Prop :=
  ∃ A' c', w'.heap[g]? = some (.cells #[.slice A' rl.length c', .bool rb] 46 (0, 0)) ∧ (Kd.int .u8).C wb A' rl.length rl ∧ rl.length ≤ c' ∧ KeepBut w w' g none ∧ Below wb.heap.size wb w'
theorem pk_drop {wb : World} {A A' : Option Addr} {x : Int} {t : List Int} {c : Nat} (h : (Kd.int .u8).C wb A (x :: t).length (x :: t)) (hc : (x :: t).length ≤ c)
    (hA : ∀ (w : World) (k : IntKind) (xs : List Int), t.length + 1 ≤ c → ReadsInt w k A (t.length + 1) xs → ReadsInt w k A' (t.length + 1 - 1) (xs.drop 1)) : (Kd.int .u8).C wb A' t.length t :=
  Kd.C_of_reads (d := (0 : Int)) (hA wb .u8 (x :: t) hc (Kd.reads_of_C (d := (0 : Int)) h))
set_option maxRecDepth 100000 in
set_option maxHeartbeats 2000000 in
theorem pk_walk (wb w : World) (g : Nat) (A : Option Addr) (c : Nat) (l : List Int) (rv : Int) (rb : Bool) (rl : List Int) (hgb : wb.heap.size ≤ g) (hb : Below wb.heap.size wb w) (hg : w.heap[g]? = some (.cells #[.slice A l.length c, .bool false] 46 (0, 0))) (hr : (Kd.int .u8).C wb A l.length l) (hl : l.length ≤ c) (hf : pk_rd 10 0 0 l = (rv, rb, rl)) :
    Calls Try.prog 15 #[.pointer (some ⟨g, 0, none⟩)] w fun e w' => e = .returned (.int .i64 rv) ∧ pk_post wb w g rb rl w' := by
  have HG := Aside0.mk hg
  have HB := Aside0.mk hb
  have HR := Aside0.mk hr
  have HF := Aside0.mk hf
  have GB := Aside0.mk hgb
  clear hg hb hr hf hgb
  go_enter Try.func15, Try.ntmps15
  go_wp2
  go_loopw [3, 4] (fun v3 v4 wr => ∃ (u i : Int) (A : Option Addr) (c : Nat) (s : List Int), v3 = .int .u64 u ∧ v4 = .int .i64 i ∧ Aside0 (0 ≤ i ∧ i ≤ 10) ∧ Aside0 (wr.heap[g]? = some (.cells #[.slice A s.length c, .bool false] 46 (0, 0))) ∧ Aside0 (Below wb.heap.size wb wr) ∧ Aside0 ((Kd.int .u8).C wb A s.length s) ∧ Aside0 (s.length ≤ c) ∧ Aside0 (pk_rd (10 - i).toNat u i s = (rv, rb, rl)) ∧ Aside0 (KeepBut w wr g none)) (fun v3 v4 _ => 10 - (intOf v4).toNat)
  case atStart => exact ⟨0, 0, A, c, l, rfl, rfl, ⟨by omega⟩, HG, HB, HR, ⟨hl⟩, HF, ⟨KeepBut.refl _ _ _⟩⟩
  case round =>
    clear HG HB HR hl HF
    obtain ⟨u, i, A, c, s, rfl, rfl, HI, HG, HB, HR, HL, HF, HK⟩ := hrel
    have c0 : wr.cell? ⟨g, 0, none⟩ = some (.slice A s.length c) := (blk_cell HG.out 0).trans rfl
    have c1 : wr.cell? ⟨g, 1, none⟩ = some (.bool false) := (blk_cell HG.out 1).trans rfl
    have f0 := blk_frozen HG.out 0
    have f1 := blk_frozen HG.out 1
    by_cases gi : i < 10
    · have gib : decide (i < 10) = true := decide_eq_true gi
      have i0 := HI.out.1
      have hk : (10 - i).toNat = (10 - (i + 1)).toNat + 1 := by omega
      cases s with
      | nil =>
        simp only [List.length_nil] at c0
        have hf := HF.out
        rw [hk] at hf
        simp only [pk_rd, Prod.mk.injEq] at hf
        obtain ⟨rfl, rfl, rfl⟩ := hf
        go_wp2
        go_ret
        exact ⟨rfl, A, c, blk_put HG.out 1 _ rfl, HR.out, HL.out, HK.out.set_ 1 _, HB.out.setCell (p := ⟨g, 1, none⟩) GB.out _⟩
      | cons x t =>
        obtain ⟨ad, hA, hx⟩ := Kd.at_int (Kd.C_below HR.out HB.out) 0 (by omega) (by simp)
        subst hA
        have hx' : wr.cell? ad = some (.int .u8 x) := hx
        clear hx
        have hp : ((t.length : Int) + 1 == 0) = false := beq_eq_false_iff_ne.mpr (by omega)
        simp only [List.length_cons] at c0
        obtain ⟨A', hcut0, hA'⟩ := print_cut (P := Try.prog) 26 5 .i64 Try.underlying26 (i := _) rfl rfl (some ad) (t.length + 1) c 1 (by omega)
        have hcut : ∀ W : World, (Instr.slice 26 (.slice (some ad) (t.length + 1) c) (some (.int .i64 1)) none none).run Try.prog W = .ok (.slice A' t.length (c - 1)) W := hcut0
        have HA' := Aside0.mk (pk_drop HR.out HL.out hA')
        clear hcut0 hA'
        have HL' : Aside0 (t.length ≤ c - 1) := ⟨by have := HL.out; simp at this; omega⟩
        have hf := HF.out
        rw [hk] at hf
        simp only [pk_rd] at hf
        clear HF
        by_cases b1 : x = 0 ∧ 0 < i
        · rw [if_pos (.inl b1)] at hf
          simp only [Prod.mk.injEq] at hf
          obtain ⟨rfl, rfl, rfl⟩ := hf
          obtain ⟨rfl, b2⟩ := b1
          have b2b : decide (0 < i) = true := decide_eq_true b2
          go_wp2
          go_ret
          exact ⟨rfl, A', c - 1, blk_put (blk_put HG.out 0 _ rfl) 1 _ rfl, HA'.out, HL'.out, (HK.out.set_ 0 _).set_ 1 _, (HB.out.setCell (p := ⟨g, 0, none⟩) GB.out _).setCell (p := ⟨g, 1, none⟩) GB.out _⟩
        by_cases b3 : 1 < x ∧ i = 9
        · rw [if_pos (.inr b3)] at hf
          simp only [Prod.mk.injEq] at hf
          obtain ⟨rfl, rfl, rfl⟩ := hf
          obtain ⟨b2, rfl⟩ := b3
          have b2b : decide (1 < x) = true := decide_eq_true b2
          have b1b : (x == 0) = false := beq_eq_false_iff_ne.mpr (by omega)
          clear b1
          go_wp2
          go_ret
          exact ⟨rfl, A', c - 1, blk_put (blk_put HG.out 0 _ rfl) 1 _ rfl, HA'.out, HL'.out, (HK.out.set_ 0 _).set_ 1 _, (HB.out.setCell (p := ⟨g, 0, none⟩) GB.out _).setCell (p := ⟨g, 1, none⟩) GB.out _⟩
        rw [if_neg (by rintro (h | h) <;> contradiction)] at hf
        by_cases b5 : x = 0
        · have i9 : i = 0 := by omega
          subst b5
          subst i9
          clear b1 b3
          rw [if_pos (by omega)] at hf
          simp only [Prod.mk.injEq] at hf
          obtain ⟨rfl, rfl, rfl⟩ := hf
          go_wp2
          go_ret
          exact ⟨rfl, A', c - 1, blk_put HG.out 0 _ rfl, HA'.out, HL'.out, HK.out.set_ 0 _, HB.out.setCell (p := ⟨g, 0, none⟩) GB.out _⟩
        have b5b : (x == 0) = false := beq_eq_false_iff_ne.mpr b5
        by_cases b6 : 1 < x
        · have b6b : decide (1 < x) = true := decide_eq_true b6
          have b9 : i ≠ 9 := fun h => b3 ⟨b6, h⟩
          have b7b : (i == 9) = false := beq_eq_false_iff_ne.mpr b9
          clear b1 b3 b5
          by_cases b4 : x < 128
          · have b4b : decide (x < 128) = true := decide_eq_true b4
            rw [if_pos b4] at hf
            simp only [Prod.mk.injEq] at hf
            obtain ⟨rfl, rfl, rfl⟩ := hf
            go_wp2
            go_ret
            exact ⟨rfl, A', c - 1, blk_put HG.out 0 _ rfl, HA'.out, HL'.out, HK.out.set_ 0 _, HB.out.setCell (p := ⟨g, 0, none⟩) GB.out _⟩
          · have b4b : decide (x < 128) = false := decide_eq_false b4
            rw [if_neg b4] at hf
            have HF := Aside0.mk hf
            clear hf
            go_wp2
            go_roundw
            case measure => simp [intOf]; omega
            case rel => exact ⟨_, _, A', c - 1, t, rfl, rfl, ⟨by omega⟩, ⟨blk_put HG.out 0 _ rfl⟩, ⟨HB.out.setCell (p := ⟨g, 0, none⟩) GB.out _⟩, HA', HL', HF, ⟨HK.out.set_ 0 _⟩⟩
        · have b6b : decide (1 < x) = false := decide_eq_false b6
          clear b1 b3 b5
          have b4 : x < 128 := by omega
          have b4b : decide (x < 128) = true := decide_eq_true b4
          rw [if_pos b4] at hf
          simp only [Prod.mk.injEq] at hf
          obtain ⟨rfl, rfl, rfl⟩ := hf
          go_wp2
          go_ret
          exact ⟨rfl, A', c - 1, blk_put HG.out 0 _ rfl, HA'.out, HL'.out, HK.out.set_ 0 _, HB.out.setCell (p := ⟨g, 0, none⟩) GB.out _⟩
    · have gib : decide (i < 10) = false := decide_eq_false gi
      have hf := HF.out
      rw [show (10 - i).toNat = 0 by omega] at hf
      simp only [pk_rd, Prod.mk.injEq] at hf
      obtain ⟨rfl, rfl, rfl⟩ := hf
      clear HF
      go_wp2
      go_ret
      exact ⟨rfl, A, c, blk_put HG.out 1 _ rfl, HR.out, HL.out, HK.out.set_ 1 _, HB.out.setCell (p := ⟨g, 1, none⟩) GB.out _⟩
set_option maxRecDepth 100000 in
theorem pk_bad (wb w : World) (g : Nat) (A : Option Addr) (c : Nat) (l : List Int) (hgb : wb.heap.size ≤ g) (hb : Below wb.heap.size wb w) (hg : w.heap[g]? = some (.cells #[.slice A l.length c, .bool true] 46 (0, 0))) (hr : (Kd.int .u8).C wb A l.length l) (hl : l.length ≤ c) :
    Calls Try.prog 15 #[.pointer (some ⟨g, 0, none⟩)] w fun e w' => e = .returned (.int .i64 0) ∧ pk_post wb w g true l w' := by
  have HG := Aside0.mk hg
  have HB := Aside0.mk hb
  have HR := Aside0.mk hr
  have GB := Aside0.mk hgb
  clear hb hr hgb
  clear hg
  go_enter Try.func15, Try.ntmps15
  go_wp2
  go_loopw [3, 4] (fun v3 v4 wr => v3 = .int .u64 0 ∧ v4 = .int .i64 0 ∧ wr = w) (fun v3 v4 _ => 0)
  case atStart => exact ⟨rfl, rfl, rfl⟩
  case round =>
    obtain ⟨rfl, rfl, rfl⟩ := hrel
    have c0 : wr.cell? ⟨g, 0, none⟩ = some (.slice A l.length c) := (blk_cell HG.out 0).trans rfl
    have c1 : wr.cell? ⟨g, 1, none⟩ = some (.bool true) := (blk_cell HG.out 1).trans rfl
    have f0 := blk_frozen HG.out 0
    have f1 := blk_frozen HG.out 1
    go_wp2
    go_ret
    exact ⟨rfl, A, c, blk_put HG.out 1 _ rfl, HR.out, hl, (KeepBut.refl _ _ _).set_ 1 _, HB.out.setCell (p := ⟨g, 1, none⟩) GB.out _⟩
theorem pk_number (wb w : World) (g : Nat) (A : Option Addr) (c : Nat) (l : List Int) (b : Bool) (hgb : wb.heap.size ≤ g) (hb : Below wb.heap.size wb w) (hg : w.heap[g]? = some (.cells #[.slice A l.length c, .bool b] 46 (0, 0))) (hr : (Kd.int .u8).C wb A l.length l) (hl : l.length ≤ c) :
    Calls Try.prog 15 #[.pointer (some ⟨g, 0, none⟩)] w fun e w' => e = .returned (.int .i64 (pk_num b l).1) ∧ pk_post wb w g (pk_num b l).2.1 (pk_num b l).2.2 w' := by
  cases b with
  | true => exact pk_bad wb w g A c l hgb hb hg hr hl
  | false => exact pk_walk wb w g A c l _ _ _ hgb hb hg hr hl rfl
def pk_many : Nat → Bool → List Int → List Int → List Int × Bool × List Int
  | 0, b, l, acc => (acc, b, l)
  | n + 1, b, l, acc => pk_many n (pk_num b l).2.1 (pk_num b l).2.2 (acc ++ [(pk_num b l).1])
def pk_tail (b : Bool) (l : List Int) (v1 v2 v3 v4 : Int) : Int × Int × Int × List Int × Option Int :=
  if v4 < 0 ∨ 16 < v4 then (0, 0, 0, [], some 2) else
  if (pk_many v4.toNat b l []).2.1 = true ∨ 0 < (pk_many v4.toNat b l []).2.2.length then (0, 0, 0, [], some 2) else (v1, v2, v3, (pk_many v4.toNat b l []).1, none)
def pk_get (l : List Int) : Int × Int × Int × List Int × Option Int :=
  let r1 := pk_num false l
  let r2 := pk_num r1.2.1 r1.2.2
  let r3 := pk_num r2.2.1 r2.2.2
  let r4 := pk_num r3.2.1 r3.2.2
  pk_tail r4.2.1 r4.2.2 r1.1 r2.1 r3.1 r4.1
def pack_Get.f (l0 : List Int) : Option (Int × Int × Int × List Int × Option Int) := some (pk_get l0)
/-- Behind a call of the reader's number: the reader's block, the command's block, the result's block. -/
def pk_st (w : World) (cb : Nat) (cs : Array Value) (b : Bool) (s : List Int) (W : World) : Prop :=
  (∃ A c, W.heap[w.heap.size + 1]? = some (.cells #[.slice A s.length c, .bool b] 46 (0, 0)) ∧ (Kd.int .u8).C w A s.length s ∧ s.length ≤ c) ∧ Below w.heap.size w W ∧
    W.heap[w.heap.size]? = some (.cells #[.int .i64 0, .int .i64 0, .int .i64 0, .slice none 0 0] 24 (0, 0)) ∧ W.heap[cb]? = some (.cells cs 24 (0, 0)) ∧ w.heap.size + 1 < cb
theorem pk_call {w W : World} {cb : Nat} {cs : Array Value} {b : Bool} {s : List Int} (h : pk_st w cb cs b s W) :
    Calls Try.prog 15 #[.pointer (some ⟨w.heap.size + 1, 0, none⟩)] W fun e w' => e = .returned (.int .i64 (pk_num b s).1) ∧ pk_st w cb cs (pk_num b s).2.1 (pk_num b s).2.2 w' ∧ KeepBut W w' (w.heap.size + 1) none := by
  obtain ⟨⟨A, c, h1, h2, h3⟩, h4, h5, h6, h7⟩ := h
  refine (pk_number w W (w.heap.size + 1) A c s b (by omega) h4 h1 h2 h3).mono ?_
  rintro e w' ⟨rfl, A', c', k1, k2, k3, k4, k5⟩
  exact ⟨rfl, ⟨⟨A', c', k1, k2, k3⟩, k5, k4.blk h5 (by omega) (by simp), k4.blk h6 (by omega) (by simp), h7⟩, k4⟩
theorem pk_set {w W : World} {cb : Nat} {cs cs' : Array Value} {b : Bool} {s : List Int} (h : pk_st w cb cs b s W) (j : Nat) (u : Value) (e : cs.setIfInBounds j u = cs') : pk_st w cb cs' b s (W.setCell ⟨cb, j, none⟩ u) := by
  obtain ⟨⟨A, c, h1, h2, h3⟩, h4, h5, h6, h7⟩ := h
  exact ⟨⟨A, c, blk_far h1 (by simp; omega) u, h2, h3⟩, h4.setCell (by simp; omega) u, blk_far h5 (by simp; omega) u, blk_put h6 j u e, h7⟩
theorem pk_alloc {w W : World} {cb : Nat} {cs : Array Value} {b : Bool} {s : List Int} (h : pk_st w cb cs b s W) (o : Obj) : pk_st w cb cs b s (W.alloc o) := by
  obtain ⟨⟨A, c, h1, h2, h3⟩, h4, h5, h6, h7⟩ := h
  exact ⟨⟨A, c, blk_alloc h1 o, h2, h3⟩, below_alloc h4 o, blk_alloc h5 o, blk_alloc h6 o, h7⟩
theorem pk_cells {w W : World} {cb : Nat} {v1 v2 v3 v4 : Value} {b : Bool} {s : List Int} (h : pk_st w cb #[v1, v2, v3, v4] b s W) :
    (W.cell? ⟨cb, 0, none⟩ = some v1 ∧ W.cell? ⟨cb, 1, none⟩ = some v2 ∧ W.cell? ⟨cb, 2, none⟩ = some v3 ∧ W.cell? ⟨cb, 3, none⟩ = some v4) ∧
    (W.frozen? ⟨cb, 0, none⟩ = false ∧ W.frozen? ⟨cb, 1, none⟩ = false ∧ W.frozen? ⟨cb, 2, none⟩ = false ∧ W.frozen? ⟨cb, 3, none⟩ = false) := by
  obtain ⟨_, _, _, h, _⟩ := h
  exact ⟨⟨(blk_cell h 0).trans rfl, (blk_cell h 1).trans rfl, (blk_cell h 2).trans rfl, (blk_cell h 3).trans rfl⟩, blk_frozen h 0, blk_frozen h 1, blk_frozen h 2, blk_frozen h 3⟩
theorem pk_out {w W : World} {cb : Nat} {cs : Array Value} {b : Bool} {s : List Int} (h : pk_st w cb cs b s W) (u0 u1 u2 u3 : Value) (W4 : World)
    (e : W4 = ((((W.setCell ⟨w.heap.size, 0, none⟩ u0).setCell ⟨w.heap.size, 1, none⟩ u1).setCell ⟨w.heap.size, 2, none⟩ u2).setCell ⟨w.heap.size, 3, none⟩ u3)) :
    W4.cell? ⟨w.heap.size, 0, none⟩ = some u0 ∧ W4.cell? ⟨w.heap.size, 1, none⟩ = some u1 ∧ W4.cell? ⟨w.heap.size, 2, none⟩ = some u2 ∧ W4.cell? ⟨w.heap.size, 3, none⟩ = some u3 ∧ Below w.heap.size w W4 := by
  obtain ⟨_, h4, h5, _⟩ := h
  have g : W4.heap[w.heap.size]? = some (.cells #[u0, u1, u2, u3] 24 (0, 0)) := by
    rw [e]
    exact blk_put (blk_put (blk_put (blk_put h5 0 u0 rfl) 1 u1 rfl) 2 u2 rfl) 3 u3 rfl
  refine ⟨(blk_cell g 0).trans rfl, (blk_cell g 1).trans rfl, (blk_cell g 2).trans rfl, (blk_cell g 3).trans rfl, ?_⟩
  rw [e]
  exact (((h4.setCell (Nat.le_refl _) u0).setCell (Nat.le_refl _) u1).setCell (Nat.le_refl _) u2).setCell (Nat.le_refl _) u3
set_option maxRecDepth 100000 in
set_option maxHeartbeats 4000000 in
theorem pk_get_walk (A0 : Option Addr) (c0 : Nat) (l0 : List Int) (r1 r2 r3 : Int) (r4 : List Int) (r5 : Option Int) (w : World) (hr0 : (Kd.int .u8).C w A0 l0.length l0) (hc0 : l0.length ≤ c0) (h : pk_get l0 = (r1, r2, r3, r4, r5)) :
    Calls Try.prog 10 #[.slice A0 l0.length c0] w fun e w' => ∃ v3_ : Value, e = .returned (.tuple #[.agg #[.int .i64 r1, .int .i64 r2, .int .i64 r3, v3_], errW r5]) ∧ (Kd.int .i64).R 2 w' w.heap.size (fun _ => True) v3_ r4 ∧ Below w.heap.size w w' := by
  have H := Aside0.mk h
  have HR := Aside0.mk hr0
  have HC := Aside0.mk hc0
  clear h hr0 hc0
  go_enter Try.func10, Try.ntmps10
  go_wp2_with fail
  refine (pk_number w _ (w.heap.size + 1) A0 c0 l0 false (by omega) ?_ ?_ HR.out HC.out).mono ?_
  · exact below_alloc (below_alloc (Below.refl _ _) _) _
  · simpa using heap_alloc_new (w.alloc (.cells #[.int .i64 0, .int .i64 0, .int .i64 0, .slice none 0 0] 24)) (.cells #[.slice A0 l0.length c0, .bool false] 46)
  generalize hq1 : pk_num false l0 = q1
  obtain ⟨v1, b1, s1⟩ := q1
  rintro e w1 ⟨rfl, A1, c1, G1, R1, L1, K1, B1⟩
  simp only at G1 R1 L1
  have Z1 : w.heap.size + 1 < w1.heap.size := by have := K1.1; simp at this; omega
  have Q1 : Aside0 (pk_st w w1.heap.size #[.int .i64 v1, .int .i64 0, .int .i64 0, .slice none 0 0] b1 s1 (w1.alloc (.cells #[.int .i64 v1, .int .i64 0, .int .i64 0, .slice none 0 0] 24))) :=
    ⟨⟨A1, c1, blk_alloc G1 _, R1, L1⟩, below_alloc B1 _, blk_alloc (K1.blk (blk_alloc (heap_alloc_new w _) _) (by omega) (by simp)) _, heap_alloc_new w1 _, Z1⟩
  clear G1 R1 L1 K1 B1
  go_wp2_with fail
  refine (pk_call Q1.out).mono ?_
  generalize hq2 : pk_num b1 s1 = q2
  obtain ⟨v2, b2, s2⟩ := q2
  rintro e w2 ⟨rfl, Q2, -⟩
  simp only at Q2
  obtain ⟨⟨x0, x1, x2, x3⟩, y0, y1, y2, y3⟩ := pk_cells Q2
  have Q2' := Aside0.mk (pk_set Q2 1 (.int .i64 v2) rfl)
  clear Q2 Q1
  go_wp2_with fail
  refine (pk_call Q2'.out).mono ?_
  generalize hq3 : pk_num b2 s2 = q3
  obtain ⟨v3, b3, s3⟩ := q3
  rintro e w3 ⟨rfl, Q3, -⟩
  simp only at Q3
  clear x0 x1 x2 x3 y0 y1 y2 y3
  obtain ⟨⟨x0, x1, x2, x3⟩, y0, y1, y2, y3⟩ := pk_cells Q3
  have Q3' := Aside0.mk (pk_set Q3 2 (.int .i64 v3) rfl)
  clear Q3 Q2'
  go_wp2_with fail
  refine (pk_call Q3'.out).mono ?_
  generalize hq4 : pk_num b3 s3 = q4
  obtain ⟨v4, b4, s4⟩ := q4
  rintro e w4 ⟨rfl, Q4, -⟩
  simp only at Q4
  clear x0 x1 x2 x3 y0 y1 y2 y3
  have HT : Aside0 (pk_tail b4 s4 v1 v2 v3 v4 = (r1, r2, r3, r4, r5)) := ⟨by
    have h := H.out
    unfold pk_get at h
    simp only [hq1, hq2, hq3, hq4] at h
    exact h⟩
  clear H hq1 hq2 hq3 hq4 Q3' Z1
  have z := Q4.2.2.1
  have p0 := (blk_cell z 0).trans rfl
  have p1 := (blk_cell z 1).trans rfl
  have p2 := (blk_cell z 2).trans rfl
  have p3 := (blk_cell z 3).trans rfl
  have f0 := blk_frozen z 0
  have f1 := blk_frozen z 1
  have f2 := blk_frozen z 2
  have f3 := blk_frozen z 3
  clear z
  have Q4' := Aside0.mk Q4
  clear Q4
  by_cases n1 : v4 < 0
  · have n1b : decide (v4 < 0) = true := decide_eq_true n1
    have ht := HT.out
    unfold pk_tail at ht
    rw [if_pos (.inl n1)] at ht
    simp only [Prod.mk.injEq] at ht
    obtain ⟨rfl, rfl, rfl, rfl, rfl⟩ := ht
    clear HT
    go_wp2
    generalize hW : ((((w4.setCell ⟨w.heap.size, 0, none⟩ _).setCell ⟨w.heap.size, 1, none⟩ _).setCell ⟨w.heap.size, 2, none⟩ _).setCell ⟨w.heap.size, 3, none⟩ _) = W4
    obtain ⟨g0, g1, g2, g3, B⟩ := pk_out Q4'.out _ _ _ _ W4 hW.symm
    exact bodyPost_ret (v := .tuple #[.agg #[.int .i64 0, .int .i64 0, .int .i64 0, .slice none 0 0], .iface 31 (.int .i64 2)]) (by simp [results, Try.results10, go_sem, g0, g1, g2, g3]) rfl ⟨_, rfl, Kd.R_nil _ _ _ _ _, B⟩
  by_cases n2 : 16 < v4
  · have n1b : decide (v4 < 0) = false := decide_eq_false n1
    have n2b : decide (16 < v4) = true := decide_eq_true n2
    have ht := HT.out
    unfold pk_tail at ht
    rw [if_pos (.inr n2)] at ht
    simp only [Prod.mk.injEq] at ht
    obtain ⟨rfl, rfl, rfl, rfl, rfl⟩ := ht
    clear HT
    go_wp2
    generalize hW : ((((w4.setCell ⟨w.heap.size, 0, none⟩ _).setCell ⟨w.heap.size, 1, none⟩ _).setCell ⟨w.heap.size, 2, none⟩ _).setCell ⟨w.heap.size, 3, none⟩ _) = W4
    obtain ⟨g0, g1, g2, g3, B⟩ := pk_out Q4'.out _ _ _ _ W4 hW.symm
    exact bodyPost_ret (v := .tuple #[.agg #[.int .i64 0, .int .i64 0, .int .i64 0, .slice none 0 0], .iface 31 (.int .i64 2)]) (by simp [results, Try.results10, go_sem, g0, g1, g2, g3]) rfl ⟨_, rfl, Kd.R_nil _ _ _ _ _, B⟩
  have n1b : decide (v4 < 0) = false := decide_eq_false n1
  have n2b : decide (16 < v4) = false := decide_eq_false n2
  have ht := HT.out
  unfold pk_tail at ht
  rw [if_neg (by omega)] at ht
  have HT2 := Aside0.mk ht
  clear HT ht
  clear p0 p1 p2 p3 f0 f1 f2 f3
  have m0 : 0 ≤ v4 := by omega
  have m1 : v4 ≤ 16 := by omega
  clear n1 n2
  go_wp2
  clear n1b n2b
  generalize hcb : w1.heap.size = cb at *
  generalize hM : pk_many v4.toNat b4 s4 [] = M at *
  go_loopw [30] (fun v30 wr => ∃ (i : Int) (acc : List Int) (bb : Bool) (ss : List Int) (Nv : Value), v30 = .int .i64 i ∧ Aside0 (0 ≤ i ∧ i ≤ v4 ∧ acc.length = i.toNat) ∧ Aside0 (pk_many (v4 - i).toNat bb ss acc = M) ∧ Aside0 (pk_st w cb #[.int .i64 v1, .int .i64 v2, .int .i64 v3, Nv] bb ss wr) ∧ Aside0 ((Kd.int .i64).R 2 wr w.heap.size (fun _ => True) Nv acc)) (fun v30 _ => (16 - intOf v30).toNat)
  case atStart => exact ⟨0, [], b4, s4, .slice none 0 0, rfl, ⟨by omega, m0, rfl⟩, ⟨by simpa using hM⟩, Q4', ⟨Kd.R_nil _ _ _ _ _⟩⟩
  case round =>
    clear Q4' hM
    obtain ⟨i, acc, bb, ss, Nv, rfl, HI, HM, HQ, HO⟩ := hrel
    by_cases gi : i < v4
    · have gib : decide (i < v4) = true := decide_eq_true gi
      have hk : (v4 - i).toNat = (v4 - (i + 1)).toNat + 1 := by omega
      obtain ⟨A, c, eN, -, -⟩ := Kd.R_reads HO.out
      subst eN
      go_wp2
      have HQd : Aside0 (pk_st w cb #[.int .i64 v1, .int .i64 v2, .int .i64 v3, .slice A acc.length c] bb ss wr.drew) := ⟨⟨HQ.out.1, HQ.out.2.1.drew, HQ.out.2.2⟩⟩
      have HOd : Aside0 ((Kd.int .i64).R 2 wr.drew w.heap.size (fun _ => True) (.slice A acc.length c) acc) := ⟨Kd.R_drew HO.out⟩
      refine start_ (n := 8) (S := fun w' => w'.cell? ⟨cb, 0, none⟩ = some (.int .i64 v1) ∧ w'.cell? ⟨cb, 1, none⟩ = some (.int .i64 v2) ∧ w'.cell? ⟨cb, 2, none⟩ = some (.int .i64 v3) ∧ w'.cell? ⟨cb, 3, none⟩ = some (.slice A acc.length c)) (ds := [7]) #[false, false, false, false, false, false, false, false] (by kernel_rfl) rfl rfl (pk_cells HQd.out).1 (fun hHeld => ?_)
      generalize wr.drew = wd at HQd HOd hHeld ⊢
      clear HQ HO
      refine take_ (i := 0) (N := some 32) (v := ?_) (a' := ?_) #[true, false, false, false, false, false, false, false] rfl rfl (by kernel_rfl) (fun _ _ _ h => h) (Or.inl ⟨by rfl, ?_⟩) hHeld ?_ ?_
      rotate_left
      · rintro w' ⟨s0, s1, s2, s3⟩
        go_simp
        with_reducible rfl
      rotate_left
      · simp only [Act.put, List.setIfInBounds_toArray, List.set_cons_zero, List.set_cons_succ, i64_w, i32_w]
        rfl
      refine take_ (i := 1) (N := some 33) (v := ?_) (a' := ?_) #[true, true, false, false, false, false, false, false] rfl rfl (by kernel_rfl) (fun _ _ _ h => h) (Or.inl ⟨by rfl, ?_⟩) hHeld ?_ ?_
      rotate_left
      · rintro w' ⟨s0, s1, s2, s3⟩
        go_simp
        with_reducible rfl
      rotate_left
      · simp only [Act.put, List.setIfInBounds_toArray, List.set_cons_zero, List.set_cons_succ, i64_w, i32_w]
        rfl
      refine pure_ (i := 2) (N := some 34) (v := ?_) (a' := ?_) #[true, true, true, false, false, false, false, false] rfl rfl (by kernel_rfl) (fun _ _ _ h => h) (Or.inl ⟨by rfl, ?_⟩) ?_ ?_
      rotate_left
      · intro w'
        go_simp
        with_reducible rfl
      rotate_left
      · simp only [Act.put, List.setIfInBounds_toArray, List.set_cons_zero, List.set_cons_succ, i64_w, i32_w]
        rfl
      refine one_ (i := 3) (N := some 35) #[true, true, true, true, false, false, false, false] rfl rfl (by kernel_rfl) (by decide) (fun K hK => ?_)
      refine goes_ Try.func15 (by kernel_rfl) rfl #[.pointer (some ⟨w.heap.size + 1, 0, none⟩)] (by rfl) rfl rfl (by simp only [List.map_toArray, List.map_cons, List.map_nil]; first | done | rfl) ?_
      refine (pk_call HQd.out).mono ?_
      generalize hq5 : pk_num bb ss = q5
      obtain ⟨v5, b5, s5⟩ := q5
      rintro e w5 ⟨rfl, Q5, K5⟩
      simp only at Q5
      refine ⟨_, rfl, ?_⟩
      have HO5 : Aside0 ((Kd.int .i64).R 2 w5 w.heap.size (fun _ => True) (.slice A acc.length c) acc) := by
        obtain ⟨⟨Ax, cx, hx, -, -⟩, -⟩ := HQd.out
        exact ⟨Kd.R_mono (Kd.R_keep (Kd.R_types HOd.out hx (by simp [Kd.int, Kd.scalar])) K5 (fun _ hk => hk.2)) (fun _ _ => trivial)⟩
      have Q5' := Aside0.mk Q5
      refine hK.out _ _ (pk_cells Q5).1 (fun hHeld => ?_)
      clear hK K Q5 K5 HQd HOd
      refine norm_ (a' := ?_) ?_ ?_
      rotate_left
      · show Act.put _ (some 35) _ = _
        simp only [Act.put, List.setIfInBounds_toArray, List.set_cons_zero, List.set_cons_succ, i64_w, i32_w]
        rfl
      refine one_ (i := 4) (N := some 36) #[true, true, true, true, true, false, false, false] rfl rfl (by kernel_rfl) (by decide) (fun K hK => ?_)
      go_simp
      refine hK.out _ _ (pk_cells (pk_alloc Q5'.out _)).1 (fun hHeld => ?_)
      clear hK K
      refine one_ (i := 5) (N := some 37) #[true, true, true, true, true, true, false, false] rfl rfl (by kernel_rfl) (by decide) (fun K hK => ?_)
      refine Kd.R_append_step (Kd.int .i64) (w0 := w) w.heap.size (by rfl) (.tmp 33) (.tmp 36) 22 2 (.int .i64 0) 8 rfl Try.underlying22 info2 rfl (by decide) (by omega) (.slice A acc.length c) acc v5 [.int .i64 v5] (fun _ => True) (fun _ => False) rfl rfl rfl (fun _ hk => hk.elim) (fun _ _ => trivial) HO5.out Q5'.out.2.1 Q5'.out.2.1.size (by have := HI.out; omega) ?_
      intro v6 w6 ho hb hg hat
      have Q6 : pk_st w cb #[.int .i64 v1, .int .i64 v2, .int .i64 v3, .slice A acc.length c] b5 s5 w6 := by
        obtain ⟨⟨Ax, cx, h1, h2, h3⟩, h4, h5, h6, h7⟩ := Q5'.out
        exact ⟨⟨Ax, cx, blk_grown h1 hg (Kd.R_ne HO5.out h1 (by decide)), h2, h3⟩, hb, blk_grown h5 hg (Kd.R_ne HO5.out h5 (by decide)), blk_grown h6 hg (Kd.R_ne HO5.out h6 (by decide)), h7⟩
      obtain ⟨A6, c6, e6⟩ := Kd.R_slice ho
      subst e6
      refine hK.out _ _ (pk_cells Q6).1 (fun hHeld => ?_)
      have HO6 := Aside0.mk ho
      have Q6' := Aside0.mk Q6
      clear hK K ho hb hg hat Q6 HO5 Q5'
      refine norm_ (a' := ?_) ?_ ?_
      rotate_left
      · show Act.put _ (some 37) _ = _
        simp only [Act.put, List.setIfInBounds_toArray, List.set_cons_zero, List.set_cons_succ, i64_w, i32_w]
        rfl
      refine take_ (i := 6) (N := some 38) (v := ?_) (a' := ?_) #[true, true, true, true, true, true, true, false] rfl rfl (by kernel_rfl) (fun _ _ _ h => h) (Or.inl ⟨by rfl, ?_⟩) hHeld ?_ ?_
      rotate_left
      · rintro w' ⟨s0, s1, s2, s3⟩
        go_simp
        with_reducible rfl
      rotate_left
      · simp only [Act.put, List.setIfInBounds_toArray, List.set_cons_zero, List.set_cons_succ, i64_w, i32_w]
        rfl
      obtain ⟨⟨x0, x1, x2, x3⟩, y0, y1, y2, y3⟩ := pk_cells Q6'.out
      refine last_ (i := 7) (N := none) #[true, true, true, true, true, true, true, true] rfl rfl (by kernel_rfl) (by decide) (fun K hK => ?_)
      go_simp
      refine hK.out _ _ ?_
      refine done_ (by kernel_rfl) ?_
      have i0 : 0 ≤ i := HI.out.1
      go_wp2
      go_roundw
      case measure => simp [intOf]; omega
      case rel =>
        refine ⟨i + 1, acc ++ [v5], b5, s5, _, rfl, ⟨?_⟩, ⟨?_⟩, ⟨pk_set Q6'.out 3 _ rfl⟩, ⟨?_⟩⟩
        · have := HI.out
          simp only [List.length_append, List.length_singleton]
          omega
        · have hm := HM.out
          rw [hk, pk_many, hq5] at hm
          exact hm
        · have e := Kd.R_set HO6.out Q6'.out.2.2.2.1 (by simp [Kd.int, Kd.scalar]) 3 (.slice A6 (acc.length + 1) c6)
          rw [show (acc ++ [v5]).length = acc.length + 1 by simp] at e
          exact e
    · have gib : decide (i < v4) = false := decide_eq_false gi
      have hm := HM.out
      rw [show (v4 - i).toNat = 0 by have := HI.out; omega] at hm
      simp only [pk_many] at hm
      subst hm
      have h2 := HT2.out
      simp only at h2
      have HT3 := Aside0.mk h2
      clear HM h2 HT2 gi
      have HT2 := HT3
      clear HT3
      obtain ⟨A, c, eN, -, -⟩ := Kd.R_reads HO.out
      subst eN
      obtain ⟨⟨x0, x1, x2, x3⟩, y0, y1, y2, y3⟩ := pk_cells HQ.out
      have z := HQ.out.2.2.1
      have p0 := (blk_cell z 0).trans rfl
      have p1 := (blk_cell z 1).trans rfl
      have p2 := (blk_cell z 2).trans rfl
      have p3 := (blk_cell z 3).trans rfl
      have f0 := blk_frozen z 0
      have f1 := blk_frozen z 1
      have f2 := blk_frozen z 2
      have f3 := blk_frozen z 3
      obtain ⟨Ax, cx, hx, -, -⟩ := HQ.out.1
      have q0 : wr.cell? ⟨w.heap.size + 1, 0, none⟩ = some (.slice Ax ss.length cx) := (blk_cell hx 0).trans rfl
      have q1 : wr.cell? ⟨w.heap.size + 1, 1, none⟩ = some (.bool bb) := (blk_cell hx 1).trans rfl
      clear z hx
      cases bb with
      | true =>
        have ht := HT2.out
        rw [if_pos (.inl rfl)] at ht
        simp only [Prod.mk.injEq] at ht
        obtain ⟨rfl, rfl, rfl, rfl, rfl⟩ := ht
        clear HT2
        go_wp2
        generalize hW : ((((wr.setCell ⟨w.heap.size, 0, none⟩ _).setCell ⟨w.heap.size, 1, none⟩ _).setCell ⟨w.heap.size, 2, none⟩ _).setCell ⟨w.heap.size, 3, none⟩ _) = W4
        obtain ⟨g0, g1, g2, g3, B⟩ := pk_out HQ.out _ _ _ _ W4 hW.symm
        exact bodyPost_ret (v := .tuple #[.agg #[.int .i64 0, .int .i64 0, .int .i64 0, .slice none 0 0], .iface 31 (.int .i64 2)]) (by simp [results, Try.results10, go_sem, g0, g1, g2, g3]) rfl ⟨_, rfl, Kd.R_nil _ _ _ _ _, B⟩
      | false =>
        cases ss with
        | cons y ys =>
          have l1 : decide (0 < (ys.length : Int) + 1) = true := decide_eq_true (by omega)
          simp only [List.length_cons] at q0
          have ht := HT2.out
          rw [if_pos (.inr (by simp))] at ht
          simp only [Prod.mk.injEq] at ht
          obtain ⟨rfl, rfl, rfl, rfl, rfl⟩ := ht
          clear HT2
          go_wp2
          generalize hW : ((((wr.setCell ⟨w.heap.size, 0, none⟩ _).setCell ⟨w.heap.size, 1, none⟩ _).setCell ⟨w.heap.size, 2, none⟩ _).setCell ⟨w.heap.size, 3, none⟩ _) = W4
          obtain ⟨g0, g1, g2, g3, B⟩ := pk_out HQ.out _ _ _ _ W4 hW.symm
          exact bodyPost_ret (v := .tuple #[.agg #[.int .i64 0, .int .i64 0, .int .i64 0, .slice none 0 0], .iface 31 (.int .i64 2)]) (by simp [results, Try.results10, go_sem, g0, g1, g2, g3]) rfl ⟨_, rfl, Kd.R_nil _ _ _ _ _, B⟩
        | nil =>
          simp only [List.length_nil] at q0
          have ht := HT2.out
          rw [if_neg (by simp)] at ht
          simp only [Prod.mk.injEq] at ht
          obtain ⟨rfl, rfl, rfl, rfl, rfl⟩ := ht
          clear HT2
          go_wp2
          generalize hW : ((((wr.setCell ⟨w.heap.size, 0, none⟩ _).setCell ⟨w.heap.size, 1, none⟩ _).setCell ⟨w.heap.size, 2, none⟩ _).setCell ⟨w.heap.size, 3, none⟩ _) = W4
          obtain ⟨g0, g1, g2, g3, B⟩ := pk_out HQ.out _ _ _ _ W4 hW.symm
          have HR4 : (Kd.int .i64).R 2 W4 w.heap.size (fun _ => True) (.slice A acc.length c) acc := by
            rw [← hW]
            have z := HQ.out.2.2.1
            have e0 := Kd.R_set HO.out z (by simp [Kd.int, Kd.scalar]) 0 (.int .i64 v1)
            have z1 := blk_set z 0 (.int .i64 v1)
            have e1 := Kd.R_set e0 z1 (by simp [Kd.int, Kd.scalar]) 1 (.int .i64 v2)
            have z2 := blk_set z1 1 (.int .i64 v2)
            have e2 := Kd.R_set e1 z2 (by simp [Kd.int, Kd.scalar]) 2 (.int .i64 v3)
            have z3 := blk_set z2 2 (.int .i64 v3)
            exact Kd.R_set e2 z3 (by simp [Kd.int, Kd.scalar]) 3 _
          exact bodyPost_ret (v := .tuple #[.agg #[.int .i64 v1, .int .i64 v2, .int .i64 v3, .slice A acc.length c], .nilIface]) (by simp [results, Try.results10, go_sem, g0, g1, g2, g3]) rfl ⟨_, rfl, HR4, B⟩
theorem pack_Get.calls (A0 : Option Addr) (c0 : Nat) (l0 : List Int) (r1 r2 r3 : Int) (r4 : List Int) (r5 : Option Int) (w : World) (hr0 : Kd.C (Kd.int .u8) w A0 l0.length l0) (hc0 : l0.length ≤ c0) (h : pack_Get.f l0 = some (r1, r2, r3, r4, r5)) :
    Calls Try.prog 10 #[.slice A0 l0.length c0] w fun e w' => ∃ v3_ : Value, e = .returned (.tuple #[.agg #[.int .i64 r1, .int .i64 r2, .int .i64 r3, v3_], errW r5]) ∧ Kd.R (Kd.int .i64) 2 w' w.heap.size (fun _ => True) v3_ r4 ∧ Below w.heap.size w w' :=
  pk_get_walk A0 c0 l0 r1 r2 r3 r4 r5 w hr0 hc0 (Option.some.inj h)

/-! ### trivetlaw06_up: function 7 -/
def trivetlaw06_up.f (k : Nat)  : Option (Bool) := (pack_Put.f k 2 (-1) 64 (([3] : List Int))).bind fun bt128 => ((pack_Get.f ([] : List Int)).bind fun bt132 => (if bt128.2.isNone = true then (if (strOfNums bt128.1).toList = ([4, 1, 128, 1, 2, 6] : List UInt8) then (if bt132.2.2.2.2.isNone = true then (some false) else (some ((bt132.2.2.2.2.getD 0) == 2))) else (some false)) else (some false)))
theorem trivetlaw06_up.mono : ∀ k, LeO (trivetlaw06_up.f k ) (trivetlaw06_up.f (k + 1) ) := by
  intro  k
  unfold trivetlaw06_up.f
  repeat' first
      | (with_reducible exact pack_Put.mono _ _ _ _ _)
      | (with_reducible exact LeO.refl _)
      | (with_reducible exact LeO.none _)
      | (with_reducible refine LeO.ite ?_ ?_)
      | (with_reducible refine LeO.bind ?_ (fun _ => ?_))
      | exact pack_Put.mono _ _ _ _ _
      | exact LeO.none _
      | refine LeO.ite ?_ ?_
      | refine LeO.bind ?_ (fun _ => ?_)
set_option maxHeartbeats 8000000 in
set_option maxRecDepth 100000 in
theorem trivetlaw06_up.calls (k : Nat)  (r : Bool) (w : World) (h : trivetlaw06_up.f k  = some r) :
    Calls Try.prog 7 #[] w fun e w' => e = .returned (.bool r) ∧ Below w.heap.size w w' := by
  have hu24 := Try.underlying24
  have hu28 := Try.underlying28
  have hu31 := Try.underlying31
  have HB := Aside0.mk (Below.refl w.heap.size w)
  have H : ((pack_Put.f k 2 (-1) 64 (([3] : List Int))).bind fun bt128 => ((pack_Get.f ([] : List Int)).bind fun bt132 => (if bt128.2.isNone = true then (if (strOfNums bt128.1).toList = ([4, 1, 128, 1, 2, 6] : List UInt8) then (if bt132.2.2.2.2.isNone = true then (some false) else (some ((bt132.2.2.2.2.getD 0) == 2))) else (some false)) else (some false)))) = some r := h
  clear h
  obtain ⟨y125, hy125⟩ : ∃ y_ : List Int, y_ = (([3] : List Int)) := ⟨_, rfl⟩
  replace H : ((pack_Put.f k 2 (-1) 64 y125).bind fun bt128 => ((pack_Get.f ([] : List Int)).bind fun bt132 => (if bt128.2.isNone = true then (if (strOfNums bt128.1).toList = ([4, 1, 128, 1, 2, 6] : List UInt8) then (if bt132.2.2.2.2.isNone = true then (some false) else (some ((bt132.2.2.2.2.getD 0) == 2))) else (some false)) else (some false)))) = some r := by first | (rw [hy125]; with_reducible exact H) | (have H2_ := (Option.bind_some _ _).symm.trans H; rw [hy125]; with_reducible exact H2_) | (have H2_ := (Option.bind_some _ _).symm.trans H; with_reducible exact H2_) | with_reducible exact H | (rw [hy125]; exact H) | exact H
  have Ny125 := Aside0.mk hy125
  clear hy125
  replace H := Option.bind_eq_some_iff.mp H
  obtain ⟨⟨t128, t131⟩, A10, H⟩ := H
  replace H : ((pack_Get.f ([] : List Int)).bind fun bt132 => (if t131.isNone = true then (if (strOfNums t128).toList = ([4, 1, 128, 1, 2, 6] : List UInt8) then (if bt132.2.2.2.2.isNone = true then (some false) else (some ((bt132.2.2.2.2.getD 0) == 2))) else (some false)) else (some false))) = some r := H
  have A1 := Aside0.mk A10
  clear A10
  replace H := Option.bind_eq_some_iff.mp H
  obtain ⟨⟨t132, t133, t134, t135, t138⟩, A20, H⟩ := H
  replace H : (if t131.isNone = true then (if (strOfNums t128).toList = ([4, 1, 128, 1, 2, 6] : List UInt8) then (if t138.isNone = true then (some false) else (some ((t138.getD 0) == 2))) else (some false)) else (some false)) = some r := H
  have A2 := Aside0.mk A20
  clear A20
  rcases t131 with _ | q140
  · have H1 : (if (strOfNums t128).toList = ([4, 1, 128, 1, 2, 6] : List UInt8) then (if t138.isNone = true then (some false) else (some ((t138.getD 0) == 2))) else (some false)) = some r := by rw [if_pos (show (none : Option Int).isNone = true by rfl)] at H; exact H
    clear H
    have H := H1
    clear H1
    try simp only [errW_none, errW_some]
    by_cases c3 : (strOfNums t128).toList = ([4, 1, 128, 1, 2, 6] : List UInt8)
    · rw [if_pos c3] at H
      have c3b0 : ((strOfNums t128).toList == ([4, 1, 128, 1, 2, 6] : List UInt8)) = true := beq_iff_eq.mpr c3
      have c3b1 : ((strOfNums t128).toList != ([4, 1, 128, 1, 2, 6] : List UInt8)) = false := bne_eq_false_iff_eq.mpr c3
      clear c3
      rcases t138 with _ | q141
      · have H1 : (some false) = some r := by rw [if_pos (show (none : Option Int).isNone = true by rfl)] at H; exact H
        clear H
        have H := H1
        clear H1
        try simp only [errW_none, errW_some]
        obtain rfl := Option.some.inj H
        go_enter Try.func7, Try.ntmps7
        go_wp2_with (first | ((with_reducible refine gate_dst (N := 6) rfl ?_); refine Kd.R_lit (Kd.int .i64) _ 2 ?hg (N := 6) ?hd (xs := ([3] : List Int)) (inner := [.int .i64 3]) (ok := fun _ => True) (okp := fun _ => True) ?hr ?hp (fun _ hk => hk) trivial (Below.refl _ _) (Nat.le_refl _) (by simp) ?_; (case hd => rfl); (case hg => rfl); (case hr => first | (go_simp; done) | (go_simp; rfl)); (case hp => exact (Reps.one (show Kd.M (Kd.int .i64) _ _ _ 3 [.int .i64 3] from rfl) (Reps.none _ _))); intro v126 w4 ho5 hb hg_ hnew_; clear hg_ hnew_; (first | rw [← Ny125.out] at ho5 | (simp only [Int.reduceToNat] at ho5; rw [← Ny125.out] at ho5)); have n0_ := Aside0.mk (Kd.R_lower ho5 (below_size (by repeat (first | (with_reducible first | exact HB.out | apply below_alloc | apply pw_below_drewN | apply below_drew1) | exact HB.out)))); have n1_ := Aside0.mk (below_step (by repeat (first | (with_reducible first | exact HB.out | apply below_alloc | apply pw_below_drewN | apply below_drew1) | exact HB.out)) hb); clear HB; have HO127 := n0_; have HB := n1_; clear n0_ n1_; clear hb ho5; obtain ⟨Ao6, co6, eo6⟩ := Kd.R_slice HO127.out; subst eo6) | ((with_reducible refine gate_callee (f := 8) rfl ?_); refine goesL_ (some 8) rfl rfl Try.func8 (by kernel_rfl) rfl #[.agg #[.int .i64 2, .int .i64 (-1), .int .i64 64, .slice Ao6 y125.length co6]] rfl (by (try simp only [List.map_toArray, List.map_cons, List.map_nil]); first | done | rfl | (simp only [List.length_drop, List.length_take]; rfl)) ?_; (with_reducible refine (pack_Put.calls k 2 (-1) 64 _ _ y125 t128 none _ ?side1 ?side2 A1.out).mono ?_); (case side1 => repeat (first | exact (Kd.R_reads' HO127.out).2.2 | (with_reducible refine Kd.C_alloc ?_ _) | (with_reducible refine Kd.C_drewN ?_ _) | (with_reducible refine Kd.C_drew ?_))); (case side2 => exact (Kd.R_reads' HO127.out).2.1); rintro e w7 ⟨v129, rfl, ho0, hb⟩; refine ⟨_, rfl, ?_⟩; have n0_ := Aside0.mk (Kd.R_below (by (with_reducible repeat (first | apply Kd.R_alloc | apply Kd.R_drewN | apply Kd.R_drew)); exact HO127.out) hb); have n1_ := Aside0.mk (Kd.R_lower ho0 (below_size (by repeat (first | (with_reducible first | exact HB.out | apply below_alloc | apply pw_below_drewN | apply below_drew1) | exact HB.out)))); have n2_ := Aside0.mk (below_step (by repeat (first | (with_reducible first | exact HB.out | apply below_alloc | apply pw_below_drewN | apply below_drew1) | exact HB.out)) hb); clear HO127; clear HB; have HO127 := n0_; have HO130 := n1_; have HB := n2_; clear n0_ n1_ n2_; (try clear hb); (try clear hb2); (try clear hk); (try clear hi); (try clear ho0); (try simp only [errW_none, errW_some])) | ((with_reducible refine gate_callee (f := 10) rfl ?_); refine goesL_ (some 12) rfl rfl Try.func10 (by kernel_rfl) rfl #[.slice none 0 0] rfl (by (try simp only [List.map_toArray, List.map_cons, List.map_nil]); first | done | rfl | (simp only [List.length_drop, List.length_take]; rfl)) ?_; (refine (pack_Get.calls _ _ ([] : List Int) t132 t133 t134 t135 none _ ?side1 ?side2 A2.out).mono ?_); (case side1 => exact Kd.C_nil _ _); (case side2 => exact Nat.le_refl _); rintro e w8 ⟨v136, rfl, ho0, hb⟩; refine ⟨_, rfl, ?_⟩; have n0_ := Aside0.mk (Kd.R_elder' (by (with_reducible repeat (first | apply Kd.R_alloc | apply Kd.R_drewN | apply Kd.R_drew)); exact HO127.out) (Kd.R_base ho0) hb); have n1_ := Aside0.mk (Kd.R_below (by (with_reducible repeat (first | apply Kd.R_alloc | apply Kd.R_drewN | apply Kd.R_drew)); exact HO130.out) hb); have n2_ := Aside0.mk (Kd.R_lower (Kd.R_new' ho0 (Kd.R_lt (by (with_reducible repeat (first | apply Kd.R_alloc | apply Kd.R_drewN | apply Kd.R_drew)); exact HO127.out))) (below_size (by repeat (first | (with_reducible first | exact HB.out | apply below_alloc | apply pw_below_drewN | apply below_drew1) | exact HB.out)))); have n3_ := Aside0.mk (below_step (by repeat (first | (with_reducible first | exact HB.out | apply below_alloc | apply pw_below_drewN | apply below_drew1) | exact HB.out)) hb); clear HO127; clear HO130; clear HB; have HO127 := n0_; have HO130 := n1_; have HO137 := n2_; have HB := n3_; clear n0_ n1_ n2_ n3_; (try clear hb); (try clear hb2); (try clear hk); (try clear hi); (try clear ho0); (try simp only [errW_none, errW_some])) | ((with_reducible refine gate_dst (N := 3) rfl ?_); refine box_event ?hg (N := 3) ?hd (cs := #[.int .i64 0, .int .i64 0, .int .i64 0, .slice none 0 0]) (t := 24) ?hr ?_; (case hd => rfl); (case hg => rfl); (case hr => first | (go_simp; done) | (go_simp; rfl)); intro gb139 hg w9 hbox hb; have n0_ := Aside0.mk (Kd.R_below (by (with_reducible repeat (first | apply Kd.R_alloc | apply Kd.R_drewN | apply Kd.R_drew)); exact HO127.out) hb); have n1_ := Aside0.mk (Kd.R_below (by (with_reducible repeat (first | apply Kd.R_alloc | apply Kd.R_drewN | apply Kd.R_drew)); exact HO130.out) hb); have n2_ := Aside0.mk (Kd.R_below (by (with_reducible repeat (first | apply Kd.R_alloc | apply Kd.R_drewN | apply Kd.R_drew)); exact HO137.out) hb); have n3_ := Aside0.mk (below_step (by repeat (first | (with_reducible first | exact HB.out | apply below_alloc | apply pw_below_drewN | apply below_drew1) | exact HB.out)) hb); have n4_ := Aside0.mk (hbox); have n5_ := Aside0.mk ((by rw [hg]; exact (below_size (by repeat (first | (with_reducible first | exact HB.out | apply below_alloc | apply pw_below_drewN | apply below_drew1) | exact HB.out))) : w.heap.size ≤ gb139)); have n6_ := Aside0.mk ((by rw [hg]; exact (below_size (by repeat (first | (with_reducible first | exact HB.out | apply below_alloc | apply pw_below_drewN | apply below_drew1) | exact HB.out))) : w.heap.size ≤ gb139)); clear HO127; clear HO130; clear HO137; clear HB; have HO127 := n0_; have HO130 := n1_; have HO137 := n2_; have HB := n3_; have BK139 := n4_; have GW139 := n5_; have GE139 := n6_; clear n0_ n1_ n2_ n3_ n4_ n5_ n6_; clear hb hbox hg; have hcz10_0 : w9.cell? ⟨gb139, 0, none⟩ = some (.int .i64 0) := (blk_cell BK139.out 0).trans rfl; have hcz10_1 : w9.cell? ⟨gb139, 1, none⟩ = some (.int .i64 0) := (blk_cell BK139.out 1).trans rfl; have hcz10_2 : w9.cell? ⟨gb139, 2, none⟩ = some (.int .i64 0) := (blk_cell BK139.out 2).trans rfl; have hcz10_3 : w9.cell? ⟨gb139, 3, none⟩ = some (.slice none 0 0) := (blk_cell BK139.out 3).trans rfl; have hfz10_0 := blk_frozen BK139.out 0; have hfz10_1 := blk_frozen BK139.out 1; have hfz10_2 := blk_frozen BK139.out 2; have hfz10_3 := blk_frozen BK139.out 3; obtain ⟨Ao11, co11, eo11⟩ := Kd.R_slice HO137.out; subst eo11; have hcv12 := own_string (P := Try.prog) Try.underlying26 Try.underlying5 Try.underlying9 (Kd.own_of_R HO130.out); (try have hcv13 := fun (u0 u1 u2 u3 : Value) => own_string (P := Try.prog) Try.underlying26 Try.underlying5 Try.underlying9 (Kd.own_of_R (Kd.R_set (Kd.R_set (Kd.R_set (Kd.R_set HO130.out BK139.out (by simp [Kd.int, Kd.scalar]) 0 u0) (blk_set BK139.out 0 u0) (by simp [Kd.int, Kd.scalar]) 1 u1) (blk_set (blk_set BK139.out 0 u0) 1 u1) (by simp [Kd.int, Kd.scalar]) 2 u2) (blk_set (blk_set (blk_set BK139.out 0 u0) 1 u1) 2 u2) (by simp [Kd.int, Kd.scalar]) 3 u3)))))
        go_ret
        exact ⟨by first | rfl | (simp [errW_none, errW_some] <;> rfl) | (simp [*, errW_none, errW_some] <;> rfl), by repeat (first | (with_reducible first | exact HB.out | apply below_alloc | apply pw_below_drewN | apply below_drew1 | refine below_set ?_ GE139.out) | exact HB.out)⟩
      · have H1 : (some (q141 == 2)) = some r := by rw [if_neg (show ¬ (some q141).isNone = true by simp)] at H; exact H
        clear H
        have H := H1
        clear H1
        try simp only [errW_none, errW_some]
        obtain rfl := Option.some.inj H
        go_enter Try.func7, Try.ntmps7
        go_wp2_with (first | ((with_reducible refine gate_dst (N := 6) rfl ?_); refine Kd.R_lit (Kd.int .i64) _ 2 ?hg (N := 6) ?hd (xs := ([3] : List Int)) (inner := [.int .i64 3]) (ok := fun _ => True) (okp := fun _ => True) ?hr ?hp (fun _ hk => hk) trivial (Below.refl _ _) (Nat.le_refl _) (by simp) ?_; (case hd => rfl); (case hg => rfl); (case hr => first | (go_simp; done) | (go_simp; rfl)); (case hp => exact (Reps.one (show Kd.M (Kd.int .i64) _ _ _ 3 [.int .i64 3] from rfl) (Reps.none _ _))); intro v126 w14 ho15 hb hg_ hnew_; clear hg_ hnew_; (first | rw [← Ny125.out] at ho15 | (simp only [Int.reduceToNat] at ho15; rw [← Ny125.out] at ho15)); have n0_ := Aside0.mk (Kd.R_lower ho15 (below_size (by repeat (first | (with_reducible first | exact HB.out | apply below_alloc | apply pw_below_drewN | apply below_drew1) | exact HB.out)))); have n1_ := Aside0.mk (below_step (by repeat (first | (with_reducible first | exact HB.out | apply below_alloc | apply pw_below_drewN | apply below_drew1) | exact HB.out)) hb); clear HB; have HO127 := n0_; have HB := n1_; clear n0_ n1_; clear hb ho15; obtain ⟨Ao16, co16, eo16⟩ := Kd.R_slice HO127.out; subst eo16) | ((with_reducible refine gate_callee (f := 8) rfl ?_); refine goesL_ (some 8) rfl rfl Try.func8 (by kernel_rfl) rfl #[.agg #[.int .i64 2, .int .i64 (-1), .int .i64 64, .slice Ao16 y125.length co16]] rfl (by (try simp only [List.map_toArray, List.map_cons, List.map_nil]); first | done | rfl | (simp only [List.length_drop, List.length_take]; rfl)) ?_; (with_reducible refine (pack_Put.calls k 2 (-1) 64 _ _ y125 t128 none _ ?side1 ?side2 A1.out).mono ?_); (case side1 => repeat (first | exact (Kd.R_reads' HO127.out).2.2 | (with_reducible refine Kd.C_alloc ?_ _) | (with_reducible refine Kd.C_drewN ?_ _) | (with_reducible refine Kd.C_drew ?_))); (case side2 => exact (Kd.R_reads' HO127.out).2.1); rintro e w17 ⟨v129, rfl, ho0, hb⟩; refine ⟨_, rfl, ?_⟩; have n0_ := Aside0.mk (Kd.R_below (by (with_reducible repeat (first | apply Kd.R_alloc | apply Kd.R_drewN | apply Kd.R_drew)); exact HO127.out) hb); have n1_ := Aside0.mk (Kd.R_lower ho0 (below_size (by repeat (first | (with_reducible first | exact HB.out | apply below_alloc | apply pw_below_drewN | apply below_drew1) | exact HB.out)))); have n2_ := Aside0.mk (below_step (by repeat (first | (with_reducible first | exact HB.out | apply below_alloc | apply pw_below_drewN | apply below_drew1) | exact HB.out)) hb); clear HO127; clear HB; have HO127 := n0_; have HO130 := n1_; have HB := n2_; clear n0_ n1_ n2_; (try clear hb); (try clear hb2); (try clear hk); (try clear hi); (try clear ho0); (try simp only [errW_none, errW_some])) | ((with_reducible refine gate_callee (f := 10) rfl ?_); refine goesL_ (some 12) rfl rfl Try.func10 (by kernel_rfl) rfl #[.slice none 0 0] rfl (by (try simp only [List.map_toArray, List.map_cons, List.map_nil]); first | done | rfl | (simp only [List.length_drop, List.length_take]; rfl)) ?_; (refine (pack_Get.calls _ _ ([] : List Int) t132 t133 t134 t135 (some q141) _ ?side1 ?side2 A2.out).mono ?_); (case side1 => exact Kd.C_nil _ _); (case side2 => exact Nat.le_refl _); rintro e w18 ⟨v136, rfl, ho0, hb⟩; refine ⟨_, rfl, ?_⟩; have n0_ := Aside0.mk (Kd.R_elder' (by (with_reducible repeat (first | apply Kd.R_alloc | apply Kd.R_drewN | apply Kd.R_drew)); exact HO127.out) (Kd.R_base ho0) hb); have n1_ := Aside0.mk (Kd.R_below (by (with_reducible repeat (first | apply Kd.R_alloc | apply Kd.R_drewN | apply Kd.R_drew)); exact HO130.out) hb); have n2_ := Aside0.mk (Kd.R_lower (Kd.R_new' ho0 (Kd.R_lt (by (with_reducible repeat (first | apply Kd.R_alloc | apply Kd.R_drewN | apply Kd.R_drew)); exact HO127.out))) (below_size (by repeat (first | (with_reducible first | exact HB.out | apply below_alloc | apply pw_below_drewN | apply below_drew1) | exact HB.out)))); have n3_ := Aside0.mk (below_step (by repeat (first | (with_reducible first | exact HB.out | apply below_alloc | apply pw_below_drewN | apply below_drew1) | exact HB.out)) hb); clear HO127; clear HO130; clear HB; have HO127 := n0_; have HO130 := n1_; have HO137 := n2_; have HB := n3_; clear n0_ n1_ n2_ n3_; (try clear hb); (try clear hb2); (try clear hk); (try clear hi); (try clear ho0); (try simp only [errW_none, errW_some])) | ((with_reducible refine gate_dst (N := 3) rfl ?_); refine box_event ?hg (N := 3) ?hd (cs := #[.int .i64 0, .int .i64 0, .int .i64 0, .slice none 0 0]) (t := 24) ?hr ?_; (case hd => rfl); (case hg => rfl); (case hr => first | (go_simp; done) | (go_simp; rfl)); intro gb139 hg w19 hbox hb; have n0_ := Aside0.mk (Kd.R_below (by (with_reducible repeat (first | apply Kd.R_alloc | apply Kd.R_drewN | apply Kd.R_drew)); exact HO127.out) hb); have n1_ := Aside0.mk (Kd.R_below (by (with_reducible repeat (first | apply Kd.R_alloc | apply Kd.R_drewN | apply Kd.R_drew)); exact HO130.out) hb); have n2_ := Aside0.mk (Kd.R_below (by (with_reducible repeat (first | apply Kd.R_alloc | apply Kd.R_drewN | apply Kd.R_drew)); exact HO137.out) hb); have n3_ := Aside0.mk (below_step (by repeat (first | (with_reducible first | exact HB.out | apply below_alloc | apply pw_below_drewN | apply below_drew1) | exact HB.out)) hb); have n4_ := Aside0.mk (hbox); have n5_ := Aside0.mk ((by rw [hg]; exact (below_size (by repeat (first | (with_reducible first | exact HB.out | apply below_alloc | apply pw_below_drewN | apply below_drew1) | exact HB.out))) : w.heap.size ≤ gb139)); have n6_ := Aside0.mk ((by rw [hg]; exact (below_size (by repeat (first | (with_reducible first | exact HB.out | apply below_alloc | apply pw_below_drewN | apply below_drew1) | exact HB.out))) : w.heap.size ≤ gb139)); clear HO127; clear HO130; clear HO137; clear HB; have HO127 := n0_; have HO130 := n1_; have HO137 := n2_; have HB := n3_; have BK139 := n4_; have GW139 := n5_; have GE139 := n6_; clear n0_ n1_ n2_ n3_ n4_ n5_ n6_; clear hb hbox hg; have hcz20_0 : w19.cell? ⟨gb139, 0, none⟩ = some (.int .i64 0) := (blk_cell BK139.out 0).trans rfl; have hcz20_1 : w19.cell? ⟨gb139, 1, none⟩ = some (.int .i64 0) := (blk_cell BK139.out 1).trans rfl; have hcz20_2 : w19.cell? ⟨gb139, 2, none⟩ = some (.int .i64 0) := (blk_cell BK139.out 2).trans rfl; have hcz20_3 : w19.cell? ⟨gb139, 3, none⟩ = some (.slice none 0 0) := (blk_cell BK139.out 3).trans rfl; have hfz20_0 := blk_frozen BK139.out 0; have hfz20_1 := blk_frozen BK139.out 1; have hfz20_2 := blk_frozen BK139.out 2; have hfz20_3 := blk_frozen BK139.out 3; obtain ⟨Ao21, co21, eo21⟩ := Kd.R_slice HO137.out; subst eo21; have hcv22 := own_string (P := Try.prog) Try.underlying26 Try.underlying5 Try.underlying9 (Kd.own_of_R HO130.out); (try have hcv23 := fun (u0 u1 u2 u3 : Value) => own_string (P := Try.prog) Try.underlying26 Try.underlying5 Try.underlying9 (Kd.own_of_R (Kd.R_set (Kd.R_set (Kd.R_set (Kd.R_set HO130.out BK139.out (by simp [Kd.int, Kd.scalar]) 0 u0) (blk_set BK139.out 0 u0) (by simp [Kd.int, Kd.scalar]) 1 u1) (blk_set (blk_set BK139.out 0 u0) 1 u1) (by simp [Kd.int, Kd.scalar]) 2 u2) (blk_set (blk_set (blk_set BK139.out 0 u0) 1 u1) 2 u2) (by simp [Kd.int, Kd.scalar]) 3 u3)))))
        go_ret
        exact ⟨by first | rfl | (simp [errW_none, errW_some] <;> rfl) | (simp [*, errW_none, errW_some] <;> rfl), by repeat (first | (with_reducible first | exact HB.out | apply below_alloc | apply pw_below_drewN | apply below_drew1 | refine below_set ?_ GE139.out) | exact HB.out)⟩
    · rw [if_neg c3] at H
      have c3b0 : ((strOfNums t128).toList == ([4, 1, 128, 1, 2, 6] : List UInt8)) = false := beq_eq_false_iff_ne.mpr c3
      have c3b1 : ((strOfNums t128).toList != ([4, 1, 128, 1, 2, 6] : List UInt8)) = true := bne_iff_ne.mpr c3
      obtain rfl := Option.some.inj H
      go_enter Try.func7, Try.ntmps7
      go_wp2_with (first | ((with_reducible refine gate_dst (N := 6) rfl ?_); refine Kd.R_lit (Kd.int .i64) _ 2 ?hg (N := 6) ?hd (xs := ([3] : List Int)) (inner := [.int .i64 3]) (ok := fun _ => True) (okp := fun _ => True) ?hr ?hp (fun _ hk => hk) trivial (Below.refl _ _) (Nat.le_refl _) (by simp) ?_; (case hd => rfl); (case hg => rfl); (case hr => first | (go_simp; done) | (go_simp; rfl)); (case hp => exact (Reps.one (show Kd.M (Kd.int .i64) _ _ _ 3 [.int .i64 3] from rfl) (Reps.none _ _))); intro v126 w24 ho25 hb hg_ hnew_; clear hg_ hnew_; (first | rw [← Ny125.out] at ho25 | (simp only [Int.reduceToNat] at ho25; rw [← Ny125.out] at ho25)); have n0_ := Aside0.mk (Kd.R_lower ho25 (below_size (by repeat (first | (with_reducible first | exact HB.out | apply below_alloc | apply pw_below_drewN | apply below_drew1) | exact HB.out)))); have n1_ := Aside0.mk (below_step (by repeat (first | (with_reducible first | exact HB.out | apply below_alloc | apply pw_below_drewN | apply below_drew1) | exact HB.out)) hb); clear HB; have HO127 := n0_; have HB := n1_; clear n0_ n1_; clear hb ho25; obtain ⟨Ao26, co26, eo26⟩ := Kd.R_slice HO127.out; subst eo26) | ((with_reducible refine gate_callee (f := 8) rfl ?_); refine goesL_ (some 8) rfl rfl Try.func8 (by kernel_rfl) rfl #[.agg #[.int .i64 2, .int .i64 (-1), .int .i64 64, .slice Ao26 y125.length co26]] rfl (by (try simp only [List.map_toArray, List.map_cons, List.map_nil]); first | done | rfl | (simp only [List.length_drop, List.length_take]; rfl)) ?_; (with_reducible refine (pack_Put.calls k 2 (-1) 64 _ _ y125 t128 none _ ?side1 ?side2 A1.out).mono ?_); (case side1 => repeat (first | exact (Kd.R_reads' HO127.out).2.2 | (with_reducible refine Kd.C_alloc ?_ _) | (with_reducible refine Kd.C_drewN ?_ _) | (with_reducible refine Kd.C_drew ?_))); (case side2 => exact (Kd.R_reads' HO127.out).2.1); rintro e w27 ⟨v129, rfl, ho0, hb⟩; refine ⟨_, rfl, ?_⟩; have n0_ := Aside0.mk (Kd.R_below (by (with_reducible repeat (first | apply Kd.R_alloc | apply Kd.R_drewN | apply Kd.R_drew)); exact HO127.out) hb); have n1_ := Aside0.mk (Kd.R_lower ho0 (below_size (by repeat (first | (with_reducible first | exact HB.out | apply below_alloc | apply pw_below_drewN | apply below_drew1) | exact HB.out)))); have n2_ := Aside0.mk (below_step (by repeat (first | (with_reducible first | exact HB.out | apply below_alloc | apply pw_below_drewN | apply below_drew1) | exact HB.out)) hb); clear HO127; clear HB; have HO127 := n0_; have HO130 := n1_; have HB := n2_; clear n0_ n1_ n2_; (try clear hb); (try clear hb2); (try clear hk); (try clear hi); (try clear ho0); (try simp only [errW_none, errW_some])) | ((with_reducible refine gate_callee (f := 10) rfl ?_); refine goesL_ (some 12) rfl rfl Try.func10 (by kernel_rfl) rfl #[.slice none 0 0] rfl (by (try simp only [List.map_toArray, List.map_cons, List.map_nil]); first | done | rfl | (simp only [List.length_drop, List.length_take]; rfl)) ?_; (refine (pack_Get.calls _ _ ([] : List Int) t132 t133 t134 t135 t138 _ ?side1 ?side2 A2.out).mono ?_); (case side1 => exact Kd.C_nil _ _); (case side2 => exact Nat.le_refl _); rintro e w28 ⟨v136, rfl, ho0, hb⟩; refine ⟨_, rfl, ?_⟩; have n0_ := Aside0.mk (Kd.R_elder' (by (with_reducible repeat (first | apply Kd.R_alloc | apply Kd.R_drewN | apply Kd.R_drew)); exact HO127.out) (Kd.R_base ho0) hb); have n1_ := Aside0.mk (Kd.R_below (by (with_reducible repeat (first | apply Kd.R_alloc | apply Kd.R_drewN | apply Kd.R_drew)); exact HO130.out) hb); have n2_ := Aside0.mk (Kd.R_lower (Kd.R_new' ho0 (Kd.R_lt (by (with_reducible repeat (first | apply Kd.R_alloc | apply Kd.R_drewN | apply Kd.R_drew)); exact HO127.out))) (below_size (by repeat (first | (with_reducible first | exact HB.out | apply below_alloc | apply pw_below_drewN | apply below_drew1) | exact HB.out)))); have n3_ := Aside0.mk (below_step (by repeat (first | (with_reducible first | exact HB.out | apply below_alloc | apply pw_below_drewN | apply below_drew1) | exact HB.out)) hb); clear HO127; clear HO130; clear HB; have HO127 := n0_; have HO130 := n1_; have HO137 := n2_; have HB := n3_; clear n0_ n1_ n2_ n3_; (try clear hb); (try clear hb2); (try clear hk); (try clear hi); (try clear ho0); (try simp only [errW_none, errW_some])) | ((with_reducible refine gate_dst (N := 3) rfl ?_); refine box_event ?hg (N := 3) ?hd (cs := #[.int .i64 0, .int .i64 0, .int .i64 0, .slice none 0 0]) (t := 24) ?hr ?_; (case hd => rfl); (case hg => rfl); (case hr => first | (go_simp; done) | (go_simp; rfl)); intro gb139 hg w29 hbox hb; have n0_ := Aside0.mk (Kd.R_below (by (with_reducible repeat (first | apply Kd.R_alloc | apply Kd.R_drewN | apply Kd.R_drew)); exact HO127.out) hb); have n1_ := Aside0.mk (Kd.R_below (by (with_reducible repeat (first | apply Kd.R_alloc | apply Kd.R_drewN | apply Kd.R_drew)); exact HO130.out) hb); have n2_ := Aside0.mk (Kd.R_below (by (with_reducible repeat (first | apply Kd.R_alloc | apply Kd.R_drewN | apply Kd.R_drew)); exact HO137.out) hb); have n3_ := Aside0.mk (below_step (by repeat (first | (with_reducible first | exact HB.out | apply below_alloc | apply pw_below_drewN | apply below_drew1) | exact HB.out)) hb); have n4_ := Aside0.mk (hbox); have n5_ := Aside0.mk ((by rw [hg]; exact (below_size (by repeat (first | (with_reducible first | exact HB.out | apply below_alloc | apply pw_below_drewN | apply below_drew1) | exact HB.out))) : w.heap.size ≤ gb139)); have n6_ := Aside0.mk ((by rw [hg]; exact (below_size (by repeat (first | (with_reducible first | exact HB.out | apply below_alloc | apply pw_below_drewN | apply below_drew1) | exact HB.out))) : w.heap.size ≤ gb139)); clear HO127; clear HO130; clear HO137; clear HB; have HO127 := n0_; have HO130 := n1_; have HO137 := n2_; have HB := n3_; have BK139 := n4_; have GW139 := n5_; have GE139 := n6_; clear n0_ n1_ n2_ n3_ n4_ n5_ n6_; clear hb hbox hg; have hcz30_0 : w29.cell? ⟨gb139, 0, none⟩ = some (.int .i64 0) := (blk_cell BK139.out 0).trans rfl; have hcz30_1 : w29.cell? ⟨gb139, 1, none⟩ = some (.int .i64 0) := (blk_cell BK139.out 1).trans rfl; have hcz30_2 : w29.cell? ⟨gb139, 2, none⟩ = some (.int .i64 0) := (blk_cell BK139.out 2).trans rfl; have hcz30_3 : w29.cell? ⟨gb139, 3, none⟩ = some (.slice none 0 0) := (blk_cell BK139.out 3).trans rfl; have hfz30_0 := blk_frozen BK139.out 0; have hfz30_1 := blk_frozen BK139.out 1; have hfz30_2 := blk_frozen BK139.out 2; have hfz30_3 := blk_frozen BK139.out 3; obtain ⟨Ao31, co31, eo31⟩ := Kd.R_slice HO137.out; subst eo31; have hcv32 := own_string (P := Try.prog) Try.underlying26 Try.underlying5 Try.underlying9 (Kd.own_of_R HO130.out); (try have hcv33 := fun (u0 u1 u2 u3 : Value) => own_string (P := Try.prog) Try.underlying26 Try.underlying5 Try.underlying9 (Kd.own_of_R (Kd.R_set (Kd.R_set (Kd.R_set (Kd.R_set HO130.out BK139.out (by simp [Kd.int, Kd.scalar]) 0 u0) (blk_set BK139.out 0 u0) (by simp [Kd.int, Kd.scalar]) 1 u1) (blk_set (blk_set BK139.out 0 u0) 1 u1) (by simp [Kd.int, Kd.scalar]) 2 u2) (blk_set (blk_set (blk_set BK139.out 0 u0) 1 u1) 2 u2) (by simp [Kd.int, Kd.scalar]) 3 u3)))))
      go_ret
      exact ⟨by first | rfl | (simp [errW_none, errW_some] <;> rfl) | (simp [*, errW_none, errW_some] <;> rfl), by repeat (first | (with_reducible first | exact HB.out | apply below_alloc | apply pw_below_drewN | apply below_drew1 | refine below_set ?_ GE139.out) | exact HB.out)⟩
  · have H1 : (some false) = some r := by rw [if_neg (show ¬ (some q140).isNone = true by simp)] at H; exact H
    clear H
    have H := H1
    clear H1
    try simp only [errW_none, errW_some]
    obtain rfl := Option.some.inj H
    go_enter Try.func7, Try.ntmps7
    go_wp2_with (first | ((with_reducible refine gate_dst (N := 6) rfl ?_); refine Kd.R_lit (Kd.int .i64) _ 2 ?hg (N := 6) ?hd (xs := ([3] : List Int)) (inner := [.int .i64 3]) (ok := fun _ => True) (okp := fun _ => True) ?hr ?hp (fun _ hk => hk) trivial (Below.refl _ _) (Nat.le_refl _) (by simp) ?_; (case hd => rfl); (case hg => rfl); (case hr => first | (go_simp; done) | (go_simp; rfl)); (case hp => exact (Reps.one (show Kd.M (Kd.int .i64) _ _ _ 3 [.int .i64 3] from rfl) (Reps.none _ _))); intro v126 w34 ho35 hb hg_ hnew_; clear hg_ hnew_; (first | rw [← Ny125.out] at ho35 | (simp only [Int.reduceToNat] at ho35; rw [← Ny125.out] at ho35)); have n0_ := Aside0.mk (Kd.R_lower ho35 (below_size (by repeat (first | (with_reducible first | exact HB.out | apply below_alloc | apply pw_below_drewN | apply below_drew1) | exact HB.out)))); have n1_ := Aside0.mk (below_step (by repeat (first | (with_reducible first | exact HB.out | apply below_alloc | apply pw_below_drewN | apply below_drew1) | exact HB.out)) hb); clear HB; have HO127 := n0_; have HB := n1_; clear n0_ n1_; clear hb ho35; obtain ⟨Ao36, co36, eo36⟩ := Kd.R_slice HO127.out; subst eo36) | ((with_reducible refine gate_callee (f := 8) rfl ?_); refine goesL_ (some 8) rfl rfl Try.func8 (by kernel_rfl) rfl #[.agg #[.int .i64 2, .int .i64 (-1), .int .i64 64, .slice Ao36 y125.length co36]] rfl (by (try simp only [List.map_toArray, List.map_cons, List.map_nil]); first | done | rfl | (simp only [List.length_drop, List.length_take]; rfl)) ?_; (with_reducible refine (pack_Put.calls k 2 (-1) 64 _ _ y125 t128 (some q140) _ ?side1 ?side2 A1.out).mono ?_); (case side1 => repeat (first | exact (Kd.R_reads' HO127.out).2.2 | (with_reducible refine Kd.C_alloc ?_ _) | (with_reducible refine Kd.C_drewN ?_ _) | (with_reducible refine Kd.C_drew ?_))); (case side2 => exact (Kd.R_reads' HO127.out).2.1); rintro e w37 ⟨v129, rfl, ho0, hb⟩; refine ⟨_, rfl, ?_⟩; have n0_ := Aside0.mk (Kd.R_below (by (with_reducible repeat (first | apply Kd.R_alloc | apply Kd.R_drewN | apply Kd.R_drew)); exact HO127.out) hb); have n1_ := Aside0.mk (Kd.R_lower ho0 (below_size (by repeat (first | (with_reducible first | exact HB.out | apply below_alloc | apply pw_below_drewN | apply below_drew1) | exact HB.out)))); have n2_ := Aside0.mk (below_step (by repeat (first | (with_reducible first | exact HB.out | apply below_alloc | apply pw_below_drewN | apply below_drew1) | exact HB.out)) hb); clear HO127; clear HB; have HO127 := n0_; have HO130 := n1_; have HB := n2_; clear n0_ n1_ n2_; (try clear hb); (try clear hb2); (try clear hk); (try clear hi); (try clear ho0); (try simp only [errW_none, errW_some])) | ((with_reducible refine gate_callee (f := 10) rfl ?_); refine goesL_ (some 12) rfl rfl Try.func10 (by kernel_rfl) rfl #[.slice none 0 0] rfl (by (try simp only [List.map_toArray, List.map_cons, List.map_nil]); first | done | rfl | (simp only [List.length_drop, List.length_take]; rfl)) ?_; (refine (pack_Get.calls _ _ ([] : List Int) t132 t133 t134 t135 t138 _ ?side1 ?side2 A2.out).mono ?_); (case side1 => exact Kd.C_nil _ _); (case side2 => exact Nat.le_refl _); rintro e w38 ⟨v136, rfl, ho0, hb⟩; refine ⟨_, rfl, ?_⟩; have n0_ := Aside0.mk (Kd.R_elder' (by (with_reducible repeat (first | apply Kd.R_alloc | apply Kd.R_drewN | apply Kd.R_drew)); exact HO127.out) (Kd.R_base ho0) hb); have n1_ := Aside0.mk (Kd.R_below (by (with_reducible repeat (first | apply Kd.R_alloc | apply Kd.R_drewN | apply Kd.R_drew)); exact HO130.out) hb); have n2_ := Aside0.mk (Kd.R_lower (Kd.R_new' ho0 (Kd.R_lt (by (with_reducible repeat (first | apply Kd.R_alloc | apply Kd.R_drewN | apply Kd.R_drew)); exact HO127.out))) (below_size (by repeat (first | (with_reducible first | exact HB.out | apply below_alloc | apply pw_below_drewN | apply below_drew1) | exact HB.out)))); have n3_ := Aside0.mk (below_step (by repeat (first | (with_reducible first | exact HB.out | apply below_alloc | apply pw_below_drewN | apply below_drew1) | exact HB.out)) hb); clear HO127; clear HO130; clear HB; have HO127 := n0_; have HO130 := n1_; have HO137 := n2_; have HB := n3_; clear n0_ n1_ n2_ n3_; (try clear hb); (try clear hb2); (try clear hk); (try clear hi); (try clear ho0); (try simp only [errW_none, errW_some])) | ((with_reducible refine gate_dst (N := 3) rfl ?_); refine box_event ?hg (N := 3) ?hd (cs := #[.int .i64 0, .int .i64 0, .int .i64 0, .slice none 0 0]) (t := 24) ?hr ?_; (case hd => rfl); (case hg => rfl); (case hr => first | (go_simp; done) | (go_simp; rfl)); intro gb139 hg w39 hbox hb; have n0_ := Aside0.mk (Kd.R_below (by (with_reducible repeat (first | apply Kd.R_alloc | apply Kd.R_drewN | apply Kd.R_drew)); exact HO127.out) hb); have n1_ := Aside0.mk (Kd.R_below (by (with_reducible repeat (first | apply Kd.R_alloc | apply Kd.R_drewN | apply Kd.R_drew)); exact HO130.out) hb); have n2_ := Aside0.mk (Kd.R_below (by (with_reducible repeat (first | apply Kd.R_alloc | apply Kd.R_drewN | apply Kd.R_drew)); exact HO137.out) hb); have n3_ := Aside0.mk (below_step (by repeat (first | (with_reducible first | exact HB.out | apply below_alloc | apply pw_below_drewN | apply below_drew1) | exact HB.out)) hb); have n4_ := Aside0.mk (hbox); have n5_ := Aside0.mk ((by rw [hg]; exact (below_size (by repeat (first | (with_reducible first | exact HB.out | apply below_alloc | apply pw_below_drewN | apply below_drew1) | exact HB.out))) : w.heap.size ≤ gb139)); have n6_ := Aside0.mk ((by rw [hg]; exact (below_size (by repeat (first | (with_reducible first | exact HB.out | apply below_alloc | apply pw_below_drewN | apply below_drew1) | exact HB.out))) : w.heap.size ≤ gb139)); clear HO127; clear HO130; clear HO137; clear HB; have HO127 := n0_; have HO130 := n1_; have HO137 := n2_; have HB := n3_; have BK139 := n4_; have GW139 := n5_; have GE139 := n6_; clear n0_ n1_ n2_ n3_ n4_ n5_ n6_; clear hb hbox hg; have hcz40_0 : w39.cell? ⟨gb139, 0, none⟩ = some (.int .i64 0) := (blk_cell BK139.out 0).trans rfl; have hcz40_1 : w39.cell? ⟨gb139, 1, none⟩ = some (.int .i64 0) := (blk_cell BK139.out 1).trans rfl; have hcz40_2 : w39.cell? ⟨gb139, 2, none⟩ = some (.int .i64 0) := (blk_cell BK139.out 2).trans rfl; have hcz40_3 : w39.cell? ⟨gb139, 3, none⟩ = some (.slice none 0 0) := (blk_cell BK139.out 3).trans rfl; have hfz40_0 := blk_frozen BK139.out 0; have hfz40_1 := blk_frozen BK139.out 1; have hfz40_2 := blk_frozen BK139.out 2; have hfz40_3 := blk_frozen BK139.out 3; obtain ⟨Ao41, co41, eo41⟩ := Kd.R_slice HO137.out; subst eo41))
    go_ret
    exact ⟨by first | rfl | (simp [errW_none, errW_some] <;> rfl) | (simp [*, errW_none, errW_some] <;> rfl), by repeat (first | (with_reducible first | exact HB.out | apply below_alloc | apply pw_below_drewN | apply below_drew1 | refine below_set ?_ GE139.out) | exact HB.out)⟩

end Go.Proofs.Ytpacenloagepfaa.PPackStays
