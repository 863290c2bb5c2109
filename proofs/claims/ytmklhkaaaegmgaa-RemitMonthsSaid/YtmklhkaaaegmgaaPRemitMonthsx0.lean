-- written for this claim by a program of this session (wip/inject.py), which drives the kit's print
import Derived.Test.YtmklhkaaaegmgaaProg
import Derived.Below
import Derived.Deep.Draws
import Derived.Deep.AppendLies
import Derived.Maps.AppendAt
import Derived.OwnWalk
import Derived.Laws.BytesArg
import Derived.Laws.MakeOwn
import Derived.Laws.OwnMore
import Derived.Deep.OwnRows
import Derived.Tactics
import Derived.Lib.ConvBytes
import Derived.Laws.Slices
import Derived.WalkKit
import Derived.KernelRfl
import Derived.RowKit3
import Derived.Deep.LoopGhost
import Derived.Deep.QuietTactic
import Derived.BigQuiet
import Derived.WideLaws
import Derived.Deep.DeepCutAuto
import Derived.Deep.CutBlock
import Derived.Deep.RegionHeld3
import Derived.Laws.Rows
import Derived.Lib.AppendStr
import Derived.ArgAppend
import Derived.Laws.IdiomCopy
import Derived.OrdersHeld
import Derived.Laws.BitsLemmas
import Derived.RowKit
import Derived.Test.YtmklhkaaaegmgaaWWords
import Derived.Test.YtmklhkaaaegmgaaWLast
import Derived.Test.YtmklhkaaaegmgaaWTab
import Derived.Test.YtmklhkaaaegmgaaWFour
import Derived.Test.YtmklhkaaaegmgaaWQPut
import Derived.Test.YtmklhkaaaegmgaaWApart
import Derived.Test.YtmklhkaaaegmgaaWArr
import Derived.Test.YtmklhkaaaegmgaaWZeros
import Derived.Test.YtmklhkaaaegmgaaWFoot
import Derived.Test.YtmklhkaaaegmgaaWKept
import Derived.Test.YtmklhkaaaegmgaaWShare
import Derived.Test.YtmklhkaaaegmgaaWN
import Derived.Test.YtmklhkaaaegmgaaWFootNe
import Derived.Test.YtmklhkaaaegmgaaWAt
import Derived.Test.YtmklhkaaaegmgaaWEqStruct
import Derived.Test.YtmklhkaaaegmgaaWRepsOne
import Derived.Test.YtmklhkaaaegmgaaWInv
import Derived.Test.YtmklhkaaaegmgaaWInvWords
import Derived.Test.YtmklhkaaaegmgaaWGuard
import Derived.Test.YtmklhkaaaegmgaaWNEv
import Derived.Test.YtmklhkaaaegmgaaWMore
namespace Go.Proofs.Ytmklhkaaaegmgaa.PRemitMonths
open Go.RowKit Go.Proofs.YtmklhkaaaegmgaaW.PrintWords Go.Proofs.YtmklhkaaaegmgaaW.PrintLast Go.Proofs.YtmklhkaaaegmgaaW.PrintMore
attribute [local go_sem] max2_int min2_int max_two min_two max_three min_three max_four min_four   -- for this text's walks alone
set_option linter.unusedVariables false
set_option linter.unusedSimpArgs false

set_option linter.unnecessarySimpa false


def errW : Option Int → Value
  | none => .nilIface
  | some c => .iface 32 (.int .i64 c)
theorem errW_none : errW none = .nilIface := rfl
theorem errW_some (c : Int) : errW (some c) = .iface 32 (.int .i64 c) := rfl

-- the values' own types
def rd_L1 (xs : List (List Int)) (i : Int) : (List Int) := xs.getD i.toNat ([] : List Int)
theorem at_L1 {w : World} {A : Option Addr} {n : Nat} {xs : List (List Int)} (h : Kd.C (Kd.slice 2 (Kd.int .i64)) w A n xs) (i : Int) (h0 : 0 ≤ i) (h1 : i < n) : ∃ ad A0 c0, A = some ad ∧ w.cell? (ad.add i.toNat) = some (.slice A0 (rd_L1 xs i).length c0) ∧ (rd_L1 xs i).length ≤ c0 ∧ (Kd.int .i64).C w A0 (rd_L1 xs i).length (rd_L1 xs i) := by
  obtain ⟨ad, c, e, _, hK, hc0⟩ := Kd.C_get h ([] : List Int) i h0 h1
  have hc : ∀ j u, c[j]? = some u → w.cell? (ad.add (i.toNat * 1 + j)) = some u := hc0
  obtain ⟨A0, c0, rfl, l0, g0⟩ := hK
  exact ⟨ad, A0, c0, e, by have hq := hc 0 _ rfl; rwa [Nat.mul_one, Nat.add_zero] at hq, l0, g0⟩

/-! #### struct type 22 -/
structure S22 where
  f0 : Int
  f1 : Int
def z22 : S22 := ⟨(0 : Int), (0 : Int)⟩
def k22 : Kd S22 := Kd.iso (Kd.pair (Kd.int .i64) (Kd.int .i64)) (fun x : S22 => (x.f0, x.f1))
theorem k22_open {w : World} {x : S22} {cs : List Value} (h : k22.K w x cs) : cs = [.int .i64 x.f0, .int .i64 x.f1] := by
  obtain ⟨_, _, rfl, rfl, rfl⟩ := h
  exact rfl
theorem k22_openM {w : World} {base : Nat} {ok : Nat → Prop} {x : S22} {cs : List Value} (h : k22.M w base ok x cs) : cs = [.int .i64 x.f0, .int .i64 x.f1] := by
  obtain ⟨_, _, rfl, rfl, rfl⟩ := h
  exact rfl
theorem k22_mk (w : World) (x : S22)  : k22.K w x [.int .i64 x.f0, .int .i64 x.f1] := ⟨[.int .i64 x.f0], [.int .i64 x.f1], rfl, rfl, rfl⟩
theorem k22_mkM (w : World) (base : Nat) (ok : Nat → Prop) (x : S22)  : k22.M w base ok x [.int .i64 x.f0, .int .i64 x.f1] := ⟨[.int .i64 x.f0], [.int .i64 x.f1], rfl, rfl, rfl⟩
def rd_T22 (xs : List S22) (i : Int) : S22 := xs.getD i.toNat z22
theorem at_T22 {w : World} {A : Option Addr} {n : Nat} {xs : List S22} (h : Kd.C k22 w A n xs) (i : Int) (h0 : 0 ≤ i) (h1 : i < n) : ∃ ad , A = some ad ∧ w.cell? (ad.add (i.toNat * 2)) = some (.int .i64 (rd_T22 xs i).f0) ∧ w.cell? ⟨(ad.add (i.toNat * 2)).block, (ad.add (i.toNat * 2)).off + 1, none⟩ = some (.int .i64 (rd_T22 xs i).f1) := by
  obtain ⟨ad, c, e, _, hK, hc0⟩ := Kd.C_get h z22 i h0 h1
  have hc : ∀ j u, c[j]? = some u → w.cell? (ad.add (i.toNat * 2 + j)) = some u := hc0
  obtain rfl := k22_open hK
  exact ⟨ad, e, hc 0 _ rfl, by rw [← add_field _ _ 1 (by omega)]; exact hc 1 _ rfl⟩

/-! #### struct type 25 -/
structure S25 where
  f0 : Int
  f1 : Int
  f2 : Int
  f3 : Int
  f4 : Int
  f5 : Int
def z25 : S25 := ⟨(0 : Int), (0 : Int), (0 : Int), (0 : Int), (0 : Int), (0 : Int)⟩
def k25 : Kd S25 := Kd.iso (Kd.pair (Kd.int .i64) (Kd.pair (Kd.int .i64) (Kd.pair (Kd.int .i64) (Kd.pair (Kd.int .i64) (Kd.pair (Kd.int .i64) (Kd.int .i64)))))) (fun x : S25 => (x.f0, x.f1, x.f2, x.f3, x.f4, x.f5))
theorem k25_open {w : World} {x : S25} {cs : List Value} (h : k25.K w x cs) : cs = [.int .i64 x.f0, .int .i64 x.f1, .int .i64 x.f2, .int .i64 x.f3, .int .i64 x.f4, .int .i64 x.f5] := by
  obtain ⟨_, _, rfl, rfl, ⟨_, _, rfl, rfl, ⟨_, _, rfl, rfl, ⟨_, _, rfl, rfl, ⟨_, _, rfl, rfl, rfl⟩⟩⟩⟩⟩ := h
  exact rfl
theorem k25_openM {w : World} {base : Nat} {ok : Nat → Prop} {x : S25} {cs : List Value} (h : k25.M w base ok x cs) : cs = [.int .i64 x.f0, .int .i64 x.f1, .int .i64 x.f2, .int .i64 x.f3, .int .i64 x.f4, .int .i64 x.f5] := by
  obtain ⟨_, _, rfl, rfl, ⟨_, _, rfl, rfl, ⟨_, _, rfl, rfl, ⟨_, _, rfl, rfl, ⟨_, _, rfl, rfl, rfl⟩⟩⟩⟩⟩ := h
  exact rfl
theorem k25_mk (w : World) (x : S25)  : k25.K w x [.int .i64 x.f0, .int .i64 x.f1, .int .i64 x.f2, .int .i64 x.f3, .int .i64 x.f4, .int .i64 x.f5] := ⟨[.int .i64 x.f0], [.int .i64 x.f1, .int .i64 x.f2, .int .i64 x.f3, .int .i64 x.f4, .int .i64 x.f5], rfl, rfl, ⟨[.int .i64 x.f1], [.int .i64 x.f2, .int .i64 x.f3, .int .i64 x.f4, .int .i64 x.f5], rfl, rfl, ⟨[.int .i64 x.f2], [.int .i64 x.f3, .int .i64 x.f4, .int .i64 x.f5], rfl, rfl, ⟨[.int .i64 x.f3], [.int .i64 x.f4, .int .i64 x.f5], rfl, rfl, ⟨[.int .i64 x.f4], [.int .i64 x.f5], rfl, rfl, rfl⟩⟩⟩⟩⟩
theorem k25_mkM (w : World) (base : Nat) (ok : Nat → Prop) (x : S25)  : k25.M w base ok x [.int .i64 x.f0, .int .i64 x.f1, .int .i64 x.f2, .int .i64 x.f3, .int .i64 x.f4, .int .i64 x.f5] := ⟨[.int .i64 x.f0], [.int .i64 x.f1, .int .i64 x.f2, .int .i64 x.f3, .int .i64 x.f4, .int .i64 x.f5], rfl, rfl, ⟨[.int .i64 x.f1], [.int .i64 x.f2, .int .i64 x.f3, .int .i64 x.f4, .int .i64 x.f5], rfl, rfl, ⟨[.int .i64 x.f2], [.int .i64 x.f3, .int .i64 x.f4, .int .i64 x.f5], rfl, rfl, ⟨[.int .i64 x.f3], [.int .i64 x.f4, .int .i64 x.f5], rfl, rfl, ⟨[.int .i64 x.f4], [.int .i64 x.f5], rfl, rfl, rfl⟩⟩⟩⟩⟩
def rd_T25 (xs : List S25) (i : Int) : S25 := xs.getD i.toNat z25
theorem at_T25 {w : World} {A : Option Addr} {n : Nat} {xs : List S25} (h : Kd.C k25 w A n xs) (i : Int) (h0 : 0 ≤ i) (h1 : i < n) : ∃ ad , A = some ad ∧ w.cell? (ad.add (i.toNat * 6)) = some (.int .i64 (rd_T25 xs i).f0) ∧ w.cell? ⟨(ad.add (i.toNat * 6)).block, (ad.add (i.toNat * 6)).off + 1, none⟩ = some (.int .i64 (rd_T25 xs i).f1) ∧ w.cell? ⟨(ad.add (i.toNat * 6)).block, (ad.add (i.toNat * 6)).off + 2, none⟩ = some (.int .i64 (rd_T25 xs i).f2) ∧ w.cell? ⟨(ad.add (i.toNat * 6)).block, (ad.add (i.toNat * 6)).off + 3, none⟩ = some (.int .i64 (rd_T25 xs i).f3) ∧ w.cell? ⟨(ad.add (i.toNat * 6)).block, (ad.add (i.toNat * 6)).off + 4, none⟩ = some (.int .i64 (rd_T25 xs i).f4) ∧ w.cell? ⟨(ad.add (i.toNat * 6)).block, (ad.add (i.toNat * 6)).off + 5, none⟩ = some (.int .i64 (rd_T25 xs i).f5) := by
  obtain ⟨ad, c, e, _, hK, hc0⟩ := Kd.C_get h z25 i h0 h1
  have hc : ∀ j u, c[j]? = some u → w.cell? (ad.add (i.toNat * 6 + j)) = some u := hc0
  obtain rfl := k25_open hK
  exact ⟨ad, e, hc 0 _ rfl, by rw [← add_field _ _ 1 (by omega)]; exact hc 1 _ rfl, by rw [← add_field _ _ 2 (by omega)]; exact hc 2 _ rfl, by rw [← add_field _ _ 3 (by omega)]; exact hc 3 _ rfl, by rw [← add_field _ _ 4 (by omega)]; exact hc 4 _ rfl, by rw [← add_field _ _ 5 (by omega)]; exact hc 5 _ rfl⟩

theorem errEqI (a b : Int) (w : World) : (binOp .eql 27 (.iface 32 (.int .i64 a)) (.iface 32 (.int .i64 b))).run Try.prog w = .ok (.bool (a == b)) w := by
  obtain ⟨ms, hi⟩ : ∃ ms, Try.prog.underlying 27 = some (.interface ms) := ⟨_, Try.underlying27⟩
  obtain ⟨i, hi2, hc⟩ : ∃ i, Try.prog.info? 32 = some i ∧ i.comparable = true := ⟨_, rfl, by kernel_rfl⟩
  have hn : Try.prog.underlying 32 = some (.int .i64) := Try.underlying32
  have h : ∀ d, (Op.equalIn (d + 2) 27 (.iface 32 (.int .i64 a)) (.iface 32 (.int .i64 b))).run Try.prog w = .ok (a == b) w := fun d => by simp [Op.equalIn, run_underlying hi, run_underlying hn, typeInfo, hi2, hc]
  simp only [binOp]
  simp [Op.equal, Op.maxDepth, h 9998, bne]
theorem errEqL (b : Int) (w : World) : (binOp .eql 27 (.nilIface) (.iface 32 (.int .i64 b))).run Try.prog w = .ok (.bool false) w := by
  obtain ⟨ms, hi⟩ : ∃ ms, Try.prog.underlying 27 = some (.interface ms) := ⟨_, Try.underlying27⟩
  have h : ∀ d, (Op.equalIn (d + 2) 27 (.nilIface) (.iface 32 (.int .i64 b))).run Try.prog w = .ok false w := fun d => by simp [Op.equalIn, run_underlying hi]
  simp only [binOp]
  simp [Op.equal, Op.maxDepth, h 9998]
theorem errEqR (b : Int) (w : World) : (binOp .eql 27 (.iface 32 (.int .i64 b)) (.nilIface)).run Try.prog w = .ok (.bool false) w := by
  obtain ⟨ms, hi⟩ : ∃ ms, Try.prog.underlying 27 = some (.interface ms) := ⟨_, Try.underlying27⟩
  have h : ∀ d, (Op.equalIn (d + 2) 27 (.iface 32 (.int .i64 b)) (.nilIface)).run Try.prog w = .ok false w := fun d => by simp [Op.equalIn, run_underlying hi]
  simp only [binOp]
  simp [Op.equal, Op.maxDepth, h 9998]
theorem errNeI (a b : Int) (w : World) : (binOp .neq 27 (.iface 32 (.int .i64 a)) (.iface 32 (.int .i64 b))).run Try.prog w = .ok (.bool (a != b)) w := by
  obtain ⟨ms, hi⟩ : ∃ ms, Try.prog.underlying 27 = some (.interface ms) := ⟨_, Try.underlying27⟩
  obtain ⟨i, hi2, hc⟩ : ∃ i, Try.prog.info? 32 = some i ∧ i.comparable = true := ⟨_, rfl, by kernel_rfl⟩
  have hn : Try.prog.underlying 32 = some (.int .i64) := Try.underlying32
  have h : ∀ d, (Op.equalIn (d + 2) 27 (.iface 32 (.int .i64 a)) (.iface 32 (.int .i64 b))).run Try.prog w = .ok (a == b) w := fun d => by simp [Op.equalIn, run_underlying hi, run_underlying hn, typeInfo, hi2, hc]
  simp only [binOp]
  simp [Op.equal, Op.maxDepth, h 9998, bne]
theorem errNeL (b : Int) (w : World) : (binOp .neq 27 (.nilIface) (.iface 32 (.int .i64 b))).run Try.prog w = .ok (.bool true) w := by
  obtain ⟨ms, hi⟩ : ∃ ms, Try.prog.underlying 27 = some (.interface ms) := ⟨_, Try.underlying27⟩
  have h : ∀ d, (Op.equalIn (d + 2) 27 (.nilIface) (.iface 32 (.int .i64 b))).run Try.prog w = .ok false w := fun d => by simp [Op.equalIn, run_underlying hi]
  simp only [binOp]
  simp [Op.equal, Op.maxDepth, h 9998]
theorem errNeR (b : Int) (w : World) : (binOp .neq 27 (.iface 32 (.int .i64 b)) (.nilIface)).run Try.prog w = .ok (.bool true) w := by
  obtain ⟨ms, hi⟩ : ∃ ms, Try.prog.underlying 27 = some (.interface ms) := ⟨_, Try.underlying27⟩
  have h : ∀ d, (Op.equalIn (d + 2) 27 (.iface 32 (.int .i64 b)) (.nilIface)).run Try.prog w = .ok false w := fun d => by simp [Op.equalIn, run_underlying hi]
  simp only [binOp]
  simp [Op.equal, Op.maxDepth, h 9998]
end Go.Proofs.Ytmklhkaaaegmgaa.PRemitMonths
