-- written for this claim by a program of this session (wip/inject.py), which drives the kit's print
import Derived.Test.YtpacenloagepfaaProg
import Derived.Below
import Derived.Deep.Draws
import Derived.Deep.AppendLies
import Derived.Maps.AppendAt
import Derived.OwnWalk
import Derived.Laws.BytesArg
import Derived.Laws.MakeOwn
import Derived.Laws.OwnMore
import Derived.Deep.OwnRows
import Derived.Tactics
import Derived.Lib.ConvBytes
import Derived.Laws.Slices
import Derived.WalkKit
import Derived.KernelRfl
import Derived.RowKit3
import Derived.Deep.LoopGhost
import Derived.Deep.QuietTactic
import Derived.BigQuiet
import Derived.WideLaws
import Derived.Deep.DeepCutAuto
import Derived.Deep.CutBlock
import Derived.Deep.RegionHeld3
import Derived.Laws.Rows
import Derived.Lib.AppendStr
import Derived.ArgAppend
import Derived.Laws.IdiomCopy
import Derived.OrdersHeld
import Derived.Laws.BitsLemmas
import Derived.RowKit
import Derived.Test.YtpacenloagepfaaWWords
import Derived.Test.YtpacenloagepfaaWLast
import Derived.Test.YtpacenloagepfaaWTab
import Derived.Test.YtpacenloagepfaaWFour
import Derived.Test.YtpacenloagepfaaWQPut
import Derived.Test.YtpacenloagepfaaWApart
import Derived.Test.YtpacenloagepfaaWArr
import Derived.Test.YtpacenloagepfaaWZeros
import Derived.Test.YtpacenloagepfaaWFoot
import Derived.Test.YtpacenloagepfaaWKept
import Derived.Test.YtpacenloagepfaaWShare
import Derived.Test.YtpacenloagepfaaWN
import Derived.Test.YtpacenloagepfaaWFootNe
import Derived.Test.YtpacenloagepfaaWAt
import Derived.Test.YtpacenloagepfaaWEqStruct
import Derived.Test.YtpacenloagepfaaWRepsOne
import Derived.Test.YtpacenloagepfaaWInv
import Derived.Test.YtpacenloagepfaaWInvWords
import Derived.Test.YtpacenloagepfaaWGuard
import Derived.Test.YtpacenloagepfaaWNEv
import Derived.Test.YtpacenloagepfaaWMore
namespace Go.Proofs.Ytpacenloagepfaa.PPackStays
open Go.RowKit Go.Proofs.YtpacenloagepfaaW.PrintWords Go.Proofs.YtpacenloagepfaaW.PrintLast Go.Proofs.YtpacenloagepfaaW.PrintMore
attribute [local go_sem] max2_int min2_int max_two min_two max_three min_three max_four min_four   -- for this text's walks alone
set_option linter.unusedVariables false
set_option linter.unusedSimpArgs false

set_option linter.unnecessarySimpa false


def errW : Option Int → Value
  | none => .nilIface
  | some c => .iface 31 (.int .i64 c)
theorem errW_none : errW none = .nilIface := rfl
theorem errW_some (c : Int) : errW (some c) = .iface 31 (.int .i64 c) := rfl

theorem info2 : (Try.prog.info? 2).map (fun i => (i.zero, i.size, i.bytes)) = some (some (.int .i64 0), 1, 8) := by kernel_rfl
theorem info5 : (Try.prog.info? 5).map (fun i => (i.zero, i.size, i.bytes)) = some (some (.int .u8 0), 1, 1) := by kernel_rfl
-- the values' own types
def rd_L2 (xs : List (List Int)) (i : Int) : (List Int) := xs.getD i.toNat ([] : List Int)
theorem at_L2 {w : World} {A : Option Addr} {n : Nat} {xs : List (List Int)} (h : Kd.C (Kd.slice 5 (Kd.int .u8)) w A n xs) (i : Int) (h0 : 0 ≤ i) (h1 : i < n) : ∃ ad A0 c0, A = some ad ∧ w.cell? (ad.add i.toNat) = some (.slice A0 (rd_L2 xs i).length c0) ∧ (rd_L2 xs i).length ≤ c0 ∧ (Kd.int .u8).C w A0 (rd_L2 xs i).length (rd_L2 xs i) := by
  obtain ⟨ad, c, e, _, hK, hc0⟩ := Kd.C_get h ([] : List Int) i h0 h1
  have hc : ∀ j u, c[j]? = some u → w.cell? (ad.add (i.toNat * 1 + j)) = some u := hc0
  obtain ⟨A0, c0, rfl, l0, g0⟩ := hK
  exact ⟨ad, A0, c0, e, by have hq := hc 0 _ rfl; rwa [Nat.mul_one, Nat.add_zero] at hq, l0, g0⟩

def rd_L3 (xs : List (List Int)) (i : Int) : (List Int) := xs.getD i.toNat ([] : List Int)
theorem at_L3 {w : World} {A : Option Addr} {n : Nat} {xs : List (List Int)} (h : Kd.C (Kd.slice 2 (Kd.int .i64)) w A n xs) (i : Int) (h0 : 0 ≤ i) (h1 : i < n) : ∃ ad A0 c0, A = some ad ∧ w.cell? (ad.add i.toNat) = some (.slice A0 (rd_L3 xs i).length c0) ∧ (rd_L3 xs i).length ≤ c0 ∧ (Kd.int .i64).C w A0 (rd_L3 xs i).length (rd_L3 xs i) := by
  obtain ⟨ad, c, e, _, hK, hc0⟩ := Kd.C_get h ([] : List Int) i h0 h1
  have hc : ∀ j u, c[j]? = some u → w.cell? (ad.add (i.toNat * 1 + j)) = some u := hc0
  obtain ⟨A0, c0, rfl, l0, g0⟩ := hK
  exact ⟨ad, A0, c0, e, by have hq := hc 0 _ rfl; rwa [Nat.mul_one, Nat.add_zero] at hq, l0, g0⟩

/-! #### struct type 24 -/
structure S24 where
  f0 : Int
  f1 : Int
  f2 : Int
  f3 : (List Int)
def z24 : S24 := ⟨(0 : Int), (0 : Int), (0 : Int), ([] : List Int)⟩
def k24 : Kd S24 := Kd.iso (Kd.pair (Kd.int .i64) (Kd.pair (Kd.int .i64) (Kd.pair (Kd.int .i64) (Kd.slice 2 (Kd.int .i64))))) (fun x : S24 => (x.f0, x.f1, x.f2, x.f3))
theorem k24_open {w : World} {x : S24} {cs : List Value} (h : k24.K w x cs) : ∃ A3 c3, cs = [.int .i64 x.f0, .int .i64 x.f1, .int .i64 x.f2, .slice A3 x.f3.length c3] ∧ x.f3.length ≤ c3 ∧ (Kd.int .i64).C w A3 x.f3.length x.f3 := by
  obtain ⟨_, _, rfl, rfl, ⟨_, _, rfl, rfl, ⟨_, _, rfl, rfl, ⟨A3, c3, rfl, l3, g3⟩⟩⟩⟩ := h
  exact ⟨A3, c3, rfl, l3, g3⟩
theorem k24_openM {w : World} {base : Nat} {ok : Nat → Prop} {x : S24} {cs : List Value} (h : k24.M w base ok x cs) : ∃ v3, cs = [.int .i64 x.f0, .int .i64 x.f1, .int .i64 x.f2, v3] ∧ (Kd.int .i64).R 2 w base ok v3 x.f3 := by
  obtain ⟨_, _, rfl, rfl, ⟨_, _, rfl, rfl, ⟨_, _, rfl, rfl, ⟨v3, rfl, g3⟩⟩⟩⟩ := h
  exact ⟨v3, rfl, g3⟩
theorem k24_mk (w : World) (x : S24) {A3 : Option Addr} {c3 : Nat} (l3 : x.f3.length ≤ c3) (g3 : (Kd.int .i64).C w A3 x.f3.length x.f3) : k24.K w x [.int .i64 x.f0, .int .i64 x.f1, .int .i64 x.f2, .slice A3 x.f3.length c3] := ⟨[.int .i64 x.f0], [.int .i64 x.f1, .int .i64 x.f2, .slice A3 x.f3.length c3], rfl, rfl, ⟨[.int .i64 x.f1], [.int .i64 x.f2, .slice A3 x.f3.length c3], rfl, rfl, ⟨[.int .i64 x.f2], [.slice A3 x.f3.length c3], rfl, rfl, ⟨A3, c3, rfl, l3, g3⟩⟩⟩⟩
theorem k24_mkM (w : World) (base : Nat) (ok : Nat → Prop) (x : S24) {v3 : Value} (g3 : (Kd.int .i64).R 2 w base ok v3 x.f3) : k24.M w base ok x [.int .i64 x.f0, .int .i64 x.f1, .int .i64 x.f2, v3] := ⟨[.int .i64 x.f0], [.int .i64 x.f1, .int .i64 x.f2, v3], rfl, rfl, ⟨[.int .i64 x.f1], [.int .i64 x.f2, v3], rfl, rfl, ⟨[.int .i64 x.f2], [v3], rfl, rfl, ⟨v3, rfl, g3⟩⟩⟩⟩
def rd_T24 (xs : List S24) (i : Int) : S24 := xs.getD i.toNat z24
theorem at_T24 {w : World} {A : Option Addr} {n : Nat} {xs : List S24} (h : Kd.C k24 w A n xs) (i : Int) (h0 : 0 ≤ i) (h1 : i < n) : ∃ ad A3 c3, A = some ad ∧ w.cell? (ad.add (i.toNat * 4)) = some (.int .i64 (rd_T24 xs i).f0) ∧ w.cell? ⟨(ad.add (i.toNat * 4)).block, (ad.add (i.toNat * 4)).off + 1, none⟩ = some (.int .i64 (rd_T24 xs i).f1) ∧ w.cell? ⟨(ad.add (i.toNat * 4)).block, (ad.add (i.toNat * 4)).off + 2, none⟩ = some (.int .i64 (rd_T24 xs i).f2) ∧ w.cell? ⟨(ad.add (i.toNat * 4)).block, (ad.add (i.toNat * 4)).off + 3, none⟩ = some (.slice A3 (rd_T24 xs i).f3.length c3) ∧ (rd_T24 xs i).f3.length ≤ c3 ∧ (Kd.int .i64).C w A3 (rd_T24 xs i).f3.length (rd_T24 xs i).f3 := by
  obtain ⟨ad, c, e, _, hK, hc0⟩ := Kd.C_get h z24 i h0 h1
  have hc : ∀ j u, c[j]? = some u → w.cell? (ad.add (i.toNat * 4 + j)) = some u := hc0
  obtain ⟨A3, c3, rfl, l3, g3⟩ := k24_open hK
  exact ⟨ad, A3, c3, e, hc 0 _ rfl, by rw [← add_field _ _ 1 (by omega)]; exact hc 1 _ rfl, by rw [← add_field _ _ 2 (by omega)]; exact hc 2 _ rfl, by rw [← add_field _ _ 3 (by omega)]; exact hc 3 _ rfl, l3, g3⟩

theorem errEqI (a b : Int) (w : World) : (binOp .eql 28 (.iface 31 (.int .i64 a)) (.iface 31 (.int .i64 b))).run Try.prog w = .ok (.bool (a == b)) w := by
  obtain ⟨ms, hi⟩ : ∃ ms, Try.prog.underlying 28 = some (.interface ms) := ⟨_, Try.underlying28⟩
  obtain ⟨i, hi2, hc⟩ : ∃ i, Try.prog.info? 31 = some i ∧ i.comparable = true := ⟨_, rfl, by kernel_rfl⟩
  have hn : Try.prog.underlying 31 = some (.int .i64) := Try.underlying31
  have h : ∀ d, (Op.equalIn (d + 2) 28 (.iface 31 (.int .i64 a)) (.iface 31 (.int .i64 b))).run Try.prog w = .ok (a == b) w := fun d => by simp [Op.equalIn, run_underlying hi, run_underlying hn, typeInfo, hi2, hc]
  simp only [binOp]
  simp [Op.equal, Op.maxDepth, h 9998, bne]
theorem errEqL (b : Int) (w : World) : (binOp .eql 28 (.nilIface) (.iface 31 (.int .i64 b))).run Try.prog w = .ok (.bool false) w := by
  obtain ⟨ms, hi⟩ : ∃ ms, Try.prog.underlying 28 = some (.interface ms) := ⟨_, Try.underlying28⟩
  have h : ∀ d, (Op.equalIn (d + 2) 28 (.nilIface) (.iface 31 (.int .i64 b))).run Try.prog w = .ok false w := fun d => by simp [Op.equalIn, run_underlying hi]
  simp only [binOp]
  simp [Op.equal, Op.maxDepth, h 9998]
theorem errEqR (b : Int) (w : World) : (binOp .eql 28 (.iface 31 (.int .i64 b)) (.nilIface)).run Try.prog w = .ok (.bool false) w := by
  obtain ⟨ms, hi⟩ : ∃ ms, Try.prog.underlying 28 = some (.interface ms) := ⟨_, Try.underlying28⟩
  have h : ∀ d, (Op.equalIn (d + 2) 28 (.iface 31 (.int .i64 b)) (.nilIface)).run Try.prog w = .ok false w := fun d => by simp [Op.equalIn, run_underlying hi]
  simp only [binOp]
  simp [Op.equal, Op.maxDepth, h 9998]
theorem errNeI (a b : Int) (w : World) : (binOp .neq 28 (.iface 31 (.int .i64 a)) (.iface 31 (.int .i64 b))).run Try.prog w = .ok (.bool (a != b)) w := by
  obtain ⟨ms, hi⟩ : ∃ ms, Try.prog.underlying 28 = some (.interface ms) := ⟨_, Try.underlying28⟩
  obtain ⟨i, hi2, hc⟩ : ∃ i, Try.prog.info? 31 = some i ∧ i.comparable = true := ⟨_, rfl, by kernel_rfl⟩
  have hn : Try.prog.underlying 31 = some (.int .i64) := Try.underlying31
  have h : ∀ d, (Op.equalIn (d + 2) 28 (.iface 31 (.int .i64 a)) (.iface 31 (.int .i64 b))).run Try.prog w = .ok (a == b) w := fun d => by simp [Op.equalIn, run_underlying hi, run_underlying hn, typeInfo, hi2, hc]
  simp only [binOp]
  simp [Op.equal, Op.maxDepth, h 9998, bne]
theorem errNeL (b : Int) (w : World) : (binOp .neq 28 (.nilIface) (.iface 31 (.int .i64 b))).run Try.prog w = .ok (.bool true) w := by
  obtain ⟨ms, hi⟩ : ∃ ms, Try.prog.underlying 28 = some (.interface ms) := ⟨_, Try.underlying28⟩
  have h : ∀ d, (Op.equalIn (d + 2) 28 (.nilIface) (.iface 31 (.int .i64 b))).run Try.prog w = .ok false w := fun d => by simp [Op.equalIn, run_underlying hi]
  simp only [binOp]
  simp [Op.equal, Op.maxDepth, h 9998]
theorem errNeR (b : Int) (w : World) : (binOp .neq 28 (.iface 31 (.int .i64 b)) (.nilIface)).run Try.prog w = .ok (.bool true) w := by
  obtain ⟨ms, hi⟩ : ∃ ms, Try.prog.underlying 28 = some (.interface ms) := ⟨_, Try.underlying28⟩
  have h : ∀ d, (Op.equalIn (d + 2) 28 (.iface 31 (.int .i64 b)) (.nilIface)).run Try.prog w = .ok false w := fun d => by simp [Op.equalIn, run_underlying hi]
  simp only [binOp]
  simp [Op.equal, Op.maxDepth, h 9998]
end Go.Proofs.Ytpacenloagepfaa.PPackStays
