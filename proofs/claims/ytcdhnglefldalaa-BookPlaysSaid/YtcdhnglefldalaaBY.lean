import Derived.Test.YtcdhnglefldalaaBZ
import Derived.Test.YtcdhnglefldalaaBX
import Derived.DeepKeys4
namespace Go.Proofs.Ytcdhnglefldalaa.PBook
open Go.RowKit Go.Proofs.YtcdhnglefldalaaW.PrintWords Go.Proofs.YtcdhnglefldalaaW.PrintLast Go.Proofs.YtcdhnglefldalaaW.PrintMore
set_option linter.unusedVariables false
set_option linter.unusedSimpArgs false
open Go.Proofs.Ytcdhnglefldalaa.PBookPlays (S32 S34 S40 k32 k34 k40 z32 z34 z40 rd_T34 at_T34 rd_T40 at_T40 errEqI errEqL errEqR errNeI errNeL errNeR cents_Add.f cents_Add.calls)
open Go.Maps
set_option maxRecDepth 100000 in
theorem by_laid : laidOutB Try.prog = true := by kernel_rfl
set_option maxRecDepth 100000 in
theorem by_row : (32 : TypeId) < Try.prog.types.size := of_decide_eq_true (by kernel_rfl)
set_option maxRecDepth 100000 in
theorem by_wide : (match Try.prog.underlying 32 with | some (.array _ _) | some (.struct _) => true | _ => false) = true := by rw [Try.underlying32]
set_option maxRecDepth 100000 in
/-- Accounts as a map's keys. -/
theorem by_law : Keyed Try.prog 32 := Keyed.of_law (deep_law_laid by_laid (m := 3) (by omega) by_row (by kernel_rfl) by_wide)
set_option maxRecDepth 100000 in
theorem by_keyType : Try.prog.keyType 32 = true := by kernel_rfl
theorem by_cells : Try.prog.cellsOf 32 = 2 := by kernel_rfl
theorem by_cell1 : Try.prog.cellsOf 3 = 1 := by kernel_rfl
theorem by_formed (k o : Int) : (Value.agg #[.int .i64 k, .int .i64 o]).formed Try.prog 32 = true := by simp [Value.formed, Try.underlying32, by_cells]
def W64 (x : Int) : Prop := -9223372036854775808 ≤ x ∧ x ≤ 9223372036854775807
def WA (a : S32) : Prop := W64 a.f0 ∧ W64 a.f1
def WL (x : S34) : Prop := WA x.f0 ∧ W64 x.f1
def WLs (l : List S34) : Prop := ∀ x ∈ l, WL x
theorem wf64 {x : Int} (h : W64 x) : (Lit.int .i64 x).wf = true := by
  simp [Lit.wf, IntKind.min, IntKind.max, IntKind.bits, IntKind.signed]
  exact ⟨h.1, by have := h.2; omega⟩
/-- What an account reads as. -/
def ak (a : S32) : Lit := .string (keyBytes [.int .i64 a.f0, .int .i64 a.f1])
set_option maxRecDepth 100000 in
theorem by_lits (n : Nat) (a : S32) (h : WA a) : Try.prog.keyLits (n + 2) 32 [.int .i64 a.f0, .int .i64 a.f1] = some [.int .i64 a.f0, .int .i64 a.f1] := by
  have h0 := wf64 h.1
  have h1 := wf64 h.2
  simp [Program.keyLits, Try.underlying32, Try.underlying3, by_cells, by_cell1, h0, h1]
theorem succ_of {m n : Nat} (h : m < n) : ∃ k, n = k + 1 := ⟨n - 1, by omega⟩
theorem by_size : ∃ n, Try.prog.types.size = n + 1 := succ_of by_row
theorem ak_key (a : S32) (h : WA a) : keyOf Try.prog 32 (.agg #[.int .i64 a.f0, .int .i64 a.f1]) = some (ak a) := by
  obtain ⟨n, hn⟩ := by_size
  unfold keyOf
  rw [Try.underlying32]
  simp only [by_keyType, by_formed, Bool.and_self, if_true, hn]
  rw [show (Value.agg #[.int .i64 a.f0, .int .i64 a.f1]).cells.toList = [.int .i64 a.f0, .int .i64 a.f1] from rfl, by_lits n a h]
  rfl
theorem ak_inj {a b : S32} (ha : WA a) (hb : WA b) (h : ak a = ak b) : a = b := by
  have e := by_law.inj (ak_key a ha) (by rw [h]; exact ak_key b hb)
  obtain ⟨a0, a1⟩ := a
  obtain ⟨b0, b1⟩ := b
  cases e
  rfl
theorem ak_wide (a : S32) : WideAt.IsKeyLit (ak a) := trivial
/-- What stands at a key. -/
def gI (D : DataW Unit) (kl : Lit) : Int := match D.atKey kl (.lit (.int .i64 0)) with | .lit (.int .i64 c) => c | _ => 0
def li (n : Int) : DataW Unit := .lit (.int .i64 n)
theorem gI_of {D : DataW Unit} {kl : Lit} {c : Int} (h : D.atKey kl (.lit (.int .i64 0)) = .lit (.int .i64 c)) : gI D kl = c := by unfold gI; rw [h]
theorem gI_same {D : DataW Unit} (hD : IsMap D) (a : S32) (n : Int) : gI (D.put (ak a) (li n)) (ak a) = n := by
  unfold gI li
  rw [atKey_put_same hD (ak_wide a)]
theorem gI_other {D : DataW Unit} {a b : S32} (ha : WA a) (hb : WA b) (hne : a ≠ b) (n : Int) : gI (D.put (ak a) (li n)) (ak b) = gI D (ak b) := by
  unfold gI
  rw [atKey_put_other (fun q => hne (ak_inj ha hb q.symm))]
theorem has_same {D : DataW Unit} (hD : IsMap D) (a : S32) (n : Int) : Go.Maps.has (D.put (ak a) (li n)) (ak a) = true := has_put_same hD (ak_wide a) _
theorem has_other {D : DataW Unit} {a b : S32} (ha : WA a) (hb : WA b) (hne : a ≠ b) (n : Int) : Go.Maps.has (D.put (ak a) (li n)) (ak b) = Go.Maps.has D (ak b) := has_put_other (fun q => hne (ak_inj ha hb q.symm)) _
/-- A line of an entry, laid into what comes next. -/
def stepN (D nx : DataW Unit) (x : S34) : Option (DataW Unit) :=
  let was := if Go.Maps.has nx (ak x.f0) = true then gI nx (ak x.f0) else gI D (ak x.f0)
  if (-9223372036854775808 ≤ was + x.f1 ∧ was + x.f1 ≤ 9223372036854775807) ∧ x.f1 ≠ -9223372036854775808 then some (nx.put (ak x.f0) (li (was + x.f1))) else none
def nextOf (D : DataW Unit) : List S34 → DataW Unit → Option (DataW Unit)
  | [], nx => some nx
  | x :: t, nx => (stepN D nx x).bind (nextOf D t)
instance : DecidableEq S32 := fun a b => by
  obtain ⟨a0, a1⟩ := a
  obtain ⟨b0, b1⟩ := b
  exact decidable_of_iff (a0 = b0 ∧ a1 = b1) ⟨fun h => by rw [h.1, h.2], fun h => by cases h; exact ⟨rfl, rfl⟩⟩
/-- What an account comes to by lines. -/
def adds (l : List S34) (a : S32) : Int := match l with
  | [] => 0
  | x :: t => (if x.f0 = a then x.f1 else 0) + adds t a
theorem addf (a b : Int) (ha : W64 a) (hb : W64 b) : cents_Add.f a b = if -9223372036854775808 ≤ a + b ∧ a + b ≤ 9223372036854775807 then some (a + b, none) else some (0, some 3) := by
  obtain ⟨s, hs⟩ : ∃ s, wrap64 (a + b) = s := ⟨_, rfl⟩
  unfold cents_Add.f
  rw [hs]
  unfold W64 at ha hb
  have h3 : (s = a + b ∧ -9223372036854775808 ≤ a + b ∧ a + b ≤ 9223372036854775807) ∨ (s = a + b - 18446744073709551616 ∧ 9223372036854775807 < a + b) ∨ (s = a + b + 18446744073709551616 ∧ a + b < -9223372036854775808) := by unfold wrap64 at hs; omega
  clear hs
  rcases h3 with ⟨rfl, h4⟩ | ⟨rfl, h4⟩ | ⟨rfl, h4⟩
  · rw [if_pos h4]
    by_cases z : b = 0
    · subst z
      simp
    · rw [if_neg]
      have : decide (a + b > a) = decide (b > 0) := by
        by_cases p : b > 0
        · rw [decide_eq_true p, decide_eq_true (by omega)]
        · rw [decide_eq_false p, decide_eq_false (by omega)]
      rw [this]
      simp
  · have c1 : ((decide (a + b - 18446744073709551616 > a)) != (decide (b > 0))) = true := by rw [decide_eq_false (by omega), decide_eq_true (by omega)]; rfl
    have c2 : ¬ b = 0 := by omega
    have c3 : ¬ (-9223372036854775808 ≤ a + b ∧ a + b ≤ 9223372036854775807) := by omega
    rw [if_pos c1, if_neg c2, if_neg c3]
  · have c1 : ((decide (a + b + 18446744073709551616 > a)) != (decide (b > 0))) = true := by rw [decide_eq_true (by omega), decide_eq_false (by omega)]; rfl
    have c2 : ¬ b = 0 := by omega
    have c3 : ¬ (-9223372036854775808 ≤ a + b ∧ a + b ≤ 9223372036854775807) := by omega
    rw [if_pos c1, if_neg c2, if_neg c3]

end Go.Proofs.Ytcdhnglefldalaa.PBook
