-- written for this claim by a program of this session (wip/inject.py), which drives the kit's print
import Derived.Test.YtmklhkaaaegmgaaRows
import Derived.Test.YtmklhkaaaegmgaaPRemitMonthsx3
import Derived.Test.YtmklhkaaaegmgaaPRemitMonthsx3
import Derived.Test.YtmklhkaaaegmgaaPureRemitMonths
import Derived.Test.YtmklhkaaaegmgaaOpen
import Derived.WalkKit
import Derived.ProofKit
import Derived.OpenShut
import Derived.ShutString
import Derived.ChangeOld
import Derived.Below
import Derived.SizedLaws
import Derived.Test.YtmklhkaaaegmgaaWSized
namespace Go.Proofs.Ytmklhkaaaegmgaa.remitMonths
open Go.ChangeShapes Go.WideShapes Go.ChangeAt Go.RowKit Go.Proofs.Ytmklhkaaaegmgaa.Opn Go.Proofs.Ytmklhkaaaegmgaa.PRemitMonths Go.Proofs.YtmklhkaaaegmgaaW.PrintWords
open Go.ChangeMaps (open_string shut_string)
set_option linter.unusedVariables false
set_option linter.unusedSimpArgs false
theorem own : ownKnob Try.prog.godebug = none := by kernel_rfl
theorem laidOut : laidOutB Try.prog = true := by kernel_rfl
theorem opensT22 {H : Type} {enc : TypeId × Value → H} {W : World} {base : Nat} {spare : Nat → Bool} {held : Bool} : Opens enc Try.prog W base spare held 22 k22 good22 := by
  intro fuel cs x hx
  obtain ⟨a, ha, hg⟩ := (opens_iso (fun x : S22 => (x.f0, x.f1)) (fun a => ⟨a.1, a.2⟩) (fun _ => rfl) (opens_array2 Try.underlying22 (by kernel_rfl) (by kernel_rfl) (opens_int Try.underlying2))) fuel cs x hx
  exact ⟨a, ha, hg⟩
set_option maxRecDepth 100000 in
theorem lifted (os : Os) (started : os.Started) (H : Type) (enc : TypeId × Value → H) :
    ReturnsInHanded {} Try.checked os 3 .any (Rows.remitMonthsSpec.pre6 enc Try.prog Try.f3 Rows.remitMonthsRow.domain false) (Rows.remitMonthsSpec.post enc Try.prog Try.f3 false true false false) := by
  refine returnsInHanded_of_change_sized (C := Try.checked) own started (by kernel_rfl) Try.func3
    (ChangeSpec.witness6 (enc := enc) (C := Try.checked) false ⟨#[], #[.int .i64 0, .agg #[.int .i64 0, .int .i64 0], .agg #[.int .i64 0, .int .i64 0], .int .i64 0, .int .i64 0], []⟩ 8 (by kernel_rfl) (by kernel_rfl) (by kernel_rfl) (by kernel_rfl)) ?_
  intro W base args ds gs before hval0 hW hcnd hsz0 _
  have hsz : (DataW.weightsEach Try.prog (Try.f3.params.toList ++ Rows.remitMonthsSpec.plain.varTypes Try.prog) (ds ++ gs)).all (· ≤ reachBytes) = true := hsz0
  have hval : ∀ (j : Nat) t v, Try.f3.params[j]? = some t → args[j]? = some v → Value.okWide Try.prog W .any base t v := hval0
  have hW' := hW
  obtain ⟨p, q, hA0, hV, rfl, hfz, hnd⟩ := hW
  have hA : DataW.TrodAll enc Try.prog W 0 (fun _ => true) true Try.f3.params.toList args.toList ds p := hA0
  rw [Try.params3] at hA hval hsz
  obtain ⟨v0, vs0, d0, ds0, p0, q0, hargs, rfl, rfl, h0, r0⟩ := trodAll_cons hA
  obtain ⟨v1, vs1, d1, ds1, p1, q1, rfl, rfl, rfl, h1, r1⟩ := trodAll_cons r0
  obtain ⟨v2, vs2, d2, ds2, p2, q2, rfl, rfl, rfl, h2, r2⟩ := trodAll_cons r1
  obtain ⟨v3, vs3, d3, ds3, p3, q3, rfl, rfl, rfl, h3, r3⟩ := trodAll_cons r2
  obtain ⟨v4, vs4, d4, ds4, p4, q4, rfl, rfl, rfl, h4, r4⟩ := trodAll_cons r3
  obtain ⟨rfl, rfl, rfl⟩ := trodAll_nil r4
  obtain rfl : args = #[v0, v1, v2, v3, v4] := by cases args; simp_all
  obtain ⟨rfl, rfl⟩ := trodVars_none hV
  obtain ⟨a0, rfl, rfl, rfl, w0⟩ := open_int Try.underlying3 (hval 0 3 v0 rfl rfl) h0
  have k1 := h1
  have lt1 : ∀ x ∈ p1, x.block < W.heap.size := by obtain ⟨m, hm⟩ := k1; exact DataW.trod_lt m _ _ _ hm
  obtain ⟨cs1, rfl, hs1⟩ := okWide_array Try.underlying22 (hval 1 22 v1 rfl rfl)
  obtain ⟨fu1, hf1⟩ := h1
  obtain ⟨x1, K1, g1⟩ := opensT22 _ _ _ hf1
  obtain e1 := k22_open K1
  obtain rfl : cs1 = #[.int .i64 x1.f0, .int .i64 x1.f1] := by have e_ := congrArg List.toArray e1; simpa [Value.cells] using e_
  have k2 := h2
  have lt2 : ∀ x ∈ p2, x.block < W.heap.size := by obtain ⟨m, hm⟩ := k2; exact DataW.trod_lt m _ _ _ hm
  obtain ⟨cs2, rfl, hs2⟩ := okWide_array Try.underlying22 (hval 2 22 v2 rfl rfl)
  obtain ⟨fu2, hf2⟩ := h2
  obtain ⟨x2, K2, g2⟩ := opensT22 _ _ _ hf2
  obtain e2 := k22_open K2
  obtain rfl : cs2 = #[.int .i64 x2.f0, .int .i64 x2.f1] := by have e_ := congrArg List.toArray e2; simpa [Value.cells] using e_
  obtain ⟨a3, rfl, rfl, rfl, w3⟩ := open_int Try.underlying2 (hval 3 2 v3 rfl rfl) h3
  obtain ⟨a4, rfl, rfl, rfl, w4⟩ := open_int Try.underlying2 (hval 4 2 v4 rfl rfl) h4
  clear hA0 hval0 hsz0 hsz
  have hk := Pure.RemitMonths a0 x1 x2 a3 a4 w0 g1 g2 w3 w4
  refine (trivetlaw19_RemitMonths.calls a0 x1.f0 x1.f1 x2.f0 x2.f1 a3 a4 true W  hk).mono fun e W' hh => ?_
  obtain ⟨he, hd⟩ := hh
  have bel : Below W.heap.size W W' := hd
  subst he
  exact ⟨_, rfl, _, _, _, [], _, [], hW', trodAll_mk1 (shut_bool Try.underlying4 _), (trodAll_cons_mk (shut_int Try.underlying3 w0) (trodAll_cons_mk (Below.trod laidOut (by kernel_rfl) (of_decide_eq_true (by kernel_rfl)) k1 bel lt1) (trodAll_cons_mk (Below.trod laidOut (by kernel_rfl) (of_decide_eq_true (by kernel_rfl)) k2 bel lt2) (trodAll_cons_mk (shut_int Try.underlying2 w3) (trodAll_cons_mk (shut_int Try.underlying2 w4) trodAll_mk0))))), rfl, bel.frame _, fun h => by cases h⟩
theorem over : Rows.remitMonthsRow.holds Try.pinned (OpenSpec.ofChange Rows.remitMonthsSpec) :=
  OpenClaim.holds_of_wide 3 Try.f3 rfl rfl rfl rfl rfl rfl rfl ⟨rfl, rfl, rfl, rfl, rfl⟩ rfl rfl rfl rfl rfl (by kernel_rfl) Try.func3 (by kernel_rfl)
    (of_decide_eq_true (by kernel_rfl)) (by unfold Func.isWrapper; first | (rw [if_pos (by decide +kernel)]; kernel_rfl) | (rw [if_neg (by decide +kernel)]; exact ⟨rfl, rfl⟩))
    (fun os started H enc _ => lifted os started H enc)
theorem proved : Rows.RemitMonthsSaid := over
#print axioms proved
end Go.Proofs.Ytmklhkaaaegmgaa.remitMonths
namespace Go.Proofs.Ytmklhkaaaegmgaa
/-- The row, under a short name, for the claim. -/
theorem remitMonths_holds : Rows.RemitMonthsSaid := remitMonths.proved
end Go.Proofs.Ytmklhkaaaegmgaa
