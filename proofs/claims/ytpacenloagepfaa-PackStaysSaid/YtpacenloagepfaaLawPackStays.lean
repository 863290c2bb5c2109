-- written for this claim by a program of this session (wip/inject.py), which drives the kit's print
import Derived.Test.YtpacenloagepfaaRows
import Derived.Test.YtpacenloagepfaaPPackStaysx4
import Derived.Test.YtpacenloagepfaaPPackStaysx4
import Derived.Test.YtpacenloagepfaaPurePackStays
import Derived.Test.YtpacenloagepfaaOpen
import Derived.WalkKit
import Derived.ProofKit
import Derived.OpenShut
import Derived.ShutString
import Derived.ChangeOld
import Derived.Below
import Derived.SizedLaws
import Derived.Test.YtpacenloagepfaaWSized
namespace Go.Proofs.Ytpacenloagepfaa.packStays
open Go.ChangeShapes Go.WideShapes Go.ChangeAt Go.RowKit Go.Proofs.Ytpacenloagepfaa.Opn Go.Proofs.Ytpacenloagepfaa.PPackStays Go.Proofs.YtpacenloagepfaaW.PrintWords
open Go.ChangeMaps (open_string shut_string)
set_option linter.unusedVariables false
set_option linter.unusedSimpArgs false
theorem own : ownKnob Try.prog.godebug = none := by kernel_rfl
theorem laidOut : laidOutB Try.prog = true := by kernel_rfl
theorem opensT24 {H : Type} {enc : TypeId × Value → H} {W : World} {base : Nat} {spare : Nat → Bool} {held : Bool} : Opens enc Try.prog W base spare held 24 k24 good24 := by
  intro fuel cs x hx
  obtain ⟨a, ha, hg⟩ := (opens_iso (fun x : S24 => (x.f0, x.f1, x.f2, x.f3)) (fun a => ⟨a.1, a.2.1, a.2.2.1, a.2.2.2⟩) (fun _ => rfl) (opens_struct (N := 4) Try.underlying24 (by kernel_rfl) (opensF_cons (opens_int Try.underlying3) rfl (by kernel_rfl) (opensF_cons (opens_int Try.underlying2) rfl (by kernel_rfl) (opensF_cons (opens_int Try.underlying3) rfl (by kernel_rfl) (opensF_last (opens_slice Try.underlying22 (by kernel_rfl) (opens_int Try.underlying2)) rfl (by kernel_rfl) (by kernel_rfl))))))) fuel cs x hx
  exact ⟨a, ha, hg⟩
set_option maxRecDepth 100000 in
theorem lifted (os : Os) (started : os.Started) (H : Type) (enc : TypeId × Value → H) :
    ReturnsInHanded {} Try.checked os 6 .any (Rows.packStaysSpec.pre6 enc Try.prog Try.f6 Rows.packStaysRow.domain false) (Rows.packStaysSpec.post enc Try.prog Try.f6 false true false false) := by
  refine returnsInHanded_of_change_sized (C := Try.checked) own started (by kernel_rfl) Try.func6
    (ChangeSpec.witness6 (enc := enc) (C := Try.checked) false ⟨#[], #[.agg #[.int .i64 0, .int .i64 0, .int .i64 0, .slice none 0 0], .slice none 0 0], []⟩ 8 (by kernel_rfl) (by kernel_rfl) (by kernel_rfl) (by kernel_rfl)) ?_
  intro W base args ds gs before hval0 hW hcnd hsz0 _
  have hsz : (DataW.weightsEach Try.prog (Try.f6.params.toList ++ Rows.packStaysSpec.plain.varTypes Try.prog) (ds ++ gs)).all (· ≤ reachBytes) = true := hsz0
  have hval : ∀ (j : Nat) t v, Try.f6.params[j]? = some t → args[j]? = some v → Value.okWide Try.prog W .any base t v := hval0
  have hW' := hW
  obtain ⟨p, q, hA0, hV, rfl, hfz, hnd⟩ := hW
  have hA : DataW.TrodAll enc Try.prog W 0 (fun _ => true) true Try.f6.params.toList args.toList ds p := hA0
  rw [Try.params6] at hA hval hsz
  obtain ⟨v0, vs0, d0, ds0, p0, q0, hargs, rfl, rfl, h0, r0⟩ := trodAll_cons hA
  obtain ⟨v1, vs1, d1, ds1, p1, q1, rfl, rfl, rfl, h1, r1⟩ := trodAll_cons r0
  obtain ⟨rfl, rfl, rfl⟩ := trodAll_nil r1
  obtain rfl : args = #[v0, v1] := by cases args; simp_all
  obtain ⟨rfl, rfl⟩ := trodVars_none hV
  have k0 := h0
  have lt0 : ∀ x ∈ p0, x.block < W.heap.size := by obtain ⟨m, hm⟩ := k0; exact DataW.trod_lt m _ _ _ hm
  obtain ⟨cs0, rfl, hs0⟩ := okWide_struct Try.underlying24 (hval 0 24 v0 rfl rfl)
  obtain ⟨fu0, hf0⟩ := h0
  obtain ⟨x0, K0, g0⟩ := opensT24 _ _ _ hf0
  obtain ⟨A0_3, c0_3, e0, hc0_3, hr0_3⟩ := k24_open K0
  obtain rfl : cs0 = #[.int .i64 x0.f0, .int .i64 x0.f1, .int .i64 x0.f2, .slice A0_3 x0.f3.length c0_3] := by have e_ := congrArg List.toArray e0; simpa [Value.cells] using e_
  have k1 := h1
  have lt1 : ∀ x ∈ p1, x.block < W.heap.size := by obtain ⟨m, hm⟩ := k1; exact DataW.trod_lt m _ _ _ hm
  obtain ⟨a1, len1, cap1, rfl⟩ := okWide_slice Try.underlying26 (hval 1 26 v1 rfl rfl)
  have y1 : len1 * 1 ≤ 140737488351232 := sized_ints hsz (j := 1) (t := 26) rfl rfl Try.underlying26 Try.underlying5 (by kernel_rfl) (by kernel_rfl) h1
  obtain ⟨fu1, hf1⟩ := h1
  obtain ⟨x1, ⟨A1, c1, e1, hc1, hr1⟩, g1⟩ := (opens_slice Try.underlying26 (by kernel_rfl) (opens_int Try.underlying5)) _ _ _ hf1
  simp [Value.cells] at e1
  obtain ⟨rfl, rfl, rfl⟩ := e1
  clear hA0 hval0 hsz0 hsz
  have hk := Pure.PackStays x0 x1 g0 y1 g1
  refine (trivetlaw06_PackStays.calls x0.f0 x0.f1 x0.f2 _ _ x0.f3 _ _ x1 true W hr0_3 hc0_3 hr1 hc1 hk).mono fun e W' hh => ?_
  obtain ⟨he, hd⟩ := hh
  have bel : Below W.heap.size W W' := hd
  subst he
  exact ⟨_, rfl, _, _, _, [], _, [], hW', trodAll_mk1 (shut_bool Try.underlying4 _), (trodAll_cons_mk (Below.trod laidOut (by kernel_rfl) (of_decide_eq_true (by kernel_rfl)) k0 bel lt0) (trodAll_cons_mk (Below.trod laidOut (by kernel_rfl) (of_decide_eq_true (by kernel_rfl)) k1 bel lt1) trodAll_mk0)), rfl, bel.frame _, fun h => by cases h⟩
theorem over : Rows.packStaysRow.holds Try.pinned (OpenSpec.ofChange Rows.packStaysSpec) :=
  OpenClaim.holds_of_wide 6 Try.f6 rfl rfl rfl rfl rfl rfl rfl ⟨rfl, rfl, rfl, rfl, rfl⟩ rfl rfl rfl rfl rfl (by kernel_rfl) Try.func6 (by kernel_rfl)
    (of_decide_eq_true (by kernel_rfl)) (by unfold Func.isWrapper; first | (rw [if_pos (by decide +kernel)]; kernel_rfl) | (rw [if_neg (by decide +kernel)]; exact ⟨rfl, rfl⟩))
    (fun os started H enc _ => lifted os started H enc)
theorem proved : Rows.PackStaysSaid := over
#print axioms proved
end Go.Proofs.Ytpacenloagepfaa.packStays
namespace Go.Proofs.Ytpacenloagepfaa
/-- The row, under a short name, for the claim. -/
theorem packStays_holds : Rows.PackStaysSaid := packStays.proved
end Go.Proofs.Ytpacenloagepfaa
