import Derived.Test.YtcdhnglefldalaaBY
import Derived.Lib.SlMapMerge
import Derived.Laws.IdiomRangeMap
namespace Go.Proofs.Ytcdhnglefldalaa.PBook
open Go.RowKit Go.Proofs.YtcdhnglefldalaaW.PrintWords Go.Proofs.YtcdhnglefldalaaW.PrintLast Go.Proofs.YtcdhnglefldalaaW.PrintMore
set_option linter.unusedVariables false
set_option linter.unusedSimpArgs false
open Go.Proofs.Ytcdhnglefldalaa.PBookPlays (S32 S34 S40 k32 k34 k40 z32 z34 z40 rd_T34 at_T34 rd_T40 at_T40 errEqI errEqL errEqR errNeI errNeL errNeR cents_Add.f cents_Add.calls)
open Go.Maps
abbrev OM (w : World) (b n : Nat) (D : DataW Unit) : Prop := w.ownsMap Try.prog 32 (plainElem Try.prog 2) b n D
def av (a : S32) : Value := .agg #[.int .i64 a.f0, .int .i64 a.f1]
theorem wf_of {x : Int} (h : (Lit.int .i64 x).wf = true) : W64 x := by
  simp [Lit.wf, IntKind.min, IntKind.max, IntKind.bits, IntKind.signed] at h
  exact ⟨h.1, by omega⟩
set_option maxRecDepth 100000 in
theorem key_inv {key : Value} {kl : Lit} (h : keyOf Try.prog 32 key = some kl) : ∃ a : S32, WA a ∧ key = av a ∧ kl = ak a := by
  obtain ⟨n, hn⟩ := by_size
  have h0 := h
  unfold keyOf at h
  rw [Try.underlying32] at h
  simp only at h
  split at h
  · rename_i hf
    obtain ⟨ls, hls, e⟩ := Option.map_eq_some_iff.1 h
    rw [hn] at hls
    simp only [Bool.and_eq_true] at hf
    obtain ⟨-, hf⟩ := hf
    cases key with
    | agg cs =>
      simp only [Value.formed, Try.underlying32, by_cells, beq_iff_eq] at hf
      obtain ⟨c0, c1, rfl⟩ : ∃ c0 c1, cs = #[c0, c1] := by
        obtain ⟨l⟩ := cs
        rcases l with _ | ⟨a, _ | ⟨b, _ | ⟨c, t⟩⟩⟩
        · simp at hf
        · simp at hf
        · exact ⟨a, b, rfl⟩
        · simp at hf
      have hl2 : (Value.agg #[c0, c1]).cells.toList = [c0, c1] := rfl
      rw [hl2] at hls
      simp [Program.keyLits, Try.underlying32, by_cells, by_cell1] at hls
      cases c0 with
      | int q0 n0 =>
        by_cases p0 : q0 = .i64 ∧ (Lit.int .i64 n0).wf = true
        · obtain ⟨rfl, w0⟩ := p0
          cases c1 with
          | int q1 n1 =>
            by_cases p1 : q1 = .i64 ∧ (Lit.int .i64 n1).wf = true
            · obtain ⟨rfl, w1⟩ := p1
              simp [w0, w1] at hls
              subst hls
              exact ⟨⟨n0, n1⟩, ⟨wf_of w0, wf_of w1⟩, rfl, e.symm⟩
            · simp only [p1, if_false] at hls
              simp [w0] at hls
          | _ => simp [w0] at hls
        · simp only [p0, if_false] at hls
          simp at hls
      | _ => simp at hls
    | _ => simp [Value.formed, Try.underlying32] at hf
  · cases h
theorem bm_zero (w : World) : (zeroValue 2).run Try.prog w = .ok (.int .i64 0) w := by kernel_rfl
theorem lk_int {w : World} {b n : Nat} {D : DataW Unit} (h : OM w b n D) (a : S32) (ha : WA a) : (Instr.lookup 60 (.map (some b)) (.agg #[.int .i64 a.f0, .int .i64 a.f1]) false).run Try.prog w = .ok (.int .i64 (gI D (ak a))) w := by
  obtain ⟨c, hrun, hat, hwc⟩ := h.lookup_int by_law Try.underlying60 Try.underlying2 (bm_zero _) (ak_key a ha)
  rw [gI_of hat]
  exact hrun
theorem gI_wf {w : World} {b n : Nat} {D : DataW Unit} (h : OM w b n D) (a : S32) (ha : WA a) : W64 (gI D (ak a)) := by
  obtain ⟨c, hrun, hat, hwc⟩ := h.lookup_int by_law Try.underlying60 Try.underlying2 (bm_zero _) (ak_key a ha)
  rw [gI_of hat]
  simp [Lit.wf, IntKind.min, IntKind.max, IntKind.bits, IntKind.signed] at hwc
  exact ⟨hwc.1, by omega⟩
theorem lk_ok {w : World} {b n : Nat} {D : DataW Unit} (h : OM w b n D) (a : S32) (ha : WA a) : (Instr.lookup 60 (.map (some b)) (.agg #[.int .i64 a.f0, .int .i64 a.f1]) true).run Try.prog w = .ok (.tuple #[.int .i64 (gI D (ak a)), .bool (Go.Maps.has D (ak a))]) w := by
  obtain ⟨v, ps, hrun, hv⟩ := h.look_ok by_law Try.underlying60 (bm_zero _) (plainElem_int Try.underlying2 (by decide)) (ak_key a ha)
  obtain ⟨c, rfl, hc, hwc⟩ := plainElem_int_inv Try.underlying2 hv
  have e : D.atKey (ak a) (.lit (.int .i64 0)) = .lit (.int .i64 c) := congrArg Prod.fst hc
  rw [gI_of e]
  exact hrun
theorem el_inv {v : Value} {y : DataW Unit × List MemPlace} (h : plainElem Try.prog 2 v = some y) : ∃ c : Int, v = .int .i64 c := by
  obtain ⟨y1, y2⟩ := y
  obtain ⟨c, e, -, -⟩ := plainElem_int_inv Try.underlying2 h
  exact ⟨c, e⟩
/-- What a copy leaves: of what stood in the one and the other. -/
def Cp (D' Dd Ds : DataW Unit) : Prop := (∀ k, Go.Maps.has D' k = (Go.Maps.has Dd k || Go.Maps.has Ds k)) ∧ ∀ k z, D'.atKey k z = if Go.Maps.has Ds k = true then Ds.atKey k z else Dd.atKey k z
set_option maxHeartbeats 4000000 in
set_option maxRecDepth 100000 in
theorem bm_copy (bd bs nd ns : Nat) (Dd Ds : DataW Unit) (w : World) (hd : OM w bd nd Dd) (hs : OM w bs ns Ds) (hne : bd ≠ bs) (hroom : nd + Go.Maps.size Ds ≤ maxLen) :
    Calls Try.prog 29 #[.map (some bd), .map (some bs)] w fun e w' => e = .returned (.tuple #[]) ∧ (∃ D', OM w' bd (nd + Go.Maps.size Ds) D' ∧ Cp D' Dd Ds) ∧ w.grownBy w' (some bd) := by
  have hbd := hd.lt
  have hbs := hs.lt
  go_enter Try.func29, Try.ntmps29
  go_wp2_with (at_range; refine wpList_range_own _ rfl _ 60 rfl 32 2 by_law Try.underlying60 (plainElem Try.prog 2) bs ns _ rfl hs ?_; intro w0 hrg0 hg0 hs0)
  go_frame
  go_loopw [8] (fun _ wr => ∃ (left : Lit → Bool) (cnt : Nat) (Dout : DataW Unit), wr.ranges Try.prog 32 (plainElem Try.prog 2) bs w.heap.size ns Ds left cnt ∧ cnt ≤ Go.Maps.size Ds ∧
      OM wr bd (nd + (Go.Maps.size Ds - cnt)) Dout ∧ Merged Dout Dd Ds left ∧ w.grownBy wr (some bd))
    (fun _ wr => wr.rangeLeft bs w.heap.size)
  case atStart =>
    exact ⟨_, _, Dd, hrg0, Nat.le_refl _, (hd.kept hg0 (by simp)).mono (by omega), merged_start Dd Ds, hg0.but _⟩
  case round =>
    obtain ⟨left, cnt, Dout, hrg, hcs, hout, hM, hgw⟩ := hrel
    go_wp2_with (at_next; refine wpList_next_ranges _ rfl _ rfl 32 by_law (plainElem Try.prog 2) (fun a : S32 => Value.agg #[.int .i64 a.f0, .int .i64 a.f1]) (fun c : Int => Value.int .i64 c) (fun key kl h => by obtain ⟨a, -, e, -⟩ := key_inv h; exact ⟨a, e⟩) (fun v y h => el_inv h) bs w.heap.size ns _ _ _ rfl hrg ?_ ?_)
    · intro hc0 hl0
      go_wp2
      go_end0
      subst hc0
      refine ⟨rfl, ⟨Dout, by simpa using hout, fun k => ?_, fun k z => ?_⟩, hgw⟩
      · have h := hM.1 k
        rw [hl0 k] at h
        simpa using h
      · have h := hM.2 k z
        rw [hl0 k] at h
        simpa using h
    · intro x c kl yd yp w1 cnt1 hkey hlx hv hat hrg1 hlt hg1 hs1 hen
      have hout1 := hout.kept hg1 (fun e => by have := Option.some.inj e; omega)
      go_wp2_with (at_mapUpdate; refine wpList_mapUpdate_own _ rfl _ _ _ 60 rfl 32 2 by_law Try.underlying60 (plainElem Try.prog 2) bd _ _ rfl (hout1.alloc _) (by omega) _ _ _ rfl rfl hkey yd yp hv ?_; intro w2 hout2 hg2; go_frame)
      have hga : w1.grownBy (w1.alloc (Obj.cells #[.int .i64 x.f0, .int .i64 x.f1] 32)) none := World.grownBy_alloc w1 _ _
      have hrg2 := (hrg1.kept hga (by simp) (by simp)).kept hg2 (fun e => hne (Option.some.inj e).symm) (fun e => by have := Option.some.inj e; omega)
      go_roundw
      case rel =>
        exact ⟨_, cnt1, _, hrg2, by omega, hout2.mono (by omega), merged_step hM hout.isMap (by_law.key hkey) hat, ((hgw.andThen hg1 (fun j hj => .inl (by cases hj; exact Nat.le_refl _))).andThen hga (fun j hj => by cases hj)).andThen hg2 (fun j hj => .inr hj)⟩
      case measure => rw [hrg2.left_eq, hrg.left_eq]; exact hlt

end Go.Proofs.Ytcdhnglefldalaa.PBook
