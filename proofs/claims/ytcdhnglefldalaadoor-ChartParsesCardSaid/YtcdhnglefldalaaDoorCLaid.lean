import Derived.Test.YtcdhnglefldalaaDoorCUp
import Derived.Test.YtcdhnglefldalaaDoorShelf
import Derived.Lib.ItoaNum
import Derived.MakeChecks
import Derived.Lib.AppendIntMem
namespace Go.Proofs.YtcdhnglefldalaaDoor.PChartOrder
open Go.RowKit Go.Proofs.YtcdhnglefldalaaDoorW.PrintWords Go.Proofs.YtcdhnglefldalaaDoorW.PrintLast Go.Proofs.YtcdhnglefldalaaDoorW.PrintMore
set_option linter.unusedVariables false
set_option linter.unusedSimpArgs false

theorem cl_iface {H : Type} {enc : TypeId × Value → H} {W : World} {base : Nat} {sp : Nat → Bool} {fuel : Nat} {cs : List Value} {n : String} {x : DataW H} {p : List MemPlace}
    (h : DataW.trod enc Tryd.prog W base sp false fuel 26 cs = some (.iface n x, p)) : ∃ T v, cs = [.iface T v] := by
  cases fuel with
  | zero => simp [DataW.trod] at h
  | succ fuel =>
    obtain ⟨ms, hi⟩ : ∃ ms, Tryd.prog.underlying 26 = some (.interface ms) := ⟨_, Tryd.underlying26⟩
    rw [DataW.trod.eq_def] at h
    simp only [hi] at h
    split at h
    all_goals first
      | (rename_i e _; cases e; done)
      | (rename_i e; cases e; done)
      | (simp at h; done)
      | exact ⟨_, _, rfl⟩
      | (cases h; done)
def cl_tab (W : World) : Prop := Lib.TabIs Tryd.prog W "internal/strconv.uint64pow10" .u64 Lib.pow10Tab ∧ (∃ T p, W.cell? ⟨1, 0, none⟩ = some (.iface T p)) ∧ (∃ T p, W.cell? ⟨2, 0, none⟩ = some (.iface T p))
theorem cl_pow : Tryd.prog.globalNamed "internal/strconv.uint64pow10" = some 3 := by kernel_rfl
theorem cl_synt : Tryd.prog.globalNamed "strconv.ErrSyntax" = some 1 := by kernel_rfl
theorem cl_rang : Tryd.prog.globalNamed "strconv.ErrRange" = some 2 := by kernel_rfl
theorem cl_tpow : (Tryd.prog.globals[3]?).map (·.type) = some 82 := by kernel_rfl
theorem cl_tsynt : (Tryd.prog.globals[1]?).map (·.type) = some 26 := by kernel_rfl
theorem cl_trang : (Tryd.prog.globals[2]?).map (·.type) = some 26 := by kernel_rfl
theorem cl_of_laid {d0 d1 : String × DataW Unit} {sR sS : DataW Unit} {nR nS : String} {pw : DataW Unit} {W : World} (hpw : pw = Lib.tabData .u64 Lib.pow10Tab)
    (hn : ([d0, d1, ("internal/strconv.uint64pow10", pw), ("strconv.ErrRange", .iface nR sR), ("strconv.ErrSyntax", .iface nS sS)].all fun x => x.2.handleName?.isNone) = true)
    (h : laidMetH Tryd.prog [d0, d1, ("internal/strconv.uint64pow10", pw), ("strconv.ErrRange", .iface nR sR), ("strconv.ErrSyntax", .iface nS sS)] W) : cl_tab W := by
  rw [Go.MakeChecks.laidMetH_plain _ _ _ hn] at h
  obtain ⟨ps, ⟨-, -, -, -, -, -, -, -, -, -, ⟨-, -, -, -, -, -, -, -, -, -, ⟨g2, t2, cs2, f2, p2, q2, hg2, ht2, hv2, hd2, ⟨g3, t3, cs3, f3, p3, q3, hg3, ht3, hv3, hd3, ⟨g4, t4, cs4, f4, p4, q4, hg4, ht4, hv4, hd4, -, -⟩, -⟩, -⟩, -⟩, -⟩, -⟩ := h
  obtain rfl := Option.some.inj (cl_pow.symm.trans hg2)
  obtain rfl := Option.some.inj (cl_rang.symm.trans hg3)
  obtain rfl := Option.some.inj (cl_synt.symm.trans hg4)
  obtain rfl := Option.some.inj (cl_tpow.symm.trans ht2)
  obtain rfl := Option.some.inj (cl_trang.symm.trans ht3)
  obtain rfl := Option.some.inj (cl_tsynt.symm.trans ht4)
  subst hpw
  obtain ⟨T3, v3, e3⟩ := cl_iface hd3
  obtain ⟨T4, v4, e4⟩ := cl_iface hd4
  refine ⟨?_, ⟨T4, v4, ?_⟩, ⟨T3, v3, ?_⟩⟩
  · unfold Lib.TabIs
    rw [hv2, ← Lib.cells_of_tab Tryd.underlying82 Tryd.underlying61 (by kernel_rfl) (by kernel_rfl) hd2]
  · rw [World.var?_cell cl_synt hv4 0, ← Array.getElem?_toList, e4]; rfl
  · rw [World.var?_cell cl_rang hv3 0, ← Array.getElem?_toList, e3]; rfl
theorem cl_cellb {w w' : World} (hb : Below w.heap.size w w') {a : Addr} {v : Value} (hc : w.cell? a = some v) : w'.cell? a = some v := (hb.cell (World.block_lt_of_cell? w a hc)).trans hc
theorem cl_tab_below {w w' : World} (h : cl_tab w) (hb : Below w.heap.size w w') : cl_tab w' := by
  obtain ⟨h1, ⟨T1, p1, h2⟩, ⟨T2, p2, h3⟩⟩ := h
  refine ⟨?_, ⟨T1, p1, cl_cellb hb h2⟩, ⟨T2, p2, cl_cellb hb h3⟩⟩
  unfold Lib.TabIs World.var? at h1 ⊢
  rw [cl_pow] at h1 ⊢
  simp only [Option.bind_some] at h1 ⊢
  have hlt : 3 < w.heap.size := by
    rcases Nat.lt_or_ge 3 w.heap.size with h' | h'
    · exact h'
    · rw [Array.getElem?_eq_none h'] at h1; cases h1
  rw [hb.block 3 hlt]
  exact h1
theorem cl_itoa (o : Int) (W : World) (h : cl_tab W) (h0 : 1 ≤ o) (h1 : o ≤ 65536) : Calls Tryd.prog 21 #[.int .i64 o] W fun e w' => e = .returned (.string ⟨(Lib.decDigits o.toNat).toArray⟩) ∧ Below W.heap.size W w' :=
  (Tryd.strconv_Itoa o (by omega) (by omega) W h.1).mono (by
    rintro e w' ⟨rfl, n, os, rfl⟩
    refine ⟨?_, Lib.below_grow _ _ (Nat.le_refl _) _ _⟩
    unfold Lib.itoa
    rw [if_neg (by omega)])

end Go.Proofs.YtcdhnglefldalaaDoor.PChartOrder
