import Derived.Test.YtcdhnglefldalaaBS
namespace Go.Proofs.Ytcdhnglefldalaa.PBook
open Go.RowKit Go.Proofs.YtcdhnglefldalaaW.PrintWords Go.Proofs.YtcdhnglefldalaaW.PrintLast Go.Proofs.YtcdhnglefldalaaW.PrintMore
set_option linter.unusedVariables false
set_option linter.unusedSimpArgs false
open Go.Proofs.Ytcdhnglefldalaa.PBookPlays (S32 S34 S40 k32 k34 k40 z32 z34 z40 rd_T34 at_T34 rd_T40 at_T40 k40_open errEqI errEqL errEqR errNeI errNeL errNeR cents_Add.f cents_Add.calls errW errW_none errW_some)
open Go.Maps
attribute [local go_sem high] errEqI errNeI errEqL errNeL errEqR errNeR bk_eqs
/-- Deeds that can be read. -/
def Dr (w : World) (A : Option Addr) (L : List S40) : Prop := ∀ (j : Nat) (x : S40), L[j]? = some x → ∃ ad A2 c2, A = some ad ∧ w.cell? (ad.add (j * 3)) = some (.int .i64 x.f0) ∧ w.cell? ⟨(ad.add (j * 3)).block, (ad.add (j * 3)).off + 1, none⟩ = some (.int .i64 x.f1) ∧ w.cell? ⟨(ad.add (j * 3)).block, (ad.add (j * 3)).off + 2, none⟩ = some (.slice A2 x.f2.length c2) ∧ Lr w A2 x.f2
theorem Dr.below {w W : World} {A : Option Addr} {L : List S40} (h : Dr w A L) (t : Below w.heap.size w W) : Dr W A L := fun j x hx => by
  obtain ⟨ad, A2, c2, e, a, b, c, d⟩ := h j x hx
  exact ⟨ad, A2, c2, e, (t.cell (World.block_lt_of_cell? w _ a)).trans a, bl_cell b t, bl_cell c t, d.below t⟩
theorem Dr.of_C {w : World} {A : Option Addr} {L : List S40} (h : Kd.C k40 w A L.length L) : Dr w A L := fun j x hx => by
  have hj : j < L.length := (List.getElem?_eq_some_iff.1 hx).1
  obtain ⟨ad, c, e, _, hK, hc0⟩ := Kd.C_get h z40 (j : Int) (by omega) (by omega)
  have e2 : L.getD (j : Int).toNat z40 = x := by rw [Int.toNat_natCast, List.getD_eq_getElem?_getD, hx]; rfl
  have hc : ∀ i u, c[i]? = some u → w.cell? (ad.add ((j : Int).toNat * 3 + i)) = some u := hc0
  rw [e2] at hK
  obtain ⟨A2, c2, rfl, l2, g2⟩ := k40_open hK
  rw [Int.toNat_natCast] at hc
  exact ⟨ad, A2, c2, e, hc 0 _ rfl, by rw [← add_field _ _ 1 (by omega)]; exact hc 1 _ rfl, by rw [← add_field _ _ 2 (by omega)]; exact hc 2 _ rfl, Lr.of_C g2⟩
def shortB (L : List S40) : Bool := (L.take 40).all (fun x => decide (x.f2.length ≤ 100))
theorem short_at {L : List S40} (h : shortB L = true) {j : Nat} {x : S40} (hj : j < 40) (hx : L[j]? = some x) : x.f2.length ≤ 100 := by
  have := List.all_eq_true.1 h x (List.mem_of_getElem? (i := j) (by rw [List.getElem?_take, if_pos hj]; exact hx))
  simpa using this
set_option maxRecDepth 100000 in
theorem bd_short (A : Option Addr) (cap : Nat) (L : List S40) (w : World) (hs : Dr w A L) (hl : L.length ≤ 9223372036854775807) : Calls Try.prog 15 #[.slice A L.length cap] w fun e w' => e = .returned (.bool (shortB L)) ∧ Below w.heap.size w w' := by
  have HS := Aside0.mk hs
  obtain ⟨r, hr⟩ : ∃ r, shortB L = r := ⟨_, rfl⟩
  rw [hr]
  have HR := Aside0.mk hr
  clear hs hr
  go_enter Try.func15, Try.ntmps15
  go_wp2_with fail
  go_loopw [3] (fun v3 wr => ∃ i : Nat, v3 = .int .i64 ↑i ∧ Aside0 (i ≤ L.length ∧ i ≤ 40 ∧ (L.take i).all (fun x => decide (x.f2.length ≤ 100)) = true ∧ Below w.heap.size w wr)) (fun v3 _ => (40 - intOf v3).toNat)
  case atStart => exact ⟨0, rfl, ⟨Nat.zero_le _, by omega, rfl, Below.refl _ _⟩⟩
  case round =>
    obtain ⟨i, rfl, HI⟩ := hrel
    by_cases ci : i < L.length
    · have ci2 : (↑i : Int) < ↑L.length := by omega
      have i0 : (0 : Int) ≤ ↑i := by omega
      by_cases cj : i < 40
      · have cj2 : (↑i : Int) < 40 := by omega
        obtain ⟨x, hx⟩ : ∃ x, L[i]? = some x := ⟨L[i], List.getElem?_eq_getElem ci⟩
        obtain ⟨ad, A2, c2, rfl, k0, k1, k2, -⟩ := (HS.out.below HI.out.2.2.2) i x hx
        have HX := Aside0.mk hx
        clear hx
        by_cases cl : x.f2.length ≤ 100
        · have cl2 : ¬ (↑x.f2.length : Int) > 100 := by omega
          go_wp2_with fail
          refine ⟨⟨i + 1, rfl, ⟨by omega, by omega, ?_, HI.out.2.2.2⟩⟩, by simp [intOf]; omega⟩
          rw [List.take_add_one, HX.out, List.all_append, HI.out.2.2.1]
          simpa using cl
        · have cl2 : (↑x.f2.length : Int) > 100 := by omega
          have hr : r = false := by
            rw [← HR.out, ← Bool.not_eq_true]
            exact fun q => cl (short_at q cj HX.out)
          subst hr
          go_wp2_with fail
          go_ret
          exact ⟨rfl, HI.out.2.2.2⟩
      · have cj2 : ¬ (↑i : Int) < 40 := by omega
        have hr : r = true := by
          rw [← HR.out]
          have := HI.out.2.2.1
          rwa [show i = 40 by have := HI.out.2.1; omega] at this
        subst hr
        go_wp2_with fail
        go_ret
        exact ⟨rfl, HI.out.2.2.2⟩
    · have ci2 : ¬ (↑i : Int) < ↑L.length := by omega
      have hr : r = true := by
        rw [← HR.out]
        have h := HI.out.2.2.1
        rw [List.take_of_length_le (by omega)] at h
        unfold shortB
        rw [List.take_of_length_le (by have := HI.out.2.1; have := HI.out.1; omega)]
        exact h
      subst hr
      go_wp2_with fail
      go_ret
      exact ⟨rfl, HI.out.2.2.2⟩
/-- Reverse of an entry that isn't done, whatever comes of it. -/
def Revd (R : List En) (n : Nat) (x : En) (m : Int) (er : Value) (R' : List En) : Prop := (er = .nilIface ∧ m = ↑R.length ∧ pgood R.length (tot R) (ngs x.l) ∧ ∃ g c, R' = R.set n ⟨x.g, x.c, x.l, true⟩ ++ [⟨g, c, ngs x.l, true⟩]) ∨ (∃ c, er = .iface 42 (.int .i64 c) ∧ m = 0 ∧ pbad R.length (tot R) (ngs x.l) c ∧ R' = R)
theorem rev_any {w : World} {B bb bm : Nat} {ev : Value} {R : List En} (h : Bk w B bb bm ev R) (hB : B ≤ w.heap.size) (n : Nat) (x : En) (hx : R[n]? = some x) (hd : x.d = false) : Calls Try.prog 17 #[.pointer (some ⟨bb, 0, none⟩), .int .i64 ↑n] w fun e w' => ∃ (m : Int) (er : Value) (ev' : Value) (R' : List En), e = .returned (.tuple #[.int .i64 m, er]) ∧ Revd R n x m er R' ∧ Bk w' B bb bm ev' R' ∧ Moved w ev ev' ∧ Tn (own bb bm ev) w w' := by
  refine (bq_rev h hB n x hx hd).mono ?_
  rintro e w' (⟨c, hc, rfl, hb⟩ | ⟨hg, rfl, ev', g, c, hk, hev, hgs, ht⟩)
  · exact ⟨_, _, ev, R, rfl, Or.inr ⟨c, rfl, rfl, hc, rfl⟩, h.below hb, fun k hk => Or.inl hk, Tn.of_below hb⟩
  · exact ⟨_, _, ev', _, rfl, Or.inl ⟨rfl, rfl, hg, g, c, rfl⟩, hk, hev, ht⟩
theorem rev_why {R : List En} {x : En} {c : Int} {n : Nat} (hs : shapedB x.l = true) (hz : (amts x.l).sum = 0) (h : pbad n (tot R) (ngs x.l) c) : c = 8 ∨ c = 3 := by
  rcases h with ⟨-, h⟩ | ⟨-, h, -⟩ | ⟨-, -, h, -⟩ | ⟨-, -, -, -, h⟩
  · exact Or.inl h
  · rw [shaped_ngs, hs] at h; cases h
  · exact absurd (by rw [amts_ngs, hz]; rfl) h
  · exact Or.inr h

end Go.Proofs.Ytcdhnglefldalaa.PBook
