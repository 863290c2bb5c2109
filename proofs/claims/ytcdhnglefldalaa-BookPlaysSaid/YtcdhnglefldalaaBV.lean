import Derived.Test.YtcdhnglefldalaaBU
namespace Go.Proofs.Ytcdhnglefldalaa.PBook
open Go.RowKit Go.Proofs.YtcdhnglefldalaaW.PrintWords Go.Proofs.YtcdhnglefldalaaW.PrintLast Go.Proofs.YtcdhnglefldalaaW.PrintMore
set_option linter.unusedVariables false
set_option linter.unusedSimpArgs false
open Go.Proofs.Ytcdhnglefldalaa.PBookPlays (S32 S34 S40 k32 k34 k40 z32 z34 z40 rd_T34 at_T34 rd_T40 at_T40 errEqI errEqL errEqR errNeI errNeL errNeR cents_Add.f cents_Add.calls errW errW_none errW_some)
open Go.Maps Go.Shelf Go.RowKit
attribute [local go_sem high] errEqI errNeI errEqL errNeL errEqR errNeR bk_eqs
theorem own_it {w W : World} {B e sz n r : Nat} {v : Value} {xs : List Value} (h : w.ownsRow B e sz v n xs) (hr : r < B) (hg : w.grownBy W (some r)) : W.ownsRow B e sz v n xs :=
  own_turn h (Tn.of_grown hg) (fun k hk q => by have := own_base h hk; cases q; omega)
set_option maxRecDepth 100000 in
set_option maxHeartbeats 4000000 in
theorem bv_trial {w : World} {B bb bm : Nat} {ev : Value} {R : List En} (h : Bk w B bb bm ev R) : Calls Try.prog 12 #[.pointer (some ⟨bb, 0, none⟩)] w fun e w' => ∃ A c t, e = .returned (.slice A t.length c) ∧ Tl (tot R) t ∧ t.length ≤ 131072 ∧ (∀ ad, A = some ad → ∃ g, ad = ⟨g, 0, none⟩ ∧ w.heap.size ≤ g ∧ LB w' g t) ∧ (A = none → t = []) ∧ Below w.heap.size w w' := by
  obtain ⟨c0, c1, c2⟩ := h.cells
  obtain ⟨A, c, rfl⟩ := own_sl h.row
  obtain ⟨N, D, m1, m2, m3⟩ := h.map
  obtain ⟨i0, hi, hz0, hz1, hz2⟩ := info_parts b_info34
  have HI := Aside0.mk hi
  have hbm := m1.lt
  have hsz := m1.size_le
  have hfew := h.few
  have HIM := Aside0.mk m1.isMap
  have HF := Aside0.mk m3
  clear h m3 hi
  go_enter Try.func12, Try.ntmps12
  go_wp2_with (at_range; refine wpList_range_own _ rfl _ 60 rfl 32 2 by_law Try.underlying60 (plainElem Try.prog 2) bm N _ rfl m1 ?_; intro w0 hrg0 hg0 hs0)
  clear c0 c1 c2
  go_frame
  go_loopw [3] (fun v3 wr => ∃ (left : Lit → Bool) (cnt : Nat) (o : List S34), Aside0 (wr.ranges Try.prog 32 (plainElem Try.prog 2) bm w.heap.size N D left cnt ∧ o.length + cnt ≤ N ∧ wr.ownsRow (w.heap.size + 1) 34 3 v3 o.length (lns o) ∧ Tr D left o ∧ Below w.heap.size w wr ∧ w.heap.size + 1 ≤ wr.heap.size))
    (fun _ wr => wr.rangeLeft bm w.heap.size)
  case atStart =>
    exact ⟨_, _, [], ⟨hrg0, by simpa using hsz, World.ownsRow_nil _ _ _ 3, Tr.start D, (Below.refl _ _).grown hg0 (Nat.le_refl _) (fun k hk => by cases hk), by omega⟩⟩
  case round =>
    obtain ⟨left, cnt, o, HX⟩ := hrel
    go_wp2_with (at_next; refine wpList_next_ranges _ rfl _ rfl 32 by_law (plainElem Try.prog 2) (fun a : S32 => Value.agg #[.int .i64 a.f0, .int .i64 a.f1]) (fun c : Int => Value.int .i64 c) (fun key kl h => by obtain ⟨a, -, e, -⟩ := key_inv h; exact ⟨a, e⟩) (fun v y h => el_inv h) bm w.heap.size N _ _ _ rfl HX.out.1 ?_ ?_)
    · intro hc0 hl0
      have HL0 := Aside0.mk hl0
      clear hc0 hl0
      obtain ⟨A3, c3, rfl, hA1, hA2⟩ := own_lb HX.out.2.2.1
      have HA1 := Aside0.mk hA1
      have HA2 := Aside0.mk hA2
      have hol : o.length ≤ 131072 := by have h1 := HX.out.2.1; omega
      by_cases q : o = []
      · subst q
        have SN := Aside0.mk (fun p cap fv W => AnyF.slices_SortFunc_none (P := Try.prog) Try.sortA p cap fv W)
        clear hA1 hA2
        go_wp2_with fail
        refine (SN.out A3 c3 _ wr).mono ?_
        rintro e w5 ⟨rfl, rfl⟩
        go_wp2_with fail
        go_ret
        exact ⟨A3, c3, [], rfl, HX.out.2.2.2.1.done HL0.out HIM.out HF.out (List.Perm.refl _) (fun i j x y _ h => (by cases h)), by simp, (fun ad e => by obtain ⟨g, e1, e2, e3, -⟩ := HA1.out ad e; exact ⟨g, e1, by omega, e3⟩), fun _ => rfl, HX.out.2.2.2.2.1⟩
      · obtain ⟨ad, rfl⟩ : ∃ ad, A3 = some ad := by
          cases A3 with
          | none => exact absurd (hA2 rfl) q
          | some ad => exact ⟨ad, rfl⟩
        obtain ⟨g, rfl, hg1, hg2, -⟩ := hA1 ad rfl
        have SC := Aside0.mk (bt_sort g c3 o hg2 (by omega))
        have HG1 := Aside0.mk hg1
        clear hA1 hA2 hg2 HA1 HA2
        go_wp2_with fail
        refine SC.out.mono ?_
        rintro e w5 ⟨rfl, t, hp, hlen, hs, hb, ht⟩
        have HT := Aside0.mk (And.intro hp (And.intro hs hb))
        have HTT := Aside0.mk ht
        have HLN := Aside0.mk hlen
        clear hp hs hb ht hlen
        go_wp2_with fail
        go_ret
        refine ⟨some ⟨g, 0, none⟩, c3, t, by rw [HLN.out]; rfl, HX.out.2.2.2.1.done HL0.out HIM.out HF.out HT.out.1 HT.out.2.1, by rw [HLN.out]; exact hol, (fun ad e => by cases e; exact ⟨g, rfl, by have := HG1.out; omega, HT.out.2.2⟩), (fun e => by cases e), ?_⟩
        exact Tn.below HX.out.2.2.2.2.1 HTT.out HX.out.2.2.2.2.1.size (fun k hk => by rw [hk]; have := HG1.out; omega)
    · intro x c kl yd yp w1 cnt1 hkey hlx hv hat hrg1 hlt hg1 hs1 hen
      obtain ⟨x', hwx, e1, e2⟩ := key_inv hkey
      have ex : x' = x := by
        obtain ⟨a, b⟩ := x
        obtain ⟨a', b'⟩ := x'
        cases e1
        rfl
      subst ex
      subst e2
      clear e1
      have hgc : gI D (ak x') = c := by
        obtain ⟨c', e3, e4, -⟩ := plainElem_int_inv Try.underlying2 hv
        cases e3
        refine gI_of ?_
        rw [hat]
        exact (congrArg Prod.fst e4 : _)
      subst hgc
      have HHK := Aside0.mk (And.intro hlx hwx)
      have HG1 := Aside0.mk hg1
      have HR1 := Aside0.mk hrg1
      have hB1 : Below w.heap.size w w1 := HX.out.2.2.2.2.1.grown hg1 (by have := HX.out.2.2.2.2.2; omega) (fun k hk => by cases hk; exact Nat.le_refl _)
      have HB1 := Aside0.mk hB1
      have HO1 := Aside0.mk (own_it HX.out.2.2.1 (Nat.lt_succ_self _) hg1)
      have HS1 := Aside0.mk hs1
      have HLT := Aside0.mk hlt
      clear hg1 hrg1 hB1 hs1 hlt hlx hwx hv hat hkey
      obtain ⟨c, hc⟩ : ∃ c, gI D (ak x') = c := ⟨_, rfl⟩
      rw [hc] at hen ⊢
      have HC := Aside0.mk hc
      clear hc
      by_cases p : c = 0
      · subst p
        go_wp2_with fail
        have hga := World.grownBy_alloc w1 (Obj.cells #[.int .i64 x'.f0, .int .i64 x'.f1] 32) none
        have hrg2 := HR1.out.kept hga (by simp) (by simp)
        have hsa : (w1.alloc (Obj.cells #[.int .i64 x'.f0, .int .i64 x'.f1] 32)).heap.size = w1.heap.size + 1 := Array.size_push _
        refine ⟨⟨_, cnt1, o, ⟨hrg2, by have h1 := HX.out.2.1; have h2 := HLT.out; omega, HO1.out.alloc _, HX.out.2.2.2.1.skip HHK.out.2 HC.out, below_alloc HB1.out _, by have h1 := HX.out.2.2.2.2.2; have h2 := HS1.out; omega⟩⟩, ?_⟩
        rw [hrg2.left_eq, HX.out.1.left_eq]
        exact HLT.out
      · have hol : o.length < 131072 := by have h1 := HX.out.2.1; have h2 := HLT.out; omega
        go_wp2_with (at_builtin; (refine wpList_append_own_at _ rfl _ _ 22 rfl (w.heap.size + 1) 34 i0 (.agg #[.int .i64 0, .int .i64 0, .int .i64 0]) 3 24 Try.underlying22 HI.out hz0 hz1 hz2 rfl (by decide) u3 o.length _ rfl ((HO1.out.alloc _).alloc _) ⟨w1.heap.size + 1, 0, none⟩ 1 1 [.int .i64 x'.f0, .int .i64 x'.f1, .int .i64 c] rfl rfl (bu_three _ _ _ _ _ _) (by simp [Value.oneCell']) (by unfold maxLen; have := HX.out.2.1; omega) (by omega) (by have := HX.out.2.2.2.2.2; have := HS1.out; simp; omega) ?_); intro v3 w3 hown hgrow _ _)
        have hsa : ((w1.alloc (Obj.cells #[.int .i64 x'.f0, .int .i64 x'.f1] 32)).alloc (Obj.cells #[.int .i64 x'.f0, .int .i64 x'.f1, .int .i64 c] 34)).heap.size = w1.heap.size + 2 := by
          have h1 : (w1.alloc (Obj.cells #[.int .i64 x'.f0, .int .i64 x'.f1] 32)).heap.size = w1.heap.size + 1 := Array.size_push _
          have h2 : ((w1.alloc (Obj.cells #[.int .i64 x'.f0, .int .i64 x'.f1] 32)).alloc (Obj.cells #[.int .i64 x'.f0, .int .i64 x'.f1, .int .i64 c] 34)).heap.size = _ := Array.size_push _
          rw [h2]
          exact congrArg (· + 1) h1
        have hob : ∀ k, u3.ownBlock = some k → w.heap.size + 1 ≤ k := fun k hk => own_base HO1.out hk
        have hga := World.grownBy_alloc w1 (Obj.cells #[.int .i64 x'.f0, .int .i64 x'.f1] 32) none
        have hgb := World.grownBy_alloc (w1.alloc (Obj.cells #[.int .i64 x'.f0, .int .i64 x'.f1] 32)) (Obj.cells #[.int .i64 x'.f0, .int .i64 x'.f1, .int .i64 c] 34) none
        have hrg2 := ((HR1.out.kept hga (by simp) (by simp)).kept hgb (by simp) (by simp)).kept hgrow (fun e => by have := hob _ e.symm; omega) (fun e => by have := hob _ e.symm; omega)
        have hsz3 := hgrow.size
        refine ⟨⟨_, cnt1, o ++ [⟨x', c⟩], ⟨hrg2, by have h1 := HX.out.2.1; have h2 := HLT.out; simp; omega, ?_, ?_, ?_, by have h1 := HX.out.2.2.2.2.2; have h2 := HS1.out; omega⟩⟩, ?_⟩
        · rw [lns_append, List.length_append]
          exact hown
        · have := HX.out.2.2.2.1.more HHK.out.2 HHK.out.1 (gI_has HIM.out (by rw [HC.out]; exact p)) (by rw [HC.out]; exact p)
          rw [HC.out] at this
          exact this
        · exact (below_alloc (below_alloc HB1.out _) _).grown hgrow (by have h1 := HX.out.2.2.2.2.2; have h2 := HS1.out; omega) (fun k hk => by have := hob k hk; omega)
        · rw [hrg2.left_eq, HX.out.1.left_eq]
          exact HLT.out

end Go.Proofs.Ytcdhnglefldalaa.PBook
