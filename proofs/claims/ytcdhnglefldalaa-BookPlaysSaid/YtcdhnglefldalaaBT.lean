import Derived.Test.YtcdhnglefldalaaBQ
import Derived.Test.YtcdhnglefldalaaShelf
namespace Go.Proofs.Ytcdhnglefldalaa.PBook
open Go.RowKit Go.Proofs.YtcdhnglefldalaaW.PrintWords Go.Proofs.YtcdhnglefldalaaW.PrintLast Go.Proofs.YtcdhnglefldalaaW.PrintMore
set_option linter.unusedVariables false
set_option linter.unusedSimpArgs false
open Go.Proofs.Ytcdhnglefldalaa.PBookPlays (S32 S34 S40 k32 k34 k40 z32 z34 z40 rd_T34 at_T34 rd_T40 at_T40 errEqI errEqL errEqR errNeI errNeL errNeR cents_Add.f cents_Add.calls errW errW_none errW_some)
open Go.Maps Go.Sort Go.Shelf Go.RowKit
attribute [local go_sem high] errEqI errNeI errEqL errNeL errEqR errNeR bk_eqs
theorem bt_less (k o k2 o2 : Int) (w : World) : Calls Try.prog 33 #[.agg #[.int .i64 k, .int .i64 o], .agg #[.int .i64 k2, .int .i64 o2]] w fun e w' => e = .returned (.bool (co_less k o k2 o2)) ∧ ∃ o1 o2, w' = (w.alloc o1).alloc o2 := by
  unfold co_less
  generalize h1 : decide (k < k2) = a
  generalize h2 : (k == k2) = b
  generalize h3 : decide (o < o2) = c
  cases a <;> cases b
  all_goals
    go_enter Try.func33, Try.ntmps33
    go_wp2
    go_ret
    exact ⟨rfl, _, _, rfl⟩
/-- One line stands before another. -/
def lt3 (x y : S34) : Bool := co_less x.f0.f0 x.f0.f1 y.f0.f0 y.f0.f1
def cf3 (x y : S34) : Int := if lt3 x y = true then -1 else 1
theorem lt_cf : Go.Proofs.ltOf cf3 = lt3 := by
  funext x y
  unfold Go.Proofs.ltOf cf3
  cases lt3 x y <;> rfl
theorem lt3_iff (x y : S34) : lt3 x y = true ↔ (x.f0.f0 < y.f0.f0 ∨ (x.f0.f0 = y.f0.f0 ∧ x.f0.f1 < y.f0.f1)) := by
  unfold lt3 co_less
  simp
theorem lt3_swo : SWO lt3 := by
  refine ⟨fun x => ?_, fun x y z h1 h2 => ?_, fun x y z h1 h2 => ?_⟩
  · rw [← Bool.not_eq_true, lt3_iff]; omega
  · rw [lt3_iff] at h1 h2 ⊢; omega
  · rw [← Bool.not_eq_true, lt3_iff] at h1 h2 ⊢; omega
theorem lt3_tri {x y : S34} (h1 : lt3 y x = false) (hne : x.f0 ≠ y.f0) : lt3 x y = true := by
  rw [← Bool.not_eq_true, lt3_iff] at h1
  rw [lt3_iff]
  obtain ⟨⟨a, b⟩, c⟩ := x
  obtain ⟨⟨a', b'⟩, c'⟩ := y
  simp only at h1 hne ⊢
  by_cases p : a = a'
  · by_cases q : b = b'
    · exact absurd (by rw [p, q]) hne
    · omega
  · omega
theorem bt_cmp (x y : S34) (w : World) : Calls Try.prog 32 #[.agg #[.int .i64 x.f0.f0, .int .i64 x.f0.f1, .int .i64 x.f1], .agg #[.int .i64 y.f0.f0, .int .i64 y.f0.f1, .int .i64 y.f1]] w fun e w' => e = .returned (.int .i64 (cf3 x y)) ∧ ∃ o1 o2 o3 o4, w' = (((w.alloc o1).alloc o2).alloc o3).alloc o4 := by
  have L := Aside0.mk (fun W => bt_less x.f0.f0 x.f0.f1 y.f0.f0 y.f0.f1 W)
  obtain ⟨b, hb⟩ : ∃ b, co_less x.f0.f0 x.f0.f1 y.f0.f0 y.f0.f1 = b := ⟨_, rfl⟩
  have hc : cf3 x y = if b = true then -1 else 1 := by unfold cf3 lt3; rw [hb]
  rw [hb] at L
  rw [hc]
  clear hc hb
  go_enter Try.func32, Try.ntmps32
  go_wp2_with fail
  refine (L.out _).mono ?_
  rintro e w1 ⟨rfl, o1, o2, rfl⟩
  cases b with
  | true =>
    go_wp2_with fail
    go_ret
    exact ⟨rfl, _, _, _, _, rfl⟩
  | false =>
    go_wp2_with fail
    go_ret
    exact ⟨rfl, _, _, _, _, rfl⟩
instance : Inhabited S34 := ⟨⟨⟨0, 0⟩, 0⟩⟩
theorem ln_agg (x : S34) : (Value.agg (ln x).toArray) = .agg #[.int .i64 x.f0.f0, .int .i64 x.f0.f1, .int .i64 x.f1] := rfl
theorem LB.holds {w : World} {g : Nat} {l : List S34} (h : LB w g l) : HoldsK ln 3 w g 0 l.toArray := by
  intro j hj
  rw [size_flatK] at hj
  have hj' : j < l.length * 3 := by simpa using hj
  have hi : j / 3 < l.length := by omega
  obtain ⟨x, hx⟩ : ∃ x, l[j / 3]? = some x := ⟨l[j / 3], List.getElem?_eq_getElem hi⟩
  have hx' : l.toArray[j / 3]! = x := by simp [hx]
  obtain ⟨a, b, c⟩ := h.cells hx
  refine ⟨?_, h.fz _⟩
  rw [get_flatK _ _ _ _ hj, hx', Nat.zero_add]
  show w.cell? ⟨g, j, none⟩ = some ((ln x)[j % 3]!)
  have hr : j % 3 = 0 ∨ j % 3 = 1 ∨ j % 3 = 2 := by omega
  have hd : j = j / 3 * 3 + j % 3 := by omega
  rcases hr with q | q | q <;> rw [q] at hd ⊢ <;> rw [hd]
  · exact a
  · exact b
  · exact c
theorem arr_bang {d : Array S34} {i : Nat} {x : S34} (h : d[i]? = some x) : d[i]! = x := by
  obtain ⟨hi, e⟩ := Array.getElem?_eq_some_iff.1 h
  rw [getElem!_pos d i hi, e]
theorem holds_LB {w : World} {g : Nat} {d : Array S34} {cs : Array Value} (h : HoldsK ln 3 w g 0 d) (hb : w.heap[g]? = some (.cells cs 34 (0, 0))) : LB w g d.toList := by
  have hl := lns_len d.toList
  refine ⟨cs.toList.drop (d.size * 3), hb.trans ?_⟩
  have e : cs.toList.take (d.size * 3) = lns d.toList := by
    apply List.ext_getElem?
    intro j
    by_cases hj : j < d.size * 3
    · have h1 := (h j (by rw [size_flatK]; exact hj)).1
      rw [get_flatK _ _ _ _ hj, Nat.zero_add, blk_cell hb] at h1
      rw [List.getElem?_take, if_pos hj, Array.getElem?_toList, h1]
      have hi : j / 3 < d.toList.length := by simp; omega
      obtain ⟨x, hx⟩ : ∃ x, d.toList[j / 3]? = some x := ⟨d.toList[j / 3], List.getElem?_eq_getElem hi⟩
      have hx' : d[j / 3]! = x := by
        rw [Array.getElem?_toList] at hx
        exact arr_bang hx
      obtain ⟨a, b, c⟩ := lns_at d.toList _ x hx
      rw [hx']
      have hr : j % 3 = 0 ∨ j % 3 = 1 ∨ j % 3 = 2 := by omega
      have hd : j = j / 3 * 3 + j % 3 := by omega
      rcases hr with q | q | q <;> rw [q] at hd ⊢ <;> rw [hd]
      · exact a.symm
      · exact b.symm
      · exact c.symm
    · rw [List.getElem?_eq_none (by simp; omega), List.getElem?_eq_none (by simp at hl ⊢; omega)]
  rw [← e, List.take_append_drop]
theorem sortw_tn (w : World) (g n : Nat) (d : Array S34) (os : Array Obj) : Tn (fun k => k = g) w (sortWorldK ln 3 w g 0 n d os) := by
  refine ⟨rfl, rfl, rfl, size_sortWorldK_c ln 3 w g 0 n d os, fun k hk hn => ?_⟩
  unfold sortWorldK
  show ((w.heap.modify g (onCells (putCells id 0 (flatK ln 3 d)))) ++ os)[k]? = w.heap[k]?
  rw [Array.getElem?_append_left (by simpa using hk), Array.getElem?_modify, if_neg (fun e => hn e.symm)]
theorem sortw_typed (w : World) (g n : Nat) (d : Array S34) (os : Array Obj) {cs : Array Value} {T : TypeId} (h : w.heap[g]? = some (.cells cs T (0, 0))) : ∃ cs', (sortWorldK ln 3 w g 0 n d os).heap[g]? = some (.cells cs' T (0, 0)) := by
  unfold sortWorldK
  have hg := blk_lt h
  refine ⟨putCells id 0 (flatK ln 3 d) cs, ?_⟩
  show ((w.heap.modify g (onCells (putCells id 0 (flatK ln 3 d)))) ++ os)[g]? = _
  rw [Array.getElem?_append_left (by simpa using hg), Array.getElem?_modify, if_pos rfl, h]
  rfl
set_option maxRecDepth 100000 in
theorem bt_sort {w : World} (g cap : Nat) (l : List S34) (h : LB w g l) (hl : l.length < 4611686018427387904) : Calls Try.prog 31 #[.slice (some ⟨g, 0, none⟩) l.length cap, .func (.func 32) #[] #[]] w fun e w' => e = .returned (.tuple #[]) ∧ ∃ t : List S34, t.Perm l ∧ t.length = l.length ∧ (∀ (i j : Nat) (x y : S34), i < j → t[i]? = some x → t[j]? = some y → lt3 y x = false) ∧ LB w' g t ∧ Tn (fun k => k = g) w w' := by
  have hc := AnyQ.slices_SortFunc (P := Try.prog) Try.sortA 3 (fun w => by kernel_rfl) (fun w => by kernel_rfl) ln (fun _ => rfl) (fun x v hv => by simp [ln] at hv; rcases hv with rfl | rfl | rfl <;> rfl) cf3 (by rw [lt_cf]; exact lt3_swo) 32 #[] g 0 cap l.toArray w (enters_of Try.func32 (by kernel_rfl) rfl) (fun m os dk hs x y => (bt_cmp x y _).mono fun e w' ⟨he, o1, o2, o3, o4, hw⟩ => ⟨he, 0, #[o1, o2, o3, o4], by
    rw [hw, alloc_eq_grow, alloc_eq_grow, alloc_eq_grow, alloc_eq_grow, grow_grow, grow_grow, grow_grow]
    rfl⟩) h.holds h.lt (by simpa using hl)
  refine hc.mono ?_
  rintro e w' ⟨rfl, d', n, os, hp, hs, rfl⟩
  obtain ⟨cs, hcs⟩ := h
  obtain ⟨cs', hcs'⟩ := sortw_typed w g n d' os hcs
  have hsz : d'.size = l.length := by simpa using hp.1
  have hpm : d'.toList.Perm l := by
    have := hp.2.2
    simp only [List.size_toArray, Array.toList_extract, List.extract_eq_take_drop, List.drop_zero, Nat.sub_zero] at this
    rwa [List.take_of_length_le (by simp; omega), List.take_of_length_le (Nat.le_refl _)] at this
  refine ⟨rfl, d'.toList, hpm, by simpa using hsz, fun i j x y hij hx hy => ?_, ?_, sortw_tn w g n d' os⟩
  · have hj : j < d'.toList.length := (List.getElem?_eq_some_iff.1 hy).1
    have h1 := hs i j (Nat.zero_le _) hij (by simpa [hsz] using hj)
    rw [lt_cf] at h1
    rw [Array.getElem?_toList] at hx hy
    rwa [arr_bang hx, arr_bang hy] at h1
  · exact holds_LB (holdsK_sortWorldK_c ln 3 w g 0 l.toArray d' n os (LB.holds ⟨cs, hcs⟩) (blk_lt hcs) (by simpa using hsz)) hcs'

end Go.Proofs.Ytcdhnglefldalaa.PBook
