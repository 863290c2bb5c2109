import Derived.Test.YthblaehmdailhaaJDK
import Derived.Test.YthblaehmdailhaaJN2
import Derived.Test.YthblaehmdailhaaPDiskPlaysx0
namespace Go.Proofs.Ythblaehmdailhaa.PJournalStays
open Go.RowKit Go.Proofs.YthblaehmdailhaaW.PrintWords Go.Proofs.YthblaehmdailhaaW.PrintLast Go.Proofs.YthblaehmdailhaaW.PrintMore
set_option linter.unusedVariables false
set_option linter.unusedSimpArgs false

attribute [local go_sem high] slEq slNe slEq0 slNe0
/-- Which blocks are dirty. -/
def idxF : List Bool → Nat → List Nat
  | [], _ => []
  | true :: t, k => k :: idxF t (k + 1)
  | false :: t, k => idxF t (k + 1)
theorem idxF_mem : ∀ (df : List Bool) (k b : Nat), b ∈ idxF df k ↔ ∃ i, df[i]? = some true ∧ b = k + i := by
  intro df
  induction df with
  | nil => intro k b; simp [idxF]
  | cons a t ih =>
    intro k b
    have key : (∃ i, (a :: t)[i]? = some true ∧ b = k + i) ↔ (a = true ∧ b = k) ∨ ∃ i, t[i]? = some true ∧ b = k + 1 + i := by
      constructor
      · rintro ⟨i, h1, h2⟩
        rcases i with _ | i
        · exact Or.inl ⟨by simpa using h1, by omega⟩
        · exact Or.inr ⟨i, by simpa using h1, by omega⟩
      · rintro (⟨h1, h2⟩ | ⟨i, h1, h2⟩)
        · exact ⟨0, by simp [h1], by omega⟩
        · exact ⟨i + 1, by simpa using h1, by omega⟩
    rw [key]
    cases a with
    | true =>
      show b ∈ k :: idxF t (k + 1) ↔ _
      rw [List.mem_cons, ih]
      simp
    | false =>
      show b ∈ idxF t (k + 1) ↔ _
      rw [ih]
      simp
theorem idxF_asc : ∀ (df : List Bool) (k : Nat), (idxF df k).Pairwise (· < ·) := by
  intro df
  induction df with
  | nil => intro k; exact List.Pairwise.nil
  | cons a t ih =>
    intro k
    cases a with
    | true =>
      refine List.pairwise_cons.2 ⟨fun b hb => ?_, ih (k + 1)⟩
      obtain ⟨i, -, h⟩ := (idxF_mem t (k + 1) b).1 hb
      omega
    | false => exact ih (k + 1)
theorem idxF_len : ∀ (df : List Bool) (k : Nat), (idxF df k).length = df.countP id := by
  intro df
  induction df with
  | nil => intro k; rfl
  | cons a t ih =>
    intro k
    cases a with
    | true => show (idxF t (k + 1)).length + 1 = _; rw [ih, List.countP_cons]; rfl
    | false => show (idxF t (k + 1)).length = _; rw [ih, List.countP_cons]; rfl
theorem idxF_at : ∀ (pre post : List Bool) (k : Nat), (idxF (pre ++ true :: post) k)[pre.countP id]? = some (k + pre.length) := by
  intro pre
  induction pre with
  | nil => intro post k; rfl
  | cons a t ih =>
    intro post k
    cases a with
    | true =>
      rw [List.countP_cons]
      show (k :: idxF (t ++ true :: post) (k + 1))[t.countP id + 1]? = _
      rw [List.getElem?_cons_succ, ih]
      simp only [List.length_cons]
      congr 1
      omega
    | false =>
      rw [List.countP_cons]
      show (idxF (t ++ true :: post) (k + 1))[t.countP id]? = _
      rw [ih]
      simp only [List.length_cons]
      congr 1
      omega
theorem idxF_pos {df : List Bool} {b : Nat} (h : df[b]? = some true) : (idxF df 0)[(df.take b).countP id]? = some b := by
  obtain ⟨hb, e⟩ := List.getElem?_eq_some_iff.1 h
  have h1 := idxF_at (df.take b) (df.drop (b + 1)) 0
  have e2 : df.take b ++ true :: df.drop (b + 1) = df := by rw [← e, ← List.drop_eq_getElem_cons hb, List.take_append_drop]
  rw [e2, List.length_take, Nat.min_eq_left (by omega), Nat.zero_add] at h1
  exact h1
theorem cnt_step {df : List Bool} {b : Nat} {x : Bool} (h : df[b]? = some x) : (df.take (b + 1)).countP id = (df.take b).countP id + if x then 1 else 0 := by
  rw [List.take_add_one, h, List.countP_append]
  cases x <;> rfl
theorem cnt_le (df : List Bool) (b : Nat) : (df.take b).countP id ≤ b := by
  have h := List.countP_le_length (p := id) (l := df.take b)
  rw [List.length_take] at h
  omega
theorem cw_q (b i q : Nat) (h : b * 64 + i = q) (hq : q ≤ 65536) : wrap64 (wrap64 (64 * (b : Int)) + (i : Int)) = (q : Int) := by
  have h1 : wrap64 (64 * (b : Int)) = 64 * (b : Int) := IntWalk.wrap64_in _ ⟨by omega, by omega⟩
  rw [h1]
  clear h1
  rw [IntWalk.wrap64_in _ ⟨by omega, by omega⟩]
  omega
theorem jf_there {w : World} {md ms mn mb n nb : Nat} {st nw : List Int} {df : List Bool} (h : Mf w md ms mn mb n nb st nw df) (at_ k : Int) (hn : n ≤ 65536) : Calls Try.prog 46 #[.pointer (some ⟨md, 0, none⟩), .int .i64 at_, .int .i64 k] w fun e w' => e = .returned (.bool (decide (0 ≤ at_ ∧ 0 ≤ k ∧ at_ ≤ n ∧ k ≤ n - at_))) ∧ Below w.heap.size w w' := by
  obtain ⟨c0, c1, c2⟩ := h.cells
  obtain ⟨r, hr⟩ : ∃ r, decide (0 ≤ at_ ∧ 0 ≤ k ∧ at_ ≤ n ∧ k ≤ n - at_) = r := ⟨_, rfl⟩
  rw [hr]
  have HR := Aside0.mk hr
  clear hr
  go_enter Try.func46, Try.ntmps46
  go_wp2
  all_goals
    go_ret
    refine ⟨congrArg (fun z => Ending.returned (Value.bool z)) ((Eq.symm (jd_dec ?_)).trans HR.out), Below.refl _ _⟩
    simp only [decide_eq_true_eq, Bool.false_eq_true, false_iff, eq_self_iff_true, true_iff]
    omega
set_option maxRecDepth 100000 in
theorem jf_many {w : World} {md ms mn mb n nb : Nat} {st nw : List Int} {df : List Bool} (h : Mf w md ms mn mb n nb st nw df) (hn : n ≤ 65536) : Calls Try.prog 33 #[.pointer (some ⟨md, 0, none⟩)] w fun e w' => e = .returned (.int .i64 (df.countP id : Nat)) ∧ Below w.heap.size w w' := by
  have HD := Aside0.mk h
  obtain ⟨c0, c1, c2⟩ := h.cells
  have hnb : nb ≤ 65536 := by have := h.nn; omega
  clear h
  go_enter Try.func33, Try.ntmps33
  go_wp2_with fail
  go_loopw [3, 4] (fun v3 v4 wr => ∃ b c : Nat, v3 = .int .i64 ↑c ∧ v4 = .int .i64 ↑b ∧ wr = w ∧ Aside0 (b ≤ nb ∧ c = (df.take b).countP id)) (fun _ v4 _ => (nb - intOf v4).toNat)
  case atStart => exact ⟨0, 0, rfl, rfl, rfl, ⟨Nat.zero_le _, rfl⟩⟩
  case round =>
    obtain ⟨b, c, rfl, rfl, rfl, HX⟩ := hrel
    by_cases cb : b < nb
    · have cb2 : (↑b : Int) < ↑nb := by omega
      have b0 : (0 : Int) ≤ ↑b := by omega
      obtain ⟨x, hx⟩ : ∃ x, df[b]? = some x := ⟨df[b]'(by rw [HD.out.lf]; exact cb), List.getElem?_eq_getElem _⟩
      have k := HD.out.flag hx
      have hs := Aside0.mk (cnt_step hx)
      have hc : c ≤ b := by rw [HX.out.2]; exact cnt_le df b
      clear hx
      cases x with
      | true =>
        go_wp2_with fail
        exact ⟨⟨b + 1, c + 1, rfl, rfl, trivial, ⟨by omega, by rw [hs.out, HX.out.2]; rfl⟩⟩, by simp [intOf]; omega⟩
      | false =>
        go_wp2_with fail
        exact ⟨⟨b + 1, c, rfl, rfl, trivial, ⟨by omega, by rw [hs.out, HX.out.2]; rfl⟩⟩, by simp [intOf]; omega⟩
    · have cb2 : ¬ (↑b : Int) < ↑nb := by omega
      go_wp2_with fail
      go_ret
      obtain ⟨h1, h2⟩ := HX.out
      rw [List.take_of_length_le (by rw [HD.out.lf]; omega)] at h2
      subst h2
      exact ⟨rfl, Below.refl _ _⟩
set_option maxHeartbeats 2000000 in
set_option maxRecDepth 100000 in
theorem jf_crash {w : World} {md ms mn mb n nb : Nat} {st nw : List Int} {df : List Bool} (h : Mf w md ms mn mb n nb st nw df) (hn : n ≤ 65536) (A : Option Addr) (P : List Int) (cap : Nat) (hP : P.length ≤ 65536) (hs : ∀ i p, P[i]? = some p → ∃ ad, A = some ad ∧ ad.block ≠ ms ∧ w.cell? (ad.add i) = some (.int .i64 p)) : Calls Try.prog 47 #[.pointer (some ⟨md, 0, none⟩), .slice A P.length cap] w fun e w' => e = .returned (.tuple #[]) ∧ Mf w' md ms mn mb n nb (crashN st nw (idxF df 0) P (df.countP id)) (crashN st nw (idxF df 0) P (df.countP id)) (List.replicate nb false) ∧ Tn (fun k => k = ms ∨ k = mn ∨ k = mb) w w' := by
  have HD := Aside0.mk h
  have HS := Aside0.mk hs
  have hnb : nb ≤ 65536 := by have := h.nn; omega
  have HK : Aside0 (∀ b ∈ idxF df 0, b * 64 + 64 ≤ n) := ⟨fun b hb => by
    obtain ⟨i, h1, h2⟩ := (idxF_mem df 0 b).1 hb
    have h3 := (List.getElem?_eq_some_iff.1 h1).1
    have h4 := h.nn
    have h5 := h.lf
    omega⟩
  clear h hs
  go_enter Try.func47, Try.ntmps47
  have c2 := HD.out.cells.2.2
  go_wp2_with fail
  clear c2
  go_loopw [4, 5] (fun v4 v5 wr => ∃ b c : Nat, v4 = .int .i64 ↑c ∧ v5 = .int .i64 ↑b ∧ Aside0 (b ≤ nb ∧ c = (df.take b).countP id ∧ Mf wr md ms mn mb n nb (crashN st nw (idxF df 0) P c) nw df ∧ Tn (fun k => k = ms) w wr)) (fun _ v5 _ => (nb - intOf v5).toNat)
  case atStart => exact ⟨0, 0, rfl, rfl, ⟨Nat.zero_le _, rfl, HD.out, Tn.refl _ _⟩⟩
  case round =>
    obtain ⟨b, c, rfl, rfl, HX⟩ := hrel
    have c2 := HX.out.2.2.1.cells.2.2
    by_cases cb : b < nb
    · have cb2 : (↑b : Int) < ↑nb := by omega
      have b0 : (0 : Int) ≤ ↑b := by omega
      obtain ⟨x, hx⟩ : ∃ x, df[b]? = some x := ⟨df[b]'(by rw [HD.out.lf]; exact cb), List.getElem?_eq_getElem _⟩
      have k := HX.out.2.2.1.flag hx
      have hst := Aside0.mk (cnt_step hx)
      have hc : c ≤ b := by rw [HX.out.2.1]; exact cnt_le df b
      have HF := Aside0.mk hx
      clear hx
      cases x with
      | false =>
        go_wp2_with fail
        exact ⟨⟨b + 1, c, rfl, rfl, ⟨by omega, by rw [hst.out, HX.out.2.1]; rfl, HX.out.2.2.1, HX.out.2.2.2⟩⟩, by simp [intOf]; omega⟩
      | true =>
        have KC : Aside0 ((idxF df 0)[c]? = some b) := ⟨by rw [HX.out.2.1]; exact idxF_pos HF.out⟩
        have hq : b * 64 + 64 ≤ n := HK.out b (List.mem_of_getElem? KC.out)
        have kl := keepN_le P c
        go_wp2_with fail
        clear k c2
        go_loopw [6] (fun v6 wq => ∃ i : Nat, v6 = .int .i64 ↑i ∧ Aside0 (i ≤ 64 ∧ Mf wq md ms mn mb n nb (splice (crashN st nw (idxF df 0) P c) (b * 64) ((nw.drop (b * 64)).take (min i (keepN P c)))) nw df ∧ Tn (fun k => k = ms) w wq)) (fun v6 _ => (64 - intOf v6).toNat)
        case atStart => exact ⟨0, rfl, ⟨Nat.zero_le _, by rw [Nat.zero_min, List.take_zero, splice_nil _ _ (by rw [HX.out.2.2.1.ls]; omega)]; exact HX.out.2.2.1, HX.out.2.2.2⟩⟩
        case round =>
          obtain ⟨i, rfl, HY⟩ := hrel
          by_cases ci : i < 64
          · have ci2 : (↑i : Int) < 64 := by omega
            have i0 : (0 : Int) ≤ ↑i := by omega
            by_cases cp : c < P.length
            · have cp2 : (↑c : Int) < ↑P.length := by omega
              have c0' : (0 : Int) ≤ ↑c := by omega
              obtain ⟨p, hp⟩ : ∃ p, P[c]? = some p := ⟨P[c], List.getElem?_eq_getElem cp⟩
              obtain ⟨ad, e, hne, hcell⟩ := HS.out c p hp
              subst e
              have k := HY.out.2.2.cell hcell (fun q => by rw [ad_block] at q; exact hne q)
              have KE : keepN P c = (min (max p 0) 64).toNat := by unfold keepN; rw [hp]
              clear hp hcell
              by_cases ck : (↑i : Int) < p
              · have ik : i < keepN P c := by omega
                clear KE
                go_wp2_with fail
                have MX := Aside0.mk (HY.out.2.1.below (below_drew1 (Below.refl wr.heap.size wr)))
                have TX := Aside0.mk (HY.out.2.2.trans (Tn.of_below (below_drew1 (Below.refl wr.heap.size wr))))
                obtain ⟨q, hq⟩ : ∃ q, b * 64 + i = q := ⟨_, rfl⟩
                have HQ := Aside0.mk hq
                obtain ⟨x, hx⟩ : ∃ x, nw[q]? = some x := ⟨_, List.getElem?_eq_getElem (by rw [HD.out.ln]; omega)⟩
                have cx := HY.out.2.1.hn.cell hx
                have z0 := HY.out.2.1.cells.1
                have z1 := HY.out.2.1.cells.2.1
                have HXX := Aside0.mk hx
                have qe := cw_q b i q hq (by omega)
                have QE := Aside0.mk qe
                have qlt : q < n := by omega
                clear hq hx qe
                refine start_ (n := 20) (S := fun w' => w'.cell? ⟨md, 0, none⟩ = some (.slice (some ⟨ms, 0, none⟩) n n) ∧ w'.cell? ⟨md, 1, none⟩ = some (.slice (some ⟨mn, 0, none⟩) n n) ∧ w'.cell? ⟨mn, q, none⟩ = some (.int .u8 x)) (ds := [19]) #[false, false, false, false, false, false, false, false, false, false, false, false, false, false, false, false, false, false, false, false] (by kernel_rfl) rfl rfl ⟨z0, z1, cx⟩ (fun hHeld => ?_)
                generalize wr.drew = wd at hHeld MX TX ⊢
                clear z0 z1 k
                have j0 : (0 : Int) ≤ ↑q := by omega
                have j1 : (↑q : Int) < ↑n := by omega
                refine pure_ (i := 0) (N := some 40) (v := ?_) (a' := ?_) #[true, false, false, false, false, false, false, false, false, false, false, false, false, false, false, false, false, false, false, false] rfl rfl (by kernel_rfl) (fun _ _ _ h => h) (Or.inl ⟨by rfl, ?_⟩) ?_ ?_
                rotate_left
                · intro w'
                  go_simp
                  with_reducible rfl
                rotate_left
                · simp only [Act.put, List.setIfInBounds_toArray, List.set_cons_zero, List.set_cons_succ, i64_w, i32_w]
                  rfl
                refine pure_ (i := 1) (N := some 41) (v := ?_) (a' := ?_) #[true, true, false, false, false, false, false, false, false, false, false, false, false, false, false, false, false, false, false, false] rfl rfl (by kernel_rfl) (fun _ _ _ h => h) (Or.inl ⟨by rfl, ?_⟩) ?_ ?_
                rotate_left
                · intro w'
                  go_simp
                  with_reducible rfl
                rotate_left
                · simp only [Act.put, List.setIfInBounds_toArray, List.set_cons_zero, List.set_cons_succ, i64_w, i32_w]
                  rfl
                refine pure_ (i := 2) (N := some 42) (v := ?_) (a' := ?_) #[true, true, true, false, false, false, false, false, false, false, false, false, false, false, false, false, false, false, false, false] rfl rfl (by kernel_rfl) (fun _ _ _ h => h) (Or.inl ⟨by rfl, ?_⟩) ?_ ?_
                rotate_left
                · intro w'
                  go_simp
                  with_reducible rfl
                rotate_left
                · simp only [Act.put, List.setIfInBounds_toArray, List.set_cons_zero, List.set_cons_succ, i64_w, i32_w]
                  rfl
                refine pure_ (i := 4) (N := some 44) (v := ?_) (a' := ?_) #[true, true, true, false, true, false, false, false, false, false, false, false, false, false, false, false, false, false, false, false] rfl rfl (by kernel_rfl) (fun _ _ _ h => h) (Or.inl ⟨by rfl, ?_⟩) ?_ ?_
                rotate_left
                · intro w'
                  go_simp
                  with_reducible rfl
                rotate_left
                · simp only [Act.put, List.setIfInBounds_toArray, List.set_cons_zero, List.set_cons_succ, i64_w, i32_w]
                  rfl
                refine pure_ (i := 5) (N := some 45) (v := ?_) (a' := ?_) #[true, true, true, false, true, true, false, false, false, false, false, false, false, false, false, false, false, false, false, false] rfl rfl (by kernel_rfl) (fun _ _ _ h => h) (Or.inl ⟨by rfl, ?_⟩) ?_ ?_
                rotate_left
                · intro w'
                  go_simp
                  with_reducible rfl
                rotate_left
                · simp only [Act.put, List.setIfInBounds_toArray, List.set_cons_zero, List.set_cons_succ, i64_w, i32_w]
                  rfl
                refine pure_ (i := 6) (N := some 46) (v := ?_) (a' := ?_) #[true, true, true, false, true, true, true, false, false, false, false, false, false, false, false, false, false, false, false, false] rfl rfl (by kernel_rfl) (fun _ _ _ h => h) (Or.inl ⟨by rfl, ?_⟩) ?_ ?_
                rotate_left
                · intro w'
                  go_simp
                  with_reducible rfl
                rotate_left
                · simp only [Act.put, List.setIfInBounds_toArray, List.set_cons_zero, List.set_cons_succ, i64_w, i32_w]
                  rfl
                refine pure_ (i := 7) (N := some 47) (v := ?_) (a' := ?_) #[true, true, true, false, true, true, true, true, false, false, false, false, false, false, false, false, false, false, false, false] rfl rfl (by kernel_rfl) (fun _ _ _ h => h) (Or.inl ⟨by rfl, ?_⟩) ?_ ?_
                rotate_left
                · intro w'
                  go_simp
                  with_reducible rfl
                rotate_left
                · simp only [Act.put, List.setIfInBounds_toArray, List.set_cons_zero, List.set_cons_succ, i64_w, i32_w]
                  rfl
                rw [QE.out]
                refine pure_ (i := 8) (N := some 48) (v := ?_) (a' := ?_) #[true, true, true, false, true, true, true, true, true, false, false, false, false, false, false, false, false, false, false, false] rfl rfl (by kernel_rfl) (fun _ _ _ h => h) (Or.inl ⟨by rfl, ?_⟩) ?_ ?_
                rotate_left
                · intro w'
                  go_simp
                  with_reducible rfl
                rotate_left
                · simp only [Act.put, List.setIfInBounds_toArray, List.set_cons_zero, List.set_cons_succ, i64_w, i32_w]
                  rfl
                refine pure_ (i := 9) (N := some 49) (v := ?_) (a' := ?_) #[true, true, true, false, true, true, true, true, true, true, false, false, false, false, false, false, false, false, false, false] rfl rfl (by kernel_rfl) (fun _ _ _ h => h) (Or.inl ⟨by rfl, ?_⟩) ?_ ?_
                rotate_left
                · intro w'
                  go_simp
                  with_reducible rfl
                rotate_left
                · simp only [Act.put, List.setIfInBounds_toArray, List.set_cons_zero, List.set_cons_succ, i64_w, i32_w]
                  rfl
                refine pure_ (i := 10) (N := some 50) (v := ?_) (a' := ?_) #[true, true, true, false, true, true, true, true, true, true, true, false, false, false, false, false, false, false, false, false] rfl rfl (by kernel_rfl) (fun _ _ _ h => h) (Or.inl ⟨by rfl, ?_⟩) ?_ ?_
                rotate_left
                · intro w'
                  go_simp
                  with_reducible rfl
                rotate_left
                · simp only [Act.put, List.setIfInBounds_toArray, List.set_cons_zero, List.set_cons_succ, i64_w, i32_w]
                  rfl
                refine pure_ (i := 12) (N := some 52) (v := ?_) (a' := ?_) #[true, true, true, false, true, true, true, true, true, true, true, false, true, false, false, false, false, false, false, false] rfl rfl (by kernel_rfl) (fun _ _ _ h => h) (Or.inl ⟨by rfl, ?_⟩) ?_ ?_
                rotate_left
                · intro w'
                  go_simp
                  with_reducible rfl
                rotate_left
                · simp only [Act.put, List.setIfInBounds_toArray, List.set_cons_zero, List.set_cons_succ, i64_w, i32_w]
                  rfl
                refine pure_ (i := 13) (N := some 53) (v := ?_) (a' := ?_) #[true, true, true, false, true, true, true, true, true, true, true, false, true, true, false, false, false, false, false, false] rfl rfl (by kernel_rfl) (fun _ _ _ h => h) (Or.inl ⟨by rfl, ?_⟩) ?_ ?_
                rotate_left
                · intro w'
                  go_simp
                  with_reducible rfl
                rotate_left
                · simp only [Act.put, List.setIfInBounds_toArray, List.set_cons_zero, List.set_cons_succ, i64_w, i32_w]
                  rfl
                refine pure_ (i := 14) (N := some 54) (v := ?_) (a' := ?_) #[true, true, true, false, true, true, true, true, true, true, true, false, true, true, true, false, false, false, false, false] rfl rfl (by kernel_rfl) (fun _ _ _ h => h) (Or.inl ⟨by rfl, ?_⟩) ?_ ?_
                rotate_left
                · intro w'
                  go_simp
                  with_reducible rfl
                rotate_left
                · simp only [Act.put, List.setIfInBounds_toArray, List.set_cons_zero, List.set_cons_succ, i64_w, i32_w]
                  rfl
                refine pure_ (i := 15) (N := some 55) (v := ?_) (a' := ?_) #[true, true, true, false, true, true, true, true, true, true, true, false, true, true, true, true, false, false, false, false] rfl rfl (by kernel_rfl) (fun _ _ _ h => h) (Or.inl ⟨by rfl, ?_⟩) ?_ ?_
                rotate_left
                · intro w'
                  go_simp
                  with_reducible rfl
                rotate_left
                · simp only [Act.put, List.setIfInBounds_toArray, List.set_cons_zero, List.set_cons_succ, i64_w, i32_w]
                  rfl
                refine take_ (i := 3) (N := some 43) (v := ?_) (a' := ?_) #[true, true, true, true, true, true, true, true, true, true, true, false, true, true, true, true, false, false, false, false] rfl rfl (by kernel_rfl) (fun _ _ _ h => h) (Or.inl ⟨by rfl, ?_⟩) hHeld ?_ ?_
                rotate_left
                · rintro w' ⟨s0, s1, s2⟩
                  go_simp
                  with_reducible rfl
                rotate_left
                · simp only [Act.put, List.setIfInBounds_toArray, List.set_cons_zero, List.set_cons_succ, i64_w, i32_w]
                  rfl
                refine take_ (i := 11) (N := some 51) (v := ?_) (a' := ?_) #[true, true, true, true, true, true, true, true, true, true, true, true, true, true, true, true, false, false, false, false] rfl rfl (by kernel_rfl) (fun _ _ _ h => h) (Or.inl ⟨by rfl, ?_⟩) hHeld ?_ ?_
                rotate_left
                · rintro w' ⟨s0, s1, s2⟩
                  go_simp
                  with_reducible rfl
                rotate_left
                · simp only [Act.put, List.setIfInBounds_toArray, List.set_cons_zero, List.set_cons_succ, i64_w, i32_w]
                  rfl
                rw [QE.out]
                refine pure_ (i := 16) (N := some 56) (v := ?_) (a' := ?_) #[true, true, true, true, true, true, true, true, true, true, true, true, true, true, true, true, true, false, false, false] rfl rfl (by kernel_rfl) (fun _ _ _ h => h) (Or.inl ⟨by rfl, ?_⟩) ?_ ?_
                rotate_left
                · intro w'
                  go_simp
                  with_reducible rfl
                rotate_left
                · simp only [Act.put, List.setIfInBounds_toArray, List.set_cons_zero, List.set_cons_succ, i64_w, i32_w]
                  rfl
                refine take_ (i := 17) (N := some 57) (v := ?_) (a' := ?_) #[true, true, true, true, true, true, true, true, true, true, true, true, true, true, true, true, true, true, false, false] rfl rfl (by kernel_rfl) (fun _ _ _ h => h) (Or.inl ⟨by rfl, ?_⟩) hHeld ?_ ?_
                rotate_left
                · rintro w' ⟨s0, s1, s2⟩
                  go_simp
                  with_reducible rfl
                rotate_left
                · simp only [Act.put, List.setIfInBounds_toArray, List.set_cons_zero, List.set_cons_succ, i64_w, i32_w]
                  rfl
                refine pure_ (i := 18) (N := some 58) (v := ?_) (a' := ?_) #[true, true, true, true, true, true, true, true, true, true, true, true, true, true, true, true, true, true, true, false] rfl rfl (by kernel_rfl) (fun _ _ _ h => h) (Or.inl ⟨by rfl, ?_⟩) ?_ ?_
                rotate_left
                · intro w'
                  go_simp
                  with_reducible rfl
                rotate_left
                · simp only [Act.put, List.setIfInBounds_toArray, List.set_cons_zero, List.set_cons_succ, i64_w, i32_w]
                  rfl
                obtain ⟨s0, s1, s2⟩ := hHeld
                have f := MX.out.hs.fz q
                obtain ⟨y, hy⟩ : ∃ y, (splice (crashN st nw (idxF df 0) P c) (b * 64) ((nw.drop (b * 64)).take (min i (keepN P c))))[q]? = some y := ⟨_, List.getElem?_eq_getElem (by rw [MX.out.ls]; exact qlt)⟩
                have cy := MX.out.hs.cell hy
                refine last_ (i := 19) (N := none) #[true, true, true, true, true, true, true, true, true, true, true, true, true, true, true, true, true, true, true, true] rfl rfl (by kernel_rfl) (by decide) (fun K hK => ?_)
                go_simp
                refine hK.out _ _ ?_
                clear hK K hy
                refine done_ (by kernel_rfl) ?_
                have ik2 : min i (keepN P c) = i := by omega
                have ik3 : min (i + 1) (keepN P c) = i + 1 := by omega
                have e := splice_snoc (crashN st nw (idxF df 0) P c) (nw.drop (b * 64)) (b * 64) i x (by rw [List.getElem?_drop, HQ.out]; exact HXX.out) (by rw [HX.out.2.2.1.ls, List.length_drop, HD.out.ln]; omega)
                have M3 := MX.out.sets (i := q) qlt x
                rw [ik2, ← HQ.out, e, ← ik3] at M3
                have HM3 : Aside0 (Mf (wd.setCell ⟨ms, q, none⟩ (.int .u8 x)) md ms mn mb n nb (splice (crashN st nw (idxF df 0) P c) (b * 64) ((nw.drop (b * 64)).take (min (i + 1) (keepN P c)))) nw df) := ⟨by rw [← HQ.out]; exact M3⟩
                have T3 := Aside0.mk (TX.out.trans (tn_set wd ms q (.int .u8 x)))
                generalize wd.setCell ⟨ms, q, none⟩ (.int .u8 x) = w3 at HM3 T3 ⊢
                clear s0 s1 s2 f cy M3 e ik2 ik3
                go_wp2_with fail
                exact ⟨⟨i + 1, rfl, ⟨by omega, HM3.out, T3.out⟩⟩, by simp [intOf]; omega⟩

              · have ik : keepN P c ≤ i := by omega
                clear KE
                go_wp2_with fail
                exact ⟨⟨i + 1, rfl, ⟨by omega, by have h := HY.out.2.1; rw [Nat.min_eq_right ik] at h; rw [Nat.min_eq_right (by omega)]; exact h, HY.out.2.2⟩⟩, by simp [intOf]; omega⟩
            · have cp2 : ¬ (↑c : Int) < ↑P.length := by omega
              have KE : keepN P c = 0 := by unfold keepN; rw [List.getElem?_eq_none (by omega)]
              have HKE := Aside0.mk KE
              clear KE
              go_wp2_with fail
              exact ⟨⟨i + 1, rfl, ⟨by omega, by have h := HY.out.2.1; rw [Nat.min_eq_right (by rw [HKE.out]; omega)] at h; rw [Nat.min_eq_right (by rw [HKE.out]; omega)]; exact h, HY.out.2.2⟩⟩, by simp [intOf]; omega⟩
          · have ci2 : ¬ (↑i : Int) < 64 := by omega
            have hM := HY.out.2.1
            rw [Nat.min_eq_right (by omega)] at hM
            have ec : crashN st nw (idxF df 0) P (c + 1) = splice (crashN st nw (idxF df 0) P c) (b * 64) ((nw.drop (b * 64)).take (keepN P c)) := by
              show (match (idxF df 0)[c]? with | some b => splice (crashN st nw (idxF df 0) P c) (b * 64) ((nw.drop (b * 64)).take (keepN P c)) | none => crashN st nw (idxF df 0) P c) = _
              rw [KC.out]
            rw [← ec] at hM
            have HM := Aside0.mk hM
            clear hM ec
            go_wp2_with fail
            exact ⟨⟨b + 1, c + 1, rfl, rfl, ⟨by omega, by rw [hst.out, HX.out.2.1]; rfl, HM.out, HY.out.2.2⟩⟩, by simp [intOf]; omega⟩
    · have cb2 : ¬ (↑b : Int) < ↑nb := by omega
      obtain ⟨h1, h2, h3, h4⟩ := HX.out
      rw [List.take_of_length_le (by rw [HD.out.lf]; omega)] at h2
      subst h2
      have H3 := Aside0.mk h3
      have H4 := Aside0.mk h4
      clear HX h3 h4
      go_wp2_with fail
      refine (jf_settle H3.out hn).mono ?_
      rintro e w5 ⟨rfl, hM5, t5⟩
      have H5 := Aside0.mk (And.intro hM5 ((H4.out.mono (S' := fun k => k = ms ∨ k = mn ∨ k = mb) (fun k _ q => Or.inl q)).trans (t5.mono (fun k _ q => Or.inr q))))
      clear hM5 t5
      go_wp2_with fail
      refine bodyPost_end (v := .tuple #[]) (by simp [results, Try.results47, go_sem]) rfl ⟨rfl, H5.out.1, H5.out.2⟩
set_option maxRecDepth 100000 in
theorem jl_pick8 (c : Int) (w : World) (h0 : -9223372036854775808 ≤ c) (h1 : c ≤ 9223372036854775807) : Calls Try.prog 31 #[.int .i64 c, .int .i64 8] w fun e w' => (∃ p : Int, 0 ≤ p ∧ p < 8 ∧ e = .returned (.int .i64 p)) ∧ Below w.heap.size w w' := by
  by_cases cc : c < 0
  · have cb : decide (c < 0) = true := decide_eq_true cc
    go_enter Try.func31, Try.ntmps31
    go_wp2
    go_ret
    have e : -(c + 1).tmod 8 = -(c + 1) % 8 := by rw [← Int.neg_tmod, Int.tmod_eq_emod_of_nonneg (by omega)]
    exact ⟨⟨_, by omega, by omega, rfl⟩, Below.refl _ _⟩
  · have cb : decide (c < 0) = false := decide_eq_false cc
    go_enter Try.func31, Try.ntmps31
    go_wp2
    go_ret
    exact ⟨⟨_, by omega, by omega, rfl⟩, Below.refl _ _⟩
set_option maxRecDepth 100000 in
theorem jl_pick4 (c : Int) (w : World) (h0 : -9223372036854775808 ≤ c) (h1 : c ≤ 9223372036854775807) : Calls Try.prog 31 #[.int .i64 c, .int .i64 4] w fun e w' => (∃ p : Int, 0 ≤ p ∧ p < 4 ∧ e = .returned (.int .i64 p)) ∧ Below w.heap.size w w' := by
  by_cases cc : c < 0
  · have cb : decide (c < 0) = true := decide_eq_true cc
    go_enter Try.func31, Try.ntmps31
    go_wp2
    go_ret
    have e : -(c + 1).tmod 4 = -(c + 1) % 4 := by rw [← Int.neg_tmod, Int.tmod_eq_emod_of_nonneg (by omega)]
    exact ⟨⟨_, by omega, by omega, rfl⟩, Below.refl _ _⟩
  · have cb : decide (c < 0) = false := decide_eq_false cc
    go_enter Try.func31, Try.ntmps31
    go_wp2
    go_ret
    exact ⟨⟨_, by omega, by omega, rfl⟩, Below.refl _ _⟩
open Go.Proofs.Ythblaehmdailhaa.PDiskPlays (S62 k62 k62_open at_T62 rd_T62 z62)
attribute [local go_sem high] slEq slNe slEq0 slNe0 cerEqI cerEqL cerEqR cerNeI cerNeL cerNeR
theorem mark_len (df : List Bool) (a : Nat) : ∀ k, (mark df a k).length = df.length := by
  intro k
  induction k with
  | zero => rfl
  | succ k ih => exact (List.length_set ..).trans ih
theorem mark_get (df : List Bool) (a b : Nat) : ∀ k, (∀ i, i < k → (a + i) / 64 < df.length) → ((mark df a k)[b]? = some true ↔ df[b]? = some true ∨ ∃ i, i < k ∧ b = (a + i) / 64) := by
  intro k
  induction k with
  | zero => intro _; exact ⟨Or.inl, fun h => by rcases h with h | ⟨i, h, -⟩; exact h; omega⟩
  | succ k ih =>
    intro h
    have ih' := ih (fun i hi => h i (by omega))
    show ((mark df a k).set ((a + k) / 64) true)[b]? = some true ↔ _
    rw [List.getElem?_set, mark_len]
    by_cases c : (a + k) / 64 = b
    · rw [if_pos c, if_pos (h k (by omega))]
      exact ⟨fun _ => Or.inr ⟨k, by omega, c.symm⟩, fun _ => rfl⟩
    · rw [if_neg c, ih']
      constructor
      · rintro (h | ⟨i, h1, h2⟩)
        · exact Or.inl h
        · exact Or.inr ⟨i, by omega, h2⟩
      · rintro (h | ⟨i, h1, h2⟩)
        · exact Or.inl h
        · refine Or.inr ⟨i, ?_, h2⟩
          rcases Nat.lt_succ_iff_lt_or_eq.1 h1 with h | rfl
          · exact h
          · exact absurd h2.symm c
theorem ks_mark {D : DataW Unit} {df : List Bool} (hD : Go.Maps.IsMap D) (h : Ks D (idxF df 0)) (a k : Nat) (hk : ∀ i, i < k → (a + i) / 64 < df.length) : Ks (dirt D a k) (idxF (mark df a k) 0) := by
  refine ⟨idxF_asc _ _, fun x => ?_⟩
  rw [(has_dirt hD a x k).2, h.2 x]
  constructor
  · rintro (⟨b, h1, h2⟩ | ⟨i, h1, h2⟩)
    · obtain ⟨j, h3, h4⟩ := (idxF_mem _ _ _).1 h1
      exact ⟨b, (idxF_mem _ _ _).2 ⟨j, (mark_get df a j k hk).2 (Or.inl h3), h4⟩, h2⟩
    · exact ⟨(a + i) / 64, (idxF_mem _ _ _).2 ⟨(a + i) / 64, (mark_get df a _ k hk).2 (Or.inr ⟨i, h1, rfl⟩), by omega⟩, h2⟩
  · rintro ⟨b, h1, h2⟩
    obtain ⟨j, h3, h4⟩ := (idxF_mem _ _ _).1 h1
    rcases (mark_get df a j k hk).1 h3 with h | ⟨i, h5, h6⟩
    · exact Or.inl ⟨b, (idxF_mem _ _ _).2 ⟨j, h, h4⟩, h2⟩
    · exact Or.inr ⟨i, h5, by omega⟩
theorem idxF_rep (nb k : Nat) : idxF (List.replicate nb false) k = [] := by
  induction nb generalizing k with
  | zero => rfl
  | succ nb ih => exact ih (k + 1)
/-- A disk and its model, that stand alike. -/
structure Bo (wI w : World) (bd bs bn bm md ms mn mb n nb N : Nat) : Prop where
  b : Below wI.heap.size wI w
  g : wI.heap.size ≤ bd ∧ wI.heap.size ≤ bs ∧ wI.heap.size ≤ bn ∧ wI.heap.size ≤ bm
  q : ∃ K, (bd < K ∧ bs < K ∧ bn < K ∧ bm < K) ∧ K ≤ md ∧ K ≤ ms ∧ K ≤ mn ∧ K ≤ mb
  d : ∃ st nw D df, Dk w bd bs bn bm n st nw N D ∧ Mf w md ms mn mb n nb st nw df ∧ Ks D (idxF df 0)
theorem Bo.below {wI w W : World} {bd bs bn bm md ms mn mb n nb N : Nat} (h : Bo wI w bd bs bn bm md ms mn mb n nb N) (t : Below w.heap.size w W) : Bo wI W bd bs bn bm md ms mn mb n nb N := by
  obtain ⟨st, nw, D, df, h1, h2, h3⟩ := h.d
  exact ⟨below_step h.b t, h.g, h.q, st, nw, D, df, h1.below t, h2.below t, h3⟩
theorem Bo.lt {wI w : World} {bd bs bn bm md ms mn mb n nb N : Nat} (h : Bo wI w bd bs bn bm md ms mn mb n nb N) : (bd < w.heap.size ∧ bs < w.heap.size ∧ bn < w.heap.size ∧ bm < w.heap.size) ∧ md < w.heap.size ∧ ms < w.heap.size ∧ mn < w.heap.size ∧ mb < w.heap.size := by
  obtain ⟨st, nw, D, df, h1, h2, h3⟩ := h.d
  obtain ⟨es, cl, hm⟩ := h1.map
  exact ⟨⟨blk_lt h1.hd, h1.hs.lt, h1.hn.lt, blk_lt hm⟩, blk_lt h2.m.hd, h2.hs.lt, h2.hn.lt, blk_lt h2.fl⟩
theorem Bo.sep {wI w : World} {bd bs bn bm md ms mn mb n nb N : Nat} (h : Bo wI w bd bs bn bm md ms mn mb n nb N) : (∀ k, k = bd ∨ k = bs ∨ k = bn ∨ k = bm → wI.heap.size ≤ k ∧ k ≠ md ∧ k ≠ ms ∧ k ≠ mn ∧ k ≠ mb) ∧ wI.heap.size ≤ md ∧ wI.heap.size ≤ ms ∧ wI.heap.size ≤ mn ∧ wI.heap.size ≤ mb := by
  obtain ⟨K, h1, h2⟩ := h.q
  have h3 := h.g
  exact ⟨fun k q => by rcases q with q | q | q | q <;> omega, by omega⟩
theorem Src.blt' {w : World} {ad : Addr} {l : List Int} (h : Src w ad l) (hl : 0 < l.length) : ad.block < w.heap.size := by
  have := World.block_lt_of_cell? w _ (h 0 l[0] (List.getElem?_eq_getElem hl))
  rwa [ad_block] at this
theorem C_any0 (w : World) (A : Option Addr) (c : Nat) : (convert 22 9 (.slice A 0 c)).run Try.prog w = .ok (.string (strOfNums [])) w := C_str (l := []) (C_nil w A) c
set_option maxHeartbeats 2000000 in
set_option maxRecDepth 100000 in
theorem pl_one {wI w : World} {bd bs bn bm md ms mn mb n nb N : Nat} (h : Bo wI w bd bs bn bm md ms mn mb n nb N) (hn : n ≤ 65536) (n0 : 0 < n) (hN : N ≤ 1000000) (x : S62) (A0 : Option Addr) (c0 : Nat) (A1 : Option Addr) (c1 : Nat)
    (i0 : -9223372036854775808 ≤ x.f0 ∧ x.f0 ≤ 9223372036854775807) (i1 : -9223372036854775808 ≤ x.f1 ∧ x.f1 ≤ 9223372036854775807) (i2 : -9223372036854775808 ≤ x.f2 ∧ x.f2 ≤ 9223372036854775807) (l0 : x.f3.length ≤ 2000) (l1 : x.f4.length ≤ 2000) (hr0 : Kd.C (Kd.int .u8) wI A0 x.f3.length x.f3) (hr1 : Kd.C (Kd.int .i64) wI A1 x.f4.length x.f4) (hP : ∀ p ∈ x.f4, -9223372036854775808 ≤ p ∧ p ≤ 9223372036854775807) :
    Calls Try.prog 32 #[.pointer (some ⟨bd, 0, none⟩), .pointer (some ⟨md, 0, none⟩), .agg #[.int .i64 x.f0, .int .i64 x.f1, .int .i64 x.f2, .slice A0 x.f3.length c0, .slice A1 x.f4.length c1]] w fun e w' => e = .returned (.bool true) ∧ Bo wI w' bd bs bn bm md ms mn mb n nb (N + 2000) := by
  obtain ⟨f0, at_, k, l, P⟩ := x
  dsimp only at i0 i1 i2 l0 l1 hr0 hr1 hP ⊢
  have HB := Aside0.mk h
  have HR0 := Aside0.mk hr0
  have HR1 := Aside0.mk hr1
  have HP := Aside0.mk hP
  have PK := Aside0.mk (fun W => jl_pick4 f0 W i0.1 i0.2)
  clear h hr0 hr1 hP i0
  go_enter Try.func32, Try.ntmps32
  go_wp2_with fail
  refine (PK.out _).mono ?_
  rintro e w1 ⟨⟨p, p0, p4, rfl⟩, hb⟩
  have LX : Aside0 (∀ j, j = bd ∨ j = bs ∨ j = bn ∨ j = bm ∨ j = md ∨ j = ms ∨ j = mn ∨ j = mb → w.heap.size ≠ j) := ⟨fun j q => by have := HB.out.lt; rcases q with q | q | q | q | q | q | q | q <;> omega⟩
  have G0 := Aside0.mk (blk_below (blk_new w (.cells #[.int .i64 f0, .int .i64 at_, .int .i64 k, .slice A0 l.length c0, .slice A1 P.length c1] 62)) hb)
  have HB1 := Aside0.mk (HB.out.below (below_step (below_alloc (Below.refl w.heap.size w) _) hb))
  clear hb HB PK
  obtain ⟨gx, hgx⟩ : ∃ gx, w.heap.size = gx := ⟨_, rfl⟩
  rw [hgx] at G0 LX
  have HGX := Aside0.mk hgx
  have c1' := (blk_cell G0.out 1).trans rfl
  have c2' := (blk_cell G0.out 2).trans rfl
  have c3' := (blk_cell G0.out 3).trans rfl
  have c4' := (blk_cell G0.out 4).trans rfl
  have pp : p = 0 ∨ p = 1 ∨ p = 2 ∨ p = 3 := by omega
  have Sep := Aside0.mk HB1.out.sep
  obtain ⟨st, nw, D, df, hD, hM, hK⟩ := HB1.out.d
  have HD1 := Aside0.mk hD
  have HM1 := Aside0.mk hM
  have HK := Aside0.mk hK
  have HW1 := Aside0.mk HB1.out.b
  have HGQ := Aside0.mk (And.intro HB1.out.g HB1.out.q)
  clear hD hM hK HB1
  rcases pp with rfl | rfl | rfl | rfl
  · clear p0 p4
    go_wp2_with fail
    clear hgx
    by_cases hf : 0 ≤ at_ ∧ at_ + l.length ≤ n
    · obtain ⟨q, rfl⟩ : ∃ q : Nat, at_ = ↑q := ⟨at_.toNat, by omega⟩
      have hq : q + l.length ≤ n := by omega
      clear hf
      refine (dw_any HD1.out hn n0 q A0 l c0 (Kd.C_below HR0.out HW1.out) hq (by omega)).mono ?_
      rintro e w2 ⟨rfl, hD, ht⟩
      have HD2 := Aside0.mk hD
      have HM2 := Aside0.mk (HM1.out.turn ht (fun q => by have := Sep.out.1 md; rcases q with q | q <;> simp [q] at this) (fun q => by have := Sep.out.1 ms; rcases q with q | q <;> simp [q] at this) (fun q => by have := Sep.out.1 mn; rcases q with q | q <;> simp [q] at this) (fun q => by have := Sep.out.1 mb; rcases q with q | q <;> simp [q] at this))
      have W2 := Aside0.mk (Tn.below HW1.out ht HW1.out.size (fun j q => (Sep.out.1 j (by rcases q with q | q; exact .inr (.inr (.inl q)); exact .inr (.inr (.inr q)))).1))
      have G2 := Aside0.mk (ht.blk G0.out (fun q => by rcases q with q | q; exact LX.out bn (.inr (.inr (.inl rfl))) q; exact LX.out bm (.inr (.inr (.inr (.inl rfl)))) q))
      clear hD ht c1' c2' c3' c4'
      have c1' := (blk_cell G2.out 1).trans rfl
      have c2' := (blk_cell G2.out 2).trans rfl
      have c3' := (blk_cell G2.out 3).trans rfl
      have c4' := (blk_cell G2.out 4).trans rfl
      go_wp2_with fail
      have TH := jf_there HM2.out q l.length hn
      rw [decide_eq_true (show (0 : Int) ≤ ↑q ∧ (0 : Int) ≤ ↑l.length ∧ (↑q : Int) ≤ ↑n ∧ (↑l.length : Int) ≤ ↑n - ↑q by omega)] at TH
      refine TH.mono ?_
      rintro e w3 ⟨rfl, hb⟩
      have HD3 := Aside0.mk (HD2.out.below hb)
      have HM3 := Aside0.mk (HM2.out.below hb)
      have W3 := Aside0.mk (below_step W2.out hb)
      have G3 := Aside0.mk (blk_below G2.out hb)
      clear TH hb c1' c2' c3' c4'
      have c1' := (blk_cell G3.out 1).trans rfl
      have c2' := (blk_cell G3.out 2).trans rfl
      have c3' := (blk_cell G3.out 3).trans rfl
      have c4' := (blk_cell G3.out 4).trans rfl
      go_wp2_with fail
      refine (jf_write HM3.out hn q A0 l c0 (fun hl ad e => by
        subst e
        obtain ⟨ad', e, hs⟩ := Src.of_C HR0.out hl
        cases e
        have h1 := Src.blt' hs hl
        have h2 := Sep.out.2
        exact ⟨hs.below W3.out, by omega, by omega⟩) (fun hl => by obtain ⟨ad', e, hs⟩ := Src.of_C HR0.out hl; exact ⟨_, e⟩) hq).mono ?_
      rintro e w4 ⟨rfl, hM, ht⟩
      have HM4 := Aside0.mk hM
      have HD4 := Aside0.mk (HD3.out.turn ht (fun q => by have := Sep.out.1 bd; rcases q with q | q <;> simp [q] at this) (fun q => by have := Sep.out.1 bs; rcases q with q | q <;> simp [q] at this) (fun q => by have := Sep.out.1 bn; rcases q with q | q <;> simp [q] at this) (fun q => by have := Sep.out.1 bm; rcases q with q | q <;> simp [q] at this))
      have W4 := Aside0.mk (Tn.below W3.out ht W3.out.size (fun j q => by have := Sep.out.2; rcases q with q | q <;> omega))
      clear hM ht c1' c2' c3' c4'
      go_wp2_with fail
      go_ret
      exact ⟨rfl, W4.out, HGQ.out.1, HGQ.out.2, _, _, _, _, HD4.out.grow (by omega), HM4.out, ks_mark HD1.out.isMap HK.out q l.length (fun i hi => by have h1 := HM1.out.nn; have h2 := HM1.out.lf; omega)⟩
    · refine (dw_no HD1.out hn at_ A0 l.length c0 (by omega) hf).mono ?_
      rintro e w2 ⟨rfl, hb⟩
      have HD2 := Aside0.mk (HD1.out.below hb)
      have HM2 := Aside0.mk (HM1.out.below hb)
      have W2 := Aside0.mk (below_step HW1.out hb)
      have G2 := Aside0.mk (blk_below G0.out hb)
      clear hb c1' c2' c3' c4'
      have c1' := (blk_cell G2.out 1).trans rfl
      have c2' := (blk_cell G2.out 2).trans rfl
      have c3' := (blk_cell G2.out 3).trans rfl
      have c4' := (blk_cell G2.out 4).trans rfl
      go_wp2_with fail
      have TH := jf_there HM2.out at_ l.length hn
      rw [decide_eq_false (show ¬ ((0 : Int) ≤ at_ ∧ (0 : Int) ≤ ↑l.length ∧ at_ ≤ ↑n ∧ (↑l.length : Int) ≤ ↑n - at_) by omega)] at TH
      refine TH.mono ?_
      rintro e w3 ⟨rfl, hb⟩
      have HD3 := Aside0.mk (HD2.out.below hb)
      have HM3 := Aside0.mk (HM2.out.below hb)
      have W3 := Aside0.mk (below_step W2.out hb)
      clear TH hb c1' c2' c3' c4' hf
      go_wp2_with fail
      go_ret
      exact ⟨rfl, W3.out, HGQ.out.1, HGQ.out.2, _, _, _, _, HD3.out.grow (by omega), HM3.out, HK.out⟩
  · clear p0 p4
    go_wp2_with fail
    clear hgx
    by_cases hf : 0 ≤ at_ ∧ 0 ≤ k ∧ at_ ≤ n ∧ k ≤ n - at_
    · obtain ⟨q, rfl⟩ : ∃ q : Nat, at_ = ↑q := ⟨at_.toNat, by omega⟩
      obtain ⟨r, rfl⟩ : ∃ r : Nat, k = ↑r := ⟨k.toNat, by omega⟩
      have hq : q + r ≤ n := by omega
      clear hf
      refine (dr_any HD1.out hn q r hq).mono ?_
      rintro e w2 ⟨A2, c2, rfl, ho, hb⟩
      have OW2 := Aside0.mk ho
      have HD2 := Aside0.mk (HD1.out.below hb)
      have HM2 := Aside0.mk (HM1.out.below hb)
      have W2 := Aside0.mk (below_step HW1.out hb)
      have G2 := Aside0.mk (blk_below G0.out hb)
      clear ho hb c1' c2' c3' c4'
      have c1' := (blk_cell G2.out 1).trans rfl
      have c2' := (blk_cell G2.out 2).trans rfl
      have c3' := (blk_cell G2.out 3).trans rfl
      have c4' := (blk_cell G2.out 4).trans rfl
      go_wp2_with fail
      have TH := jf_there HM2.out q r hn
      rw [decide_eq_true (show (0 : Int) ≤ ↑q ∧ (0 : Int) ≤ ↑r ∧ (↑q : Int) ≤ ↑n ∧ (↑r : Int) ≤ ↑n - ↑q by omega)] at TH
      refine TH.mono ?_
      rintro e w3 ⟨rfl, hb⟩
      have OW3 := Aside0.mk (OW2.out.below hb)
      have HD3 := Aside0.mk (HD2.out.below hb)
      have HM3 := Aside0.mk (HM2.out.below hb)
      have W3 := Aside0.mk (below_step W2.out hb)
      have G3 := Aside0.mk (blk_below G2.out hb)
      clear TH hb c1' c2' c3' c4'
      have c1' := (blk_cell G3.out 1).trans rfl
      have c2' := (blk_cell G3.out 2).trans rfl
      have c3' := (blk_cell G3.out 3).trans rfl
      have c4' := (blk_cell G3.out 4).trans rfl
      have hlen : ((nw.drop q).take r).length = r := by have := HM1.out.ln; rw [List.length_take, List.length_drop]; omega
      have HLEN := Aside0.mk hlen
      have f1 := gb_cell (v := .int .i64 ↑q) (blk_lt G3.out) ((blk_cell G3.out 1).trans rfl)
      have f2 := gb_cell (v := .int .i64 ↑r) (blk_lt G3.out) ((blk_cell G3.out 2).trans rfl)
      have f3 := gb_cell (blk_lt HM3.out.m.hd) HM3.out.cells.2.1
      have q1 : (0 : Int) ≤ ↑q := by omega
      have q2 : (↑q : Int) ≤ ↑q + ↑r := by omega
      have q3 : (↑q + ↑r : Int) ≤ ↑n := by omega
      clear hlen c1' c2' c3' c4'
      by_cases ca : n = q
      · have cb : (n = q) = True := eq_true ca
        obtain rfl : r = 0 := by omega
        clear ca
        have sq : ∀ (p : GWrld w3) A c, (convert 22 9 (.slice A 0 c)).run Try.prog p.w' = .ok (.string (strOfNums [])) p.w' := fun p A c => C_any0 _ A c
        have sb : ((strOfNums []).toList == (strOfNums []).toList) = true := beq_self_eq_true _
        generalize strOfNums [] = sr at sq sb
        go_wp2_with fail
        refine gb_region (by kernel_rfl) (by kernel_rfl) ?_
        repeat (go_big_quiet_step (fail))
        refine wpQuiet_nil ?_
        intro _ hw'
        obtain ⟨gq, hw''⟩ := hw'
        subst hw''
        have HD4 := Aside0.mk (HD3.out.below gq.b)
        have HM4 := Aside0.mk (HM3.out.below gq.b)
        have W4 := Aside0.mk (below_step W3.out gq.b)
        go_wp2_with fail
        go_ret
        exact ⟨rfl, W4.out, HGQ.out.1, HGQ.out.2, _, _, _, _, HD4.out.grow (by omega), HM4.out, HK.out⟩
      · have cb : (n = q) = False := eq_false ca
        clear ca
        have sq1 : ∀ (p : GWrld w3), (convert 22 9 (.slice A2 r c2)).run Try.prog p.w' = .ok (.string (strOfNums ((nw.drop q).take r))) p.w' := fun p => by
          have h := C_str ((OW3.out.below p.b).C (by have := HLEN.out; omega)) c2
          rwa [HLEN.out] at h
        have sq2 : ∀ (p : GWrld w3) c, (convert 22 9 (.slice (some ⟨mn, q, none⟩) r c)).run Try.prog p.w' = .ok (.string (strOfNums ((nw.drop q).take r))) p.w' := fun p c => by
          have h := C_str (((HM3.out.below p.b).hn.src q (fun j x hx => jd_sub hx) : Src p.w' ⟨mn, q, none⟩ ((nw.drop q).take r)).C (by have := HLEN.out; omega)) c
          rwa [HLEN.out] at h
        have sb : ((strOfNums ((nw.drop q).take r)).toList == (strOfNums ((nw.drop q).take r)).toList) = true := beq_self_eq_true _
        generalize strOfNums ((nw.drop q).take r) = sr at sq1 sq2 sb
        go_wp2_with fail
        refine gb_region (by kernel_rfl) (by kernel_rfl) ?_
        repeat (go_big_quiet_step (fail))
        refine wpQuiet_nil ?_
        intro _ hw'
        obtain ⟨gq, hw''⟩ := hw'
        subst hw''
        have HD4 := Aside0.mk (HD3.out.below gq.b)
        have HM4 := Aside0.mk (HM3.out.below gq.b)
        have W4 := Aside0.mk (below_step W3.out gq.b)
        go_wp2_with fail
        go_ret
        exact ⟨rfl, W4.out, HGQ.out.1, HGQ.out.2, _, _, _, _, HD4.out.grow (by omega), HM4.out, HK.out⟩
    · refine (dr_no HD1.out hn at_ k hf).mono ?_
      rintro e w2 ⟨rfl, hb⟩
      have HD2 := Aside0.mk (HD1.out.below hb)
      have HM2 := Aside0.mk (HM1.out.below hb)
      have W2 := Aside0.mk (below_step HW1.out hb)
      have G2 := Aside0.mk (blk_below G0.out hb)
      clear hb c1' c2' c3' c4'
      have c1' := (blk_cell G2.out 1).trans rfl
      have c2' := (blk_cell G2.out 2).trans rfl
      have c3' := (blk_cell G2.out 3).trans rfl
      have c4' := (blk_cell G2.out 4).trans rfl
      go_wp2_with fail
      have TH := jf_there HM2.out at_ k hn
      rw [decide_eq_false hf] at TH
      refine TH.mono ?_
      rintro e w3 ⟨rfl, hb⟩
      have HD3 := Aside0.mk (HD2.out.below hb)
      have HM3 := Aside0.mk (HM2.out.below hb)
      have W3 := Aside0.mk (below_step W2.out hb)
      clear TH hb c1' c2' c3' c4' hf
      go_wp2_with fail
      go_ret
      exact ⟨rfl, W3.out, HGQ.out.1, HGQ.out.2, _, _, _, _, HD3.out.grow (by omega), HM3.out, HK.out⟩
  · clear p0 p4
    go_wp2_with fail
    clear c1' c2' c3' c4'
    refine (jd_sync HD1.out hn n0 (fun q => by obtain ⟨r, hr⟩ := HD1.out.hs; exact ty_ne (q ▸ HD1.out.hd) hr (by decide))).mono ?_
    rintro e w2 ⟨rfl, hD, ht⟩
    have HD2 := Aside0.mk hD
    have HM2 := Aside0.mk (HM1.out.turn ht (fun q => by have := Sep.out.1 md; rcases q with q | q <;> simp [q] at this) (fun q => by have := Sep.out.1 ms; rcases q with q | q <;> simp [q] at this) (fun q => by have := Sep.out.1 mn; rcases q with q | q <;> simp [q] at this) (fun q => by have := Sep.out.1 mb; rcases q with q | q <;> simp [q] at this))
    have W2 := Aside0.mk (Tn.below HW1.out ht HW1.out.size (fun j q => (Sep.out.1 j (by rcases q with q | q; exact .inr (.inl q); exact .inr (.inr (.inr q)))).1))
    clear hD ht
    go_wp2_with fail
    refine (jf_sync HM2.out hn).mono ?_
    rintro e w3 ⟨rfl, hM, ht⟩
    have HM3 := Aside0.mk hM
    have HD3 := Aside0.mk (HD2.out.turn ht (fun q => by have := Sep.out.1 bd; rcases q with q | q | q <;> simp [q] at this) (fun q => by have := Sep.out.1 bs; rcases q with q | q | q <;> simp [q] at this) (fun q => by have := Sep.out.1 bn; rcases q with q | q | q <;> simp [q] at this) (fun q => by have := Sep.out.1 bm; rcases q with q | q | q <;> simp [q] at this))
    have W3 := Aside0.mk (Tn.below W2.out ht W2.out.size (fun j q => by have := Sep.out.2; rcases q with q | q | q <;> omega))
    clear hM ht
    go_wp2_with fail
    go_ret
    exact ⟨rfl, W3.out, HGQ.out.1, HGQ.out.2, _, _, _, _, HD3.out.grow (by omega), HM3.out, by rw [idxF_rep]; exact Ks.nil⟩
  · clear p0 p4
    go_wp2_with fail
    clear hgx
    refine (jd_crash HD1.out HK.out (fun b hb => by obtain ⟨i, h1, h2⟩ := (idxF_mem df 0 b).1 hb; have h3 := (List.getElem?_eq_some_iff.1 h1).1; have h4 := HM1.out.nn; have h5 := HM1.out.lf; omega) (by omega) hn n0 A1 P c1 (by omega) (pk_crash HR1.out HW1.out (Sep.out.1 bs (.inr (.inl rfl))).1) HP.out).mono ?_
    rintro e w2 ⟨rfl, hD, ht⟩
    have HD2 := Aside0.mk hD
    have HM2 := Aside0.mk (HM1.out.turn ht (fun q => by have := Sep.out.1 md; rcases q with q | q | q <;> simp [q] at this) (fun q => by have := Sep.out.1 ms; rcases q with q | q | q <;> simp [q] at this) (fun q => by have := Sep.out.1 mn; rcases q with q | q | q <;> simp [q] at this) (fun q => by have := Sep.out.1 mb; rcases q with q | q | q <;> simp [q] at this))
    have W2 := Aside0.mk (Tn.below HW1.out ht HW1.out.size (fun j q => (Sep.out.1 j (.inr q)).1))
    have G2 := Aside0.mk (ht.blk G0.out (fun q => by rcases q with q | q | q; exact LX.out bs (.inr (.inl rfl)) q; exact LX.out bn (.inr (.inr (.inl rfl))) q; exact LX.out bm (.inr (.inr (.inr (.inl rfl)))) q))
    clear hD ht c1' c2' c3' c4'
    have c1' := (blk_cell G2.out 1).trans rfl
    have c2' := (blk_cell G2.out 2).trans rfl
    have c3' := (blk_cell G2.out 3).trans rfl
    have c4' := (blk_cell G2.out 4).trans rfl
    go_wp2_with fail
    refine (jf_crash HM2.out hn A1 P c1 (by omega) (pk_crash HR1.out W2.out Sep.out.2.2.1)).mono ?_
    rintro e w3 ⟨rfl, hM, ht⟩
    have HM3 := Aside0.mk hM
    have HD3 := Aside0.mk (HD2.out.turn ht (fun q => by have := Sep.out.1 bd; rcases q with q | q | q <;> simp [q] at this) (fun q => by have := Sep.out.1 bs; rcases q with q | q | q <;> simp [q] at this) (fun q => by have := Sep.out.1 bn; rcases q with q | q | q <;> simp [q] at this) (fun q => by have := Sep.out.1 bm; rcases q with q | q | q <;> simp [q] at this))
    have W3 := Aside0.mk (Tn.below W2.out ht W2.out.size (fun j q => by have := Sep.out.2; rcases q with q | q | q <;> omega))
    clear hM ht c1' c2' c3' c4'
    go_wp2_with fail
    go_ret
    exact ⟨rfl, W3.out, HGQ.out.1, HGQ.out.2, _, _, _, _, HD3.out.grow (by omega), by rw [idxF_len]; exact HM3.out, by rw [idxF_rep]; exact Ks.nil⟩
attribute [local go_sem high] slEq slNe slEq0 slNe0
theorem bl_made (n : Nat) : madeCells #[.bool false] n = ((List.replicate n false).map Value.bool).toArray := by
  apply Array.ext
  · simp [madeCells]
  · intro i h1 h2
    simp [madeCells, Nat.mod_one]
theorem jf_made (wl : World) (ms mn mb n nb : Nat) (w : World) (hk : nb * 64 = n) (hs : wl.heap[ms]? = some (.cells (madeCells #[.int .u8 0] n) 5 (0, 0))) (hn : wl.heap[mn]? = some (.cells (madeCells #[.int .u8 0] n) 5 (0, 0))) (hm : wl.heap[mb]? = some (.cells (madeCells #[.bool false] nb) 4 (0, 0))) (ne : ms ≠ mn) (g1 : w.heap.size ≤ ms) (g2 : w.heap.size ≤ mn) (g3 : w.heap.size ≤ mb) (hb : Below w.heap.size w wl) :
    ∃ md ms' mn' mb', Ending.returned (.pointer (some ⟨wl.heap.size, 0, none⟩)) = .returned (.pointer (some ⟨md, 0, none⟩)) ∧ Mf (wl.alloc (.cells #[.slice (some ⟨ms, 0, none⟩) n n, .slice (some ⟨mn, 0, none⟩) n n, .slice (some ⟨mb, 0, none⟩) nb nb] 42)) md ms' mn' mb' n nb (List.replicate n 0) (List.replicate n 0) (List.replicate nb false) ∧ w.heap.size ≤ md ∧ w.heap.size ≤ ms' ∧ w.heap.size ≤ mn' ∧ w.heap.size ≤ mb' ∧ Below w.heap.size w (wl.alloc (.cells #[.slice (some ⟨ms, 0, none⟩) n n, .slice (some ⟨mn, 0, none⟩) n n, .slice (some ⟨mb, 0, none⟩) nb nb] 42)) := by
  have hm2 := hm
  rw [bl_made] at hm2
  rw [bv_made] at hs hn
  refine ⟨_, ms, mn, mb, rfl, ⟨⟨blk_new wl _, ⟨[], blk_alloc hs _⟩, ⟨[], blk_alloc hn _⟩, ⟨_, blk_alloc hm _, by simp [madeCells], fun j v hv => ?_⟩, List.length_replicate, List.length_replicate, ne, hk.symm⟩, blk_alloc hm2 _, List.length_replicate⟩, hb.size, g1, g2, g3, below_alloc hb _⟩
  simp [madeCells, Nat.mod_one] at hv
  obtain ⟨_, rfl⟩ := hv
  exact ⟨false, rfl⟩
set_option maxRecDepth 100000 in
theorem jf_new (nb : Nat) (w : World) (h0 : 1 ≤ nb) (h1 : nb ≤ 64) : Calls Try.prog 17 #[.int .i64 ↑nb] w fun e w' => ∃ md ms mn mb, e = .returned (.pointer (some ⟨md, 0, none⟩)) ∧ Mf w' md ms mn mb (nb * 64) nb (List.replicate (nb * 64) 0) (List.replicate (nb * 64) 0) (List.replicate nb false) ∧ w.heap.size ≤ md ∧ w.heap.size ≤ ms ∧ w.heap.size ≤ mn ∧ w.heap.size ≤ mb ∧ Below w.heap.size w w' := by
  obtain ⟨n, hn⟩ : ∃ n : Nat, nb * 64 = n := ⟨_, rfl⟩
  rw [hn]
  have HN := Aside0.mk hn
  have hw : wrap64 (↑nb * 64) = (↑n : Int) := by unfold wrap64; omega
  have HW64 := Aside0.mk hw
  have hmk := fun W => run_make_row' (P := Try.prog) 22 5 (.int .u8 0) 1 Try.underlying22 jd_info rfl .i64 .i64 n (by omega) (by omega) W
  have hmb := fun W => run_make_row' (P := Try.prog) 40 4 (.bool false) 1 Try.underlying40 jm_info rfl .i64 .i64 nb (by omega) (by omega) W
  clear hn hw
  go_enter Try.func17, Try.ntmps17
  go_wp2_with fail
  refine start_ (n := 11) (S := fun _ => True) (ds := []) #[false, false, false, false, false, false, false, false, false, false, false] (by kernel_rfl) rfl rfl trivial (fun _ => ?_)
  refine pure_ (i := 0) (N := some 3) (v := ?_) (a' := ?_) #[true, false, false, false, false, false, false, false, false, false, false] rfl rfl (by kernel_rfl) (fun _ _ _ h => h) (Or.inl ⟨by rfl, ?_⟩) ?_ ?_
  rotate_left
  · intro w'
    go_simp
    with_reducible rfl
  rotate_left
  · simp only [Act.put, List.setIfInBounds_toArray, List.set_cons_zero, List.set_cons_succ, i64_w, i32_w]
    rfl
  refine pure_ (i := 1) (N := some 4) (v := ?_) (a' := ?_) #[true, true, false, false, false, false, false, false, false, false, false] rfl rfl (by kernel_rfl) (fun _ _ _ h => h) (Or.inl ⟨by rfl, ?_⟩) ?_ ?_
  rotate_left
  · intro w'
    go_simp
    with_reducible rfl
  rotate_left
  · simp only [Act.put, List.setIfInBounds_toArray, List.set_cons_zero, List.set_cons_succ, i64_w, i32_w]
    rfl
  rw [HW64.out]
  refine pure_ (i := 3) (N := some 6) (v := ?_) (a' := ?_) #[true, true, false, true, false, false, false, false, false, false, false] rfl rfl (by kernel_rfl) (fun _ _ _ h => h) (Or.inl ⟨by rfl, ?_⟩) ?_ ?_
  rotate_left
  · intro w'
    go_simp
    with_reducible rfl
  rotate_left
  · simp only [Act.put, List.setIfInBounds_toArray, List.set_cons_zero, List.set_cons_succ, i64_w, i32_w]
    rfl
  refine pure_ (i := 4) (N := some 7) (v := ?_) (a' := ?_) #[true, true, false, true, true, false, false, false, false, false, false] rfl rfl (by kernel_rfl) (fun _ _ _ h => h) (Or.inl ⟨by rfl, ?_⟩) ?_ ?_
  rotate_left
  · intro w'
    go_simp
    with_reducible rfl
  rotate_left
  · simp only [Act.put, List.setIfInBounds_toArray, List.set_cons_zero, List.set_cons_succ, i64_w, i32_w]
    rfl
  rw [HW64.out]
  refine pure_ (i := 6) (N := some 9) (v := ?_) (a' := ?_) #[true, true, false, true, true, false, true, false, false, false, false] rfl rfl (by kernel_rfl) (fun _ _ _ h => h) (Or.inl ⟨by rfl, ?_⟩) ?_ ?_
  rotate_left
  · intro w'
    go_simp
    with_reducible rfl
  rotate_left
  · simp only [Act.put, List.setIfInBounds_toArray, List.set_cons_zero, List.set_cons_succ, i64_w, i32_w]
    rfl
  refine three_ (i := 2) (j := 5) (k := 7) (Ni := some 5) (Nj := some 8) (Nk := some 10) #[true, true, true, true, true, false, true, false, false, false, false] #[true, true, false, true, true, true, true, false, false, false, false] #[true, true, false, true, true, false, true, true, false, false, false] rfl rfl rfl rfl rfl rfl (by kernel_rfl) (by decide) (by decide) (by decide) (fun K hK => ?_) (fun K hK => ?_) (fun K hK => ?_)
  · refine value_ (w1 := ?_) (v := ?_) (by rfl) rfl ?_ ?_
    rotate_left 2
    · go_simp
      constructor
      · rfl
      · rfl
    refine hK.out _ _ trivial (fun _ => ?_)
    clear hK K
    refine norm_ (a' := ?_) ?_ ?_
    rotate_left
    · show Act.put _ (some 5) _ = _
      simp only [Act.put, List.setIfInBounds_toArray, List.set_cons_zero, List.set_cons_succ, i64_w, i32_w]
      rfl
    refine two_ (i := 5) (j := 7) (Ni := some 8) (Nj := some 10) #[true, true, true, true, true, true, true, false, false, false, false] #[true, true, true, true, true, false, true, true, false, false, false] rfl rfl rfl rfl (by kernel_rfl) (by decide) (by decide) (fun K hK => ?_) (fun K hK => ?_)
    · refine value_ (w1 := ?_) (v := ?_) (by rfl) rfl ?_ ?_
      rotate_left 2
      · go_simp
        constructor
        · rfl
        · rfl
      refine hK.out _ _ trivial (fun _ => ?_)
      clear hK K
      refine norm_ (a' := ?_) ?_ ?_
      rotate_left
      · show Act.put _ (some 8) _ = _
        simp only [Act.put, List.setIfInBounds_toArray, List.set_cons_zero, List.set_cons_succ, i64_w, i32_w]
        rfl
      refine one_ (i := 7) (N := some 10) #[true, true, true, true, true, true, true, true, false, false, false] rfl rfl (by kernel_rfl) (by decide) (fun K hK => ?_)
      refine value_ (w1 := ?_) (v := ?_) (by rfl) rfl ?_ ?_
      rotate_left 2
      · go_simp
        constructor
        · rfl
        · rfl
      refine hK.out _ _ trivial (fun _ => ?_)
      clear hK K
      refine norm_ (a' := ?_) ?_ ?_
      rotate_left
      · show Act.put _ (some 10) _ = _
        simp only [Act.put, List.setIfInBounds_toArray, List.set_cons_zero, List.set_cons_succ, i64_w, i32_w]
        rfl
      obtain ⟨hs, hn, hm, hb⟩ := jd_lay w (.cells (madeCells #[.int .u8 0] n) 5) (.cells (madeCells #[.int .u8 0] n) 5) (.cells (madeCells #[.bool false] nb) 4)
      have hne : w.heap.size ≠ w.heap.size + 1 ∧ w.heap.size ≠ w.heap.size + 1 + 1 ∧ w.heap.size + 1 ≠ w.heap.size + 1 + 1 := ⟨by omega, by omega, by omega⟩
      generalize hX : (((w.alloc (.cells (madeCells #[.int .u8 0] n) 5)).alloc (.cells (madeCells #[.int .u8 0] n) 5)).alloc (.cells (madeCells #[.bool false] nb) 4)).drew = wl at hs hn hm hb ⊢
      clear hX
      have g1 : w.heap.size ≤ w.heap.size + 1 := by omega
      have g2 : w.heap.size ≤ w.heap.size + 1 + 1 := by omega
      have g0 : w.heap.size ≤ w.heap.size := by omega
      generalize h2 : w.heap.size + 1 + 1 = b2 at hs hn hm hne g2 ⊢
      generalize h1 : w.heap.size + 1 = b1 at hs hn hm hne g1 ⊢
      clear hmk hmb
      refine pure_ (i := 8) (N := some 11) (v := ?_) (a' := ?_) #[true, true, true, true, true, true, true, true, true, false, false] rfl rfl (by kernel_rfl) (fun _ _ _ h => h) (Or.inl ⟨by rfl, ?_⟩) ?_ ?_
      rotate_left
      · intro w'
        go_simp
        with_reducible rfl
      rotate_left
      · simp only [Act.put, List.setIfInBounds_toArray, List.set_cons_zero, List.set_cons_succ, i64_w, i32_w]
        rfl
      refine one_ (i := 9) (N := some 12) #[true, true, true, true, true, true, true, true, true, true, false] rfl rfl (by kernel_rfl) (by decide) (fun K hK => ?_)
      refine value_ (w1 := ?_) (v := ?_) (by rfl) rfl ?_ ?_
      rotate_left 2
      · go_simp
        constructor
        · rfl
        · rfl
      refine hK.out _ _ trivial (fun _ => ?_)
      clear hK K
      refine norm_ (a' := ?_) ?_ ?_
      rotate_left
      · show Act.put _ (some 12) _ = _
        simp only [Act.put, List.setIfInBounds_toArray, List.set_cons_zero, List.set_cons_succ, i64_w, i32_w]
        rfl
      refine pure_ (i := 10) (N := some 2) (v := ?_) (a' := ?_) #[true, true, true, true, true, true, true, true, true, true, true] rfl rfl (by kernel_rfl) (fun _ _ _ h => h) (Or.inl ⟨by rfl, ?_⟩) ?_ ?_
      rotate_left
      · intro w'
        go_simp
        with_reducible rfl
      rotate_left
      · simp only [Act.put, List.setIfInBounds_toArray, List.set_cons_zero, List.set_cons_succ, i64_w, i32_w]
        rfl
      refine done_ (by kernel_rfl) ?_
      go_wp2
      go_ret
      exact jf_made wl w.heap.size b1 b2 n nb w HN.out hs hn hm hne.1 g0 g1 g2 hb
    · refine value_ (w1 := ?_) (v := ?_) (by rfl) rfl ?_ ?_
      rotate_left 2
      · go_simp
        constructor
        · rfl
        · rfl
      refine hK.out _ _ trivial (fun _ => ?_)
      clear hK K
      refine norm_ (a' := ?_) ?_ ?_
      rotate_left
      · show Act.put _ (some 10) _ = _
        simp only [Act.put, List.setIfInBounds_toArray, List.set_cons_zero, List.set_cons_succ, i64_w, i32_w]
        rfl
      refine one_ (i := 5) (N := some 8) #[true, true, true, true, true, true, true, true, false, false, false] rfl rfl (by kernel_rfl) (by decide) (fun K hK => ?_)
      refine value_ (w1 := ?_) (v := ?_) (by rfl) rfl ?_ ?_
      rotate_left 2
      · go_simp
        constructor
        · rfl
        · rfl
      refine hK.out _ _ trivial (fun _ => ?_)
      clear hK K
      refine norm_ (a' := ?_) ?_ ?_
      rotate_left
      · show Act.put _ (some 8) _ = _
        simp only [Act.put, List.setIfInBounds_toArray, List.set_cons_zero, List.set_cons_succ, i64_w, i32_w]
        rfl
      obtain ⟨hs, hm, hn, hb⟩ := jd_lay w (.cells (madeCells #[.int .u8 0] n) 5) (.cells (madeCells #[.bool false] nb) 4) (.cells (madeCells #[.int .u8 0] n) 5)
      have hne : w.heap.size ≠ w.heap.size + 1 ∧ w.heap.size ≠ w.heap.size + 1 + 1 ∧ w.heap.size + 1 ≠ w.heap.size + 1 + 1 := ⟨by omega, by omega, by omega⟩
      generalize hX : (((w.alloc (.cells (madeCells #[.int .u8 0] n) 5)).alloc (.cells (madeCells #[.bool false] nb) 4)).alloc (.cells (madeCells #[.int .u8 0] n) 5)).drew = wl at hs hn hm hb ⊢
      clear hX
      have g1 : w.heap.size ≤ w.heap.size + 1 := by omega
      have g2 : w.heap.size ≤ w.heap.size + 1 + 1 := by omega
      have g0 : w.heap.size ≤ w.heap.size := by omega
      generalize h2 : w.heap.size + 1 + 1 = b2 at hs hn hm hne g2 ⊢
      generalize h1 : w.heap.size + 1 = b1 at hs hn hm hne g1 ⊢
      clear hmk hmb
      refine pure_ (i := 8) (N := some 11) (v := ?_) (a' := ?_) #[true, true, true, true, true, true, true, true, true, false, false] rfl rfl (by kernel_rfl) (fun _ _ _ h => h) (Or.inl ⟨by rfl, ?_⟩) ?_ ?_
      rotate_left
      · intro w'
        go_simp
        with_reducible rfl
      rotate_left
      · simp only [Act.put, List.setIfInBounds_toArray, List.set_cons_zero, List.set_cons_succ, i64_w, i32_w]
        rfl
      refine one_ (i := 9) (N := some 12) #[true, true, true, true, true, true, true, true, true, true, false] rfl rfl (by kernel_rfl) (by decide) (fun K hK => ?_)
      refine value_ (w1 := ?_) (v := ?_) (by rfl) rfl ?_ ?_
      rotate_left 2
      · go_simp
        constructor
        · rfl
        · rfl
      refine hK.out _ _ trivial (fun _ => ?_)
      clear hK K
      refine norm_ (a' := ?_) ?_ ?_
      rotate_left
      · show Act.put _ (some 12) _ = _
        simp only [Act.put, List.setIfInBounds_toArray, List.set_cons_zero, List.set_cons_succ, i64_w, i32_w]
        rfl
      refine pure_ (i := 10) (N := some 2) (v := ?_) (a' := ?_) #[true, true, true, true, true, true, true, true, true, true, true] rfl rfl (by kernel_rfl) (fun _ _ _ h => h) (Or.inl ⟨by rfl, ?_⟩) ?_ ?_
      rotate_left
      · intro w'
        go_simp
        with_reducible rfl
      rotate_left
      · simp only [Act.put, List.setIfInBounds_toArray, List.set_cons_zero, List.set_cons_succ, i64_w, i32_w]
        rfl
      refine done_ (by kernel_rfl) ?_
      go_wp2
      go_ret
      exact jf_made wl w.heap.size b2 b1 n nb w HN.out hs hn hm hne.2.1 g0 g2 g1 hb
  · refine value_ (w1 := ?_) (v := ?_) (by rfl) rfl ?_ ?_
    rotate_left 2
    · go_simp
      constructor
      · rfl
      · rfl
    refine hK.out _ _ trivial (fun _ => ?_)
    clear hK K
    refine norm_ (a' := ?_) ?_ ?_
    rotate_left
    · show Act.put _ (some 8) _ = _
      simp only [Act.put, List.setIfInBounds_toArray, List.set_cons_zero, List.set_cons_succ, i64_w, i32_w]
      rfl
    refine two_ (i := 2) (j := 7) (Ni := some 5) (Nj := some 10) #[true, true, true, true, true, true, true, false, false, false, false] #[true, true, false, true, true, true, true, true, false, false, false] rfl rfl rfl rfl (by kernel_rfl) (by decide) (by decide) (fun K hK => ?_) (fun K hK => ?_)
    · refine value_ (w1 := ?_) (v := ?_) (by rfl) rfl ?_ ?_
      rotate_left 2
      · go_simp
        constructor
        · rfl
        · rfl
      refine hK.out _ _ trivial (fun _ => ?_)
      clear hK K
      refine norm_ (a' := ?_) ?_ ?_
      rotate_left
      · show Act.put _ (some 5) _ = _
        simp only [Act.put, List.setIfInBounds_toArray, List.set_cons_zero, List.set_cons_succ, i64_w, i32_w]
        rfl
      refine one_ (i := 7) (N := some 10) #[true, true, true, true, true, true, true, true, false, false, false] rfl rfl (by kernel_rfl) (by decide) (fun K hK => ?_)
      refine value_ (w1 := ?_) (v := ?_) (by rfl) rfl ?_ ?_
      rotate_left 2
      · go_simp
        constructor
        · rfl
        · rfl
      refine hK.out _ _ trivial (fun _ => ?_)
      clear hK K
      refine norm_ (a' := ?_) ?_ ?_
      rotate_left
      · show Act.put _ (some 10) _ = _
        simp only [Act.put, List.setIfInBounds_toArray, List.set_cons_zero, List.set_cons_succ, i64_w, i32_w]
        rfl
      obtain ⟨hn, hs, hm, hb⟩ := jd_lay w (.cells (madeCells #[.int .u8 0] n) 5) (.cells (madeCells #[.int .u8 0] n) 5) (.cells (madeCells #[.bool false] nb) 4)
      have hne : w.heap.size ≠ w.heap.size + 1 ∧ w.heap.size ≠ w.heap.size + 1 + 1 ∧ w.heap.size + 1 ≠ w.heap.size + 1 + 1 := ⟨by omega, by omega, by omega⟩
      generalize hX : (((w.alloc (.cells (madeCells #[.int .u8 0] n) 5)).alloc (.cells (madeCells #[.int .u8 0] n) 5)).alloc (.cells (madeCells #[.bool false] nb) 4)).drew = wl at hs hn hm hb ⊢
      clear hX
      have g1 : w.heap.size ≤ w.heap.size + 1 := by omega
      have g2 : w.heap.size ≤ w.heap.size + 1 + 1 := by omega
      have g0 : w.heap.size ≤ w.heap.size := by omega
      generalize h2 : w.heap.size + 1 + 1 = b2 at hs hn hm hne g2 ⊢
      generalize h1 : w.heap.size + 1 = b1 at hs hn hm hne g1 ⊢
      clear hmk hmb
      refine pure_ (i := 8) (N := some 11) (v := ?_) (a' := ?_) #[true, true, true, true, true, true, true, true, true, false, false] rfl rfl (by kernel_rfl) (fun _ _ _ h => h) (Or.inl ⟨by rfl, ?_⟩) ?_ ?_
      rotate_left
      · intro w'
        go_simp
        with_reducible rfl
      rotate_left
      · simp only [Act.put, List.setIfInBounds_toArray, List.set_cons_zero, List.set_cons_succ, i64_w, i32_w]
        rfl
      refine one_ (i := 9) (N := some 12) #[true, true, true, true, true, true, true, true, true, true, false] rfl rfl (by kernel_rfl) (by decide) (fun K hK => ?_)
      refine value_ (w1 := ?_) (v := ?_) (by rfl) rfl ?_ ?_
      rotate_left 2
      · go_simp
        constructor
        · rfl
        · rfl
      refine hK.out _ _ trivial (fun _ => ?_)
      clear hK K
      refine norm_ (a' := ?_) ?_ ?_
      rotate_left
      · show Act.put _ (some 12) _ = _
        simp only [Act.put, List.setIfInBounds_toArray, List.set_cons_zero, List.set_cons_succ, i64_w, i32_w]
        rfl
      refine pure_ (i := 10) (N := some 2) (v := ?_) (a' := ?_) #[true, true, true, true, true, true, true, true, true, true, true] rfl rfl (by kernel_rfl) (fun _ _ _ h => h) (Or.inl ⟨by rfl, ?_⟩) ?_ ?_
      rotate_left
      · intro w'
        go_simp
        with_reducible rfl
      rotate_left
      · simp only [Act.put, List.setIfInBounds_toArray, List.set_cons_zero, List.set_cons_succ, i64_w, i32_w]
        rfl
      refine done_ (by kernel_rfl) ?_
      go_wp2
      go_ret
      exact jf_made wl b1 w.heap.size b2 n nb w HN.out hs hn hm (Ne.symm hne.1) g1 g0 g2 hb
    · refine value_ (w1 := ?_) (v := ?_) (by rfl) rfl ?_ ?_
      rotate_left 2
      · go_simp
        constructor
        · rfl
        · rfl
      refine hK.out _ _ trivial (fun _ => ?_)
      clear hK K
      refine norm_ (a' := ?_) ?_ ?_
      rotate_left
      · show Act.put _ (some 10) _ = _
        simp only [Act.put, List.setIfInBounds_toArray, List.set_cons_zero, List.set_cons_succ, i64_w, i32_w]
        rfl
      refine one_ (i := 2) (N := some 5) #[true, true, true, true, true, true, true, true, false, false, false] rfl rfl (by kernel_rfl) (by decide) (fun K hK => ?_)
      refine value_ (w1 := ?_) (v := ?_) (by rfl) rfl ?_ ?_
      rotate_left 2
      · go_simp
        constructor
        · rfl
        · rfl
      refine hK.out _ _ trivial (fun _ => ?_)
      clear hK K
      refine norm_ (a' := ?_) ?_ ?_
      rotate_left
      · show Act.put _ (some 5) _ = _
        simp only [Act.put, List.setIfInBounds_toArray, List.set_cons_zero, List.set_cons_succ, i64_w, i32_w]
        rfl
      obtain ⟨hn, hm, hs, hb⟩ := jd_lay w (.cells (madeCells #[.int .u8 0] n) 5) (.cells (madeCells #[.bool false] nb) 4) (.cells (madeCells #[.int .u8 0] n) 5)
      have hne : w.heap.size ≠ w.heap.size + 1 ∧ w.heap.size ≠ w.heap.size + 1 + 1 ∧ w.heap.size + 1 ≠ w.heap.size + 1 + 1 := ⟨by omega, by omega, by omega⟩
      generalize hX : (((w.alloc (.cells (madeCells #[.int .u8 0] n) 5)).alloc (.cells (madeCells #[.bool false] nb) 4)).alloc (.cells (madeCells #[.int .u8 0] n) 5)).drew = wl at hs hn hm hb ⊢
      clear hX
      have g1 : w.heap.size ≤ w.heap.size + 1 := by omega
      have g2 : w.heap.size ≤ w.heap.size + 1 + 1 := by omega
      have g0 : w.heap.size ≤ w.heap.size := by omega
      generalize h2 : w.heap.size + 1 + 1 = b2 at hs hn hm hne g2 ⊢
      generalize h1 : w.heap.size + 1 = b1 at hs hn hm hne g1 ⊢
      clear hmk hmb
      refine pure_ (i := 8) (N := some 11) (v := ?_) (a' := ?_) #[true, true, true, true, true, true, true, true, true, false, false] rfl rfl (by kernel_rfl) (fun _ _ _ h => h) (Or.inl ⟨by rfl, ?_⟩) ?_ ?_
      rotate_left
      · intro w'
        go_simp
        with_reducible rfl
      rotate_left
      · simp only [Act.put, List.setIfInBounds_toArray, List.set_cons_zero, List.set_cons_succ, i64_w, i32_w]
        rfl
      refine one_ (i := 9) (N := some 12) #[true, true, true, true, true, true, true, true, true, true, false] rfl rfl (by kernel_rfl) (by decide) (fun K hK => ?_)
      refine value_ (w1 := ?_) (v := ?_) (by rfl) rfl ?_ ?_
      rotate_left 2
      · go_simp
        constructor
        · rfl
        · rfl
      refine hK.out _ _ trivial (fun _ => ?_)
      clear hK K
      refine norm_ (a' := ?_) ?_ ?_
      rotate_left
      · show Act.put _ (some 12) _ = _
        simp only [Act.put, List.setIfInBounds_toArray, List.set_cons_zero, List.set_cons_succ, i64_w, i32_w]
        rfl
      refine pure_ (i := 10) (N := some 2) (v := ?_) (a' := ?_) #[true, true, true, true, true, true, true, true, true, true, true] rfl rfl (by kernel_rfl) (fun _ _ _ h => h) (Or.inl ⟨by rfl, ?_⟩) ?_ ?_
      rotate_left
      · intro w'
        go_simp
        with_reducible rfl
      rotate_left
      · simp only [Act.put, List.setIfInBounds_toArray, List.set_cons_zero, List.set_cons_succ, i64_w, i32_w]
        rfl
      refine done_ (by kernel_rfl) ?_
      go_wp2
      go_ret
      exact jf_made wl b2 w.heap.size b1 n nb w HN.out hs hn hm (Ne.symm hne.2.1) g2 g0 g1 hb
  · refine value_ (w1 := ?_) (v := ?_) (by rfl) rfl ?_ ?_
    rotate_left 2
    · go_simp
      constructor
      · rfl
      · rfl
    refine hK.out _ _ trivial (fun _ => ?_)
    clear hK K
    refine norm_ (a' := ?_) ?_ ?_
    rotate_left
    · show Act.put _ (some 10) _ = _
      simp only [Act.put, List.setIfInBounds_toArray, List.set_cons_zero, List.set_cons_succ, i64_w, i32_w]
      rfl
    refine two_ (i := 2) (j := 5) (Ni := some 5) (Nj := some 8) #[true, true, true, true, true, false, true, true, false, false, false] #[true, true, false, true, true, true, true, true, false, false, false] rfl rfl rfl rfl (by kernel_rfl) (by decide) (by decide) (fun K hK => ?_) (fun K hK => ?_)
    · refine value_ (w1 := ?_) (v := ?_) (by rfl) rfl ?_ ?_
      rotate_left 2
      · go_simp
        constructor
        · rfl
        · rfl
      refine hK.out _ _ trivial (fun _ => ?_)
      clear hK K
      refine norm_ (a' := ?_) ?_ ?_
      rotate_left
      · show Act.put _ (some 5) _ = _
        simp only [Act.put, List.setIfInBounds_toArray, List.set_cons_zero, List.set_cons_succ, i64_w, i32_w]
        rfl
      refine one_ (i := 5) (N := some 8) #[true, true, true, true, true, true, true, true, false, false, false] rfl rfl (by kernel_rfl) (by decide) (fun K hK => ?_)
      refine value_ (w1 := ?_) (v := ?_) (by rfl) rfl ?_ ?_
      rotate_left 2
      · go_simp
        constructor
        · rfl
        · rfl
      refine hK.out _ _ trivial (fun _ => ?_)
      clear hK K
      refine norm_ (a' := ?_) ?_ ?_
      rotate_left
      · show Act.put _ (some 8) _ = _
        simp only [Act.put, List.setIfInBounds_toArray, List.set_cons_zero, List.set_cons_succ, i64_w, i32_w]
        rfl
      obtain ⟨hm, hs, hn, hb⟩ := jd_lay w (.cells (madeCells #[.bool false] nb) 4) (.cells (madeCells #[.int .u8 0] n) 5) (.cells (madeCells #[.int .u8 0] n) 5)
      have hne : w.heap.size ≠ w.heap.size + 1 ∧ w.heap.size ≠ w.heap.size + 1 + 1 ∧ w.heap.size + 1 ≠ w.heap.size + 1 + 1 := ⟨by omega, by omega, by omega⟩
      generalize hX : (((w.alloc (.cells (madeCells #[.bool false] nb) 4)).alloc (.cells (madeCells #[.int .u8 0] n) 5)).alloc (.cells (madeCells #[.int .u8 0] n) 5)).drew = wl at hs hn hm hb ⊢
      clear hX
      have g1 : w.heap.size ≤ w.heap.size + 1 := by omega
      have g2 : w.heap.size ≤ w.heap.size + 1 + 1 := by omega
      have g0 : w.heap.size ≤ w.heap.size := by omega
      generalize h2 : w.heap.size + 1 + 1 = b2 at hs hn hm hne g2 ⊢
      generalize h1 : w.heap.size + 1 = b1 at hs hn hm hne g1 ⊢
      clear hmk hmb
      refine pure_ (i := 8) (N := some 11) (v := ?_) (a' := ?_) #[true, true, true, true, true, true, true, true, true, false, false] rfl rfl (by kernel_rfl) (fun _ _ _ h => h) (Or.inl ⟨by rfl, ?_⟩) ?_ ?_
      rotate_left
      · intro w'
        go_simp
        with_reducible rfl
      rotate_left
      · simp only [Act.put, List.setIfInBounds_toArray, List.set_cons_zero, List.set_cons_succ, i64_w, i32_w]
        rfl
      refine one_ (i := 9) (N := some 12) #[true, true, true, true, true, true, true, true, true, true, false] rfl rfl (by kernel_rfl) (by decide) (fun K hK => ?_)
      refine value_ (w1 := ?_) (v := ?_) (by rfl) rfl ?_ ?_
      rotate_left 2
      · go_simp
        constructor
        · rfl
        · rfl
      refine hK.out _ _ trivial (fun _ => ?_)
      clear hK K
      refine norm_ (a' := ?_) ?_ ?_
      rotate_left
      · show Act.put _ (some 12) _ = _
        simp only [Act.put, List.setIfInBounds_toArray, List.set_cons_zero, List.set_cons_succ, i64_w, i32_w]
        rfl
      refine pure_ (i := 10) (N := some 2) (v := ?_) (a' := ?_) #[true, true, true, true, true, true, true, true, true, true, true] rfl rfl (by kernel_rfl) (fun _ _ _ h => h) (Or.inl ⟨by rfl, ?_⟩) ?_ ?_
      rotate_left
      · intro w'
        go_simp
        with_reducible rfl
      rotate_left
      · simp only [Act.put, List.setIfInBounds_toArray, List.set_cons_zero, List.set_cons_succ, i64_w, i32_w]
        rfl
      refine done_ (by kernel_rfl) ?_
      go_wp2
      go_ret
      exact jf_made wl b1 b2 w.heap.size n nb w HN.out hs hn hm hne.2.2 g1 g2 g0 hb
    · refine value_ (w1 := ?_) (v := ?_) (by rfl) rfl ?_ ?_
      rotate_left 2
      · go_simp
        constructor
        · rfl
        · rfl
      refine hK.out _ _ trivial (fun _ => ?_)
      clear hK K
      refine norm_ (a' := ?_) ?_ ?_
      rotate_left
      · show Act.put _ (some 8) _ = _
        simp only [Act.put, List.setIfInBounds_toArray, List.set_cons_zero, List.set_cons_succ, i64_w, i32_w]
        rfl
      refine one_ (i := 2) (N := some 5) #[true, true, true, true, true, true, true, true, false, false, false] rfl rfl (by kernel_rfl) (by decide) (fun K hK => ?_)
      refine value_ (w1 := ?_) (v := ?_) (by rfl) rfl ?_ ?_
      rotate_left 2
      · go_simp
        constructor
        · rfl
        · rfl
      refine hK.out _ _ trivial (fun _ => ?_)
      clear hK K
      refine norm_ (a' := ?_) ?_ ?_
      rotate_left
      · show Act.put _ (some 5) _ = _
        simp only [Act.put, List.setIfInBounds_toArray, List.set_cons_zero, List.set_cons_succ, i64_w, i32_w]
        rfl
      obtain ⟨hm, hn, hs, hb⟩ := jd_lay w (.cells (madeCells #[.bool false] nb) 4) (.cells (madeCells #[.int .u8 0] n) 5) (.cells (madeCells #[.int .u8 0] n) 5)
      have hne : w.heap.size ≠ w.heap.size + 1 ∧ w.heap.size ≠ w.heap.size + 1 + 1 ∧ w.heap.size + 1 ≠ w.heap.size + 1 + 1 := ⟨by omega, by omega, by omega⟩
      generalize hX : (((w.alloc (.cells (madeCells #[.bool false] nb) 4)).alloc (.cells (madeCells #[.int .u8 0] n) 5)).alloc (.cells (madeCells #[.int .u8 0] n) 5)).drew = wl at hs hn hm hb ⊢
      clear hX
      have g1 : w.heap.size ≤ w.heap.size + 1 := by omega
      have g2 : w.heap.size ≤ w.heap.size + 1 + 1 := by omega
      have g0 : w.heap.size ≤ w.heap.size := by omega
      generalize h2 : w.heap.size + 1 + 1 = b2 at hs hn hm hne g2 ⊢
      generalize h1 : w.heap.size + 1 = b1 at hs hn hm hne g1 ⊢
      clear hmk hmb
      refine pure_ (i := 8) (N := some 11) (v := ?_) (a' := ?_) #[true, true, true, true, true, true, true, true, true, false, false] rfl rfl (by kernel_rfl) (fun _ _ _ h => h) (Or.inl ⟨by rfl, ?_⟩) ?_ ?_
      rotate_left
      · intro w'
        go_simp
        with_reducible rfl
      rotate_left
      · simp only [Act.put, List.setIfInBounds_toArray, List.set_cons_zero, List.set_cons_succ, i64_w, i32_w]
        rfl
      refine one_ (i := 9) (N := some 12) #[true, true, true, true, true, true, true, true, true, true, false] rfl rfl (by kernel_rfl) (by decide) (fun K hK => ?_)
      refine value_ (w1 := ?_) (v := ?_) (by rfl) rfl ?_ ?_
      rotate_left 2
      · go_simp
        constructor
        · rfl
        · rfl
      refine hK.out _ _ trivial (fun _ => ?_)
      clear hK K
      refine norm_ (a' := ?_) ?_ ?_
      rotate_left
      · show Act.put _ (some 12) _ = _
        simp only [Act.put, List.setIfInBounds_toArray, List.set_cons_zero, List.set_cons_succ, i64_w, i32_w]
        rfl
      refine pure_ (i := 10) (N := some 2) (v := ?_) (a' := ?_) #[true, true, true, true, true, true, true, true, true, true, true] rfl rfl (by kernel_rfl) (fun _ _ _ h => h) (Or.inl ⟨by rfl, ?_⟩) ?_ ?_
      rotate_left
      · intro w'
        go_simp
        with_reducible rfl
      rotate_left
      · simp only [Act.put, List.setIfInBounds_toArray, List.set_cons_zero, List.set_cons_succ, i64_w, i32_w]
        rfl
      refine done_ (by kernel_rfl) ?_
      go_wp2
      go_ret
      exact jf_made wl b2 b1 w.heap.size n nb w HN.out hs hn hm (Ne.symm hne.2.2) g2 g1 g0 hb

open Go.Proofs.Ythblaehmdailhaa.PDiskPlays (S62 k62 k62_open at_T62 rd_T62 z62)
attribute [local go_sem high] slEq slNe slEq0 slNe0 cerEqI cerEqL cerEqR cerNeI cerNeL cerNeR
theorem Bo.of {wI w : World} {bd bs bn bm md ms mn mb n nb : Nat} (hb : Below wI.heap.size wI w) (hD : Dk w bd bs bn bm n (List.replicate n 0) (List.replicate n 0) 0 (.map [])) (hM : Mf w md ms mn mb n nb (List.replicate n 0) (List.replicate n 0) (List.replicate nb false)) (g : wI.heap.size ≤ bd ∧ wI.heap.size ≤ bs ∧ wI.heap.size ≤ bn ∧ wI.heap.size ≤ bm) (q : ∃ K, (bd < K ∧ bs < K ∧ bn < K ∧ bm < K) ∧ K ≤ md ∧ K ≤ ms ∧ K ≤ mn ∧ K ≤ mb) : Bo wI w bd bs bn bm md ms mn mb n nb (2000 * 0) :=
  ⟨hb, g, q, _, _, _, _, hD, hM, by rw [idxF_rep]; exact Ks.nil⟩
theorem bo_size {w : World} {bd bs bn bm n N : Nat} {st nw : List Int} {D : DataW Unit} {df : List Bool} (h1 : Dk w bd bs bn bm n st nw N D) (h3 : Ks D (idxF df 0)) : Go.Maps.size D = df.countP id := by
  obtain ⟨m, -, hown⟩ := h1.hm
  rw [(h3.size hown).1, idxF_len]
set_option maxHeartbeats 4000000 in
set_option maxRecDepth 100000 in
theorem dp_main (c : Int) (A0 : Option Addr) (c0 : Nat) (L : List S62) (w : World) (h0 : -9223372036854775808 ≤ c) (h1 : c ≤ 9223372036854775807) (hr : Kd.C k62 w A0 L.length L) (hL : ∀ x ∈ L, (-9223372036854775808 ≤ x.f0 ∧ x.f0 ≤ 9223372036854775807) ∧ (-9223372036854775808 ≤ x.f1 ∧ x.f1 ≤ 9223372036854775807) ∧ (-9223372036854775808 ≤ x.f2 ∧ x.f2 ≤ 9223372036854775807) ∧ ∀ p ∈ x.f4, -9223372036854775808 ≤ p ∧ p ≤ 9223372036854775807) :
    Calls Try.prog 10 #[.int .i64 c, .slice A0 L.length c0] w fun e w' => e = .returned (.bool true) ∧ Below w.heap.size w w' := by
  have U := Aside0.mk (fun W => d_up W)
  have PK := Aside0.mk (fun W => jl_pick8 c W h0 h1)
  have HR := Aside0.mk hr
  have HL := Aside0.mk hL
  have hm : L.length ≤ 9223372036854775807 := hr.2.1
  clear hr hL
  go_enter Try.func10, Try.ntmps10
  go_wp2_with fail
  refine (U.out _).mono ?_
  rintro e w0 ⟨rfl, hb⟩
  have B0 := Aside0.mk hb
  clear hb
  go_wp2_with fail
  refine (PK.out _).mono ?_
  rintro e w1 ⟨⟨p, p0, p1, rfl⟩, hb⟩
  have B1 := Aside0.mk (below_step B0.out hb)
  clear hb
  obtain ⟨nb, hnb⟩ : ∃ nb : Nat, 1 + p = (nb : Int) := ⟨(1 + p).toNat, by omega⟩
  obtain rfl : p = ↑nb - 1 := by omega
  have nb1 : 1 ≤ nb := by omega
  have nb8 : nb ≤ 8 := by omega
  clear hnb p0 p1
  have e1 : (1 + (↑nb - 1) : Int) = ↑nb := by omega
  go_wp2_with fail
  refine (jd_new ↑nb _ (by omega) (by omega)).mono ?_
  rintro e w2 ⟨bd, bs, bn, bm, rfl, hD, g1, g2, g3, g4, hb⟩
  obtain ⟨n, hn⟩ : ∃ n, nb * 64 = n := ⟨_, rfl⟩
  rw [show ((↑nb : Int) * 64).toNat = n by omega] at hD
  have HD2 := Aside0.mk hD
  have G2 : Aside0 (w.heap.size ≤ bd ∧ w.heap.size ≤ bs ∧ w.heap.size ≤ bn ∧ w.heap.size ≤ bm) := ⟨by have := B1.out.size; omega⟩
  have B2 := Aside0.mk (below_step B1.out hb)
  have HN := Aside0.mk hn
  clear hD g1 g2 g3 g4 hb hn
  go_wp2_with fail
  refine (jf_new nb w2 (by omega) (by omega)).mono ?_
  rintro e w3 ⟨md, ms, mn, mb, rfl, hM, g1, g2, g3, g4, hb⟩
  rw [HN.out] at hM
  have HB3 : Aside0 (Bo w w3 bd bs bn bm md ms mn mb n nb (2000 * 0)) := ⟨Bo.of (below_step B2.out hb) (HD2.out.below hb) hM G2.out (by
    obtain ⟨es, cl, hm⟩ := HD2.out.map
    exact ⟨w2.heap.size, ⟨blk_lt HD2.out.hd, HD2.out.hs.lt, HD2.out.hn.lt, blk_lt hm⟩, g1, g2, g3, g4⟩)⟩
  have hn5 : n ≤ 65536 := by have := HN.out; omega
  have n0 : 0 < n := by have := HN.out; omega
  clear hM g1 g2 g3 g4 hb HD2 G2 B2 e1
  go_wp2_with fail
  go_loopw [9] (fun v9 wr => ∃ i : Nat, v9 = .int .i64 ↑i ∧ Aside0 (i ≤ L.length ∧ i ≤ 100 ∧ Bo w wr bd bs bn bm md ms mn mb n nb (2000 * i))) (fun v9 _ => (L.length - intOf v9).toNat)
  case atStart => exact ⟨0, rfl, ⟨Nat.zero_le _, Nat.zero_le _, HB3.out⟩⟩
  case round =>
    obtain ⟨i, rfl, HX⟩ := hrel
    have i0' : (0 : Int) ≤ ↑i := by omega
    by_cases ci : i < L.length
    · have ci2 : (↑i : Int) < ↑L.length := by omega
      by_cases cj : i < 100
      · have cj2 : (↑i : Int) < 100 := by omega
        obtain ⟨ad, A3, k3, A4, k4, e, x0, x1, x2, x3, x4, z3, hC3, z4, hC4⟩ := at_T62 HR.out ↑i i0' ci2
        subst e
        rw [Int.toNat_natCast] at x0 x1 x2 x3 x4
        have hx : rd_T62 L ↑i ∈ L := by
          unfold rd_T62
          rw [Int.toNat_natCast, List.getD_eq_getElem?_getD, List.getElem?_eq_getElem ci]
          exact List.getElem_mem _
        obtain ⟨y0, y1, y2, y4⟩ := HL.out _ hx
        have HI := Aside0.mk (And.intro y0 (And.intro y1 (And.intro y2 y4)))
        have BB := HX.out.2.2.b
        have t0 := (BB.cell (World.block_lt_of_cell? w _ x0)).trans x0
        have t1 := (BB.cell (World.block_lt_of_cell? w _ x1)).trans x1
        have t2 := (BB.cell (World.block_lt_of_cell? w _ x2)).trans x2
        have t3 := (BB.cell (World.block_lt_of_cell? w _ x3)).trans x3
        have t4 := (BB.cell (World.block_lt_of_cell? w _ x4)).trans x4
        have HC := Aside0.mk (And.intro hC3 hC4)
        clear hx y0 y1 y2 y4 BB x0 x1 x2 x3 x4 z3 z4 hC3 hC4
        generalize rd_T62 L ↑i = x at HI HC t0 t1 t2 t3 t4
        by_cases s3 : x.f3.length ≤ 2000
        · by_cases s4 : x.f4.length ≤ 2000
          · have m3 : decide ((2000 : Int) < ↑x.f3.length) = false := decide_eq_false (by omega)
            have m4 : decide ((2000 : Int) < ↑x.f4.length) = false := decide_eq_false (by omega)
            go_wp2_with fail
            refine (pl_one HX.out.2.2 hn5 n0 (by have := HX.out.2.1; omega) x A3 k3 A4 k4 HI.out.1 HI.out.2.1 HI.out.2.2.1 s3 s4 HC.out.1 HC.out.2 HI.out.2.2.2).mono ?_
            rintro e w5 ⟨rfl, hB⟩
            have HB5 := Aside0.mk hB
            obtain ⟨st, nw, D, df, hD, hM, hK⟩ := hB.d
            have DI := jd_dirty hD
            rw [bo_size hD hK] at DI
            have HDI := Aside0.mk DI
            have HM5 := Aside0.mk hM
            obtain ⟨cn, hcn⟩ : ∃ cn, df.countP id = cn := ⟨_, rfl⟩
            rw [hcn] at HDI
            have HCN := Aside0.mk hcn
            clear hB DI hD hM hK hcn t0 t1 t2 t3 t4
            go_wp2_with fail
            refine HDI.out.mono ?_
            rintro e w6 ⟨rfl, hb⟩
            have HB6 := Aside0.mk (HB5.out.below hb)
            have MA := jf_many (HM5.out.below hb) hn5
            rw [HCN.out] at MA
            have HMA := Aside0.mk MA
            clear hb MA
            go_wp2_with fail
            refine HMA.out.mono ?_
            rintro e w7 ⟨rfl, hb⟩
            have HB7 := Aside0.mk (HB6.out.below hb)
            clear hb
            go_wp2_with fail
            exact ⟨⟨i + 1, rfl, ⟨by omega, by omega, HB7.out⟩⟩, by simp [intOf]; omega⟩
          · have m3 : decide ((2000 : Int) < ↑x.f3.length) = false := decide_eq_false (by omega)
            have hx4 : x.f4.length ≤ 9223372036854775807 := HC.out.2.2.1
            have m4 : decide ((2000 : Int) < ↑x.f4.length) = true := decide_eq_true (by omega)
            go_wp2_with fail
            go_ret
            exact ⟨rfl, HX.out.2.2.b⟩
        · have hx3 : x.f3.length ≤ 9223372036854775807 := HC.out.1.2.1
          have m3 : decide ((2000 : Int) < ↑x.f3.length) = true := decide_eq_true (by omega)
          go_wp2_with fail
          go_ret
          exact ⟨rfl, HX.out.2.2.b⟩
      · have cj2 : ¬ (↑i : Int) < 100 := by omega
        have HBE := Aside0.mk HX.out.2.2
        clear HX
        go_wp2_with fail
        rw [show (64 * (↑nb : Int)) = ↑n by have := HN.out; omega]
        obtain ⟨st, nw, D, df, hD, hM, hK⟩ := HBE.out.d
        have HME := Aside0.mk hM
        have ln := hD.ln
        refine (dr_any hD hn5 0 n (by omega)).mono ?_
        rintro e w5 ⟨A5, c5, rfl, ho, hb⟩
        rw [List.drop_zero, List.take_of_length_le (by omega)] at ho
        have B5 := Aside0.mk (below_step HBE.out.b hb)
        have HM5 := Aside0.mk (HME.out.below hb)
        have sq1 : ∀ p : GWrld w5, (convert 22 9 (.slice A5 n c5)).run Try.prog p.w' = .ok (.string (strOfNums nw)) p.w' := fun p => by
          have h := C_str ((ho.below p.b).C (by omega)) c5
          rwa [ln] at h
        have sq2 : ∀ p : GWrld w5, (convert 22 9 (.slice (some ⟨mn, 0, none⟩) n n)).run Try.prog p.w' = .ok (.string (strOfNums nw)) p.w' := fun p => by
          have h := C_str ((HM5.out.below p.b).hn.src0.C (by omega)) n
          rwa [ln] at h
        have d1 := gb_cell (blk_lt HM5.out.m.hd) HM5.out.cells.2.1
        have sb : ((strOfNums nw).toList == (strOfNums nw).toList) = true := beq_self_eq_true _
        generalize strOfNums nw = sr at sq1 sq2 sb
        clear hD hM hK ho hb ln
        go_wp2_with fail
        refine gb_region (by kernel_rfl) (by kernel_rfl) ?_
        repeat (go_big_quiet_step (fail))
        refine wpQuiet_nil ?_
        intro _ hw'
        obtain ⟨gq, hw''⟩ := hw'
        subst hw''
        go_wp2_with fail
        go_ret
        exact ⟨rfl, below_step B5.out gq.b⟩

    · have ci2 : ¬ (↑i : Int) < ↑L.length := by omega
      have HBE := Aside0.mk HX.out.2.2
      clear HX
      go_wp2_with fail
      rw [show (64 * (↑nb : Int)) = ↑n by have := HN.out; omega]
      obtain ⟨st, nw, D, df, hD, hM, hK⟩ := HBE.out.d
      have HME := Aside0.mk hM
      have ln := hD.ln
      refine (dr_any hD hn5 0 n (by omega)).mono ?_
      rintro e w5 ⟨A5, c5, rfl, ho, hb⟩
      rw [List.drop_zero, List.take_of_length_le (by omega)] at ho
      have B5 := Aside0.mk (below_step HBE.out.b hb)
      have HM5 := Aside0.mk (HME.out.below hb)
      have sq1 : ∀ p : GWrld w5, (convert 22 9 (.slice A5 n c5)).run Try.prog p.w' = .ok (.string (strOfNums nw)) p.w' := fun p => by
        have h := C_str ((ho.below p.b).C (by omega)) c5
        rwa [ln] at h
      have sq2 : ∀ p : GWrld w5, (convert 22 9 (.slice (some ⟨mn, 0, none⟩) n n)).run Try.prog p.w' = .ok (.string (strOfNums nw)) p.w' := fun p => by
        have h := C_str ((HM5.out.below p.b).hn.src0.C (by omega)) n
        rwa [ln] at h
      have d1 := gb_cell (blk_lt HM5.out.m.hd) HM5.out.cells.2.1
      have sb : ((strOfNums nw).toList == (strOfNums nw).toList) = true := beq_self_eq_true _
      generalize strOfNums nw = sr at sq1 sq2 sb
      clear hD hM hK ho hb ln
      go_wp2_with fail
      refine gb_region (by kernel_rfl) (by kernel_rfl) ?_
      repeat (go_big_quiet_step (fail))
      refine wpQuiet_nil ?_
      intro _ hw'
      obtain ⟨gq, hw''⟩ := hw'
      subst hw''
      go_wp2_with fail
      go_ret
      exact ⟨rfl, below_step B5.out gq.b⟩

open Go.Proofs.Ythblaehmdailhaa.PDiskPlays (S62 k62 k62_open at_T62 rd_T62 z62)
def trivetlaw07_DiskPlays.f (a0 : Int) (l1 : List S62) : Option Bool := if (-9223372036854775808 ≤ a0 ∧ a0 ≤ 9223372036854775807) ∧ ∀ x ∈ l1, (-9223372036854775808 ≤ x.f0 ∧ x.f0 ≤ 9223372036854775807) ∧ (-9223372036854775808 ≤ x.f1 ∧ x.f1 ≤ 9223372036854775807) ∧ (-9223372036854775808 ≤ x.f2 ∧ x.f2 ≤ 9223372036854775807) ∧ ∀ p ∈ x.f4, -9223372036854775808 ≤ p ∧ p ≤ 9223372036854775807 then some true else none
theorem trivetlaw07_DiskPlays.calls (a0 : Int) (A1 : Option Addr) (c1 : Nat) (l1 : List S62) (r : Bool) (w : World) (hr1 : Kd.C k62 w A1 l1.length l1) (hc1 : l1.length ≤ c1) (h : trivetlaw07_DiskPlays.f a0 l1 = some r) :
    Calls Try.prog 10 #[.int .i64 a0, .slice A1 l1.length c1] w fun e w' => e = .returned (.bool r) ∧ Below w.heap.size w w' := by
  unfold trivetlaw07_DiskPlays.f at h
  split at h
  · rename_i g
    obtain rfl := Option.some.inj h
    exact dp_main a0 A1 c1 l1 w g.1.1 g.1.2 hr1 g.2
  · cases h

def good62 (x : S62) : Prop := ((Lit.int .i64 x.f0).wf = true) ∧ ((Lit.int .i64 x.f1).wf = true) ∧ ((Lit.int .i64 x.f2).wf = true) ∧ (x.f3.length ≤ maxLen ∧ ∀ y ∈ x.f3, (Lit.int .u8 y).wf = true) ∧ (x.f4.length ≤ maxLen ∧ ∀ y ∈ x.f4, (Lit.int .i64 y).wf = true)
def trivetlaw07_DiskPlays.Pure : Prop := ∀ (x0 : Int) (x1 : List (S62)), ((Lit.int .i64 x0).wf = true) → (x1.length ≤ maxLen ∧ ∀ y ∈ x1, good62 y) → trivetlaw07_DiskPlays.f x0 x1 = some true
end Go.Proofs.Ythblaehmdailhaa.PJournalStays
