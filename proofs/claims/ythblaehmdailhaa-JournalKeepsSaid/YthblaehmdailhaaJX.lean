import Derived.Test.YthblaehmdailhaaJQ
namespace Go.Proofs.Ythblaehmdailhaa.PJournalStays
open Go.RowKit Go.Proofs.YthblaehmdailhaaW.PrintWords Go.Proofs.YthblaehmdailhaaW.PrintLast Go.Proofs.YthblaehmdailhaaW.PrintMore
set_option linter.unusedVariables false
set_option linter.unusedSimpArgs false
theorem hdl_inj {a b : Int} (ha : 0 ≤ a ∧ a ≤ 1024) (hb : 0 ≤ b ∧ b ≤ 1024) (h : hdl a = hdl b) : a = b := by
  simp [hdl, hd4] at h
  omega
theorem enc_cons (r : List Int) (rs : List (List Int)) (rest : List Int) : enc (r :: rs) ++ rest = hdl ↑r.length ++ (r ++ (enc rs ++ rest)) := by
  simp [enc, List.append_assoc]
theorem scan_zero {k : Nat} {rs : List (List Int)} {rest : List Int} (h : List.replicate k (0 : Int) = enc rs ++ rest) (hv : ∀ r ∈ rs, 1 ≤ r.length ∧ r.length ≤ 1024) : rs = [] := by
  rcases rs with _ | ⟨r, t⟩
  · rfl
  · exfalso
    have hr := hv r List.mem_cons_self
    rw [enc_cons] at h
    have e : (List.replicate k (0 : Int))[6]? = some (255 - (↑r.length : Int) / 65536) := by rw [h]; rfl
    have hm := List.mem_of_getElem? e
    have := List.eq_of_mem_replicate hm
    omega
theorem scan_uniq {k : Nat} {rest : List Int} : ∀ {rs rs' : List (List Int)}, enc rs ++ List.replicate k (0 : Int) = enc rs' ++ rest → (∀ m, ¬ isRec rest m) → (∀ r ∈ rs, 1 ≤ r.length ∧ r.length ≤ 1024) → (∀ r ∈ rs', 1 ≤ r.length ∧ r.length ≤ 1024) → rs = rs' ∧ rest = List.replicate k 0 := by
  intro rs
  induction rs with
  | nil =>
    intro rs' h hno hv hv'
    have e := scan_zero (k := k) (rs := rs') (rest := rest) h hv'
    subst e
    exact ⟨rfl, h.symm⟩
  | cons r t ih =>
    intro rs' h hno hv hv'
    have hr := hv r List.mem_cons_self
    rcases rs' with _ | ⟨r', t'⟩
    · exfalso
      have h' : enc (r :: t) ++ List.replicate k (0 : Int) = rest := h
      rw [enc_cons] at h'
      refine hno ↑r.length ⟨by omega, by omega, ?_, ?_⟩
      · rw [← h', List.length_append, List.length_append, show (hdl ↑r.length).length = 8 from rfl]
        omega
      · rw [← h', List.take_append_of_le_length (by show 8 ≤ 8; exact Nat.le_refl _)]
        rfl
    · have hr' := hv' r' List.mem_cons_self
      rw [enc_cons, enc_cons] at h
      obtain ⟨h1, h2⟩ := List.append_inj h rfl
      have e := hdl_inj ⟨by omega, by omega⟩ ⟨by omega, by omega⟩ h1
      obtain ⟨h3, h4⟩ := List.append_inj h2 (by omega)
      obtain ⟨e1, e2⟩ := ih h4 hno (fun q hq => hv q (List.mem_cons_of_mem _ hq)) (fun q hq => hv' q (List.mem_cons_of_mem _ hq))
      exact ⟨by rw [h3, e1], e2⟩
theorem splice_put (a l h : List Int) (k : Nat) (hh : h.length = 8) (hk : 8 + l.length ≤ k) : splice (splice (a ++ List.replicate k 0) (a.length + 8) l) a.length h = (a ++ (h ++ l)) ++ List.replicate (k - (8 + l.length)) 0 := by
  have e1 : (a ++ List.replicate k (0 : Int)).take (a.length + 8) = a ++ List.replicate 8 0 := by
    rw [List.take_append, List.take_of_length_le (by omega), Nat.add_sub_cancel_left, List.take_replicate, Nat.min_eq_left (by omega)]
  have e2 : (a ++ List.replicate k (0 : Int)).drop (a.length + 8 + l.length) = List.replicate (k - (8 + l.length)) 0 := by
    rw [List.drop_append, List.drop_eq_nil_of_le (by omega), List.nil_append, List.drop_replicate]
    congr 1
    omega
  unfold splice
  rw [e1, e2, List.append_assoc, List.take_left' rfl]
  rw [List.drop_append, List.drop_eq_nil_of_le (by omega), List.nil_append, hh, Nat.add_sub_cancel_left]
  rw [List.drop_append, List.drop_eq_nil_of_le (by rw [List.length_replicate]; omega), List.nil_append, List.length_replicate, Nat.sub_self, List.drop_zero]
  simp [List.append_assoc]
theorem Rs.lens {w : World} {base : Nat} {bad : Nat → Prop} {v : Value} {rs : List (List Int)} (h : Rs w base bad v rs) : ∀ r ∈ rs, 1 ≤ r.length ∧ r.length ≤ 1024 := fun r hr => by
  obtain ⟨i, hi⟩ := List.getElem?_of_mem hr
  obtain ⟨gr, c, g, o, k, e, a1, a2, a3, a4, a5, a6, a7, a8⟩ := h.get hi
  exact ⟨a6, a7⟩
theorem hdl_byte {n : Int} (h0 : 0 ≤ n) (h1 : n ≤ 1024) : ∀ x ∈ hdl n, 0 ≤ x ∧ x ≤ 255 := by
  intro x hx
  simp [hdl, hd4] at hx
  omega
theorem enc_byte (rs : List (List Int)) (hv : ∀ r ∈ rs, 1 ≤ r.length ∧ r.length ≤ 1024) (hby : ∀ r ∈ rs, ∀ x ∈ r, 0 ≤ x ∧ x ≤ 255) : ∀ x ∈ enc rs, 0 ≤ x ∧ x ≤ 255 := by
  induction rs with
  | nil => intro x hx; cases hx
  | cons r t ih =>
    intro x hx
    have hr := hv r List.mem_cons_self
    simp only [enc, List.mem_append] at hx
    rcases hx with (hx | hx) | hx
    · exact hdl_byte (by omega) (by omega) x hx
    · exact hby r List.mem_cons_self x hx
    · exact ih (fun q hq => hv q (List.mem_cons_of_mem _ hq)) (fun q hq => hby q (List.mem_cons_of_mem _ hq)) x hx
/-- A journal over its disk, all behind the records 0. -/
structure JS (w : World) (B bj bd bs bn bm n : Nat) (v : Value) (rs : List (List Int)) (N : Nat) : Prop where
  j : Jb w bj bd v (enc rs).length false
  r : Rs w B (fun k => k = bs ∨ k = bn) v rs
  d : ∃ st D, Dk w bd bs bn bm n st (enc rs ++ List.replicate (n - (enc rs).length) 0) N D
  e : (enc rs).length ≤ n
theorem JS.below {w W : World} {B bj bd bs bn bm n N : Nat} {v : Value} {rs : List (List Int)} (h : JS w B bj bd bs bn bm n v rs N) (t : Below w.heap.size w W) : JS W B bj bd bs bn bm n v rs N :=
  ⟨h.j.below t, h.r.below t, by obtain ⟨st, D, hd⟩ := h.d; exact ⟨st, D, hd.below t⟩, h.e⟩
/-- Opened: a disk on which records stand, and 0s behind them. -/
theorem js_open {w : World} {bd bs bn bm n : Nat} {st : List Int} {N k : Nat} {D : DataW Unit} {rs : List (List Int)} (B : Nat) (hB : B ≤ w.heap.size) (h : Dk w bd bs bn bm n st (enc rs ++ List.replicate k 0) N D) (hk : (enc rs).length + k = n) (hv : ∀ r ∈ rs, 1 ≤ r.length ∧ r.length ≤ 1024) (hby : ∀ r ∈ rs, ∀ x ∈ r, 0 ≤ x ∧ x ≤ 255) (hn : n ≤ 65536) (n0 : 8 < n) (hN : N + n < 4294967296) :
    Calls Try.prog 16 #[.pointer (some ⟨bd, 0, none⟩)] w fun e w' => ∃ bj v, e = .returned (.tuple #[.pointer (some ⟨bj, 0, none⟩), .nilIface]) ∧ w.heap.size ≤ bj ∧ JS w' B bj bd bs bn bm n v rs (N + n) ∧ (∀ k, v.ownBlock = some k → B ≤ k) ∧ Tn (fun k => k = bs ∨ k = bn ∨ k = bm) w w' := by
  have hby' : ∀ x ∈ enc rs ++ List.replicate k (0 : Int), 0 ≤ x ∧ x ≤ 255 := by
    intro x hx
    rcases List.mem_append.1 hx with hx | hx
    · exact enc_byte rs hv hby x hx
    · have := List.eq_of_mem_replicate hx
      omega
  refine (jo_open B hB h hn n0 hby' hN).mono ?_
  rintro e w' ⟨rs', rest, bj, st', D', rfl, hbj, hnw, hno, hJ, hD, ht⟩
  obtain ⟨v, hj, hr⟩ := hJ.hj
  obtain ⟨rfl, rfl⟩ := scan_uniq hnw hno hv hr.lens
  refine ⟨bj, v, rfl, hbj, ⟨hj, hr, ⟨st', D', ?_⟩, by omega⟩, fun k hk => ?_, ht⟩
  · rw [List.length_replicate] at hD
    rw [show n - (enc rs).length = k by omega]
    exact hD
  · obtain ⟨vs, ho, -⟩ := hr
    exact own_base ho hk

end Go.Proofs.Ythblaehmdailhaa.PJournalStays
