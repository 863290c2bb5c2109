import Derived.Test.YthblaehmdailhaaJK
namespace Go.Proofs.Ythblaehmdailhaa.PJournalStays
open Go.RowKit Go.Proofs.YthblaehmdailhaaW.PrintWords Go.Proofs.YthblaehmdailhaaW.PrintLast Go.Proofs.YthblaehmdailhaaW.PrintMore
set_option linter.unusedVariables false
set_option linter.unusedSimpArgs false
attribute [local go_sem high] slEq slNe slEq0 slNe0 cerEqI cerEqL cerEqR cerNeI cerNeL cerNeR
theorem sp_get (L cs : List Int) (off p : Nat) (h : off + cs.length ≤ L.length) : (splice L off cs)[p]? = if off ≤ p ∧ p < off + cs.length then cs[p - off]? else L[p]? := by
  unfold splice
  have e : (L.take off).length = off := by rw [List.length_take]; omega
  by_cases h1 : p < off
  · rw [if_neg (by omega), List.getElem?_append_left (by omega), List.getElem?_take, if_pos h1]
  · rw [List.getElem?_append_right (by omega), e]
    by_cases h2 : p < off + cs.length
    · rw [if_pos ⟨by omega, h2⟩, List.getElem?_append_left (by omega)]
    · rw [if_neg (by omega), List.getElem?_append_right (by omega), List.getElem?_drop]
      congr 1
      omega
theorem crash_step {st nw : List Int} {ks : List Nat} {P : List Int} {n : Nat} (h1 : st.length = n) (h2 : nw.length = n) (hk : ∀ b ∈ ks, b * 64 + 64 ≤ n) (i b p : Nat) (hb : ks[i]? = some b) :
    (crashN st nw ks P (i + 1))[p]? = if b * 64 ≤ p ∧ p < b * 64 + keepN P i then nw[p]? else (crashN st nw ks P i)[p]? := by
  have hl := crashN_length h1 h2 hk (P := P) i
  have kl := keepN_le P i
  have hm := hk b (List.mem_of_getElem? hb)
  have e : ((nw.drop (b * 64)).take (keepN P i)).length = keepN P i := by rw [List.length_take, List.length_drop]; omega
  have ec : crashN st nw ks P (i + 1) = splice (crashN st nw ks P i) (b * 64) ((nw.drop (b * 64)).take (keepN P i)) := by
    show (match ks[i]? with | some b => splice (crashN st nw ks P i) (b * 64) ((nw.drop (b * 64)).take (keepN P i)) | none => crashN st nw ks P i) = _
    rw [hb]
  rw [ec, sp_get _ _ _ _ (by rw [e]; omega), e]
  by_cases c : b * 64 ≤ p ∧ p < b * 64 + keepN P i
  · rw [if_pos c, if_pos c, List.getElem?_take, if_pos (by omega), List.getElem?_drop]
    congr 1
    omega
  · rw [if_neg c, if_neg c]
theorem crash_none {st nw : List Int} {ks : List Nat} {P : List Int} (i : Nat) (h : ks[i]? = none) : crashN st nw ks P (i + 1) = crashN st nw ks P i := by
  show (match ks[i]? with | some b => splice (crashN st nw ks P i) (b * 64) ((nw.drop (b * 64)).take (keepN P i)) | none => crashN st nw ks P i) = _
  rw [h]
theorem crash_at {st nw : List Int} {ks : List Nat} {P : List Int} {n : Nat} (h1 : st.length = n) (h2 : nw.length = n) (hk : ∀ b ∈ ks, b * 64 + 64 ≤ n) (i p : Nat) : (crashN st nw ks P i)[p]? = st[p]? ∨ (crashN st nw ks P i)[p]? = nw[p]? := by
  induction i with
  | zero => exact Or.inl rfl
  | succ i ih =>
    cases hb : ks[i]? with
    | none => rw [crash_none i hb]; exact ih
    | some b =>
      rw [crash_step h1 h2 hk i b p hb]
      split
      · exact Or.inr rfl
      · exact ih
theorem asc_ge : ∀ (l : List Nat) (c : Nat), l.Pairwise (· < ·) → (∀ b ∈ l, c ≤ b) → ∀ i (h : i < l.length), c + i ≤ l[i] := by
  intro l
  induction l with
  | nil => intro c _ _ i h; cases h
  | cons a t ih =>
    intro c hp hc i h
    rcases i with _ | i
    · exact hc a (List.mem_cons_self ..)
    · have ha := hc a (List.mem_cons_self ..)
      have := ih (a + 1) (List.pairwise_cons.1 hp).2 (fun b hb => (List.pairwise_cons.1 hp).1 b hb) i (by simpa using h)
      simp only [List.getElem_cons_succ]
      omega
theorem asc_len {l : List Nat} {M : Nat} (hp : l.Pairwise (· < ·)) (hM : ∀ b ∈ l, b < M) : l.length ≤ M := by
  by_cases c : l.length ≤ M
  · exact c
  · have := asc_ge l 0 hp (fun b _ => Nat.zero_le b) M (by omega)
    have := hM l[M] (List.getElem_mem _)
    omega
theorem ks_dirt (at_ k M : Nat) (h : at_ + k ≤ M * 64) : ∃ ks, Ks (dirt (.map [] : DataW Unit) at_ k) ks ∧ (∀ b ∈ ks, b * 64 + 64 ≤ M * 64) ∧ ks.length ≤ M ∧ ∀ i, i < k → (at_ + i) / 64 ∈ ks := by
  obtain ⟨ks, hk, hm⟩ := Ks.dirt Go.Maps.isMap_empty Ks.nil at_ k
  have hb : ∀ b ∈ ks, b < M := fun b hb => by
    rcases (hm b).1 hb with h | ⟨i, h1, h2⟩
    · cases h
    · omega
  exact ⟨ks, hk, fun b q => by have := hb b q; omega, asc_len hk.1 hb, fun i hi => (hm _).2 (Or.inr ⟨i, hi, rfl⟩)⟩
theorem Pk.of_C {w : World} {A : Option Addr} {l : List Int} (h : Kd.C (Kd.int .i64) w A l.length l) : ∀ (i : Nat) (p : Int), l[i]? = some p → ∃ ad, A = some ad ∧ w.cell? (ad.add i) = some (.int .i64 p) := by
  intro i p hi
  obtain ⟨ad, e, hc⟩ := h.2.2 (by have := (List.getElem?_eq_some_iff.1 hi).1; omega)
  refine ⟨ad, e, ?_⟩
  obtain ⟨c, hl, hk, hcell⟩ := hc i p hi
  have hk : c = [.int .i64 p] := hk
  subst hk
  have := hcell 0 _ rfl
  exact (congrArg (fun z => w.cell? (ad.add z)) (by show i = i * 1 + 0; omega)).trans this
theorem pk_crash {w W : World} {A : Option Addr} {l : List Int} {bs : Nat} (h : Kd.C (Kd.int .i64) w A l.length l) (hb : Below w.heap.size w W) (g : w.heap.size ≤ bs) : ∀ (i : Nat) (p : Int), l[i]? = some p → ∃ ad, A = some ad ∧ ad.block ≠ bs ∧ W.cell? (ad.add i) = some (.int .i64 p) := by
  intro i p hi
  obtain ⟨ad, e, hc⟩ := Pk.of_C h i p hi
  have lt := World.block_lt_of_cell? w _ hc
  refine ⟨ad, e, ?_, (hb.cell lt).trans hc⟩
  rw [ad_block] at lt
  omega
theorem rec_zero {rest : List Int} (h : rest.take 8 = List.replicate 8 0) : ∀ m, ¬ isRec rest m := by
  rintro m ⟨m1, m2, m3, m4⟩
  rw [h] at m4
  simp [hdl, hd4, List.replicate] at m4
  omega
theorem rec_mix {rest : List Int} {L : Int} (hL : 1 ≤ L ∧ L ≤ 1024) (h : ∀ i, i < 8 → rest[i]? = some 0 ∨ rest[i]? = (hdl L)[i]?) (hne : rest.take 8 ≠ hdl L) : ∀ m, ¬ isRec rest m := by
  rintro m ⟨m1, m2, m3, m4⟩
  apply hne
  have key : ∀ i, i < 8 → (hdl m)[i]? = some 0 ∨ (hdl m)[i]? = (hdl L)[i]? := fun i hi => by
    have e : (hdl m)[i]? = rest[i]? := by rw [← m4, List.getElem?_take, if_pos hi]
    rw [e]
    exact h i hi
  have k0 := key 0 (by decide)
  have k1 := key 1 (by decide)
  have k4 := key 4 (by decide)
  have k5 := key 5 (by decide)
  simp [hdl, hd4] at k0 k1 k4 k5
  have e : m = L := by omega
  rw [m4, e]
theorem sp_byte {L cs : List Int} (off : Nat) (h1 : ∀ x ∈ L, 0 ≤ x ∧ x ≤ 255) (h2 : ∀ x ∈ cs, 0 ≤ x ∧ x ≤ 255) : ∀ x ∈ splice L off cs, 0 ≤ x ∧ x ≤ 255 := by
  intro x hx
  unfold splice at hx
  rcases List.mem_append.1 hx with hx | hx
  · exact h1 x (List.mem_of_mem_take hx)
  · rcases List.mem_append.1 hx with hx | hx
    · exact h2 x hx
    · exact h1 x (List.mem_of_mem_drop hx)
theorem mix_byte {c st nw : List Int} (h : ∀ p : Nat, c[p]? = st[p]? ∨ c[p]? = nw[p]?) (h1 : ∀ x ∈ st, 0 ≤ x ∧ x ≤ 255) (h2 : ∀ x ∈ nw, 0 ≤ x ∧ x ≤ 255) : ∀ x ∈ c, 0 ≤ x ∧ x ≤ 255 := by
  intro x hx
  obtain ⟨p, hp⟩ := List.getElem?_of_mem hx
  rcases h p with e | e
  · exact h1 x (List.mem_of_getElem? (e.symm.trans hp))
  · exact h2 x (List.mem_of_getElem? (e.symm.trans hp))
section
variable {rs : List (List Int)} {l c : List Int} {k : Nat}
theorem st_x (i : Nat) (hi : i < k) : (enc rs ++ List.replicate k (0 : Int))[(enc rs).length + i]? = some 0 := by
  rw [List.getElem?_append_right (by omega), Nat.add_sub_cancel_left, List.getElem?_replicate, if_pos hi]
theorem st_y (hk : 8 + l.length ≤ k) (p : Nat) : (splice (enc rs ++ List.replicate k 0) ((enc rs).length + 8) l)[p]? = if (enc rs).length + 8 ≤ p ∧ p < (enc rs).length + 8 + l.length then l[p - ((enc rs).length + 8)]? else (enc rs ++ List.replicate k (0 : Int))[p]? :=
  sp_get _ _ _ _ (by rw [List.length_append, List.length_replicate]; omega)
theorem st_yl (hk : 8 + l.length ≤ k) : (splice (enc rs ++ List.replicate k (0 : Int)) ((enc rs).length + 8) l).length = (enc rs).length + k := by
  rw [length_splice _ _ _ (by rw [List.length_append, List.length_replicate]; omega), List.length_append, List.length_replicate]
theorem st_z (hk : 8 + l.length ≤ k) (h : List Int) (hh : h.length = 8) (p : Nat) : (splice (splice (enc rs ++ List.replicate k 0) ((enc rs).length + 8) l) (enc rs).length h)[p]? = if (enc rs).length ≤ p ∧ p < (enc rs).length + 8 then h[p - (enc rs).length]? else (splice (enc rs ++ List.replicate k (0 : Int)) ((enc rs).length + 8) l)[p]? := by
  have e := sp_get (splice (enc rs ++ List.replicate k (0 : Int)) ((enc rs).length + 8) l) h (enc rs).length p (by rw [st_yl hk, hh]; omega)
  rwa [hh] at e
theorem st_head (hc : c.length = (enc rs).length + k) (h : ∀ p, p < (enc rs).length → c[p]? = (enc rs)[p]?) : c = enc rs ++ c.drop (enc rs).length ∧ (c.drop (enc rs).length).length = k := by
  refine ⟨?_, by rw [List.length_drop]; omega⟩
  have e : c.take (enc rs).length = enc rs := by
    apply List.ext_getElem?
    intro p
    rw [List.getElem?_take]
    by_cases hp : p < (enc rs).length
    · rw [if_pos hp]; exact h p hp
    · rw [if_neg hp, List.getElem?_eq_none (by omega)]
  conv => lhs; rw [← List.take_append_drop (enc rs).length c, e]
theorem st_below (hk : 8 + l.length ≤ k) (p : Nat) (hp : p < (enc rs).length) : (splice (enc rs ++ List.replicate k (0 : Int)) ((enc rs).length + 8) l)[p]? = (enc rs)[p]? := by
  rw [st_y hk, if_neg (by omega), List.getElem?_append_left hp]
/-- Whatever a crash keeps of the first stage. -/
theorem st_one (hk : 8 + l.length ≤ k) (hc : c.length = (enc rs).length + k) (h : ∀ p : Nat, c[p]? = (enc rs ++ List.replicate k (0 : Int))[p]? ∨ c[p]? = (splice (enc rs ++ List.replicate k (0 : Int)) ((enc rs).length + 8) l)[p]?) : ∃ rest, c = enc rs ++ rest ∧ ∀ m, ¬ isRec rest m := by
  obtain ⟨e1, e2⟩ := st_head hc (fun p hp => by
    rcases h p with e | e
    · rw [e, List.getElem?_append_left hp]
    · rw [e, st_below hk p hp])
  refine ⟨_, e1, rec_zero ?_⟩
  apply List.ext_getElem?
  intro i
  rw [List.getElem?_take, List.getElem?_replicate]
  by_cases hi : i < 8
  · rw [if_pos hi, if_pos hi, List.getElem?_drop]
    rcases h ((enc rs).length + i) with e | e
    · rw [e, st_x i (by omega)]
    · rw [e, st_y hk, if_neg (by omega), st_x i (by omega)]
  · rw [if_neg hi, if_neg hi]
/-- Whatever a crash keeps of the third stage. -/
theorem st_three (hk : 8 + l.length ≤ k) (hl : 1 ≤ l.length ∧ l.length ≤ 1024) (hc : c.length = (enc rs).length + k) (h : ∀ p : Nat, c[p]? = (splice (enc rs ++ List.replicate k (0 : Int)) ((enc rs).length + 8) l)[p]? ∨ c[p]? = (splice (splice (enc rs ++ List.replicate k (0 : Int)) ((enc rs).length + 8) l) (enc rs).length (hdl ↑l.length))[p]?) :
    (∃ rest, c = enc rs ++ rest ∧ ∀ m, ¬ isRec rest m) ∨ c = enc (rs ++ [l]) ++ List.replicate (k - (8 + l.length)) 0 := by
  have hz := fun p : Nat => st_z (rs := rs) (k := k) hk (hdl ↑l.length) rfl p
  obtain ⟨e1, e2⟩ := st_head hc (fun p hp => by
    rcases h p with e | e
    · rw [e, st_below hk p hp]
    · rw [e, hz, if_neg (by omega), st_below hk p hp])
  by_cases g : (c.drop (enc rs).length).take 8 = hdl ↑l.length
  · right
    rw [enc_snoc, ← splice_put (enc rs) l (hdl ↑l.length) k rfl hk]
    apply List.ext_getElem?
    intro p
    rw [hz]
    by_cases q : (enc rs).length ≤ p ∧ p < (enc rs).length + 8
    · rw [if_pos q, ← g, List.getElem?_take, if_pos (by omega), List.getElem?_drop]
      congr 1
      omega
    · rw [if_neg q]
      rcases h p with e | e
      · exact e
      · rw [e, hz, if_neg q]
  · left
    refine ⟨_, e1, rec_mix (L := ↑l.length) (by omega) (fun i hi => ?_) g⟩
    rw [List.getElem?_drop]
    rcases h ((enc rs).length + i) with e | e
    · left
      rw [e, st_y hk, if_neg (by omega), st_x i (by omega)]
    · right
      rw [e, hz, if_pos (by omega)]
      congr 1
      omega
end
/-- A journal over its disk, all behind the records 0, and synced. -/
structure JT (w : World) (B bj bd bs bn bm n : Nat) (v : Value) (rs : List (List Int)) (N : Nat) : Prop where
  j : Jb w bj bd v (enc rs).length false
  r : Rs w B (fun k => k = bs ∨ k = bn) v rs
  d : Dk w bd bs bn bm n (enc rs ++ List.replicate (n - (enc rs).length) 0) (enc rs ++ List.replicate (n - (enc rs).length) 0) N (.map [])
  e : (enc rs).length ≤ n
theorem JT.js {w : World} {B bj bd bs bn bm n N : Nat} {v : Value} {rs : List (List Int)} (h : JT w B bj bd bs bn bm n v rs N) : JS w B bj bd bs bn bm n v rs N := ⟨h.j, h.r, ⟨_, _, h.d⟩, h.e⟩
theorem JT.below {w W : World} {B bj bd bs bn bm n N : Nat} {v : Value} {rs : List (List Int)} (h : JT w B bj bd bs bn bm n v rs N) (t : Below w.heap.size w W) : JT W B bj bd bs bn bm n v rs N := ⟨h.j.below t, h.r.below t, h.d.below t, h.e⟩
theorem jt_open {w : World} {bd bs bn bm n : Nat} {c rest : List Int} {N : Nat} {rs : List (List Int)} (B : Nat) (hB : B ≤ w.heap.size) (h : Dk w bd bs bn bm n c c N (.map [])) (hc : c = enc rs ++ rest) (hno : ∀ m, ¬ isRec rest m) (hv : ∀ r ∈ rs, 1 ≤ r.length ∧ r.length ≤ 1024) (hby : ∀ x ∈ c, 0 ≤ x ∧ x ≤ 255) (hn : n ≤ 65536) (n0 : 8 < n) (hN : N + n < 4294967296) :
    Calls Try.prog 16 #[.pointer (some ⟨bd, 0, none⟩)] w fun e w' => ∃ bj v, e = .returned (.tuple #[.pointer (some ⟨bj, 0, none⟩), .nilIface]) ∧ w.heap.size ≤ bj ∧ JT w' B bj bd bs bn bm n v rs (N + n) ∧ (∀ k, v.ownBlock = some k → B ≤ k) ∧ Tn (fun k => k = bs ∨ k = bn ∨ k = bm) w w' := by
  have ln := h.ln
  rw [hc, List.length_append] at ln
  refine (jo_open2 B hB h hn n0 hby hN).mono ?_
  rintro e w' ⟨rs', rest', bj, st', D', rfl, hbj, hnw, hno', hJ, hD, ht, hs⟩
  obtain ⟨v, hj, hr⟩ := hJ.hj
  rw [hc] at hnw
  obtain ⟨rfl, rfl⟩ := scan_uniq2 hnw hno hno' hv hr.lens
  obtain ⟨rfl, rfl⟩ := hs rfl rfl
  refine ⟨bj, v, rfl, hbj, ⟨hj, hr, ?_, by omega⟩, fun k hk => ?_, ht⟩
  · rw [show n - (enc rs).length = rest.length by omega]
    exact hD
  · obtain ⟨vs, ho, -⟩ := hr
    exact own_base ho hk
theorem jt_zero (k : Nat) : ∀ m, ¬ isRec (List.replicate k (0 : Int)) m := by
  rintro m ⟨m1, m2, m3, m4⟩
  rw [List.length_replicate] at m3
  rw [List.take_replicate, Nat.min_eq_left (by omega)] at m4
  simp [hdl, hd4, List.replicate] at m4
  omega
theorem jt_append {w : World} {B bj bd bs bn bm n N : Nat} {v : Value} {rs : List (List Int)} (h : JT w B bj bd bs bn bm n v rs N) (hB : B ≤ w.heap.size) (hn : n ≤ 65536) (ad : Addr) (l : List Int) (cap : Nat) (hs : Src w ad l) (hb : ad.block ≠ bs ∧ ad.block ≠ bn ∧ ad.block ≠ bm) (h1 : 1 ≤ l.length) (h2 : l.length ≤ 1024) (h3 : (enc rs).length + 8 + l.length ≤ n) (hN : N + l.length + 8 < 4294967296) :
    Calls Try.prog 24 #[.pointer (some ⟨bj, 0, none⟩), .slice (some ad) l.length cap] w fun e w' => e = .returned .nilIface ∧ ∃ v', JT w' B bj bd bs bn bm n v' (rs ++ [l]) (N + l.length + 8) ∧ Tn (fun k => k = bs ∨ k = bn ∨ k = bm ∨ k = bj ∨ v.ownBlock = some k) w w' ∧ (v'.ownBlock = v.ownBlock ∨ ∃ k, v'.ownBlock = some k ∧ w.heap.size ≤ k) := by
  have hD := h.d
  have he := enc_len rs
  have hee := h.e
  refine (ja_ok2 h.j h.r (Or.inl rfl) (Or.inr rfl) (fun k q => by rcases q with rfl | rfl; exact hD.hs.lt; exact hD.hn.lt) hB hD hn ad l cap hs hb h1 h2 h3 hN (by omega)).mono ?_
  rintro e w' ⟨rfl, v', hj, hr, hd, ht, hv⟩
  have hl := enc_snoc_len rs l
  rw [splice_put (enc rs) l (hdl ↑l.length) (n - (enc rs).length) rfl (by omega), ← enc_snoc, show n - (enc rs).length - (8 + l.length) = n - (enc (rs ++ [l])).length by omega] at hd
  exact ⟨rfl, v', ⟨by rw [hl]; exact hj, hr, hd, by omega⟩, ht, hv⟩
theorem jt_refuse {w : World} {B bj bd bs bn bm n N : Nat} {v : Value} {rs : List (List Int)} (h : JT w B bj bd bs bn bm n v rs N) (hn : n ≤ 65536) (A : Option Addr) (len cap : Nat) (hl : len ≤ 9223372036854775807) (c : Int) (hc : jmay n (enc rs).length len = some c) :
    Calls Try.prog 24 #[.pointer (some ⟨bj, 0, none⟩), .slice A len cap] w fun e w' => e = .returned (.iface 55 (.int .i64 c)) ∧ Below w.heap.size w w' :=
  ja_fail2 h.j h.d hn h.e A len cap hl c hc
theorem jb_spoil {w : World} {bj bd en : Nat} {v : Value} (h : Jb w bj bd v en false) : Jb (w.setCell ⟨bj, 3, none⟩ (.bool true)) bj bd v en true := by
  unfold Jb at h ⊢
  rw [blk_set h 3 (.bool true)]
  simp
theorem jk_may {n en len : Nat} (h : jmay n en len = none) (he : en ≤ n) : 1 ≤ len ∧ len ≤ 1024 ∧ en + 8 + len ≤ n := by
  unfold jmay jfree at h
  split at h
  · cases h
  · split at h
    · cases h
    · omega

end Go.Proofs.Ythblaehmdailhaa.PJournalStays
