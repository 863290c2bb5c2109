import Derived.Test.YthblaehmdailhaaJKT
namespace Go.Proofs.Ythblaehmdailhaa.PJournalStays
open Go.RowKit Go.Proofs.YthblaehmdailhaaW.PrintWords Go.Proofs.YthblaehmdailhaaW.PrintLast Go.Proofs.YthblaehmdailhaaW.PrintMore
set_option linter.unusedVariables false
set_option linter.unusedSimpArgs false
attribute [local go_sem high] slEq slNe slEq0 slNe0 cerEqI cerEqL cerEqR cerNeI cerNeL cerNeR
/-- What a crash may find behind a start. -/
def Began (rs : List (List Int)) (l : List Int) (n : Nat) (r : Option Int) (s : Nat) (c : List Int) : Prop :=
  (∃ rest, c = enc rs ++ rest ∧ ∀ m, ¬ isRec rest m) ∨ (r = none ∧ s = 3 ∧ c = enc (rs ++ [l]) ++ List.replicate (n - (enc (rs ++ [l])).length) 0)
set_option maxRecDepth 100000 in
theorem jk_start1 {w : World} {B bj bd bs bn bm n N : Nat} {v : Value} {rs : List (List Int)} (h : JT w B bj bd bs bn bm n v rs N) (hn : n ≤ 65536) (n64 : ∃ M, n = M * 64) (hN : N + 4096 < 4294967296) (A : Option Addr) (l : List Int) (cap : Nat) (hl : l.length ≤ 9223372036854775807) (hs : 0 < l.length → ∃ ad, A = some ad ∧ Src w ad l ∧ ad.block ≠ bs ∧ ad.block ≠ bn ∧ ad.block ≠ bm ∧ ad.block ≠ bj) (hby : ∀ x ∈ enc rs, 0 ≤ x ∧ x ≤ 255) (hbl : ∀ x ∈ l, 0 ≤ x ∧ x ≤ 255) :
    Calls Try.prog 34 #[.pointer (some ⟨bj, 0, none⟩), .slice A l.length cap, .int .i64 1] w fun e w' => ∃ r, e = .returned (cer r) ∧ (∃ st nw D ks, Dk w' bd bs bn bm n st nw (N + 2048) D ∧ Ks D ks ∧ (∀ b ∈ ks, b * 64 + 64 ≤ n) ∧ ∀ c : List Int, c.length = n → (∀ p : Nat, c[p]? = st[p]? ∨ c[p]? = nw[p]?) → Began rs l n r 1 c ∧ ∀ x ∈ c, 0 ≤ x ∧ x ≤ 255) ∧ (r = none → 1 ≤ l.length ∧ l.length ≤ 1024 ∧ (enc rs).length + 8 + l.length ≤ n) ∧ Tn (fun k => k = bs ∨ k = bn ∨ k = bm ∨ k = bj) w w' := by
  have HT := Aside0.mk h
  have MY := Aside0.mk (jp_may2 h.j h.d hn h.e A l.length cap hl)
  have HS := Aside0.mk hs
  have HB1 := Aside0.mk hby
  have HB2 := Aside0.mk hbl
  have H64 := Aside0.mk n64
  obtain ⟨q0, q1, q2, q3, f1, f2, f3⟩ := jn_cells h.j
  clear h hs hby hbl n64
  go_enter Try.func34, Try.ntmps34
  go_wp2_with fail
  refine MY.out.mono ?_
  rintro e w2 ⟨rfl, hb⟩
  have HT2 := Aside0.mk (HT.out.below hb)
  have B2 := Aside0.mk hb
  clear hb q0 q1 q2 q3 f1 f2 f3
  cases hm : jmay n (enc rs).length l.length with
  | some c =>
    have HM := Aside0.mk hm
    clear hm
    unfold cer
    go_wp2_with fail
    go_ret
    refine ⟨some c, rfl, ⟨_, _, _, [], HT2.out.d.grow (by omega), Ks.nil, (fun b h => by cases h), fun c hc hp => ?_⟩, (fun h => by cases h), Tn.of_below B2.out⟩
    have e : c = enc rs ++ List.replicate (n - (enc rs).length) 0 := List.ext_getElem? (fun p => by rcases hp p with e | e <;> exact e)
    exact ⟨Or.inl ⟨_, e, jt_zero _⟩, by rw [e]; exact fun x hx => by rcases List.mem_append.1 hx with hx | hx; exact HB1.out x hx; have := List.eq_of_mem_replicate hx; omega⟩
  | none =>
    obtain ⟨m1, m2, m3⟩ := jk_may hm HT.out.e
    clear hm
    obtain ⟨ad, rfl, hsr, hb1, hb2, hb3, hb4⟩ := HS.out (by omega)
    have HSR := Aside0.mk (hsr.below B2.out)
    have HNE := Aside0.mk (And.intro hb1 (And.intro hb2 (And.intro hb3 hb4)))
    obtain ⟨q0, q1, q2, q3, f1, f2, f3⟩ := jn_cells HT2.out.j
    clear hsr hb1 hb2 hb3 hb4
    unfold cer
    go_wp2_with fail
    have t3 := tn_set w2 bj 3 (.bool true)
    have HJ3 := Aside0.mk (jb_spoil HT2.out.j)
    have HD3 := Aside0.mk (HT2.out.d.turn t3 (fun q => ty_ne (q ▸ HT2.out.d.hd) HT2.out.j (by decide)) (fun q => by obtain ⟨r, hr⟩ := HT2.out.d.hs; exact ty_ne (q ▸ hr) HT2.out.j (by decide)) (fun q => by obtain ⟨r, hr⟩ := HT2.out.d.hn; exact ty_ne (q ▸ hr) HT2.out.j (by decide)) (fun q => by obtain ⟨es, cl, hm⟩ := HT2.out.d.map; have hj := HT2.out.j; unfold Jb at hj; rw [← q, hm] at hj; cases hj))
    have HS3 := Aside0.mk (HSR.out.turn t3 HNE.out.2.2.2)
    have T3 : Aside0 (Tn (fun k => k = bs ∨ k = bn ∨ k = bm ∨ k = bj) w (w2.setCell ⟨bj, 3, none⟩ (.bool true))) := ⟨(Tn.of_below B2.out).trans (t3.mono (fun k _ q => Or.inr (Or.inr (Or.inr q))))⟩
    clear t3 q0 q1 q2 q3 f1 f2 f3
    generalize w2.setCell ⟨bj, 3, none⟩ (.bool true) = w3 at HJ3 HD3 HS3 T3 ⊢
    refine (jp_stages1 HJ3.out HD3.out hn ad l cap HS3.out ⟨HNE.out.1, HNE.out.2.1, HNE.out.2.2.1⟩ m1 m2 m3 (by omega)).mono ?_
    rintro e w4 ⟨rfl, hD, ht⟩
    have HD4 := Aside0.mk hD
    have T4 := Aside0.mk (T3.out.trans (ht.mono (S' := fun k => k = bs ∨ k = bn ∨ k = bm ∨ k = bj) (fun k _ q => by rcases q with q | q | q; exact .inl q; exact .inr (.inl q); exact .inr (.inr (.inl q)))))
    clear hD ht
    go_wp2_with fail
    go_ret
    obtain ⟨M, hM⟩ := H64.out
    have k8 : 8 + l.length ≤ n - (enc rs).length := by omega
    have bX : ∀ x ∈ enc rs ++ List.replicate (n - (enc rs).length) (0 : Int), 0 ≤ x ∧ x ≤ 255 := fun x hx => by rcases List.mem_append.1 hx with hx | hx; exact HB1.out x hx; have := List.eq_of_mem_replicate hx; omega
    have bY := sp_byte ((enc rs).length + 8) bX HB2.out
    have cl : ∀ c : List Int, c.length = n → c.length = (enc rs).length + (n - (enc rs).length) := fun c h => by omega
    obtain ⟨ks, hk1, hk2, -, -⟩ := ks_dirt ((enc rs).length + 8) l.length M (by omega)
    rw [← hM] at hk2
    exact ⟨none, rfl, ⟨_, _, _, ks, HD4.out.grow (by omega), hk1, hk2, fun c hc hp => ⟨Or.inl (st_one k8 (cl c hc) hp), mix_byte hp bX bY⟩⟩, fun _ => ⟨m1, m2, m3⟩, T4.out⟩
set_option maxRecDepth 100000 in
theorem jk_start2 {w : World} {B bj bd bs bn bm n N : Nat} {v : Value} {rs : List (List Int)} (h : JT w B bj bd bs bn bm n v rs N) (hn : n ≤ 65536) (n64 : ∃ M, n = M * 64) (hN : N + 4096 < 4294967296) (A : Option Addr) (l : List Int) (cap : Nat) (hl : l.length ≤ 9223372036854775807) (hs : 0 < l.length → ∃ ad, A = some ad ∧ Src w ad l ∧ ad.block ≠ bs ∧ ad.block ≠ bn ∧ ad.block ≠ bm ∧ ad.block ≠ bj) (hby : ∀ x ∈ enc rs, 0 ≤ x ∧ x ≤ 255) (hbl : ∀ x ∈ l, 0 ≤ x ∧ x ≤ 255) :
    Calls Try.prog 34 #[.pointer (some ⟨bj, 0, none⟩), .slice A l.length cap, .int .i64 2] w fun e w' => ∃ r, e = .returned (cer r) ∧ (∃ st nw D ks, Dk w' bd bs bn bm n st nw (N + 2048) D ∧ Ks D ks ∧ (∀ b ∈ ks, b * 64 + 64 ≤ n) ∧ ∀ c : List Int, c.length = n → (∀ p : Nat, c[p]? = st[p]? ∨ c[p]? = nw[p]?) → Began rs l n r 2 c ∧ ∀ x ∈ c, 0 ≤ x ∧ x ≤ 255) ∧ (r = none → 1 ≤ l.length ∧ l.length ≤ 1024 ∧ (enc rs).length + 8 + l.length ≤ n) ∧ Tn (fun k => k = bs ∨ k = bn ∨ k = bm ∨ k = bj) w w' := by
  have HT := Aside0.mk h
  have MY := Aside0.mk (jp_may2 h.j h.d hn h.e A l.length cap hl)
  have HS := Aside0.mk hs
  have HB1 := Aside0.mk hby
  have HB2 := Aside0.mk hbl
  have H64 := Aside0.mk n64
  obtain ⟨q0, q1, q2, q3, f1, f2, f3⟩ := jn_cells h.j
  clear h hs hby hbl n64
  go_enter Try.func34, Try.ntmps34
  go_wp2_with fail
  refine MY.out.mono ?_
  rintro e w2 ⟨rfl, hb⟩
  have HT2 := Aside0.mk (HT.out.below hb)
  have B2 := Aside0.mk hb
  clear hb q0 q1 q2 q3 f1 f2 f3
  cases hm : jmay n (enc rs).length l.length with
  | some c =>
    have HM := Aside0.mk hm
    clear hm
    unfold cer
    go_wp2_with fail
    go_ret
    refine ⟨some c, rfl, ⟨_, _, _, [], HT2.out.d.grow (by omega), Ks.nil, (fun b h => by cases h), fun c hc hp => ?_⟩, (fun h => by cases h), Tn.of_below B2.out⟩
    have e : c = enc rs ++ List.replicate (n - (enc rs).length) 0 := List.ext_getElem? (fun p => by rcases hp p with e | e <;> exact e)
    exact ⟨Or.inl ⟨_, e, jt_zero _⟩, by rw [e]; exact fun x hx => by rcases List.mem_append.1 hx with hx | hx; exact HB1.out x hx; have := List.eq_of_mem_replicate hx; omega⟩
  | none =>
    obtain ⟨m1, m2, m3⟩ := jk_may hm HT.out.e
    clear hm
    obtain ⟨ad, rfl, hsr, hb1, hb2, hb3, hb4⟩ := HS.out (by omega)
    have HSR := Aside0.mk (hsr.below B2.out)
    have HNE := Aside0.mk (And.intro hb1 (And.intro hb2 (And.intro hb3 hb4)))
    obtain ⟨q0, q1, q2, q3, f1, f2, f3⟩ := jn_cells HT2.out.j
    clear hsr hb1 hb2 hb3 hb4
    unfold cer
    go_wp2_with fail
    have t3 := tn_set w2 bj 3 (.bool true)
    have HJ3 := Aside0.mk (jb_spoil HT2.out.j)
    have HD3 := Aside0.mk (HT2.out.d.turn t3 (fun q => ty_ne (q ▸ HT2.out.d.hd) HT2.out.j (by decide)) (fun q => by obtain ⟨r, hr⟩ := HT2.out.d.hs; exact ty_ne (q ▸ hr) HT2.out.j (by decide)) (fun q => by obtain ⟨r, hr⟩ := HT2.out.d.hn; exact ty_ne (q ▸ hr) HT2.out.j (by decide)) (fun q => by obtain ⟨es, cl, hm⟩ := HT2.out.d.map; have hj := HT2.out.j; unfold Jb at hj; rw [← q, hm] at hj; cases hj))
    have HS3 := Aside0.mk (HSR.out.turn t3 HNE.out.2.2.2)
    have T3 : Aside0 (Tn (fun k => k = bs ∨ k = bn ∨ k = bm ∨ k = bj) w (w2.setCell ⟨bj, 3, none⟩ (.bool true))) := ⟨(Tn.of_below B2.out).trans (t3.mono (fun k _ q => Or.inr (Or.inr (Or.inr q))))⟩
    clear t3 q0 q1 q2 q3 f1 f2 f3
    generalize w2.setCell ⟨bj, 3, none⟩ (.bool true) = w3 at HJ3 HD3 HS3 T3 ⊢
    refine (jp_stages2 HJ3.out HD3.out hn ad l cap HS3.out ⟨HNE.out.1, HNE.out.2.1, HNE.out.2.2.1⟩ m1 m2 m3 (by omega)).mono ?_
    rintro e w4 ⟨rfl, hD, ht⟩
    have HD4 := Aside0.mk hD
    have T4 := Aside0.mk (T3.out.trans (ht.mono (S' := fun k => k = bs ∨ k = bn ∨ k = bm ∨ k = bj) (fun k _ q => by rcases q with q | q | q; exact .inl q; exact .inr (.inl q); exact .inr (.inr (.inl q)))))
    clear hD ht
    go_wp2_with fail
    go_ret
    obtain ⟨M, hM⟩ := H64.out
    have k8 : 8 + l.length ≤ n - (enc rs).length := by omega
    have bX : ∀ x ∈ enc rs ++ List.replicate (n - (enc rs).length) (0 : Int), 0 ≤ x ∧ x ≤ 255 := fun x hx => by rcases List.mem_append.1 hx with hx | hx; exact HB1.out x hx; have := List.eq_of_mem_replicate hx; omega
    have bY := sp_byte ((enc rs).length + 8) bX HB2.out
    have cl : ∀ c : List Int, c.length = n → c.length = (enc rs).length + (n - (enc rs).length) := fun c h => by omega
    refine ⟨none, rfl, ⟨_, _, _, [], HD4.out.grow (by omega), Ks.nil, (fun b h => by cases h), fun c hc hp => ⟨Or.inl (st_one k8 (cl c hc) (fun p => Or.inr ?_)), mix_byte hp bY bY⟩⟩, fun _ => ⟨m1, m2, m3⟩, T4.out⟩
    rcases hp p with e | e <;> exact e
set_option maxRecDepth 100000 in
theorem jk_start3 {w : World} {B bj bd bs bn bm n N : Nat} {v : Value} {rs : List (List Int)} (h : JT w B bj bd bs bn bm n v rs N) (hn : n ≤ 65536) (n64 : ∃ M, n = M * 64) (hN : N + 4096 < 4294967296) (A : Option Addr) (l : List Int) (cap : Nat) (hl : l.length ≤ 9223372036854775807) (hs : 0 < l.length → ∃ ad, A = some ad ∧ Src w ad l ∧ ad.block ≠ bs ∧ ad.block ≠ bn ∧ ad.block ≠ bm ∧ ad.block ≠ bj) (hby : ∀ x ∈ enc rs, 0 ≤ x ∧ x ≤ 255) (hbl : ∀ x ∈ l, 0 ≤ x ∧ x ≤ 255) :
    Calls Try.prog 34 #[.pointer (some ⟨bj, 0, none⟩), .slice A l.length cap, .int .i64 3] w fun e w' => ∃ r, e = .returned (cer r) ∧ (∃ st nw D ks, Dk w' bd bs bn bm n st nw (N + 2048) D ∧ Ks D ks ∧ (∀ b ∈ ks, b * 64 + 64 ≤ n) ∧ ∀ c : List Int, c.length = n → (∀ p : Nat, c[p]? = st[p]? ∨ c[p]? = nw[p]?) → Began rs l n r 3 c ∧ ∀ x ∈ c, 0 ≤ x ∧ x ≤ 255) ∧ (r = none → 1 ≤ l.length ∧ l.length ≤ 1024 ∧ (enc rs).length + 8 + l.length ≤ n) ∧ Tn (fun k => k = bs ∨ k = bn ∨ k = bm ∨ k = bj) w w' := by
  have HT := Aside0.mk h
  have MY := Aside0.mk (jp_may2 h.j h.d hn h.e A l.length cap hl)
  have HS := Aside0.mk hs
  have HB1 := Aside0.mk hby
  have HB2 := Aside0.mk hbl
  have H64 := Aside0.mk n64
  obtain ⟨q0, q1, q2, q3, f1, f2, f3⟩ := jn_cells h.j
  clear h hs hby hbl n64
  go_enter Try.func34, Try.ntmps34
  go_wp2_with fail
  refine MY.out.mono ?_
  rintro e w2 ⟨rfl, hb⟩
  have HT2 := Aside0.mk (HT.out.below hb)
  have B2 := Aside0.mk hb
  clear hb q0 q1 q2 q3 f1 f2 f3
  cases hm : jmay n (enc rs).length l.length with
  | some c =>
    have HM := Aside0.mk hm
    clear hm
    unfold cer
    go_wp2_with fail
    go_ret
    refine ⟨some c, rfl, ⟨_, _, _, [], HT2.out.d.grow (by omega), Ks.nil, (fun b h => by cases h), fun c hc hp => ?_⟩, (fun h => by cases h), Tn.of_below B2.out⟩
    have e : c = enc rs ++ List.replicate (n - (enc rs).length) 0 := List.ext_getElem? (fun p => by rcases hp p with e | e <;> exact e)
    exact ⟨Or.inl ⟨_, e, jt_zero _⟩, by rw [e]; exact fun x hx => by rcases List.mem_append.1 hx with hx | hx; exact HB1.out x hx; have := List.eq_of_mem_replicate hx; omega⟩
  | none =>
    obtain ⟨m1, m2, m3⟩ := jk_may hm HT.out.e
    clear hm
    obtain ⟨ad, rfl, hsr, hb1, hb2, hb3, hb4⟩ := HS.out (by omega)
    have HSR := Aside0.mk (hsr.below B2.out)
    have HNE := Aside0.mk (And.intro hb1 (And.intro hb2 (And.intro hb3 hb4)))
    obtain ⟨q0, q1, q2, q3, f1, f2, f3⟩ := jn_cells HT2.out.j
    clear hsr hb1 hb2 hb3 hb4
    unfold cer
    go_wp2_with fail
    have t3 := tn_set w2 bj 3 (.bool true)
    have HJ3 := Aside0.mk (jb_spoil HT2.out.j)
    have HD3 := Aside0.mk (HT2.out.d.turn t3 (fun q => ty_ne (q ▸ HT2.out.d.hd) HT2.out.j (by decide)) (fun q => by obtain ⟨r, hr⟩ := HT2.out.d.hs; exact ty_ne (q ▸ hr) HT2.out.j (by decide)) (fun q => by obtain ⟨r, hr⟩ := HT2.out.d.hn; exact ty_ne (q ▸ hr) HT2.out.j (by decide)) (fun q => by obtain ⟨es, cl, hm⟩ := HT2.out.d.map; have hj := HT2.out.j; unfold Jb at hj; rw [← q, hm] at hj; cases hj))
    have HS3 := Aside0.mk (HSR.out.turn t3 HNE.out.2.2.2)
    have T3 : Aside0 (Tn (fun k => k = bs ∨ k = bn ∨ k = bm ∨ k = bj) w (w2.setCell ⟨bj, 3, none⟩ (.bool true))) := ⟨(Tn.of_below B2.out).trans (t3.mono (fun k _ q => Or.inr (Or.inr (Or.inr q))))⟩
    clear t3 q0 q1 q2 q3 f1 f2 f3
    generalize w2.setCell ⟨bj, 3, none⟩ (.bool true) = w3 at HJ3 HD3 HS3 T3 ⊢
    refine (jp_stages3 HJ3.out HD3.out hn ad l cap HS3.out ⟨HNE.out.1, HNE.out.2.1, HNE.out.2.2.1⟩ m1 m2 m3 (by omega)).mono ?_
    rintro e w4 ⟨rfl, hD, ht⟩
    have HD4 := Aside0.mk hD
    have T4 := Aside0.mk (T3.out.trans (ht.mono (S' := fun k => k = bs ∨ k = bn ∨ k = bm ∨ k = bj) (fun k _ q => by rcases q with q | q | q; exact .inl q; exact .inr (.inl q); exact .inr (.inr (.inl q)))))
    clear hD ht
    go_wp2_with fail
    go_ret
    obtain ⟨M, hM⟩ := H64.out
    have k8 : 8 + l.length ≤ n - (enc rs).length := by omega
    have bX : ∀ x ∈ enc rs ++ List.replicate (n - (enc rs).length) (0 : Int), 0 ≤ x ∧ x ≤ 255 := fun x hx => by rcases List.mem_append.1 hx with hx | hx; exact HB1.out x hx; have := List.eq_of_mem_replicate hx; omega
    have bY := sp_byte ((enc rs).length + 8) bX HB2.out
    have cl : ∀ c : List Int, c.length = n → c.length = (enc rs).length + (n - (enc rs).length) := fun c h => by omega
    obtain ⟨ks, hk1, hk2, -, -⟩ := ks_dirt (enc rs).length 8 M (by omega)
    rw [← hM] at hk2
    have bZ := sp_byte (enc rs).length bY (hdl_byte (n := ↑l.length) (by omega) (by omega))
    have hl := enc_snoc_len rs l
    refine ⟨none, rfl, ⟨_, _, _, ks, HD4.out.grow (by omega), hk1, hk2, fun c hc hp => ⟨?_, mix_byte hp bY bZ⟩⟩, fun _ => ⟨m1, m2, m3⟩, T4.out⟩
    rcases st_three k8 ⟨m1, m2⟩ (cl c hc) hp with h | h
    · exact Or.inl h
    · exact Or.inr ⟨rfl, rfl, by rw [h]; congr 2; omega⟩

end Go.Proofs.Ythblaehmdailhaa.PJournalStays
