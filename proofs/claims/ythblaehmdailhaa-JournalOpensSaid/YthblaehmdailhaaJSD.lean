import Derived.Test.YthblaehmdailhaaJSC
import Derived.Lib.Bytes
namespace Go.Proofs.Ythblaehmdailhaa.PJournalStays
open Go.RowKit Go.Proofs.YthblaehmdailhaaW.PrintWords Go.Proofs.YthblaehmdailhaaW.PrintLast Go.Proofs.YthblaehmdailhaaW.PrintMore
set_option linter.unusedVariables false
set_option linter.unusedSimpArgs false
attribute [local go_sem high] slEq slNe slEq0 slNe0
theorem jst_list {w : World} {g : Nat} {l : List Int} (h : Blk w g ([] ++ l)) : Blk w g l := h
theorem str_inj {a b : List Int} (ha : ∀ x ∈ a, 0 ≤ x ∧ x ≤ 255) (hb : ∀ x ∈ b, 0 ≤ x ∧ x ≤ 255) : (strOfNums a).toList = (strOfNums b).toList ↔ a = b := by
  have key : ∀ {a b : List Int}, (∀ x ∈ a, 0 ≤ x ∧ x ≤ 255) → (∀ x ∈ b, 0 ≤ x ∧ x ≤ 255) → a.map (fun n => UInt8.ofNat n.toNat) = b.map (fun n => UInt8.ofNat n.toNat) → a = b := by
    intro a
    induction a with
    | nil => intro b _ _ h; cases b with | nil => rfl | cons y ys => cases h
    | cons x xs ih =>
      intro b ha hb h
      cases b with
      | nil => cases h
      | cons y ys =>
        simp only [List.map_cons, List.cons.injEq] at h
        have h1 := ha x List.mem_cons_self
        have h2 := hb y List.mem_cons_self
        have e := congrArg UInt8.toNat h.1
        rw [UInt8.toNat_ofNat', UInt8.toNat_ofNat'] at e
        rw [ih (fun z hz => ha z (List.mem_cons_of_mem _ hz)) (fun z hz => hb z (List.mem_cons_of_mem _ hz)) h.2]
        congr 1
        omega
  constructor
  · intro h
    rw [Lib.strOfNums_toList, Lib.strOfNums_toList] at h
    unfold Lib.bytesOf at h
    exact key ha hb h
  · intro h
    rw [h]
theorem js_step {w wr w5 w6 : World} {en f go co : Nat} {l rest : List Int} {rs : List (List Int)} {v v6 : Value} {vs : List Value} {ob : Obj} (hen : (enc rs).length = en) (hll : en + rest.length = l.length) (hl : l = enc rs ++ rest) (hr : isRec rest ↑f) (hBO : Blk w5 go ((rest.drop 8).take f)) (hGO : wr.heap.size ≤ go ∧ f ≤ co ∧ co ≤ maxLen) (hwr : Below w.heap.size w wr)
    (hO : w5.ownsRow w.heap.size 22 1 v rs.length vs) (hvs : ∀ (i : Nat) (r : List Int), rs[i]? = some r → ∃ g o c, vs[i]? = some (.slice (some ⟨g, o, none⟩) r.length c) ∧ Src w5 ⟨g, o, none⟩ r ∧ w.heap.size ≤ g ∧ ¬ (fun _ => False) g ∧ 1 ≤ r.length ∧ r.length ≤ 1024 ∧ r.length ≤ c ∧ ∃ cs, w5.heap[g]? = some (.cells cs 5 (0, 0)))
    (hB5 : Below w.heap.size w w5) (ho6 : w6.ownsRow w.heap.size 22 1 v6 (rs.length + 1) (vs ++ [.slice (some ⟨go, 0, none⟩) f co])) (hg6 : (w5.alloc ob).grownBy w6 v.ownBlock) :
    ∃ rs' rest', (↑en + 8 + ↑f : Int) = ↑(enc rs').length ∧ l = enc rs' ++ rest' ∧ Rs w6 w.heap.size (fun _ => False) v6 rs' ∧ Below w.heap.size w w6 := by
  have hf1 := hr.1
  have hf2 := hr.2.1
  have hf3 := hr.2.2.1
  obtain ⟨e1, e2⟩ := jo_split (m := f) (by omega) hr.2.2.2
  refine ⟨rs ++ [(rest.drop 8).take f], rest.drop (8 + f), ?_, ?_, ?_, Tn.below hB5 (jn_tn hg6) hB5.size (fun k q => own_base hO q)⟩
  · rw [enc_snoc, List.length_append, List.length_append, e1, hen, show (hdl (↑f : Int)).length = 8 from rfl]
    omega
  · rw [enc_snoc, hl, List.append_assoc, ← e2]
  · refine Rs.snoc (r := (rest.drop 8).take f) (g := go) (o := 0) (c := co) hvs (jn_tn hg6) (fun k c q h => ?_) ?_ ?_ ?_ ?_ (fun q => q) (by omega) (by omega) (by omega) ?_
    · obtain ⟨c', h'⟩ := own_typed hO q
      rw [h] at h'
      cases h'
    · have := hO.1; omega
    · rw [e1]; exact ho6
    · exact hBO.src 0 (fun j x hx => by rwa [Nat.zero_add])
    · have := hwr.size; omega
    · obtain ⟨r, h⟩ := hBO; exact ⟨_, h⟩
set_option maxHeartbeats 2000000 in
set_option maxRecDepth 100000 in
theorem js_scan (g c : Nat) (l : List Int) (w : World) (hb : Blk w g l) (hl : l.length ≤ 65536) (hc : l.length ≤ c) (hc2 : c ≤ 65536) (hby : ∀ x ∈ l, 0 ≤ x ∧ x ≤ 255) : Calls Try.prog 40 #[.slice (some ⟨g, 0, none⟩) l.length c] w fun e w' => ∃ rs rest vo, e = .returned (.tuple #[vo, .int .i64 ↑(enc rs).length]) ∧ l = enc rs ++ rest ∧ (∀ m, ¬ isRec rest m) ∧ Rs w' w.heap.size (fun _ => False) vo rs ∧ Below w.heap.size w w' := by
  have HBK := Aside0.mk hb
  have HBY := Aside0.mk hby
  clear hb hby
  go_enter Try.func40, Try.ntmps40
  go_wp2_with fail
  go_loopw [4, 5] (fun v4 v5 wr => ∃ rs rest, v5 = .int .i64 ↑(enc rs).length ∧ Aside0 (l = enc rs ++ rest ∧ Rs wr w.heap.size (fun _ => False) v4 rs ∧ Below w.heap.size w wr)) (fun _ v5 _ => (l.length - intOf v5).toNat)
  case atStart => exact ⟨[], l, rfl, ⟨rfl, Rs.nil _ _ _, Below.refl _ _⟩⟩
  case round =>
    obtain ⟨rs, rest, rfl, HX⟩ := hrel
    have hll : (enc rs).length + rest.length = l.length := by have h := congrArg List.length HX.out.1; rw [List.length_append] at h; omega
    obtain ⟨en, hen⟩ : ∃ en, (enc rs).length = en := ⟨_, rfl⟩
    have HEN := Aside0.mk hen
    rw [hen] at hll ⊢
    clear hen
    by_cases ci : en + 8 < l.length
    · have ci2 : (↑en + 8 : Int) < ↑l.length := by omega
      have RB : Aside0 (∀ x ∈ rest, 0 ≤ x ∧ x ≤ 255) := ⟨fun x hx => HBY.out x (by rw [HX.out.1]; exact List.mem_append_right _ hx)⟩
      have RS : Aside0 (∀ W, Below w.heap.size w W → Src W ⟨g, en, none⟩ rest) := ⟨fun W hW => (HBK.out.turn (S := fun _ => False) (Tn.of_below hW) id).src en (fun j x hx => by rw [HX.out.1, List.getElem?_append_right (by rw [HEN.out]; omega), HEN.out, Nat.add_sub_cancel_left]; exact hx)⟩
      go_wp2_with fail
      go_loopw [6, 7] (fun v6 v7 wq => ∃ f m : Nat, v6 = .int .i64 ↑f ∧ v7 = .int .i64 ↑m ∧ Aside0 (1 ≤ m ∧ m ≤ 1025 ∧ ((f = 0 ∧ ∀ k : Int, k < m → ¬ isRec rest k) ∨ (0 < f ∧ isRec rest ↑f)) ∧ Rs wq w.heap.size (fun _ => False) u4 rs ∧ Below w.heap.size w wq)) (fun _ v7 _ => (2000 - intOf v7).toNat)
      case atStart => exact ⟨0, 1, rfl, rfl, ⟨Nat.le_refl _, by omega, Or.inl ⟨rfl, fun k hk hi => by have := hi.1; omega⟩, HX.out.2.1, HX.out.2.2⟩⟩
      case round =>
        obtain ⟨f, m, rfl, rfl, HY⟩ := hrel
        by_cases cm : m ≤ 1024 ∧ en + 8 + m ≤ l.length
        · have cm1 : decide ((↑m : Int) ≤ 1024) = true := decide_eq_true (by omega)
          have cm2 : decide ((↑en + 8 + ↑m : Int) ≤ ↑l.length) = true := decide_eq_true (by omega)
          have hm1 := HY.out.1
          have hm2 : m ≤ 1024 := cm.1
          go_wp2_with fail
          have B1 := Aside0.mk (below_drew1 HY.out.2.2.2.2)
          have R1 := Aside0.mk (HY.out.2.2.2.1.below (below_drew1 (Below.refl wr.heap.size wr)))
          have hw8 : wrap64 (↑en + 8) = (↑(en + 8) : Int) := by unfold wrap64; omega
          obtain ⟨e8, he8⟩ : ∃ e8, en + 8 = e8 := ⟨_, rfl⟩
          rw [he8] at hw8
          have HW8 := Aside0.mk hw8
          have hle : (rest.take 8).length = 8 := by rw [List.length_take]; omega
          have SS : Aside0 (∀ W, Below w.heap.size w W → (convert 22 9 (.slice (some ⟨g, en, none⟩) 8 (c - en))).run Try.prog W = .ok (.string (strOfNums (rest.take 8))) W) := ⟨fun W hW => by
            have h := Src.str (l := rest.take 8) (fun j x hx => RS.out W hW j x (jr_take hx)) (c - en) (by omega)
            rwa [hle] at h⟩
          generalize hs8 : strOfNums (rest.take 8) = s8 at SS
          have HS8 := Aside0.mk hs8
          have cne : (c = en) = False := eq_false (by omega)
          have z1 : (0 : Int) ≤ ↑en := by omega
          have z2 : (↑en : Int) ≤ ↑e8 := by omega
          have z3 : (↑e8 : Int) ≤ ↑c := by omega
          have z4 : e8 - en = 8 := by omega
          clear hw8 he8 hle hs8
          refine start_ (n := 10) (S := fun w' => (convert 22 9 (.slice (some ⟨g, en, none⟩) 8 (c - en))).run Try.prog w' = .ok (.string s8) w') (ds := []) #[false, false, false, false, false, false, false, false, false, false] (by kernel_rfl) rfl rfl (SS.out _ B1.out) (fun hHeld => ?_)
          generalize wr.drew = wd at hHeld B1 R1 ⊢
          refine pure_ (i := 0) (N := some 26) (v := ?_) (a' := ?_) #[true, false, false, false, false, false, false, false, false, false] rfl rfl (by kernel_rfl) (fun _ _ _ h => h) (Or.inl ⟨by rfl, ?_⟩) ?_ ?_
          rotate_left
          · intro w'
            go_simp
            with_reducible rfl
          rotate_left
          · simp only [Act.put, List.setIfInBounds_toArray, List.set_cons_zero, List.set_cons_succ, i64_w, i32_w]
            rfl
          refine pure_ (i := 3) (N := some 29) (v := ?_) (a' := ?_) #[true, false, false, true, false, false, false, false, false, false] rfl rfl (by kernel_rfl) (fun _ _ _ h => h) (Or.inl ⟨by rfl, ?_⟩) ?_ ?_
          rotate_left
          · intro w'
            go_simp
            with_reducible rfl
          rotate_left
          · simp only [Act.put, List.setIfInBounds_toArray, List.set_cons_zero, List.set_cons_succ, i64_w, i32_w]
            rfl
          refine pure_ (i := 4) (N := some 30) (v := ?_) (a' := ?_) #[true, false, false, true, true, false, false, false, false, false] rfl rfl (by kernel_rfl) (fun _ _ _ h => h) (Or.inl ⟨by rfl, ?_⟩) ?_ ?_
          rotate_left
          · intro w'
            go_simp
            with_reducible rfl
          rotate_left
          · simp only [Act.put, List.setIfInBounds_toArray, List.set_cons_zero, List.set_cons_succ, i64_w, i32_w]
            rfl
          refine pure_ (i := 5) (N := some 31) (v := ?_) (a' := ?_) #[true, false, false, true, true, true, false, false, false, false] rfl rfl (by kernel_rfl) (fun _ _ _ h => h) (Or.inl ⟨by rfl, ?_⟩) ?_ ?_
          rotate_left
          · intro w'
            go_simp
            with_reducible rfl
          rotate_left
          · simp only [Act.put, List.setIfInBounds_toArray, List.set_cons_zero, List.set_cons_succ, i64_w, i32_w]
            rfl
          refine pure_ (i := 6) (N := some 32) (v := ?_) (a' := ?_) #[true, false, false, true, true, true, true, false, false, false] rfl rfl (by kernel_rfl) (fun _ _ _ h => h) (Or.inl ⟨by rfl, ?_⟩) ?_ ?_
          rotate_left
          · intro w'
            go_simp
            with_reducible rfl
          rotate_left
          · simp only [Act.put, List.setIfInBounds_toArray, List.set_cons_zero, List.set_cons_succ, i64_w, i32_w]
            rfl
          rw [HW8.out]
          refine pure_ (i := 7) (N := some 33) (v := ?_) (a' := ?_) #[true, false, false, true, true, true, true, true, false, false] rfl rfl (by kernel_rfl) (fun _ _ _ h => h) (Or.inl ⟨by rfl, ?_⟩) ?_ ?_
          rotate_left
          · intro w'
            go_simp
            with_reducible rfl
          rotate_left
          · simp only [Act.put, List.setIfInBounds_toArray, List.set_cons_zero, List.set_cons_succ, i64_w, i32_w]
            rfl
          refine take_ (i := 8) (N := some 34) (v := ?_) (a' := ?_) #[true, false, false, true, true, true, true, true, true, false] rfl rfl (by kernel_rfl) (fun _ _ _ h => h) (Or.inl ⟨by rfl, ?_⟩) hHeld ?_ ?_
          rotate_left
          · rintro w' s0
            go_simp
            with_reducible rfl
          rotate_left
          · simp only [Act.put, List.setIfInBounds_toArray, List.set_cons_zero, List.set_cons_succ, i64_w, i32_w]
            rfl
          refine one_ (i := 1) (N := some 27) #[true, true, false, true, true, true, true, true, true, false] rfl rfl (by kernel_rfl) (by decide) (fun K hK => ?_)
          refine goes_ Try.func51 (by kernel_rfl) rfl #[.int .i64 ↑m] (by rfl) rfl rfl (by simp only [List.map_toArray, List.map_cons, List.map_nil]; first | done | rfl) ?_
          refine (PJournalOpens.trivetref08_Head.calls 20 ↑m (hdl ↑m) _ (head_f (by omega) (by omega))).mono ?_
          rintro e w5 ⟨vh, rfl, hrh, hb5⟩
          obtain ⟨Ah, ch, rfl, -, hCh⟩ := Kd.R_reads hrh
          have sqh : (convert 22 9 (.slice Ah (hdl ↑m).length ch)).run Try.prog w5 = .ok (.string (strOfNums (hdl ↑m))) w5 := Kd.C_string (P := Try.prog) Try.underlying22 Try.underlying5 Try.underlying9 hCh
          refine ⟨_, rfl, ?_⟩
          have B5 := Aside0.mk (below_step B1.out hb5)
          have R5 := Aside0.mk (R1.out.below hb5)
          refine hK.out _ _ (SS.out _ B5.out) (fun hHeld => ?_)
          clear hK K hrh hCh hb5
          generalize (hdl ↑m).length = lh at sqh ⊢
          generalize hsm : strOfNums (hdl ↑m) = sm at sqh
          have HSM := Aside0.mk hsm
          clear hsm
          refine norm_ (a' := ?_) ?_ ?_
          rotate_left
          · show Act.put _ (some 27) _ = _
            simp only [Act.put, List.setIfInBounds_toArray, List.set_cons_zero, List.set_cons_succ, i64_w, i32_w]
            rfl
          refine one_ (i := 2) (N := some 28) #[true, true, true, true, true, true, true, true, true, false] rfl rfl (by kernel_rfl) (by decide) (fun K hK => ?_)
          refine value_ (w1 := ?_) (v := ?_) (by rfl) rfl ?_ ?_
          rotate_left 2
          · go_simp
            constructor
            · rfl
            · rfl
          refine hK.out _ _ (SS.out _ B5.out) (fun hHeld => ?_)
          clear hK K sqh
          refine norm_ (a' := ?_) ?_ ?_
          rotate_left
          · show Act.put _ (some 28) _ = _
            simp only [Act.put, List.setIfInBounds_toArray, List.set_cons_zero, List.set_cons_succ, i64_w, i32_w]
            rfl
          refine pure_ (i := 9) (N := some 35) (v := ?_) (a' := ?_) #[true, true, true, true, true, true, true, true, true, true] rfl rfl (by kernel_rfl) (fun _ _ _ h => h) (Or.inl ⟨by rfl, ?_⟩) ?_ ?_
          rotate_left
          · intro w'
            go_simp
            with_reducible rfl
          rotate_left
          · simp only [Act.put, List.setIfInBounds_toArray, List.set_cons_zero, List.set_cons_succ, i64_w, i32_w]
            rfl
          refine done_ (by kernel_rfl) ?_
          clear hHeld
          generalize hz : (sm.toList == s8.toList) = z
          have HZ := Aside0.mk hz
          clear hz
          cases z with
          | true =>
            have eq : rest.take 8 = hdl ↑m := ((str_inj (hdl_byte (by omega) (by omega)) (fun x hx => RB.out x (List.mem_of_mem_take hx))).1 (by rw [HSM.out, HS8.out]; exact beq_iff_eq.mp HZ.out)).symm
            have IR : Aside0 (isRec rest ↑m) := ⟨⟨by omega, by omega, by omega, eq⟩⟩
            clear eq
            go_wp2_with fail
            exact ⟨⟨m, m + 1, rfl, rfl, ⟨by omega, by omega, Or.inr ⟨by omega, IR.out⟩, R5.out, B5.out⟩⟩, by simp [intOf]; omega⟩
          | false =>
            have eq : ¬ rest.take 8 = hdl ↑m := fun e => by
              have h := HZ.out
              rw [← HSM.out, ← HS8.out, e] at h
              simp at h
            have NE := Aside0.mk eq
            clear eq
            go_wp2_with fail
            refine ⟨⟨f, m + 1, rfl, rfl, ⟨by omega, by omega, ?_, R5.out, B5.out⟩⟩, by simp [intOf]; omega⟩
            rcases HY.out.2.2.1 with ⟨h1, h2⟩ | h1
            · refine Or.inl ⟨h1, fun k hk hi => ?_⟩
              by_cases q : k < ↑m
              · exact h2 k q hi
              · have e : k = ↑m := by omega
                rw [e] at hi
                exact NE.out hi.2.2.2
            · exact Or.inr h1

        · by_cases cm0 : m ≤ 1024
          · have cm1 : decide ((↑m : Int) ≤ 1024) = true := decide_eq_true (by omega)
            have cm2 : decide ((↑en + 8 + ↑m : Int) ≤ ↑l.length) = false := decide_eq_false (by omega)
            have NK : Aside0 (∀ k : Int, ¬ k < ↑m → ¬ isRec rest k) := ⟨fun k hk hi => by have h1 := hi.2.1; have h2 := hi.2.2.1; omega⟩
            rcases HY.out.2.2.1 with ⟨rfl, hno⟩ | ⟨hf, hrec⟩
            · have NR : Aside0 (∀ k : Int, ¬ isRec rest k) := ⟨fun k hi => by
                by_cases q : k < ↑m
                · exact hno k q hi
                · exact NK.out k q hi⟩
              clear hno
              go_wp2_with fail
              go_ret2
              exact ⟨rs, rest, u4, by rw [HEN.out]; rfl, HX.out.1, NR.out, HY.out.2.2.2.1, HY.out.2.2.2.2⟩
            · have HREC := Aside0.mk hrec
              have f1 : f ≤ 1024 := by have := hrec.2.1; omega
              have f2 : f + 8 ≤ rest.length := by have := hrec.2.2.1; omega
              have fz : ((↑f : Int) == 0) = false := beq_eq_false_iff_ne.mpr (by omega)
              have cne : (c = en + 8) = False := eq_false (by omega)
              obtain ⟨e1, e2⟩ := jo_split f2 hrec.2.2.2
              have SR : Aside0 (∀ W, Below w.heap.size w W → Src W ⟨g, en + 8, none⟩ ((rest.drop 8).take f)) := ⟨fun W hW => (HBK.out.turn (S := fun _ => False) (Tn.of_below hW) id).src (en + 8) (fun j x hx => by
                rw [HX.out.1, List.getElem?_append_right (by rw [HEN.out]; omega), HEN.out, show en + 8 + j - en = 8 + j by omega]
                exact jd_sub hx)⟩
              have HSP := Aside0.mk (And.intro e1 e2)
              obtain ⟨i0, hi, hz0, hz1, hz2⟩ := info_parts jd_info
              have HI := Aside0.mk hi
              obtain ⟨i1, hi1, hz10, hz11, hz12⟩ := info_parts jo_info
              have HI1 := Aside0.mk hi1
              have hrsl := enc_len rs
              rw [HEN.out] at hrsl
              clear hrec hi hi1 e1 e2
              go_wp2_with (first
                | (at_builtin; go_loud (refine wpList_append_own_at _ rfl _ _ 22 rfl wr.heap.size 5 i0 (.int .u8 0) 1 1 Try.underlying22 HI.out hz0 hz1 hz2 rfl (by decide) (.slice (some ⟨wr.heap.size, 0, none⟩) 0 0) 0 [] rfl (own_empty wr) ⟨g, en + 8, none⟩ (en + 8 + f - (en + 8)) (c - (en + 8)) (bv ((rest.drop 8).take f)) rfl (by unfold bv; rw [List.length_map, HSP.out.1]; omega) (bv_cells ((SR.out wr HY.out.2.2.2.2).alloc _)) (bv_one _) (by unfold maxLen; omega) (by omega) (by simp) ?_); intro vo w5 hown5 hgrow5 hnil5 hloc5; go_loud (rw [show 0 + (en + 8 + f - (en + 8)) = f from by omega] at hown5); go_loud (obtain ⟨go, co, rfl, hgo, hbo, hco⟩ := own_blk hown5 (by omega)); go_loud (have BO := Aside0.mk (jst_list hbo)); have GO := Aside0.mk (And.intro hgo hco); go_loud (have Z5 := Aside0.mk ((below_alloc (Below.refl wr.heap.size wr) _).grown hgrow5 (by simp) (fun k hk => by cases hk; exact Nat.le_refl _))); go_loud (obtain ⟨vs, ho, hvs⟩ := HY.out.2.2.2.1.below Z5.out); have HO := Aside0.mk ho; have HVS := Aside0.mk hvs; go_loud (have B5 := Aside0.mk (below_step HY.out.2.2.2.2 Z5.out)); clear hown5 hgrow5 hnil5 hloc5 hgo hbo hco ho hvs)
                | (at_builtin; go_loud (refine wpList_append_own_at _ rfl _ _ 44 rfl w.heap.size 22 i1 (.slice none 0 0) 1 24 Try.underlying44 HI1.out hz10 hz11 hz12 rfl (by decide) u4 rs.length vs rfl (HO.out.alloc _) ⟨w5.heap.size, 0, none⟩ 1 1 [.slice (some ⟨go, 0, none⟩) f co] rfl rfl (jo_one _ _) (by simp [Value.oneCell']) (by unfold maxLen; omega) (by omega) (by have := B5.out.size; simp; omega) ?_); intro v6 w6 hown6 hgrow6 hnil6 hloc6))
              obtain ⟨rs', rest', q1, q2, q3, q4⟩ := js_step HEN.out hll HX.out.1 HREC.out BO.out GO.out HY.out.2.2.2.2 HO.out HVS.out B5.out hown6 hgrow6
              refine ⟨⟨rs', rest', by rw [q1], ⟨q2, q3, q4⟩⟩, ?_⟩
              simp only [intOf]
              omega

          · have cm1 : decide ((↑m : Int) ≤ 1024) = false := decide_eq_false (by omega)
            have hm3 := HY.out.2.1
            have NK : Aside0 (∀ k : Int, ¬ k < ↑m → ¬ isRec rest k) := ⟨fun k hk hi => by have h1 := hi.2.1; omega⟩
            rcases HY.out.2.2.1 with ⟨rfl, hno⟩ | ⟨hf, hrec⟩
            · have NR : Aside0 (∀ k : Int, ¬ isRec rest k) := ⟨fun k hi => by
                by_cases q : k < ↑m
                · exact hno k q hi
                · exact NK.out k q hi⟩
              clear hno
              go_wp2_with fail
              go_ret2
              exact ⟨rs, rest, u4, by rw [HEN.out]; rfl, HX.out.1, NR.out, HY.out.2.2.2.1, HY.out.2.2.2.2⟩
            · have HREC := Aside0.mk hrec
              have f1 : f ≤ 1024 := by have := hrec.2.1; omega
              have f2 : f + 8 ≤ rest.length := by have := hrec.2.2.1; omega
              have fz : ((↑f : Int) == 0) = false := beq_eq_false_iff_ne.mpr (by omega)
              have cne : (c = en + 8) = False := eq_false (by omega)
              obtain ⟨e1, e2⟩ := jo_split f2 hrec.2.2.2
              have SR : Aside0 (∀ W, Below w.heap.size w W → Src W ⟨g, en + 8, none⟩ ((rest.drop 8).take f)) := ⟨fun W hW => (HBK.out.turn (S := fun _ => False) (Tn.of_below hW) id).src (en + 8) (fun j x hx => by
                rw [HX.out.1, List.getElem?_append_right (by rw [HEN.out]; omega), HEN.out, show en + 8 + j - en = 8 + j by omega]
                exact jd_sub hx)⟩
              have HSP := Aside0.mk (And.intro e1 e2)
              obtain ⟨i0, hi, hz0, hz1, hz2⟩ := info_parts jd_info
              have HI := Aside0.mk hi
              obtain ⟨i1, hi1, hz10, hz11, hz12⟩ := info_parts jo_info
              have HI1 := Aside0.mk hi1
              have hrsl := enc_len rs
              rw [HEN.out] at hrsl
              clear hrec hi hi1 e1 e2
              go_wp2_with (first
                | (at_builtin; go_loud (refine wpList_append_own_at _ rfl _ _ 22 rfl wr.heap.size 5 i0 (.int .u8 0) 1 1 Try.underlying22 HI.out hz0 hz1 hz2 rfl (by decide) (.slice (some ⟨wr.heap.size, 0, none⟩) 0 0) 0 [] rfl (own_empty wr) ⟨g, en + 8, none⟩ (en + 8 + f - (en + 8)) (c - (en + 8)) (bv ((rest.drop 8).take f)) rfl (by unfold bv; rw [List.length_map, HSP.out.1]; omega) (bv_cells ((SR.out wr HY.out.2.2.2.2).alloc _)) (bv_one _) (by unfold maxLen; omega) (by omega) (by simp) ?_); intro vo w5 hown5 hgrow5 hnil5 hloc5; go_loud (rw [show 0 + (en + 8 + f - (en + 8)) = f from by omega] at hown5); go_loud (obtain ⟨go, co, rfl, hgo, hbo, hco⟩ := own_blk hown5 (by omega)); go_loud (have BO := Aside0.mk (jst_list hbo)); have GO := Aside0.mk (And.intro hgo hco); go_loud (have Z5 := Aside0.mk ((below_alloc (Below.refl wr.heap.size wr) _).grown hgrow5 (by simp) (fun k hk => by cases hk; exact Nat.le_refl _))); go_loud (obtain ⟨vs, ho, hvs⟩ := HY.out.2.2.2.1.below Z5.out); have HO := Aside0.mk ho; have HVS := Aside0.mk hvs; go_loud (have B5 := Aside0.mk (below_step HY.out.2.2.2.2 Z5.out)); clear hown5 hgrow5 hnil5 hloc5 hgo hbo hco ho hvs)
                | (at_builtin; go_loud (refine wpList_append_own_at _ rfl _ _ 44 rfl w.heap.size 22 i1 (.slice none 0 0) 1 24 Try.underlying44 HI1.out hz10 hz11 hz12 rfl (by decide) u4 rs.length vs rfl (HO.out.alloc _) ⟨w5.heap.size, 0, none⟩ 1 1 [.slice (some ⟨go, 0, none⟩) f co] rfl rfl (jo_one _ _) (by simp [Value.oneCell']) (by unfold maxLen; omega) (by omega) (by have := B5.out.size; simp; omega) ?_); intro v6 w6 hown6 hgrow6 hnil6 hloc6))
              obtain ⟨rs', rest', q1, q2, q3, q4⟩ := js_step HEN.out hll HX.out.1 HREC.out BO.out GO.out HY.out.2.2.2.2 HO.out HVS.out B5.out hown6 hgrow6
              refine ⟨⟨rs', rest', by rw [q1], ⟨q2, q3, q4⟩⟩, ?_⟩
              simp only [intOf]
              omega

    · have ci2 : ¬ (↑en + 8 : Int) < ↑l.length := by omega
      have NR : Aside0 (∀ k : Int, ¬ isRec rest k) := ⟨fun k hi => by have h1 := hi.1; have h2 := hi.2.2.1; omega⟩
      go_wp2_with fail
      go_ret2
      exact ⟨rs, rest, u4, by rw [HEN.out]; rfl, HX.out.1, NR.out, HX.out.2.1, HX.out.2.2⟩

end Go.Proofs.Ythblaehmdailhaa.PJournalStays
