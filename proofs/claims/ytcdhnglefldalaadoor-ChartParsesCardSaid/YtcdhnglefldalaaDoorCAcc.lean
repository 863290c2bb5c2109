import Derived.Test.YtcdhnglefldalaaDoorCUp
import Derived.Lib.ItoaNum
namespace Go.Proofs.YtcdhnglefldalaaDoor.PChartOrder
open Go.RowKit Go.Proofs.YtcdhnglefldalaaDoorW.PrintWords Go.Proofs.YtcdhnglefldalaaDoorW.PrintLast Go.Proofs.YtcdhnglefldalaaDoorW.PrintMore
set_option linter.unusedVariables false
set_option linter.unusedSimpArgs false

theorem ca_conv (W : World) (x : Int) (h0 : 0 ≤ x) (h1 : x < 256) : (convert 49 9 (.slice (some ⟨W.heap.size, 0, none⟩) 1 1)).run Tryd.prog (W.alloc (.cells #[.int .u8 x] 5)) = .ok (.string ⟨#[UInt8.ofNat x.toNat]⟩) (W.alloc (.cells #[.int .u8 x] 5)) := by
  have hz := blk_new W (.cells #[.int .u8 x] 5)
  have hC : (Kd.int .u8).C (W.alloc (.cells #[.int .u8 x] 5)) (some ⟨W.heap.size, 0, none⟩) 1 [x] := by
    refine Kd.C_of_reads (d := (0 : Int)) (h1 := fun _ => rfl) ⟨rfl, by simp, fun _ => ⟨_, rfl, fun i hi => ?_⟩⟩
    have : i = 0 := by omega
    subst this
    exact (blk_cell hz 0).trans rfl
  exact Kd.C_string (P := Tryd.prog) (c := 1) Tryd.underlying49 Tryd.underlying5 Tryd.underlying9 hC
def ca_cat (n : Int) (s : ByteArray) : ByteArray := if n = 0 then s else (⟨(Lib.decDigits n.toNat).toArray⟩ : ByteArray) ++ s
theorem ca_step (n : Int) (s : ByteArray) (h : 0 < n) : ca_cat n s = ca_cat (n / 10) ((⟨#[UInt8.ofNat (48 + n % 10).toNat]⟩ : ByteArray) ++ s) := by
  obtain ⟨m, rfl⟩ := Int.eq_ofNat_of_zero_le (show 0 ≤ n by omega)
  unfold ca_cat
  rw [if_neg (by omega), Int.toNat_natCast, Lib.decDigits]
  by_cases c : m < 10
  · rw [dif_pos c, if_pos (by omega)]
    congr 3
    rw [show ((48 : Int) + (m : Int) % 10).toNat = 48 + m by omega]
  · have key : ∀ (A : List UInt8) (x : UInt8), (⟨(A ++ [x]).toArray⟩ : ByteArray) = (⟨A.toArray⟩ : ByteArray) ++ (⟨#[x]⟩ : ByteArray) := fun A x => by
      apply ByteArray.ext
      simp
    rw [dif_neg c, if_neg (by omega), key, show ((m : Int) / 10).toNat = m / 10 by omega, show ((48 : Int) + (m : Int) % 10).toNat = 48 + m % 10 by omega, ByteArray.append_assoc]
set_option maxRecDepth 100000 in
theorem ca_dec (o : Int) (w : World) (h0 : 1 ≤ o) (h1 : o ≤ 65536) : Calls Tryd.prog 22 #[.int .i64 o] w fun e w' => e = .returned (.string ⟨(Lib.decDigits o.toNat).toArray⟩) ∧ Below w.heap.size w w' := by
  have e0 : ca_cat o ⟨#[]⟩ = (⟨(Lib.decDigits o.toNat).toArray⟩ : ByteArray) := by
    unfold ca_cat
    rw [if_neg (by omega)]
    apply ByteArray.ext
    simp
  have CV := Aside0.mk ca_conv
  generalize (⟨(Lib.decDigits o.toNat).toArray⟩ : ByteArray) = target at e0 ⊢
  have E0 := Aside0.mk e0
  clear e0
  go_enter Tryd.func22, Tryd.ntmps22
  go_wp2_with fail
  go_loopw [0, 3] (fun v0 v3 wr => ∃ (n : Int) (s : ByteArray), v0 = .int .i64 n ∧ v3 = .string s ∧ Aside0 (0 ≤ n ∧ s.size ≤ 5 ∧ n < 10 ^ (5 - s.size)) ∧ Aside0 (ca_cat n s = target) ∧ Aside0 (Below w.heap.size w wr)) (fun v0 v3 _ => (intOf v0).toNat)
  case atStart => exact ⟨o, ⟨#[]⟩, rfl, rfl, ⟨by omega, by decide, by have : (10 : Int) ^ (5 - (⟨#[]⟩ : ByteArray).size) = 100000 := by decide
                                                                      omega⟩, E0, ⟨Below.refl _ _⟩⟩
  case round =>
    obtain ⟨n, s, rfl, rfl, HN, HE, HB⟩ := hrel
    by_cases c : 0 < n
    · have cb : decide (0 < n) = true := decide_eq_true c
      have hs5 : s.size < 5 := by
        obtain ⟨a, b, d⟩ := HN.out
        by_cases e : s.size = 5
        · rw [e] at d
          simp at d
          omega
        · omega
      have t1 : Int.tmod n 10 = n % 10 := Int.tmod_eq_emod_of_nonneg (by omega)
      have t2 : Int.tdiv n 10 = n / 10 := Int.tdiv_eq_ediv_of_nonneg (by omega)
      have hx0 : 0 ≤ 48 + n % 10 := by omega
      have hx1 : 48 + n % 10 < 256 := by omega
      have cv := fun W => CV.out W (48 + n % 10) hx0 hx1
      have z1 : (9223372036854775807 < 1 + s.size) = False := eq_false (by omega)
      have HN2 : Aside0 (0 ≤ n / 10 ∧ 1 + s.size ≤ 5 ∧ n / 10 < 10 ^ (5 - (1 + s.size))) := ⟨by
        obtain ⟨a, b, d⟩ := HN.out
        refine ⟨by omega, by omega, ?_⟩
        rw [show 5 - s.size = 5 - (1 + s.size) + 1 by omega, Int.pow_succ] at d
        generalize (10 : Int) ^ (5 - (1 + s.size)) = q at d ⊢
        omega⟩
      have HE2 := Aside0.mk ((ca_step n s c).symm.trans HE.out)
      clear HN HE
      have w10 : wrap64 (n / 10) = n / 10 := by
        obtain ⟨a, b, d⟩ := HN2.out
        unfold wrap64
        have : (10 : Int) ^ (5 - (1 + s.size)) ≤ 10 ^ 5 := by
          have key : ∀ j : Nat, j ≤ 5 → (10 : Int) ^ j ≤ 10 ^ 5 := by decide
          exact key _ (by omega)
        omega
      have W10 := Aside0.mk w10
      clear w10
      go_wp2
      go_roundw
      case measure => rw [W10.out]; simp [intOf]; omega
      case rel => exact ⟨n / 10, _, by rw [W10.out], rfl, ⟨by rw [show ((⟨#[UInt8.ofNat (48 + n % 10).toNat]⟩ : ByteArray) ++ s).size = 1 + s.size by rw [ByteArray.size_append]; rfl]; exact HN2.out⟩, HE2, ⟨below_alloc HB.out _⟩⟩
    · have cb : decide (0 < n) = false := decide_eq_false c
      have hn : n = 0 := by have := HN.out.1; omega
      have he := HE.out
      rw [hn] at he
      unfold ca_cat at he
      rw [if_pos rfl] at he
      subst he
      go_wp2
      go_ret
      exact ⟨rfl, HB.out⟩

theorem ca_mayp (k o : Int) : cn_may k o = if (decide (1 ≤ k) && decide (k ≤ 3)) = true then (o == 0) else (decide (4 ≤ k) && (decide (k ≤ 12) && (decide (1 ≤ o) && decide (o ≤ 65536)))) := by
  unfold cn_may
  by_cases x1 : 1 ≤ k
  · by_cases x2 : k ≤ 3
    · rw [decide_eq_true x1, decide_eq_true x2, decide_eq_true (show k ≤ 12 by omega), if_pos x2]
      rfl
    · rw [decide_eq_true x1, decide_eq_false x2, decide_eq_true (show 4 ≤ k by omega), if_neg x2]
      simp
  · rw [decide_eq_false x1, decide_eq_false (show ¬ 4 ≤ k by omega)]
    simp
set_option maxHeartbeats 8000000 in
theorem ca_may (k o : Int) (w : World) : Calls Tryd.prog 12 #[.agg #[.int .i64 k, .int .i64 o]] w fun e w' => e = .returned (.bool (cn_may k o)) ∧ Below w.heap.size w w' := by
  generalize hv : cn_may k o = v
  have HV := Aside0.mk hv
  clear hv
  obtain ⟨a, ha⟩ : ∃ a, decide (1 ≤ k) = a := ⟨_, rfl⟩
  obtain ⟨b, hb⟩ : ∃ b, decide (k ≤ 3) = b := ⟨_, rfl⟩
  obtain ⟨c, hc⟩ : ∃ c, (o == 0) = c := ⟨_, rfl⟩
  obtain ⟨d, hd⟩ : ∃ d, decide (4 ≤ k) = d := ⟨_, rfl⟩
  obtain ⟨f, hf⟩ : ∃ f, decide (k ≤ 12) = f := ⟨_, rfl⟩
  obtain ⟨g, hg⟩ : ∃ g, decide (1 ≤ o) = g := ⟨_, rfl⟩
  obtain ⟨i, hi⟩ : ∃ i, decide (o ≤ 65536) = i := ⟨_, rfl⟩
  have KEY : Aside0 (v = if a && b then c else d && (f && (g && i))) := ⟨by
    rw [← HV.out, ← ha, ← hb, ← hc, ← hd, ← hf, ← hg, ← hi]
    exact ca_mayp k o⟩
  clear HV
  cases a <;> cases b <;> cases d <;> cases f <;> cases g
  all_goals
    go_enter Tryd.func12, Tryd.ntmps12
    go_wp2
    go_ret
    exact ⟨by rw [KEY.out]; first | rfl | simp, below_alloc (Below.refl _ _) _⟩
set_option maxHeartbeats 4000000 in
theorem ca_debit (k o : Int) (w : World) : Calls Tryd.prog 14 #[.agg #[.int .i64 k, .int .i64 o]] w fun e w' => e = .returned (.bool (cn_may k o && (decide (k ≤ 3) || ((k == 7) || (k == 12))))) ∧ Below w.heap.size w w' := by
  have M := Aside0.mk (fun W => chart_may k o W)
  generalize cn_may k o = v at M ⊢
  generalize h1 : decide (k ≤ 3) = a
  generalize h2 : (k == 7) = b
  generalize h3 : (k == 12) = c
  cases v <;> cases a <;> cases b
  all_goals
    go_enter Tryd.func14, Tryd.ntmps14
    go_wp2_with fail
    refine (M.out _).mono ?_
    rintro e w1 ⟨rfl, hb1⟩
    have G1 := blk_below (blk_new w (.cells #[.int .i64 k, .int .i64 o] 24)) hb1
    have B1 := below_step (below_alloc (Below.refl w.heap.size w) (.cells #[.int .i64 k, .int .i64 o] 24)) hb1
    have c0 := (blk_cell G1 0).trans rfl
    have B1 := Aside0.mk B1
    clear hb1 G1
    go_wp2
    go_ret
    exact ⟨rfl, B1.out⟩
theorem ca_dsize (o : Int) (h0 : 1 ≤ o) (h1 : o ≤ 65536) : (⟨(Lib.decDigits o.toNat).toArray⟩ : ByteArray).size ≤ 100 := by
  have key : ∀ (j m : Nat), m < 10 ^ (j + 1) → (Lib.decDigits m).length ≤ j + 1 := by
    intro j
    induction j with
    | zero =>
      intro m hm
      rw [Lib.decDigits, dif_pos (by omega)]
      simp
    | succ j ih =>
      intro m hm
      rw [Lib.decDigits]
      by_cases c : m < 10
      · rw [dif_pos c]; simp
      · rw [dif_neg c, List.length_append]
        have := ih (m / 10) (by rw [Nat.pow_succ] at hm; omega)
        simp
        omega
  have := key 4 o.toNat (by omega)
  show (Lib.decDigits o.toNat).toArray.size ≤ 100
  simp
  omega
theorem ca_names (w : World) : Calls Tryd.prog 20 #[] w fun e w' => e = .returned (.slice (some ⟨w.heap.size, 0, none⟩) 12 12) ∧ w' = w.alloc (.cells #[.string ⟨#[99, 97, 115, 104]⟩, .string ⟨#[116, 114, 117, 115, 116]⟩, .string ⟨#[111, 119, 110]⟩, .string ⟨#[105, 110, 118, 101, 115, 116, 111, 114]⟩, .string ⟨#[101, 115, 99, 114, 111, 119]⟩, .string ⟨#[115, 117, 115, 112, 101, 110, 115, 101]⟩, .string ⟨#[97, 100, 118, 97, 110, 99, 101]⟩, .string ⟨#[102, 101, 101]⟩, .string ⟨#[103, 117, 97, 114, 97, 110, 116, 121]⟩, .string ⟨#[108, 97, 116, 101]⟩, .string ⟨#[112, 114, 105, 110, 99, 105, 112, 97, 108]⟩, .string ⟨#[108, 111, 97, 110]⟩] 9) := by
  go_enter Tryd.func20, Tryd.ntmps20
  go_wp2
  go_ret
  exact ⟨rfl, rfl⟩
theorem ca_elem (w w' : World) (k : Int) (h : Below (w.alloc (.cells #[.string ⟨#[99, 97, 115, 104]⟩, .string ⟨#[116, 114, 117, 115, 116]⟩, .string ⟨#[111, 119, 110]⟩, .string ⟨#[105, 110, 118, 101, 115, 116, 111, 114]⟩, .string ⟨#[101, 115, 99, 114, 111, 119]⟩, .string ⟨#[115, 117, 115, 112, 101, 110, 115, 101]⟩, .string ⟨#[97, 100, 118, 97, 110, 99, 101]⟩, .string ⟨#[102, 101, 101]⟩, .string ⟨#[103, 117, 97, 114, 97, 110, 116, 121]⟩, .string ⟨#[108, 97, 116, 101]⟩, .string ⟨#[112, 114, 105, 110, 99, 105, 112, 97, 108]⟩, .string ⟨#[108, 111, 97, 110]⟩] 9)).heap.size (w.alloc (.cells #[.string ⟨#[99, 97, 115, 104]⟩, .string ⟨#[116, 114, 117, 115, 116]⟩, .string ⟨#[111, 119, 110]⟩, .string ⟨#[105, 110, 118, 101, 115, 116, 111, 114]⟩, .string ⟨#[101, 115, 99, 114, 111, 119]⟩, .string ⟨#[115, 117, 115, 112, 101, 110, 115, 101]⟩, .string ⟨#[97, 100, 118, 97, 110, 99, 101]⟩, .string ⟨#[102, 101, 101]⟩, .string ⟨#[103, 117, 97, 114, 97, 110, 116, 121]⟩, .string ⟨#[108, 97, 116, 101]⟩, .string ⟨#[112, 114, 105, 110, 99, 105, 112, 97, 108]⟩, .string ⟨#[108, 111, 97, 110]⟩] 9)) w') (h0 : 1 ≤ k) (h1 : k ≤ 12) : w'.cell? ⟨w.heap.size, k.toNat - 1, none⟩ = some (.string (cn_nm k)) := by
  have hz := blk_below (blk_new w (.cells #[.string ⟨#[99, 97, 115, 104]⟩, .string ⟨#[116, 114, 117, 115, 116]⟩, .string ⟨#[111, 119, 110]⟩, .string ⟨#[105, 110, 118, 101, 115, 116, 111, 114]⟩, .string ⟨#[101, 115, 99, 114, 111, 119]⟩, .string ⟨#[115, 117, 115, 112, 101, 110, 115, 101]⟩, .string ⟨#[97, 100, 118, 97, 110, 99, 101]⟩, .string ⟨#[102, 101, 101]⟩, .string ⟨#[103, 117, 97, 114, 97, 110, 116, 121]⟩, .string ⟨#[108, 97, 116, 101]⟩, .string ⟨#[112, 114, 105, 110, 99, 105, 112, 97, 108]⟩, .string ⟨#[108, 111, 97, 110]⟩] 9)) h
  have key : ∀ j : Fin 12, (#[.string ⟨#[99, 97, 115, 104]⟩, .string ⟨#[116, 114, 117, 115, 116]⟩, .string ⟨#[111, 119, 110]⟩, .string ⟨#[105, 110, 118, 101, 115, 116, 111, 114]⟩, .string ⟨#[101, 115, 99, 114, 111, 119]⟩, .string ⟨#[115, 117, 115, 112, 101, 110, 115, 101]⟩, .string ⟨#[97, 100, 118, 97, 110, 99, 101]⟩, .string ⟨#[102, 101, 101]⟩, .string ⟨#[103, 117, 97, 114, 97, 110, 116, 121]⟩, .string ⟨#[108, 97, 116, 101]⟩, .string ⟨#[112, 114, 105, 110, 99, 105, 112, 97, 108]⟩, .string ⟨#[108, 111, 97, 110]⟩] : Array Value)[j.val]? = some (.string (cn_list.getD (j.val + 1) ⟨#[]⟩)) := by
    intro j
    rcases j with ⟨j, hj⟩
    rcases j with _ | _ | _ | _ | _ | _ | _ | _ | _ | _ | _ | _ | j
    all_goals first | rfl | (exfalso; omega)
  have := (blk_cell hz (k.toNat - 1)).trans (key ⟨k.toNat - 1, by omega⟩)
  rw [this]
  unfold cn_nm
  rw [show k.toNat - 1 + 1 = k.toNat by omega]
set_option maxHeartbeats 1000000 in
set_option maxRecDepth 100000 in
theorem ca_name (k o : Int) (w : World) (h0 : 1 ≤ k) (h1 : k ≤ 12) (ho : 0 ≤ o) (ho2 : o ≤ 65536) :
    Calls Tryd.prog 15 #[.agg #[.int .i64 k, .int .i64 o]] w fun e w' => e = .returned (.string (if o = 0 then cn_nm k else cn_nm k ++ (⟨#[46]⟩ : ByteArray) ++ (⟨(Lib.decDigits o.toNat).toArray⟩ : ByteArray))) ∧ Below w.heap.size w w' := by
  have zk : (cn_nm k).size ≤ 9 := cn_size k
  have DS : Aside0 (1 ≤ o → (⟨(Lib.decDigits o.toNat).toArray⟩ : ByteArray).size ≤ 100) := ⟨fun h => ca_dsize o h ho2⟩
  have DEC : Aside0 (1 ≤ o → ∀ W, Calls Tryd.prog 22 #[.int .i64 o] W fun e w' => e = .returned (.string ⟨(Lib.decDigits o.toNat).toArray⟩) ∧ Below W.heap.size W w') := ⟨fun h W => ca_dec o W h ho2⟩
  generalize (⟨(Lib.decDigits o.toNat).toArray⟩ : ByteArray) = dig at DS DEC ⊢
  generalize hV : (if o = 0 then cn_nm k else cn_nm k ++ (⟨#[46]⟩ : ByteArray) ++ dig) = V
  have HV := Aside0.mk hV
  clear hV
  have kw : IntKind.i64.wrap (k - 1) = k - 1 := IntWalk.i64_in _ (by omega)
  have hk0 : (0 ≤ k - 1) = True := eq_true (by omega)
  have hk1 : (k - 1 < 12) = True := eq_true (by omega)
  have hk0b : decide (0 ≤ k - 1) = true := decide_eq_true (by omega)
  have hk1b : decide (k - 1 < 12) = true := decide_eq_true (by omega)
  go_enter Tryd.func15, Tryd.ntmps15
  go_wp2_with fail
  have G1 := Aside0.mk (blk_new w (.cells #[.int .i64 k, .int .i64 o] 24))
  have B1 := Aside0.mk (below_alloc (Below.refl w.heap.size w) (.cells #[.int .i64 k, .int .i64 o] 24))
  generalize w.alloc (.cells #[.int .i64 k, .int .i64 o] 24) = w1 at G1 B1 ⊢
  have c0 := (blk_cell G1.out 0).trans rfl
  have S0 : (w1.drew).cell? ⟨w.heap.size, 0, none⟩ = some (.int .i64 k) := c0
  refine start_ (n := 7) (S := fun w' => w'.cell? ⟨w.heap.size, 0, none⟩ = some (.int .i64 k)) (ds := []) #[false, false, false, false, false, false, false] (by kernel_rfl) rfl rfl S0 (fun hHeld => ?_)
  have Gd := Aside0.mk (blk_drew G1.out)
  have Bd := Aside0.mk (below_drew1 B1.out)
  generalize w1.drew = wd at hHeld Gd Bd ⊢
  clear c0 G1 B1 S0
  refine pure_ (i := 1) (N := some 5) (v := ?_) (a' := ?_) #[false, true, false, false, false, false, false] rfl rfl (by kernel_rfl) (fun _ _ _ h => h) (Or.inl ⟨by rfl, ?_⟩) ?_ ?_
  rotate_left
  · intro w'
    go_simp
    with_reducible rfl
  rotate_left
  · simp only [Act.put, List.setIfInBounds_toArray, List.set_cons_zero, List.set_cons_succ, i64_w, i32_w]
    rfl
  refine take_ (i := 2) (N := some 6) (v := ?_) (a' := ?_) #[false, true, true, false, false, false, false] rfl rfl (by kernel_rfl) (fun _ _ _ h => h) (Or.inl ⟨by rfl, ?_⟩) hHeld ?_ ?_
  rotate_left
  · rintro w' s0
    go_simp
    with_reducible rfl
  rotate_left
  · simp only [Act.put, List.setIfInBounds_toArray, List.set_cons_zero, List.set_cons_succ, i64_w, i32_w]
    rfl
  refine pure_ (i := 3) (N := some 7) (v := ?_) (a' := ?_) #[false, true, true, true, false, false, false] rfl rfl (by kernel_rfl) (fun _ _ _ h => h) (Or.inl ⟨by rfl, ?_⟩) ?_ ?_
  rotate_left
  · intro w'
    go_simp
    with_reducible rfl
  rotate_left
  · simp only [Act.put, List.setIfInBounds_toArray, List.set_cons_zero, List.set_cons_succ, i64_w, i32_w]
    rfl
  refine one_ (i := 0) (N := some 4) #[true, true, true, true, false, false, false] rfl rfl (by kernel_rfl) (by decide) (fun K hK => ?_)
  refine goes_ Tryd.func20 (by kernel_rfl) rfl #[] (by rfl) rfl rfl (by simp only [List.map_toArray, List.map_cons, List.map_nil]; first | done | rfl) ?_
  refine (ca_names _).mono ?_
  rintro e w2 ⟨rfl, e2⟩
  refine ⟨_, rfl, ?_⟩
  have E2 := Aside0.mk (ca_elem wd w2 k (by rw [e2]; exact Below.refl _ _) (by omega) (by omega))
  have B2 := Aside0.mk (show Below w.heap.size w w2 by rw [e2]; exact below_alloc Bd.out _)
  have G2 := Aside0.mk (show w2.heap[w.heap.size]? = some (.cells #[.int .i64 k, .int .i64 o] 24 (0, 0)) by rw [e2]; exact blk_alloc Gd.out _)
  refine hK.out _ _ ((blk_cell G2.out 0).trans rfl) (fun hHeld => ?_)
  clear hK K e2
  refine norm_ (a' := ?_) ?_ ?_
  rotate_left
  · show Act.put _ (some 4) _ = _
    simp only [Act.put, List.setIfInBounds_toArray, List.set_cons_zero, List.set_cons_succ, i64_w, i32_w]
    rfl
  refine pure_ (i := 4) (N := some 8) (v := ?_) (a' := ?_) #[true, true, true, true, true, false, false] rfl rfl (by kernel_rfl) (fun _ _ _ h => h) (Or.inl ⟨by rfl, ?_⟩) ?_ ?_
  rotate_left
  · intro w'
    go_simp
    with_reducible rfl
  rotate_left
  · simp only [Act.put, List.setIfInBounds_toArray, List.set_cons_zero, List.set_cons_succ, i64_w, i32_w]
    rfl
  refine one_ (i := 5) (N := some 9) #[true, true, true, true, true, true, false] rfl rfl (by kernel_rfl) (by decide) (fun K hK => ?_)
  have hE := E2.out
  refine value_ (w1 := ?_) (v := ?_) (by rfl) rfl ?_ ?_
  rotate_left 2
  · go_simp
    constructor
    · rfl
    · rfl
  clear hE
  refine hK.out _ _ ((blk_cell G2.out 0).trans rfl) (fun hHeld => ?_)
  clear hK K
  refine norm_ (a' := ?_) ?_ ?_
  rotate_left
  · show Act.put _ (some 9) _ = _
    simp only [Act.put, List.setIfInBounds_toArray, List.set_cons_zero, List.set_cons_succ, i64_w, i32_w]
    rfl
  refine pure_ (i := 6) (N := some 3) (v := ?_) (a' := ?_) #[true, true, true, true, true, true, true] rfl rfl (by kernel_rfl) (fun _ _ _ h => h) (Or.inl ⟨by rfl, ?_⟩) ?_ ?_
  rotate_left
  · intro w'
    go_simp
    with_reducible rfl
  rotate_left
  · simp only [Act.put, List.setIfInBounds_toArray, List.set_cons_zero, List.set_cons_succ, i64_w, i32_w]
    rfl
  refine done_ (by kernel_rfl) ?_
  clear hHeld
  have c1 := (blk_cell G2.out 1).trans rfl
  by_cases c : o = 0
  · subst c
    go_wp2
    go_ret
    exact ⟨by rw [← HV.out]; first | rfl | (simp; done), B2.out⟩
  · have o1 : 1 ≤ o := by omega
    have ob : decide (0 < o) = true := decide_eq_true (by omega)
    have ds := DS.out o1
    have z1 : (9223372036854775807 < (cn_nm k).size + 1) = False := eq_false (by omega)
    have z2 : (9223372036854775807 < (cn_nm k).size + 1 + dig.size) = False := eq_false (by omega)
    have D := Aside0.mk (DEC.out o1)
    have CN := Aside0.mk c
    clear c
    go_wp2_with fail
    refine (D.out _).mono ?_
    rintro e w3 ⟨rfl, hb3⟩
    have B3 := Aside0.mk (below_step B2.out hb3)
    clear hb3
    go_wp2
    go_ret
    exact ⟨by rw [← HV.out, if_neg CN.out]; rfl, B3.out⟩

end Go.Proofs.YtcdhnglefldalaaDoor.PChartOrder
