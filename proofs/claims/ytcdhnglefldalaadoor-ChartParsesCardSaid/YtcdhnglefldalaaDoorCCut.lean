import Derived.Test.YtcdhnglefldalaaDoorCName
import Derived.Test.YtcdhnglefldalaaDoorShelf
import Derived.Lib.CutLaws
namespace Go.Proofs.YtcdhnglefldalaaDoor.PChartOrder
open Go.RowKit Go.Proofs.YtcdhnglefldalaaDoorW.PrintWords Go.Proofs.YtcdhnglefldalaaDoorW.PrintLast Go.Proofs.YtcdhnglefldalaaDoorW.PrintMore
set_option linter.unusedVariables false
set_option linter.unusedSimpArgs false

theorem cc_inner (s : ByteArray) (hs : s.size ≤ 9223372036854775806) (w : World) :
    Calls Tryd.prog 23 #[.string s, .string ⟨#[46]⟩] w fun e w' => e = .returned (.tuple #[.string ⟨(Lib.cut s.data.toList [46]).1.toArray⟩, .string ⟨(Lib.cut s.data.toList [46]).2.1.toArray⟩, .bool (Lib.cut s.data.toList [46]).2.2]) ∧ ∃ n, w' = w.drewN n := by
  have h1 : Lib.index s.data.toList [46] = Lib.indexByte s.data.toList 46 := Lib.index_one _ _
  have K := Aside0.mk (fun W => Tryd.stringslite_Index_one s 46 W)
  rw [← h1] at K
  rcases Lib.indexB_cases s ⟨#[46]⟩ with hix | ⟨i, hix, hroom⟩
  · obtain ⟨e1, e2, e3⟩ := Lib.cutB_miss s ⟨#[46]⟩ hix
    have e1' : (⟨(Lib.cut s.data.toList [46]).1.toArray⟩ : ByteArray) = s := e1
    have e2' : (⟨(Lib.cut s.data.toList [46]).2.1.toArray⟩ : ByteArray) = ByteArray.empty := e2
    have e3' : (Lib.cut s.data.toList [46]).2.2 = false := e3
    rw [e1', e2', e3']
    rw [show Lib.index s.data.toList [46] = -1 from hix] at K
    clear e1 e2 e3 e1' e2' e3' h1 hix
    go_enter Tryd.func23, Tryd.ntmps23
    go_wp2_with fail
    refine (K.out _).mono ?_
    rintro e w1 ⟨rfl, rfl⟩
    go_wp2
    go_ret3
    exact ⟨rfl, 0, rfl⟩
  · obtain ⟨e1, e2, e3⟩ := Lib.cutB_hit s ⟨#[46]⟩ i hix
    have e1' : (⟨(Lib.cut s.data.toList [46]).1.toArray⟩ : ByteArray) = s.extract 0 i := e1
    have e2' : (⟨(Lib.cut s.data.toList [46]).2.1.toArray⟩ : ByteArray) = s.extract (i + 1) s.size := e2
    have e3' : (Lib.cut s.data.toList [46]).2.2 = true := e3
    have hroom : i + 1 ≤ s.size := hroom
    rw [e1', e2', e3']
    rw [show Lib.index s.data.toList [46] = (i : Int) from hix] at K
    clear e1 e2 e3 e1' e2' e3' h1 hix
    have c1 : (0 : Int) ≤ ↑i := by omega
    have c2 : (↑i : Int) ≤ ↑s.size := by omega
    have c3 : (0 : Int) ≤ ↑i + 1 := by omega
    have c4 : (↑i + 1 : Int) ≤ ↑s.size := by omega
    go_enter Tryd.func23, Tryd.ntmps23
    go_wp2_with fail
    refine (K.out _).mono ?_
    rintro e w1 ⟨rfl, rfl⟩
    go_wp2
    repeat (go_quiet (fail); try go_wp2)
    go_ret3
    exact ⟨rfl, _, rfl⟩
theorem cc_cut (s : ByteArray) (hs : s.size ≤ 9223372036854775806) (w : World) :
    Calls Tryd.prog 16 #[.string s, .string ⟨#[46]⟩] w fun e w' => e = .returned (.tuple #[.string ⟨(Lib.cut s.data.toList [46]).1.toArray⟩, .string ⟨(Lib.cut s.data.toList [46]).2.1.toArray⟩, .bool (Lib.cut s.data.toList [46]).2.2]) ∧ ∃ n, w' = w.drewN n := by
  have K := Aside0.mk (fun W => cc_inner s hs W)
  generalize (⟨(Lib.cut s.data.toList [46]).1.toArray⟩ : ByteArray) = a at K ⊢
  generalize (⟨(Lib.cut s.data.toList [46]).2.1.toArray⟩ : ByteArray) = b at K ⊢
  generalize (Lib.cut s.data.toList [46]).2.2 = c at K ⊢
  go_enter Tryd.func16, Tryd.ntmps16
  go_wp2_with fail
  refine (K.out _).mono ?_
  rintro e w1 ⟨rfl, n, rfl⟩
  go_wp2
  go_ret3
  exact ⟨rfl, n, rfl⟩

end Go.Proofs.YtcdhnglefldalaaDoor.PChartOrder
