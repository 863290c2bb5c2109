import Derived.Test.YtcdhnglefldalaaWWords
import Derived.OpenShut
import Derived.ChangeArms
import Derived.DataReads
import Derived.WideShapes
/-! How an argument that reads as data is laid open, by the kinds of its type: a program of this session's own words. -/
namespace Go.Proofs.Ytcdhnglefldalaa.Opn
open Go.RowKit Go.Proofs.YtcdhnglefldalaaW.PrintWords
set_option linter.unusedVariables false
set_option linter.unusedSimpArgs false
section
variable {H : Type} {enc : TypeId × Value → H} {P : Program} {W : World} {base : Nat} {spare : Nat → Bool} {held : Bool} {t e : TypeId}
/-- Whatever reads as data of this type is a value of this kind, and good. -/
def Opens {α : Type} (enc : TypeId × Value → H) (P : Program) (W : World) (base : Nat) (spare : Nat → Bool) (held : Bool) (t : TypeId) (d : Kd α) (good : α → Prop) : Prop :=
  ∀ fuel cs x, DataW.trod enc P W base spare held fuel t cs = some x → ∃ a, d.K W a cs ∧ good a
theorem opens_int {k : IntKind} (ht : P.underlying t = some (.int k)) : Opens enc P W base spare held t (Kd.int k) (fun n => (Lit.int k n).wf = true) := by
  intro fuel cs x h
  obtain ⟨n, rfl, _, hw⟩ := DataW.trod_int ht h
  exact ⟨n, rfl, hw⟩
theorem opens_bool (ht : P.underlying t = some .bool) : Opens enc P W base spare held t Kd.bool (fun _ => True) := by
  intro fuel cs x h
  obtain ⟨b, rfl, _⟩ := DataW.trod_bool ht h
  exact ⟨b, rfl, trivial⟩
theorem opens_string (ht : P.underlying t = some .string) : Opens enc P W base spare held t Kd.string (fun s => s.size ≤ maxLen) := by
  intro fuel cs x h
  obtain ⟨s, rfl, _, hs⟩ := DataW.trod_string ht h
  exact ⟨s, rfl, hs⟩
theorem cells_at {a : Addr} {n : Nat} {cs : List Value} (h : W.cells? base a n = some cs) : cs.length = n ∧ ∀ i u, cs[i]? = some u → W.cell? (a.add i) = some u := by
  unfold World.cells? at h
  split at h
  · have hl := mapM_some_length h
    refine ⟨by simpa using hl, fun i u hu => ?_⟩
    have hi : i < n := by
      have := (List.getElem?_eq_some_iff.1 hu).1
      rw [hl] at this
      simpa using this
    have := mapM_some_get h i i (by simp [hi])
    rw [this, hu]
  · cases h
theorem opens_slice {α : Type} {d : Kd α} {good : α → Prop} (ht : P.underlying t = some (.slice e)) (hc : P.cellsOf e = d.sz) (he : Opens enc P W base spare held e d good) :
    Opens enc P W base spare held t (Kd.slice e d) (fun xs => xs.length ≤ maxLen ∧ ∀ x ∈ xs, good x) := by
  intro fuel cs x h
  rcases DataW.trod_slice ht h with ⟨rfl, _⟩ | ⟨a, len, cap, elems, rest, n, _, rfl, _, _, hl, hm, hlen, hel, _⟩
  · refine ⟨[], ⟨none, 0, rfl, Nat.le_refl _, rfl, by simp, fun h => absurd h (by simp)⟩, by simp [maxLen], by simp⟩
  · have each : ∀ i, i < len → ∃ y c, c.length = d.sz ∧ d.K W y c ∧ good y ∧ ∀ j u, c[j]? = some u → W.cell? (a.add (i * d.sz + j)) = some u := by
      intro i hi
      have h1 := hel i hi
      rw [List.getElem?_eq_getElem (by omega), Option.bind_eq_some_iff] at h1
      obtain ⟨c, hcs, hy⟩ := h1
      obtain ⟨y, hK, hg⟩ := he _ _ _ hy
      obtain ⟨hcl, hcc⟩ := cells_at hcs
      rw [hc] at hcl hcc
      refine ⟨y, c, hcl, hK, hg, fun j u hu => ?_⟩
      have := hcc j u hu
      rwa [Addr.add_add] at this
    have pick : ∀ m, m ≤ len → ∃ xs : List α, xs.length = m ∧ ∀ i y, xs[i]? = some y → good y ∧ ∃ c, c.length = d.sz ∧ d.K W y c ∧ ∀ j u, c[j]? = some u → W.cell? (a.add (i * d.sz + j)) = some u := by
      intro m
      induction m with
      | zero => intro _; exact ⟨[], rfl, fun i y h => by simp at h⟩
      | succ m ih =>
        intro hm
        obtain ⟨xs, hx, hall⟩ := ih (by omega)
        obtain ⟨y, c, h1, h2, h3, h4⟩ := each m (by omega)
        refine ⟨xs ++ [y], by simp [hx], fun i z hz => ?_⟩
        by_cases hi : i < m
        · rw [List.getElem?_append_left (by omega)] at hz
          exact hall i z hz
        · rw [List.getElem?_append_right (by omega)] at hz
          have hi2 : i = m := by
            have := (List.getElem?_eq_some_iff.1 hz).1
            simp at this
            omega
          subst hi2
          simp [hx] at hz
          subst hz
          exact ⟨h3, c, h1, h2, h4⟩
    obtain ⟨xs, hx, hall⟩ := pick len (Nat.le_refl _)
    have hml : maxLen = 9223372036854775807 := rfl
    refine ⟨xs, ⟨some a, cap, by rw [hx], by omega, rfl, by omega, fun _ => ⟨a, rfl, fun j p hj => (hall j p hj).2⟩⟩, by omega, fun x hxm => ?_⟩
    obtain ⟨i, hi⟩ := List.getElem?_of_mem hxm
    exact (hall i x hi).1
theorem opens_array2 {α : Type} {d : Kd α} {good : α → Prop} (ht : P.underlying t = some (.array 2 e)) (hc : P.cellsOf e = d.sz) (hN : P.cellsOf t = d.sz + d.sz) (he : Opens enc P W base spare held e d good) :
    Opens enc P W base spare held t (Kd.pair d d) (fun x => good x.1 ∧ good x.2) := by
  intro fuel cs x h
  obtain ⟨xs, m, _, _, hl, hxl, hall⟩ := DataW.trod_array ht h
  have h0 := hall 0 (by omega)
  have h1 := hall 1 (by omega)
  rw [hc, List.getElem?_eq_getElem (by omega)] at h0 h1
  rw [Nat.zero_mul, List.drop_zero] at h0
  rw [Nat.one_mul, List.take_of_length_le (by simp; omega)] at h1
  obtain ⟨a, ha, hg⟩ := he _ _ _ h0
  obtain ⟨b, hb, hg2⟩ := he _ _ _ h1
  exact ⟨(a, b), ⟨_, _, (List.take_append_drop d.sz cs).symm, ha, hb⟩, hg, hg2⟩
theorem okWide_array {n : Nat} {v : Value} {b0 : Nat} {r : Reach} (ht : P.underlying t = some (.array n e)) (h : Value.okWide P W r b0 t v) : ∃ cs, v = .agg cs ∧ cs.size = P.cellsOf t := by
  simp only [Value.okWide, ht] at h
  obtain ⟨cs, h1, h2, _⟩ := h
  exact ⟨cs, h1, h2⟩
/-- A struct's fields from one on. -/
def OpensF {α : Type} (enc : TypeId × Value → H) (P : Program) (W : World) (base : Nat) (spare : Nat → Bool) (held : Bool) (fs : List Field) (off N : Nat) (d : Kd α) (good : α → Prop) : Prop :=
  ∀ m (cs : List Value), cs.length = N → (∀ f ∈ fs, ∃ x, DataW.trod enc P W base spare held m f.type ((cs.drop f.offset).take (P.cellsOf f.type)) = some x) → ∃ a, d.K W a (cs.drop off) ∧ good a
theorem opensF_last {α : Type} {d : Kd α} {good : α → Prop} {f : Field} {off N : Nat} (h : Opens enc P W base spare held f.type d good) (ho : f.offset = off) (hs : P.cellsOf f.type = d.sz) (hN : N = off + d.sz) :
    OpensF enc P W base spare held [f] off N d good := by
  intro m cs hl hall
  obtain ⟨x, hx⟩ := hall f (by simp)
  rw [ho, hs, List.take_of_length_le (by simp; omega)] at hx
  exact h _ _ _ hx
theorem opensF_cons {α β : Type} {d : Kd α} {d2 : Kd β} {good : α → Prop} {good2 : β → Prop} {f : Field} {fs : List Field} {off N : Nat} (h : Opens enc P W base spare held f.type d good) (ho : f.offset = off) (hs : P.cellsOf f.type = d.sz)
    (hr : OpensF enc P W base spare held fs (off + d.sz) N d2 good2) : OpensF enc P W base spare held (f :: fs) off N (Kd.pair d d2) (fun x => good x.1 ∧ good2 x.2) := by
  intro m cs hl hall
  obtain ⟨x, hx⟩ := hall f (by simp)
  rw [ho, hs] at hx
  obtain ⟨a, ha, hg⟩ := h _ _ _ hx
  obtain ⟨b, hb, hg2⟩ := hr m cs hl (fun f' hf => hall f' (by simp [hf]))
  refine ⟨(a, b), ⟨_, _, ?_, ha, hb⟩, hg, hg2⟩
  rw [← List.drop_drop, List.take_append_drop]
theorem opens_struct {α : Type} {d : Kd α} {good : α → Prop} {fs : Array Field} {N : Nat} (ht : P.underlying t = some (.struct fs)) (hN : P.cellsOf t = N) (hF : OpensF enc P W base spare held fs.toList 0 N d good) :
    Opens enc P W base spare held t d good := by
  intro fuel cs x h
  obtain ⟨xs, n, _, _, hl, hxl, hall⟩ := DataW.trod_struct ht h
  have := hF n cs (by rw [hl, hN]) (fun f hf => by
    obtain ⟨i, hi⟩ := List.getElem?_of_mem hf
    have hi2 : fs[i]? = some f := by simpa using hi
    have hlt : i < xs.length := by
      have := (Array.getElem?_eq_some_iff.1 hi2).1
      omega
    exact ⟨xs[i], by rw [hall i f hi2, List.getElem?_eq_getElem hlt]⟩)
  simpa using this
theorem opens_iso {α β : Type} {d : Kd α} {good : α → Prop} (f : β → α) (g : α → β) (hfg : ∀ a, f (g a) = a) (h : Opens enc P W base spare held t d good) : Opens enc P W base spare held t (Kd.iso d f) (fun x => good (f x)) := by
  intro fuel cs x hx
  obtain ⟨a, ha, hg⟩ := h fuel cs x hx
  refine ⟨g a, ?_, ?_⟩
  · show d.K W (f (g a)) cs
    rw [hfg]; exact ha
  · show good (f (g a))
    rw [hfg]; exact hg
end
end Go.Proofs.Ytcdhnglefldalaa.Opn
