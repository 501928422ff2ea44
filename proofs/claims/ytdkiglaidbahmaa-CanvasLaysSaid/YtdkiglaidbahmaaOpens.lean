/- What comes in, opened kind by kind: whatever a type's data are, the value reads as a value of its kind. -/
import Derived.Test.YtdkiglaidbahmaaWWords
import Derived.Deep.Slices
import Derived.ChangeSame
import Derived.ChangeMaps5
import Derived.WideShapes
namespace Go.Proofs.Ytdkiglaidbahmaa.Opens
open Go.ChangeShapes Go.WideShapes Go.Deep Go.Proofs.YtdkiglaidbahmaaW.PrintWords

/-- Whatever reads as data of type t reads as a value of kind d that is right. -/
structure Opens {α : Type} (P : Program) (d : Kd α) (t : TypeId) (G : α → Prop) : Prop where
  out : ∀ (H : Type) (enc : TypeId × Value → H) (w : World) (base : Nat) (spare : Nat → Bool) (held : Bool) (fuel : Nat) (cs : List Value) (x : DataW H × List MemPlace),
    DataW.trod enc P w base spare held fuel t cs = some x → ∃ y : α, d.K w y cs ∧ G y
/-- The same of fields, from a place on. -/
structure OpensF {α : Type} (P : Program) (d : Kd α) (fs : List Field) (off : Nat) (G : α → Prop) : Prop where
  out : ∀ (H : Type) (enc : TypeId × Value → H) (w : World) (base : Nat) (spare : Nat → Bool) (held : Bool) (n : Nat) (cs : List Value), cs.length = off + d.sz →
    (∀ f ∈ fs, ∃ x, DataW.trod enc P w base spare held n f.type ((cs.drop f.offset).take (P.cellsOf f.type)) = some x) → ∃ y : α, d.K w y (cs.drop off) ∧ G y

theorem Opens.int {P : Program} {t : TypeId} {k : IntKind} (ht : P.underlying t = some (.int k)) : Opens P (Kd.int k) t (fun n => (Lit.int k n).wf = true) := by
  refine ⟨?_⟩
  intro H enc w base spare held fuel cs x h
  obtain ⟨n, rfl, _, hw⟩ := DataW.trod_int ht h
  exact ⟨n, rfl, hw⟩
theorem Opens.string {P : Program} {t : TypeId} (ht : P.underlying t = some .string) : Opens P Kd.string t (fun s => s.size ≤ maxLen) := by
  refine ⟨?_⟩
  intro H enc w base spare held fuel cs x h
  obtain ⟨s, rfl, _, hw⟩ := DataW.trod_string ht h
  exact ⟨s, rfl, hw⟩
theorem exists_list {α : Type} {Q : Nat → α → Prop} (n : Nat) (h : ∀ i, i < n → ∃ y, Q i y) : ∃ l : List α, l.length = n ∧ ∀ i y, l[i]? = some y → Q i y := by
  induction n with
  | zero => exact ⟨[], rfl, fun i y h => by simp at h⟩
  | succ n ih =>
    obtain ⟨l, hl, hq⟩ := ih (fun i hi => h i (by omega))
    obtain ⟨y, hy⟩ := h n (by omega)
    refine ⟨l ++ [y], by simp [hl], fun i z hz => ?_⟩
    by_cases hi : i < l.length
    · rw [List.getElem?_append_left hi] at hz
      exact hq i z hz
    · rw [List.getElem?_append_right (by omega)] at hz
      have h0 : i - l.length = 0 := by
        have := (List.getElem?_eq_some_iff.1 hz).1
        simp at this
        omega
      rw [h0] at hz
      have e : i = n := by omega
      subst e
      simp at hz
      exact hz ▸ hy
theorem Opens.slice {α : Type} {P : Program} {d : Kd α} {t e : TypeId} {G : α → Prop} (ht : P.underlying t = some (.slice e)) (hC : P.cellsOf e = d.sz) (h : Opens P d e G) :
    Opens P (Kd.slice e d) t (fun l => l.length ≤ maxLen ∧ ∀ x ∈ l, G x) := by
  refine ⟨?_⟩
  intro H enc w base spare held fuel cs x hx
  rcases open_slice ht hx with ⟨rfl, _⟩ | ⟨a, len, cap, m, n, D, Pl, rfl, hb, hl, hm, hmm, _, hi⟩
  · exact ⟨[], ⟨none, 0, rfl, Nat.le_refl _, rfl, Nat.zero_le _, fun h => absurd h (Nat.lt_irrefl 0)⟩, Nat.zero_le _, fun x hx => absurd hx (by simp)⟩
  · have hlm : len ≤ m := by rw [hmm]; split <;> omega
    obtain ⟨l, hlen, hq⟩ := exists_list (Q := fun i (y : α) => ∃ cs', w.cells? base (a.add (i * P.cellsOf e)) (P.cellsOf e) = some cs' ∧ d.K w y cs' ∧ G y) len (fun i hi' => by
      obtain ⟨cs', hc, ht'⟩ := hi i (by omega)
      obtain ⟨y, hk, hg⟩ := h.out H enc w base spare held n cs' _ ht'
      exact ⟨y, cs', hc, hk, hg⟩)
    refine ⟨l, ⟨some a, cap, by rw [hlen], by omega, rfl, ?_, fun _ => ⟨a, rfl, fun j p hj => ?_⟩⟩, by omega, fun y hy => ?_⟩
    · simp only [maxLen] at hm
      omega
    · obtain ⟨cs', hc, hk, _⟩ := hq j p hj
      obtain ⟨_, hcl, hat⟩ := World.cells?_some hc
      refine ⟨cs', by rw [hcl, hC], hk, fun i u hu => ?_⟩
      have hil := (List.getElem?_eq_some_iff.1 hu).1
      have hcell := hat i (by omega)
      rw [← hC, ← Go.Deep.add_add, hcell, hu]
    · obtain ⟨j, hj, rfl⟩ := List.getElem_of_mem hy
      obtain ⟨_, _, _, hg⟩ := hq j _ (List.getElem?_eq_getElem hj)
      exact hg
theorem OpensF.one {α : Type} {P : Program} {d : Kd α} {f : Field} {off : Nat} {G : α → Prop} (hO : f.offset = off) (hC : P.cellsOf f.type = d.sz) (h : Opens P d f.type G) : OpensF P d [f] off G := by
  refine ⟨?_⟩
  intro H enc w base spare held n cs hl hf
  obtain ⟨x, hx⟩ := hf f (by simp)
  rw [hO, hC, List.take_of_length_le (by rw [List.length_drop]; omega)] at hx
  exact h.out H enc w base spare held n _ x hx
theorem OpensF.cons {α β : Type} {P : Program} {d : Kd α} {d' : Kd β} {f : Field} {fs : List Field} {off : Nat} {G : α → Prop} {G' : β → Prop} (hO : f.offset = off) (hC : P.cellsOf f.type = d.sz) (h : Opens P d f.type G)
    (h' : OpensF P d' fs (off + d.sz) G') : OpensF P (Kd.pair d d') (f :: fs) off (fun p => G p.1 ∧ G' p.2) := by
  refine ⟨?_⟩
  intro H enc w base spare held n cs hl hf
  have hl' : cs.length = off + (d.sz + d'.sz) := hl
  obtain ⟨x, hx⟩ := hf f (by simp)
  rw [hO, hC] at hx
  obtain ⟨y, hy, hg⟩ := h.out H enc w base spare held n _ x hx
  obtain ⟨y', hy', hg'⟩ := h'.out H enc w base spare held n cs (by omega) (fun g hg => hf g (by simp [hg]))
  refine ⟨(y, y'), ⟨(cs.drop off).take d.sz, cs.drop (off + d.sz), ?_, hy, hy'⟩, hg, hg'⟩
  rw [← List.drop_drop, List.take_append_drop]
theorem Opens.fields {α : Type} {P : Program} {d : Kd α} {t : TypeId} {fs : Array Field} {G : α → Prop} (ht : P.underlying t = some (.struct fs)) (hC : P.cellsOf t = d.sz) (h : OpensF P d fs.toList 0 G) : Opens P d t G := by
  refine ⟨?_⟩
  intro H enc w base spare held fuel cs x hx
  obtain ⟨xs, n, _, _, hl, hlen, hf⟩ := DataW.trod_struct ht hx
  have := h.out H enc w base spare held n cs (by omega) (fun f hm => by
    obtain ⟨i, hi, rfl⟩ := List.getElem_of_mem hm
    have hi' : i < fs.size := by simpa using hi
    have e := hf i (fs[i]'hi') (Array.getElem?_eq_getElem hi')
    rw [List.getElem?_eq_getElem (by omega)] at e
    exact ⟨_, by simpa using e⟩)
  simpa using this
theorem Opens.iso {α β : Type} {P : Program} {d : Kd α} {t : TypeId} {G : α → Prop} (h : Opens P d t G) (f : β → α) (g : α → β) (hg : ∀ p, f (g p) = p) : Opens P (Kd.iso d f) t (fun y => G (f y)) := by
  refine ⟨?_⟩
  intro H enc w base spare held fuel cs x hx
  obtain ⟨y, hy, hG⟩ := h.out H enc w base spare held fuel cs x hx
  refine ⟨g y, ?_, ?_⟩
  · show d.K w (f (g y)) cs
    rw [hg]; exact hy
  · show G (f (g y))
    rw [hg]; exact hG
theorem Opens.good {α : Type} {P : Program} {d : Kd α} {t : TypeId} {G G' : α → Prop} (h : Opens P d t G) (hg : ∀ y, G y → G' y) : Opens P d t G' := ⟨fun H enc w base spare held fuel cs x hx => by
  obtain ⟨y, hy, hG⟩ := h.out H enc w base spare held fuel cs x hx
  exact ⟨y, hy, hg y hG⟩⟩
theorem Opens.arg {α : Type} {H : Type} {enc : TypeId × Value → H} {P : Program} {w : World} {base : Nat} {spare : Nat → Bool} {held : Bool} {d : Kd α} {t : TypeId} {G : α → Prop} {v : Value} {D : DataW H} {p : List MemPlace} (h : Opens P d t G) (hd : DataW.Trod enc P w base spare held t v D p) :
    ∃ y : α, d.K w y v.cells.toList ∧ G y := by
  obtain ⟨fuel, hf⟩ := hd
  exact h.out H enc w base spare held fuel _ _ hf
end Go.Proofs.Ytdkiglaidbahmaa.Opens
