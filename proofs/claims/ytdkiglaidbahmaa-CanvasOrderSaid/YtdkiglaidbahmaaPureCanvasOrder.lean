/- The order of parts does not matter, nor whether one is told in two. For at most 40 parts. -/
import Derived.Test.YtdkiglaidbahmaaGCanx10
import Derived.Test.YtdkiglaidbahmaaOpensK
import Derived.Test.YtdkiglaidbahmaaCanPure
namespace Go.Proofs.Ytdkiglaidbahmaa.Pure
set_option linter.unusedSimpArgs false
set_option linter.unusedVariables false
open Go.RowKit Go.Proofs.Ytdkiglaidbahmaa.Can Go.Proofs.Ytdkiglaidbahmaa.PCanvasLays Go.Proofs.Ytdkiglaidbahmaa.Ext Go.Proofs.Ytdkiglaidbahmaa.Opens Go.Proofs.Ytdkiglaidbahmaa.GCan Go.Proofs.YtdkiglaidbahmaaW.PrintWords Go.Proofs.YtdkiglaidbahmaaW.PrintLast Go.Proofs.YtdkiglaidbahmaaW.PrintMore

/-- A part in two. -/
def hv (x : S50) : List S50 := [⟨⟨x.f0.f0, x.f0.f1, x.f0.f2, x.f0.f3⟩, wrap64 (Int.tdiv x.f1 2)⟩, ⟨⟨x.f0.f0, x.f0.f1, x.f0.f2, x.f0.f3⟩, wrap64 (x.f1 - wrap64 (Int.tdiv x.f1 2))⟩]
theorem rev_drop (l : List S50) (i : Nat) (h : i < l.length) : l.reverse.drop i = rd_T50 l ((l.length - 1 - i : Nat) : Int) :: l.reverse.drop (i + 1) := by
  rw [List.drop_eq_getElem_cons (by simpa using h), List.getElem_reverse]
  congr 1
  unfold rd_T50
  rw [Int.toNat_natCast, List.getD_eq_getElem?_getD, List.getElem?_eq_getElem (by omega)]
  rfl
theorem order_loop (l : List S50) (hl : l.length ≤ 40) (m p0 p1 p2 p3 : Int) (k : Nat) : ∀ (d i : Nat) (acc : List S50), l.length - i = d → i ≤ l.length → acc.length ≤ 2 * i → celluloidlaw21_CanvasOrder.l0 (k + d) l m acc (l.length : Int) (i : Int) p0 p1 p2 p3 = celluloidlaw21_CanvasOrder.l0 k l m (acc ++ (l.reverse.drop i).flatMap hv) (l.length : Int) (l.length : Int) p0 p1 p2 p3 := by
  intro d
  induction d with
  | zero =>
    intro i acc hd hi _
    obtain rfl : i = l.length := by omega
    rw [List.drop_eq_nil_of_le (by simp)]
    simp
  | succ d ih =>
    intro i acc hd hi ha
    have e1 : wrap64 ((l.length : Int) - 1) = (l.length : Int) - 1 := w64 (by omega) (by omega)
    have e2 : wrap64 ((l.length : Int) - 1 - (i : Int)) = ((l.length - 1 - i : Nat) : Int) := by rw [w64 (by omega) (by omega)]; omega
    have e3 : wrap64 ((i : Int) + 1) = ((i + 1 : Nat) : Int) := by rw [w64 (by omega) (by omega)]; omega
    rw [← Nat.add_assoc, celluloidlaw21_CanvasOrder.l0, e1, e2, e3, if_pos (by omega), if_pos (by omega), if_pos (by omega)]
    simp only [Option.bind_some]
    rw [if_pos (by simp; omega)]
    have := ih (i + 1) (acc ++ hv (rd_T50 l ((l.length - 1 - i : Nat) : Int))) (by omega) (by omega) (by simp [hv]; omega)
    unfold hv at this ⊢
    rw [this, rev_drop l i (by omega)]
    simp [hv]
theorem PB_iff : ∀ {acc : Int} {l : List S50}, acc ≤ 16 → (PB acc l ↔ (∀ x ∈ l, F23 x.f0 ∧ 0 ≤ x.f1) ∧ acc + (l.map fun x => x.f1).sum ≤ 16)
  | acc, [], h => by simp [PB]; exact h
  | acc, x :: t, h => by
    simp only [PB, List.mem_cons, forall_eq_or_imp, List.map_cons, List.sum_cons]
    constructor
    · rintro ⟨h0, h1, h2, h3⟩
      obtain ⟨k0, k1⟩ := (PB_iff h2).1 h3
      exact ⟨⟨⟨h0, h1⟩, k0⟩, by omega⟩
    · rintro ⟨⟨⟨h0, h1⟩, k0⟩, k1⟩
      have hs : ∀ t : List S50, (∀ x ∈ t, F23 x.f0 ∧ 0 ≤ x.f1) → 0 ≤ (t.map fun x => x.f1).sum := by
        intro t
        induction t with
        | nil => intro _; simp
        | cons y t ih =>
          intro hy
          have := ih (fun x hx => hy x (by simp [hx]))
          have := (hy y (by simp)).2
          simp only [List.map_cons, List.sum_cons]
          omega
      have := hs t k0
      have h2 : acc + x.f1 ≤ 16 := by omega
      exact ⟨h0, h1, h2, (PB_iff h2).2 ⟨k0, by omega⟩⟩
theorem mem_le : ∀ {acc : Int} {l : List S50}, 0 ≤ acc → PB acc l → ∀ x ∈ l, F23 x.f0 ∧ 0 ≤ x.f1 ∧ x.f1 ≤ 16
  | acc, [], _, _ => by simp
  | acc, y :: t, ha, h => by
    obtain ⟨h0, h1, h2, h3⟩ := h
    intro x hx
    rcases List.mem_cons.1 hx with rfl | hx
    · exact ⟨h0, h1, by omega⟩
    · exact mem_le (by omega) h3 x hx
theorem hv_is {x : S50} (h : 0 ≤ x.f1 ∧ x.f1 ≤ 16) : hv x = [⟨x.f0, x.f1 / 2⟩, ⟨x.f0, x.f1 - x.f1 / 2⟩] := by
  unfold hv
  rw [Int.tdiv_eq_ediv_of_nonneg h.1, w64 (n := x.f1 / 2) (by omega) (by omega), w64 (by omega) (by omega)]
theorem back_sum (c : S23 → Int) : ∀ {l : List S50}, (∀ x ∈ l, 0 ≤ x.f1 ∧ x.f1 ≤ 16) → sumP (fun x => c x.f0) (l.reverse.flatMap hv) = sumP (fun x => c x.f0) l
  | [], _ => rfl
  | x :: t, h => by
    have ih := back_sum c (l := t) (fun y hy => h y (by simp [hy]))
    rw [List.reverse_cons, List.flatMap_append, sumP_append, ih, sumP_cons]
    have hx := h x (by simp)
    simp only [List.flatMap_cons, List.flatMap_nil, List.append_nil]
    rw [hv_is hx, sumP_cons, sumP_cons, sumP_nil]
    simp only
    rw [Int.mul_sub]
    omega
theorem back_covers : ∀ {l : List S50}, (∀ x ∈ l, 0 ≤ x.f1 ∧ x.f1 ≤ 16) → ((l.reverse.flatMap hv).map fun x => x.f1).sum = (l.map fun x => x.f1).sum
  | [], _ => rfl
  | x :: t, h => by
    have ih := back_covers (l := t) (fun y hy => h y (by simp [hy]))
    rw [List.reverse_cons, List.flatMap_append, List.map_append, List.sum_append, ih]
    have hx := h x (by simp)
    simp only [List.flatMap_cons, List.flatMap_nil, List.append_nil]
    rw [hv_is hx]
    simp only [List.map_cons, List.map_nil, List.sum_cons, List.sum_nil]
    omega
theorem back_PB {l : List S50} (h : PB 0 l) : PB 0 (l.reverse.flatMap hv) := by
  have hm := mem_le (by decide) h
  have hm' : ∀ x ∈ l, 0 ≤ x.f1 ∧ x.f1 ≤ 16 := fun x hx => (hm x hx).2
  refine (PB_iff (by decide)).2 ⟨?_, ?_⟩
  · intro y hy
    obtain ⟨x, hx, hy⟩ := List.mem_flatMap.1 hy
    have hx := hm x (by simpa using hx)
    rw [hv_is hx.2] at hy
    simp only [List.mem_cons, List.not_mem_nil, or_false] at hy
    rcases hy with rfl | rfl
    · exact ⟨hx.1, by simp only; omega⟩
    · exact ⟨hx.1, by simp only; omega⟩
  · rw [back_covers hm']
    exact ((PB_iff (by decide)).1 h).2
theorem hv_len (l : List S50) : (l.flatMap hv).length = 2 * l.length := by
  induction l with
  | nil => rfl
  | cons x t ih => rw [List.flatMap_cons, List.length_append, ih]; simp [hv]; omega
def SaidCanvasOrder : Prop := ∀ (a0_0 : Int) (a0_1 : Int) (a0_2 : Int) (a0_3 : Int) (l1 : List S50) (a2 : Int), (Lit.int .i64 a0_0).wf = true → (Lit.int .i64 a0_1).wf = true → (Lit.int .i64 a0_2).wf = true → (Lit.int .i64 a0_3).wf = true → l1.length ≤ maxLen ∧ (∀ x ∈ l1, G50 x) → (Lit.int .i64 a2).wf = true → ∃ k, celluloidlaw21_CanvasOrder.f k a0_0 a0_1 a0_2 a0_3 l1 a2 = some true
theorem CanvasOrder : SaidCanvasOrder := by
  intro p0 p1 p2 p3 l m _ _ _ _ _ _
  refine ⟨300 + l.length, ?_⟩
  unfold celluloidlaw21_CanvasOrder.f
  by_cases h40 : (l.length : Int) > 40
  · rw [if_pos h40]
    exact awake_bind (by omega)
  · rw [if_neg h40]
    have hl : l.length ≤ 40 := by omega
    have hm : l.length ≤ maxLen := by unfold maxLen; omega
    have hloop := order_loop l hl m p0 p1 p2 p3 300 l.length 0 [] (by omega) (by omega) (by simp)
    rw [show ((0 : Nat) : Int) = 0 from rfl, List.drop_zero, List.nil_append] at hloop
    rw [hloop, show (300 : Nat) = 299 + 1 from rfl, celluloidlaw21_CanvasOrder.l0, if_neg (by omega)]
    have hbl : (l.reverse.flatMap hv).length = 2 * l.length := by rw [hv_len]; simp
    by_cases h : OK p0 p1 p2 p3 l m
    · have hb : OK p0 p1 p2 p3 (l.reverse.flatMap hv) m := ⟨h.1, back_PB h.2.1, h.2.2⟩
      have hm' : ∀ x ∈ l, 0 ≤ x.f1 ∧ x.f1 ≤ 16 := fun x hx => (mem_le (by decide) h.2.1 x hx).2
      have e : px (l.reverse.flatMap hv) m p0 p1 p2 p3 = px l m p0 p1 p2 p3 := by
        unfold px cp
        rw [back_sum (fun c => c.f0) hm', back_sum (fun c => c.f1) hm', back_sum (fun c => c.f2) hm', back_sum (fun c => c.f3) hm']
      rw [over_yes hm (by omega) h, over_yes (by unfold maxLen; omega) (by omega) hb, e]
      simp only [Option.bind_some]
      have e0 : (px l m p0 p1 p2 p3).2.2.2.2 = 0 := rfl
      rw [if_pos e0]
      simp only [beq_self_eq_true, Bool.and_self, if_true]
      rw [if_pos e0]
      exact awake_bind (by decide)
    · rw [over_no hm (by omega) h]
      simp only [Option.bind_some]
      rw [if_neg (by decide)]
      exact awake_bind (by decide)
end Go.Proofs.Ytdkiglaidbahmaa.Pure
