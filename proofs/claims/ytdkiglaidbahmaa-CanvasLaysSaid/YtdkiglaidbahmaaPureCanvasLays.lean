/- Whatever a canvas is, what it is with parts laid over a pixel is what the document says, or it is refused. For at most 500 pixels and 40 parts. -/
import Derived.Test.YtdkiglaidbahmaaGCanx8
import Derived.Test.YtdkiglaidbahmaaOpensK
import Derived.Test.YtdkiglaidbahmaaCanRef
namespace Go.Proofs.Ytdkiglaidbahmaa.Pure
set_option linter.unusedSimpArgs false
set_option linter.unusedVariables false
open Go.RowKit Go.Proofs.Ytdkiglaidbahmaa.Can Go.Proofs.Ytdkiglaidbahmaa.PCanvasLays Go.Proofs.Ytdkiglaidbahmaa.Ext Go.Proofs.Ytdkiglaidbahmaa.Opens Go.Proofs.Ytdkiglaidbahmaa.GCan Go.Proofs.YtdkiglaidbahmaaW.PrintWords Go.Proofs.YtdkiglaidbahmaaW.PrintLast Go.Proofs.YtdkiglaidbahmaaW.PrintMore

/-- A right canvas. -/
def RB (W H : Int) (l : List S23) : Prop := (1 ≤ W ∧ W ≤ 256 ∧ 1 ≤ H ∧ H ≤ 256 ∧ (l.length : Int) = W * H) ∧ ∀ x ∈ l, F23 x
instance (W H : Int) (l : List S23) : Decidable (RB W H l) := inferInstanceAs (Decidable ((1 ≤ W ∧ W ≤ 256 ∧ 1 ≤ H ∧ H ≤ 256 ∧ (l.length : Int) = W * H) ∧ ∀ x ∈ l, F23 x))
theorem allF_ge {k : Nat} (hk : 5 ≤ k) : ∀ l : List S23, allF k l = some (decide (∀ x ∈ l, F23 x))
  | [] => by simp [allF]
  | x :: t => by
    simp only [allF, faint_ge hk, Option.bind_some]
    by_cases h : FB x.f0 x.f1 x.f2 x.f3
    · rw [if_pos (decide_eq_true h), allF_ge hk t]
      congr 1
      rw [decide_eq_decide]
      simp only [List.mem_cons, forall_eq_or_imp]
      exact ⟨fun h' => ⟨h, h'⟩, fun h' => h'.2⟩
    · rw [if_neg (by rw [decide_eq_false h]; decide)]
      congr 1
      symm
      apply decide_eq_false
      intro h'
      exact h (h' x (by simp))
theorem right_ge {k : Nat} (hk : 5 ≤ k) (W H : Int) (l : List S23) : canvas_Right.f k W H l = some (decide (RB W H l)) := by
  unfold canvas_Right.f
  by_cases m1 : 1 ≤ mn W H
  · rw [if_pos m1]
    by_cases m2 : mx W H ≤ 256
    · rw [if_pos m2]
      have hb : 1 ≤ W ∧ W ≤ 256 ∧ 1 ≤ H ∧ H ≤ 256 := by
        unfold mn at m1
        unfold mx at m2
        refine ⟨?_, ?_, ?_, ?_⟩ <;> (split at m1 <;> split at m2 <;> omega)
      have hr := mul_rng (a := W) (A := 256) (b := H) (B := 256) (by omega) hb.2.1 (by omega) hb.2.2.2
      rw [w64 (n := W * H) (by omega) (by omega)]
      by_cases hl : (l.length : Int) = W * H
      · rw [if_pos hl, allF_ge hk]
        congr 1
        rw [decide_eq_decide]
        exact ⟨fun h => ⟨⟨hb.1, hb.2.1, hb.2.2.1, hb.2.2.2, hl⟩, h⟩, fun h => h.2⟩
      · rw [if_neg hl]
        exact congrArg some (decide_eq_false (fun h => hl h.1.2.2.2.2)).symm
    · rw [if_neg m2]
      refine congrArg some (decide_eq_false (fun h => m2 ?_)).symm
      have := h.1
      unfold mx; split <;> omega
  · rw [if_neg m1]
    refine congrArg some (decide_eq_false (fun h => m1 ?_)).symm
    have := h.1
    unfold mn; split <;> omega
theorem drop_rd23 (l : List S23) (j : Nat) (h : j < l.length) : l.drop j = rd_T23 l j :: l.drop (j + 1) := drop_rd l j h
theorem refright_loop (W H : Int) (l : List S23) (hl : l.length ≤ 65536) : ∀ (d i k : Nat), l.length - i = d → i ≤ l.length → d + 7 ≤ k → celluloidref21_Right.l0 k (i : Int) W H l = some (decide (∀ x ∈ l.drop i, F23 x)) := by
  intro d
  induction d with
  | zero =>
    intro i k hd hi hk
    obtain ⟨k, rfl⟩ : ∃ m, k = m + 1 := ⟨k - 1, by omega⟩
    rw [celluloidref21_Right.l0, if_neg (by omega), List.drop_eq_nil_of_le (by omega)]
    simp
  | succ d ih =>
    intro i k hd hi hk
    obtain ⟨k, rfl⟩ : ∃ m, k = m + 1 := ⟨k - 1, by omega⟩
    rw [celluloidref21_Right.l0, if_pos (by omega), if_pos (by omega), reffaint_ge (by omega), drop_rd23 l i (by omega)]
    simp only [Option.bind_some]
    generalize rd_T23 l i = x
    by_cases h : FB x.f0 x.f1 x.f2 x.f3
    · rw [if_pos (decide_eq_true h), w64 (n := (i : Int) + 1) (by omega) (by omega), show ((i : Int) + 1) = ((i + 1 : Nat) : Int) by omega, ih (i + 1) k (by omega) (by omega) (by omega)]
      congr 1
      rw [decide_eq_decide]
      simp only [List.mem_cons, forall_eq_or_imp]
      exact ⟨fun h' => ⟨h, h'⟩, fun h' => h'.2⟩
    · rw [if_neg (by rw [decide_eq_false h]; decide)]
      congr 1
      symm
      apply decide_eq_false
      intro h'
      exact h (h' x (by simp))
theorem refright_ge {k : Nat} (W H : Int) (l : List S23) (hl : l.length ≤ 65536) (hk : l.length + 9 ≤ k) : celluloidref21_Right.f k W H l = some (decide (RB W H l)) := by
  have j0t : celluloidref21_Right.j0 k true W H l = some false := by
    obtain ⟨k, rfl⟩ : ∃ m, k = m + 1 := ⟨k - 1, by omega⟩
    simp [celluloidref21_Right.j0]
  unfold celluloidref21_Right.f
  by_cases c0 : W < 1
  · rw [if_pos c0, j0t]; exact congrArg some (decide_eq_false (fun h => by have := h.1; omega)).symm
  rw [if_neg c0]
  by_cases c1 : W > 256
  · rw [if_pos c1, j0t]; exact congrArg some (decide_eq_false (fun h => by have := h.1; omega)).symm
  rw [if_neg c1]
  by_cases c2 : H < 1
  · rw [if_pos c2, j0t]; exact congrArg some (decide_eq_false (fun h => by have := h.1; omega)).symm
  rw [if_neg c2]
  by_cases c3 : H > 256
  · rw [if_pos c3, j0t]; exact congrArg some (decide_eq_false (fun h => by have := h.1; omega)).symm
  rw [if_neg c3]
  have hr := mul_rng (a := W) (A := 256) (b := H) (B := 256) (by omega) (by omega) (by omega) (by omega)
  rw [w64 (n := W * H) (by omega) (by omega)]
  by_cases c4 : (l.length : Int) = W * H
  · rw [show ((l.length : Int) != W * H) = false by rw [c4]; exact bne_self_eq_false _]
    obtain ⟨k, rfl⟩ : ∃ m, k = m + 1 := ⟨k - 1, by omega⟩
    rw [celluloidref21_Right.j0, if_neg (by decide)]
    have := refright_loop W H l hl l.length 0 k (by omega) (by omega) (by omega)
    rw [show ((0 : Nat) : Int) = 0 from rfl, List.drop_zero] at this
    rw [this]
    congr 1
    rw [decide_eq_decide]
    exact ⟨fun h => ⟨⟨by omega, by omega, by omega, by omega, c4⟩, h⟩, fun h => h.2⟩
  · rw [show ((l.length : Int) != W * H) = true from bne_iff_ne.2 c4, j0t]
    exact congrArg some (decide_eq_false (fun h => c4 h.1.2.2.2.2)).symm
theorem idx_rng {W H x y : Int} {l : List S23} (h : RB W H l) (x0 : 0 ≤ x) (x1 : x < W) (y0 : 0 ≤ y) (y1 : y < H) : 0 ≤ y * W + x ∧ y * W + x < l.length ∧ y * W + x ≤ 65536 ∧ 0 ≤ y * W ∧ y * W ≤ 65536 := by
  obtain ⟨h0, h1, h2, h3, h4⟩ := h.1
  have r1 := mul_rng (a := y) (A := H - 1) (b := W) (B := W) y0 (by omega) (by omega) (Int.le_refl _)
  have r2 := mul_rng (a := W) (A := 256) (b := H) (B := 256) (by omega) h1 (by omega) h3
  have r3 : (H - 1) * W = W * H - W := by rw [Int.sub_mul, Int.one_mul, Int.mul_comm]
  omega
theorem mem_rd {l : List S23} {i : Int} (h0 : 0 ≤ i) (h1 : i < l.length) : rd_T23 l i ∈ l := by
  unfold rd_T23
  rw [List.getD_eq_getElem?_getD, List.getElem?_eq_getElem (by omega)]
  exact List.getElem_mem _
/-- The pixel that is laid over. -/
def nw (q : S23) (l : List S50) (m : Int) : S23 := ⟨(px l m q.f0 q.f1 q.f2 q.f3).1, (px l m q.f0 q.f1 q.f2 q.f3).2.1, (px l m q.f0 q.f1 q.f2 q.f3).2.2.1, (px l m q.f0 q.f1 q.f2 q.f3).2.2.2.1⟩
theorem nw_F {q : S23} {l : List S50} {m : Int} (h : OK q.f0 q.f1 q.f2 q.f3 l m) : F23 (nw q l m) := by
  have e := (px_faint h).1
  unfold F23 nw
  exact e
theorem lay_yes {k : Nat} {W H x y m : Int} {l : List S23} {ps : List S50} (hk : 300 ≤ k) (hp : ps.length ≤ 40) (hl : l.length ≤ 500) (h : RB W H l) (x0 : 0 ≤ x) (x1 : x < W) (y0 : 0 ≤ y) (y1 : y < H) (hP : PB 0 ps) (m0 : 0 ≤ m) (m1 : m ≤ 16) :
    canvas_Lay.f k W H l x y ps m = some (W, H, l.set (y * W + x).toNat (nw (rd_T23 l (y * W + x)) ps m), 0) := by
  obtain ⟨i0, i1, i2, i3, i4⟩ := idx_rng h x0 x1 y0 y1
  have hf := h.2 _ (mem_rd i0 i1)
  have hm : ps.length ≤ maxLen := by unfold maxLen; omega
  unfold canvas_Lay.f
  rw [right_ge (by omega), decide_eq_true h]
  simp only [Option.bind_some, if_true]
  rw [if_neg (by omega), if_neg (by omega), if_neg (by omega), decide_eq_false (show ¬ y ≥ H by omega)]
  obtain ⟨k, rfl⟩ : ∃ m, k = m + 1 := ⟨k - 1, by omega⟩
  simp only [canvas_Lay.j0]
  rw [if_neg (by decide), w64 (n := y * W) (by omega) (by omega), w64 (n := y * W + x) (by omega) (by omega), if_pos i0, if_pos i1, over_yes hm (by omega) ⟨hf, hP, m0, m1⟩]
  simp only [Option.bind_some]
  have e0 : (px ps m (rd_T23 l (y * W + x)).f0 (rd_T23 l (y * W + x)).f1 (rd_T23 l (y * W + x)).f2 (rd_T23 l (y * W + x)).f3).2.2.2.2 = 0 := rfl
  rw [if_pos e0]
  unfold api_RGBA_30.f
  rw [if_neg (by omega), if_pos (by omega)]
  simp only [Option.bind_some]
  rw [if_pos i1]
  rfl
theorem lay_no {k : Nat} {W H x y m : Int} {l : List S23} {ps : List S50} (hk : 300 ≤ k) (hp : ps.length ≤ 40) (hl : l.length ≤ 500) (h : ¬ (RB W H l ∧ 0 ≤ x ∧ x < W ∧ 0 ≤ y ∧ y < H ∧ PB 0 ps ∧ 0 ≤ m ∧ m ≤ 16)) :
    canvas_Lay.f k W H l x y ps m = some (0, 0, [], 1) := by
  have j0t : canvas_Lay.j0 k x y ps m true W H l = some (0, 0, [], 1) := by
    obtain ⟨k, rfl⟩ : ∃ m, k = m + 1 := ⟨k - 1, by omega⟩
    simp [canvas_Lay.j0]
  unfold canvas_Lay.f
  rw [right_ge (by omega)]
  simp only [Option.bind_some]
  by_cases hr : RB W H l
  · rw [if_pos (decide_eq_true hr)]
    by_cases c0 : x < 0
    · rw [if_pos c0, j0t]
    rw [if_neg c0]
    by_cases c1 : x ≥ W
    · rw [if_pos c1, j0t]
    rw [if_neg c1]
    by_cases c2 : y < 0
    · rw [if_pos c2, j0t]
    rw [if_neg c2]
    by_cases c3 : y ≥ H
    · rw [decide_eq_true c3, j0t]
    rw [decide_eq_false c3]
    obtain ⟨i0, i1, i2, i3, i4⟩ := idx_rng (x := x) (y := y) hr (by omega) (by omega) (by omega) (by omega)
    have hm : ps.length ≤ maxLen := by unfold maxLen; omega
    obtain ⟨k, rfl⟩ : ∃ m, k = m + 1 := ⟨k - 1, by omega⟩
    simp only [canvas_Lay.j0]
    rw [if_neg (by decide), w64 (n := y * W) (by omega) (by omega), w64 (n := y * W + x) (by omega) (by omega), if_pos i0, if_pos i1, over_no hm (by omega) (fun ho => h ⟨hr, by omega, by omega, by omega, by omega, ho.2.1, ho.2.2.1, ho.2.2.2⟩)]
    simp only [Option.bind_some]
    rw [if_neg (by decide)]
  · rw [if_neg (by rw [decide_eq_false hr]; decide), j0t]
theorem at_yes {k : Nat} {W H x y : Int} {l : List S23} (hk : 10 ≤ k) (h : RB W H l) (x0 : 0 ≤ x) (x1 : x < W) (y0 : 0 ≤ y) (y1 : y < H) :
    canvas_At.f k W H l x y = some ((rd_T23 l (y * W + x)).f0, (rd_T23 l (y * W + x)).f1, (rd_T23 l (y * W + x)).f2, (rd_T23 l (y * W + x)).f3) := by
  obtain ⟨i0, i1, i2, i3, i4⟩ := idx_rng h x0 x1 y0 y1
  unfold canvas_At.f
  rw [right_ge (by omega), decide_eq_true h]
  simp only [Option.bind_some, if_true]
  rw [if_neg (by omega), if_neg (by omega), if_neg (by omega), decide_eq_false (show ¬ y ≥ H by omega)]
  obtain ⟨k, rfl⟩ : ∃ m, k = m + 1 := ⟨k - 1, by omega⟩
  simp only [canvas_At.j0]
  rw [if_neg (by decide), w64 (n := y * W) (by omega) (by omega), w64 (n := y * W + x) (by omega) (by omega), if_pos i0, if_pos i1]
theorem rd_set {l : List S23} {i j : Int} {q : S23} (i0 : 0 ≤ i) (i1 : i < l.length) (j0 : 0 ≤ j) : rd_T23 (l.set j.toNat q) i = if i = j then q else rd_T23 l i := by
  unfold rd_T23
  rw [List.getD_eq_getElem?_getD, List.getD_eq_getElem?_getD, List.getElem?_set]
  by_cases h : i = j
  · subst h
    rw [if_pos rfl, if_pos (by omega), if_pos rfl]
    rfl
  · rw [if_neg (by omega), if_neg h]
theorem RB_set {W H : Int} {l : List S23} {j : Nat} {q : S23} (h : RB W H l) (hq : F23 q) : RB W H (l.set j q) := by
  refine ⟨?_, fun x hx => ?_⟩
  · rw [List.length_set]; exact h.1
  · rcases List.mem_or_eq_of_mem_set hx with hx | rfl
    · exact h.2 x hx
    · exact hq
theorem lays_loop {W H x y m : Int} {l : List S23} {ps : List S50} (hp : ps.length ≤ 40) (hl : l.length ≤ 500) (h : RB W H l) (x0 : 0 ≤ x) (x1 : x < W) (y0 : 0 ≤ y) (y1 : y < H) (hP : PB 0 ps) (m0 : 0 ≤ m) (m1 : m ≤ 16) (k : Nat) (hk : 300 ≤ k) :
    ∀ (d i : Nat), l.length - i = d → i ≤ l.length → celluloidlaw21_CanvasLays.l0 (k + 2 * d) x y ps m (l.length : Int) (i : Int) W H l W H (l.set (y * W + x).toNat (nw (rd_T23 l (y * W + x)) ps m)) = celluloidlaw21_CanvasLays.l0 k x y ps m (l.length : Int) (l.length : Int) W H l W H (l.set (y * W + x).toNat (nw (rd_T23 l (y * W + x)) ps m)) := by
  obtain ⟨h0, h1, h2, h3, h4⟩ := h.1
  obtain ⟨i0, i1, i2, i3, i4⟩ := idx_rng h x0 x1 y0 y1
  have hf := h.2 _ (mem_rd i0 i1)
  have hpx := nw_F (l := ps) (m := m) ⟨hf, hP, m0, m1⟩
  have hset : RB W H (l.set (y * W + x).toNat (nw (rd_T23 l (y * W + x)) ps m)) := RB_set h hpx
  obtain ⟨q0, hq0⟩ : ∃ q, q = nw (rd_T23 l (y * W + x)) ps m := ⟨_, rfl⟩
  rw [← hq0] at hset ⊢
  clear hpx
  intro d
  induction d with
  | zero =>
    intro i hd hi
    obtain rfl : i = l.length := by omega
    rfl
  | succ d ih =>
    intro i hd hi
    have E3 : Aside0 (wrap64 ((i : Int) + 1) = ((i + 1 : Nat) : Int)) := ⟨by rw [w64 (by omega) (by omega)]; omega⟩
    have hrd : rd_T23 (l.set (y * W + x).toNat q0) (i : Int) = if (i : Int) = y * W + x then q0 else rd_T23 l (i : Int) := by
      have z0 : (0 : Int) ≤ (i : Int) := Int.natCast_nonneg i
      have z1 : (i : Int) < (l.length : Int) := by omega
      clear ih
      exact rd_set (l := l) (i := (i : Int)) (j := y * W + x) (q := q0) z0 z1 i0
    have hj4 : ∀ q : S23, rd_T23 (l.set (y * W + x).toNat q0) (i : Int) = q → celluloidlaw21_CanvasLays.j4 (k + 2 * d + 1) x y ps m (i : Int) (l.length : Int) (i : Int) W H l W H (l.set (y * W + x).toNat q0) q.f0 q.f1 q.f2 q.f3 = celluloidlaw21_CanvasLays.l0 k x y ps m (l.length : Int) (l.length : Int) W H l W H (l.set (y * W + x).toNat q0) := by
      intro q hq
      rw [celluloidlaw21_CanvasLays.j4, if_pos (by omega), if_pos (by rw [List.length_set]; omega), hq]
      simp only [beq_self_eq_true, Bool.not_true, Bool.or_self]
      have t1 : Int.tmod (i : Int) W = (i : Int) % W := Int.tmod_eq_emod_of_nonneg (by omega)
      have t2 : Int.tdiv (i : Int) W = (i : Int) / W := Int.tdiv_eq_ediv_of_nonneg (by omega)
      have hdm := Int.mul_ediv_add_emod (i : Int) W
      have d0 : 0 ≤ (i : Int) / W := Int.ediv_nonneg (by omega) (by omega)
      have d1 : (i : Int) / W < H := Int.ediv_lt_of_lt_mul (by omega) (by rw [Int.mul_comm]; omega)
      have d2 : 0 ≤ (i : Int) % W := Int.emod_nonneg _ (by omega)
      have d3 : (i : Int) % W < W := Int.emod_lt_of_pos _ (by omega)
      rw [if_neg (by decide), if_neg (by omega), t1, t2, w64 (n := (i : Int) / W) (by omega) (by omega), at_yes (by omega) hset d2 d3 d0 d1, show (i : Int) / W * W + (i : Int) % W = (i : Int) by rw [Int.mul_comm]; exact hdm, hq]
      simp only [Option.bind_some, beq_self_eq_true, Bool.not_true, Bool.or_self]
      rw [if_neg (by decide), E3.out]
      exact ih (i + 1) (by omega) (by omega)
    rw [show k + 2 * (d + 1) = k + 2 * d + 1 + 1 by omega, celluloidlaw21_CanvasLays.l0, if_pos (by omega), if_pos (by omega), if_pos (by omega), w64 (n := y * W) (by omega) (by omega), w64 (n := y * W + x) (by omega) (by omega)]
    by_cases c : (i : Int) = y * W + x
    · rw [if_pos c, refs_ge (by omega) (by omega)]
      simp only [Option.bind_some]
      rw [if_pos c] at hrd
      have hfi : F23 (rd_T23 l (i : Int)) := by rw [c]; exact hf
      rw [refover_ge (by omega) (by omega) ⟨hfi, hP, m0, m1⟩]
      simp only [Option.bind_some]
      exact hj4 (nw (rd_T23 l (i : Int)) ps m) (by rw [hrd, hq0, c])
    · rw [if_neg c]
      rw [if_neg c] at hrd
      exact hj4 (rd_T23 l (i : Int)) hrd
theorem j1_true {k : Nat} {x y m W H : Int} {l : List S23} {ps : List S50} (hk : 50 ≤ k) : celluloidlaw21_CanvasLays.j1 k x y ps m 1 true W H l 0 0 [] = some true := by
  obtain ⟨k, rfl⟩ : ∃ m, k = m + 1 := ⟨k - 1, by omega⟩
  simp only [celluloidlaw21_CanvasLays.j1]
  rw [if_pos trivial, if_pos trivial, if_pos (by rfl)]
  exact awake_bind (by omega)
theorem j1_false {W H x y m : Int} {l : List S23} {ps : List S50} (hp : ps.length ≤ 40) (hl : l.length ≤ 500) (h : RB W H l) (x0 : 0 ≤ x) (x1 : x < W) (y0 : 0 ≤ y) (y1 : y < H) (hP : PB 0 ps) (m0 : 0 ≤ m) (m1 : m ≤ 16) :
    celluloidlaw21_CanvasLays.j1 (400 + 2 * l.length + 1 + 1) x y ps m 0 false W H l W H (l.set (y * W + x).toNat (nw (rd_T23 l (y * W + x)) ps m)) = some true := by
  rw [celluloidlaw21_CanvasLays.j1, if_neg (by decide), if_pos rfl, if_pos rfl, if_pos rfl, List.length_set, bne_self_eq_false, celluloidlaw21_CanvasLays.j2, if_neg (by decide), List.length_set]
  have := lays_loop hp hl h x0 x1 y0 y1 hP m0 m1 400 (by omega) l.length 0 (by omega) (by omega)
  rw [show ((0 : Nat) : Int) = 0 from rfl] at this
  rw [this, show (400 : Nat) = 399 + 1 from rfl, celluloidlaw21_CanvasLays.l0, if_neg (by omega)]
  exact awake_bind (by decide)
theorem j0_true {k : Nat} {x y m W H : Int} {l : List S23} {ps : List S50} (hk : 50 ≤ k) : celluloidlaw21_CanvasLays.j0 k x y ps m true W H l = some true := by
  obtain ⟨k, rfl⟩ : ∃ m, k = m + 1 := ⟨k - 1, by omega⟩
  simp only [celluloidlaw21_CanvasLays.j0]
  rw [if_pos trivial]
  exact awake_bind (by omega)
theorem j0_false {W H x y m : Int} {l : List S23} {ps : List S50} (hp : ps.length ≤ 40) (hl : l.length ≤ 500) : celluloidlaw21_CanvasLays.j0 (400 + 2 * l.length + 1 + 1 + 1) x y ps m false W H l = some true := by
  have hm : ps.length ≤ maxLen := by unfold maxLen; omega
  rw [celluloidlaw21_CanvasLays.j0, if_neg (by decide)]
  unfold celluloidlaw21_ref.f
  by_cases hall : RB W H l ∧ 0 ≤ x ∧ x < W ∧ 0 ≤ y ∧ y < H ∧ PB 0 ps ∧ 0 ≤ m ∧ m ≤ 16
  · obtain ⟨h, x0, x1, y0, y1, hP, m0, m1⟩ := hall
    rw [lay_yes (by omega) hp hl h x0 x1 y0 y1 hP m0 m1]
    simp only [Option.bind_some]
    rw [refright_ge W H l (by omega) (by omega), right_ge (by omega)]
    simp only [Option.bind_some, bne_self_eq_false]
    rw [if_neg (by decide), if_pos (decide_eq_true h), if_neg (by omega), if_neg (by omega), if_neg (by omega), if_neg (by omega), refs_ge (by omega) (by omega)]
    simp only [Option.bind_some]
    rw [refparts_ge hm (by omega)]
    simp only [Option.bind_some]
    rw [if_pos (decide_eq_true hP), if_neg (by omega), decide_eq_false (show ¬ m > 16 by omega)]
    exact j1_false hp hl h x0 x1 y0 y1 hP m0 m1
  · rw [lay_no (by omega) hp hl hall]
    simp only [Option.bind_some]
    rw [refright_ge W H l (by omega) (by omega), right_ge (by omega)]
    simp only [Option.bind_some, bne_self_eq_false]
    rw [if_neg (by decide)]
    by_cases h : RB W H l
    · rw [if_pos (decide_eq_true h)]
      by_cases c0 : x < 0
      · rw [if_pos c0]; exact j1_true (by omega)
      rw [if_neg c0]
      by_cases c1 : x ≥ W
      · rw [if_pos c1]; exact j1_true (by omega)
      rw [if_neg c1]
      by_cases c2 : y < 0
      · rw [if_pos c2]; exact j1_true (by omega)
      rw [if_neg c2]
      by_cases c3 : y ≥ H
      · rw [if_pos c3]; exact j1_true (by omega)
      rw [if_neg c3, refs_ge (by omega) (by omega)]
      simp only [Option.bind_some]
      rw [refparts_ge hm (by omega)]
      simp only [Option.bind_some]
      by_cases hP : PB 0 ps
      · rw [if_pos (decide_eq_true hP)]
        by_cases m0 : m < 0
        · rw [if_pos m0]; exact j1_true (by omega)
        rw [if_neg m0]
        by_cases m1 : m > 16
        · rw [decide_eq_true m1]; exact j1_true (by omega)
        · exact absurd ⟨h, by omega, by omega, by omega, by omega, hP, by omega, by omega⟩ hall
      · rw [if_neg (by rw [decide_eq_false hP]; decide)]; exact j1_true (by omega)
    · rw [if_neg (by rw [decide_eq_false h]; decide)]; exact j1_true (by omega)
def SaidCanvasLays : Prop := ∀ (a0_0 : Int) (a0_1 : Int) (l0_2 : List S23) (a1 : Int) (a2 : Int) (l3 : List S50) (a4 : Int), (Lit.int .i64 a0_0).wf = true → (Lit.int .i64 a0_1).wf = true → l0_2.length ≤ maxLen ∧ (∀ x ∈ l0_2, G23 x) → (Lit.int .i64 a1).wf = true → (Lit.int .i64 a2).wf = true → l3.length ≤ maxLen ∧ (∀ x ∈ l3, G50 x) → (Lit.int .i64 a4).wf = true → ∃ k, celluloidlaw21_CanvasLays.f k a0_0 a0_1 l0_2 a1 a2 l3 a4 = some true
theorem CanvasLays : SaidCanvasLays := by
  intro W H l x y ps m _ _ _ _ _ _ _
  refine ⟨400 + 2 * l.length + 1 + 1 + 1, ?_⟩
  unfold celluloidlaw21_CanvasLays.f
  by_cases c0 : (l.length : Int) > 500
  · rw [if_pos c0]; exact j0_true (by omega)
  rw [if_neg c0]
  by_cases c1 : (ps.length : Int) > 40
  · rw [decide_eq_true c1]; exact j0_true (by omega)
  rw [decide_eq_false c1]
  exact j0_false (by omega) (by omega)
end Go.Proofs.Ytdkiglaidbahmaa.Pure
