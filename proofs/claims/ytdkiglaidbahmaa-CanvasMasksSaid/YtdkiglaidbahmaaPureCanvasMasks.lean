/- The more samples a mask has, the more opaque a pixel is; over nothing at all it is no more opaque than its parts. For at most 40 parts. -/
import Derived.Test.YtdkiglaidbahmaaGCanx10
import Derived.Test.YtdkiglaidbahmaaOpensK
import Derived.Test.YtdkiglaidbahmaaCanPure
namespace Go.Proofs.Ytdkiglaidbahmaa.Pure
set_option linter.unusedSimpArgs false
set_option linter.unusedVariables false
open Go.RowKit Go.Proofs.Ytdkiglaidbahmaa.Can Go.Proofs.Ytdkiglaidbahmaa.PCanvasLays Go.Proofs.Ytdkiglaidbahmaa.Ext Go.Proofs.Ytdkiglaidbahmaa.Opens Go.Proofs.Ytdkiglaidbahmaa.GCan Go.Proofs.YtdkiglaidbahmaaW.PrintWords Go.Proofs.YtdkiglaidbahmaaW.PrintLast Go.Proofs.YtdkiglaidbahmaaW.PrintMore

/-- The greatest opacity. -/
def most (acc : Int) (l : List S50) : Int := l.foldl (fun a x => mx a x.f0.f3) acc
theorem most_le (l : List S50) : ∀ acc, acc ≤ most acc l ∧ ∀ x ∈ l, x.f0.f3 ≤ most acc l := by
  induction l with
  | nil => intro acc; exact ⟨Int.le_refl _, fun x hx => absurd hx (by simp)⟩
  | cons y t ih =>
    intro acc
    obtain ⟨h0, h1⟩ := ih (mx acc y.f0.f3)
    have e : most acc (y :: t) = most (mx acc y.f0.f3) t := rfl
    have hm : acc ≤ mx acc y.f0.f3 ∧ y.f0.f3 ≤ mx acc y.f0.f3 := by unfold mx; split <;> omega
    rw [e]
    refine ⟨by omega, fun x hx => ?_⟩
    rcases List.mem_cons.1 hx with rfl | hx
    · omega
    · exact h1 x hx
theorem masks_loop (l : List S50) (hl : l.length ≤ 40) (e1 e2 q0 q1 q2 q3 r0 r1 r2 r3 s0 s1 s2 s3 : Int) (k : Nat) : ∀ (d i : Nat) (acc : Int), l.length - i = d → i ≤ l.length →
    celluloidlaw21_CanvasMasks.l0 (k + d) e1 e2 acc l (l.length : Int) (i : Int) q0 q1 q2 q3 r0 r1 r2 r3 s0 s1 s2 s3 = celluloidlaw21_CanvasMasks.l0 k e1 e2 (most acc (l.drop i)) l (l.length : Int) (l.length : Int) q0 q1 q2 q3 r0 r1 r2 r3 s0 s1 s2 s3 := by
  intro d
  induction d with
  | zero =>
    intro i acc hd hi
    obtain rfl : i = l.length := by omega
    rw [List.drop_eq_nil_of_le (by simp)]
    rfl
  | succ d ih =>
    intro i acc hd hi
    have e3 : wrap64 ((i : Int) + 1) = ((i + 1 : Nat) : Int) := by rw [w64 (by omega) (by omega)]; omega
    rw [← Nat.add_assoc, celluloidlaw21_CanvasMasks.l0, e3, if_pos (by omega), if_pos (by omega), if_pos (by omega), ih (i + 1) _ (by omega) (by omega), drop_rd50 l i (by omega)]
    rfl
theorem sum_most : ∀ {acc : Int} {l : List S50} {c : Int}, PB acc l → (∀ x ∈ l, x.f0.f3 ≤ c) → sumP (fun x => x.f0.f3) l ≤ c * (l.map fun x => x.f1).sum
  | _, [], c, _, _ => by simp [sumP_nil]
  | acc, x :: t, c, h, hc => by
    obtain ⟨h0, h1, h2, h3⟩ := h
    have ih := sum_most h3 (fun y hy => hc y (by simp [hy]))
    have := Int.mul_le_mul_of_nonneg_right (hc x (by simp)) h1
    rw [sumP_cons]
    simp only [List.map_cons, List.sum_cons]
    rw [Int.mul_add]
    omega
theorem j0_true {k : Nat} {l : List S50} {m p0 p1 p2 p3 : Int} (hk : 41 ≤ k) : celluloidlaw21_CanvasMasks.j0 k l m true p0 p1 p2 p3 = some true := by
  obtain ⟨k, rfl⟩ : ∃ m, k = m + 1 := ⟨k - 1, by omega⟩
  simp only [celluloidlaw21_CanvasMasks.j0]
  rw [if_pos trivial]
  exact awake_bind (by omega)
theorem j0_false {l : List S50} {m p0 p1 p2 p3 : Int} (hl : l.length ≤ 40) (m0 : 0 ≤ m) (m1 : m ≤ 15) : celluloidlaw21_CanvasMasks.j0 (300 + l.length + 1) l m false p0 p1 p2 p3 = some true := by
  have hm : l.length ≤ maxLen := by unfold maxLen; omega
  simp only [celluloidlaw21_CanvasMasks.j0]
  rw [if_neg (by decide), w64 (n := m + 1) (by omega) (by omega)]
  by_cases h : OK p0 p1 p2 p3 l m
  · have h1 : OK p0 p1 p2 p3 l (m + 1) := ⟨h.1, h.2.1, by omega, by omega⟩
    have hz : OK 0 0 0 0 l 16 := ⟨by decide, h.2.1, by decide, by decide⟩
    have hf := (FB_iff _ _ _ _).1 h.1
    rw [over_yes hm (by omega) h, over_yes hm (by omega) h1, over_yes hm (by omega) hz]
    simp only [Option.bind_some]
    have e0 : (px l m p0 p1 p2 p3).2.2.2.2 = 0 := rfl
    have e1 : (px l (m + 1) p0 p1 p2 p3).2.2.2.2 = 0 := rfl
    have e2 : (px l 16 0 0 0 0).2.2.2.2 = 0 := rfl
    rw [if_pos e0]
    have hloop := masks_loop l hl (px l (m + 1) p0 p1 p2 p3).2.2.2.2 (px l 16 0 0 0 0).2.2.2.2 (px l m p0 p1 p2 p3).1 (px l m p0 p1 p2 p3).2.1 (px l m p0 p1 p2 p3).2.2.1 (px l m p0 p1 p2 p3).2.2.2.1 (px l (m + 1) p0 p1 p2 p3).1 (px l (m + 1) p0 p1 p2 p3).2.1 (px l (m + 1) p0 p1 p2 p3).2.2.1 (px l (m + 1) p0 p1 p2 p3).2.2.2.1 (px l 16 0 0 0 0).1 (px l 16 0 0 0 0).2.1 (px l 16 0 0 0 0).2.2.1 (px l 16 0 0 0 0).2.2.2.1 300 l.length 0 0 (by omega) (by omega)
    rw [show ((0 : Nat) : Int) = 0 from rfl, List.drop_zero] at hloop
    rw [hloop, show (300 : Nat) = 299 + 1 from rfl, celluloidlaw21_CanvasMasks.l0, if_neg (by omega), if_pos e1, if_pos e2]
    obtain ⟨_, _, _, c3, c4⟩ := cp_rng h.2.1 m0 (by omega)
    have r3 := sumP_max h.2.1 f_rng.2.2.2 (by omega)
    have g1 : (px l m p0 p1 p2 p3).2.2.2.1 ≤ (px l (m + 1) p0 p1 p2 p3).2.2.2.1 := by
      show ov _ _ p3 ≤ ov _ _ p3
      exact ov_mono (by unfold cp; exact cl_mask r3.1) (by omega)
    obtain ⟨n0, n1⟩ := most_le l 0
    have g2 : (px l 16 0 0 0 0).2.2.2.1 ≤ most 0 l := by
      have s1 := sum_most h.2.1 n1
      have s2 := covers_le h.2.1 (by omega)
      have s3 := Int.mul_le_mul_of_nonneg_left (show (l.map fun x => x.f1).sum ≤ 16 by omega) n0
      show ov (cp (fun x => x.f0.f3) l 16) (cp (fun x => x.f0.f3) l 16) 0 ≤ most 0 l
      unfold ov cp cl
      rw [Int.zero_mul]
      omega
    rw [if_pos g1, if_pos g2]
    exact awake_bind (by decide)
  · have h1 : ¬ OK p0 p1 p2 p3 l (m + 1) := fun h1 => h ⟨h1.1, h1.2.1, by omega, by omega⟩
    rw [over_no hm (by omega) h, over_no hm (by omega) h1]
    simp only [Option.bind_some]
    by_cases hz : OK 0 0 0 0 l 16
    · rw [over_yes hm (by omega) hz]
      simp only [Option.bind_some]
      rw [if_neg (by decide)]
      simp only [if_true]
      exact awake_bind (by omega)
    · rw [over_no hm (by omega) hz]
      simp only [Option.bind_some]
      rw [if_neg (by decide)]
      simp only [if_true]
      exact awake_bind (by omega)
def SaidCanvasMasks : Prop := ∀ (a0_0 : Int) (a0_1 : Int) (a0_2 : Int) (a0_3 : Int) (l1 : List S50) (a2 : Int), (Lit.int .i64 a0_0).wf = true → (Lit.int .i64 a0_1).wf = true → (Lit.int .i64 a0_2).wf = true → (Lit.int .i64 a0_3).wf = true → l1.length ≤ maxLen ∧ (∀ x ∈ l1, G50 x) → (Lit.int .i64 a2).wf = true → ∃ k, celluloidlaw21_CanvasMasks.f k a0_0 a0_1 a0_2 a0_3 l1 a2 = some true
theorem CanvasMasks : SaidCanvasMasks := by
  intro p0 p1 p2 p3 l m _ _ _ _ _ _
  refine ⟨300 + l.length + 1, ?_⟩
  unfold celluloidlaw21_CanvasMasks.f
  by_cases h40 : (l.length : Int) > 40
  · rw [if_pos h40]
    exact j0_true (by omega)
  · rw [if_neg h40]
    by_cases m0 : m < 0
    · rw [if_pos m0]
      exact j0_true (by omega)
    · rw [if_neg m0]
      by_cases m1 : m > 15
      · rw [decide_eq_true m1]
        exact j0_true (by omega)
      · rw [decide_eq_false m1]
        exact j0_false (by omega) (by omega) (by omega)
end Go.Proofs.Ytdkiglaidbahmaa.Pure
