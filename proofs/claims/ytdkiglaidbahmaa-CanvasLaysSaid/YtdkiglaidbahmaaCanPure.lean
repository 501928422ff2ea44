/- What Over answers, in clean numbers; the fixed answer of the stage. -/
import Derived.Test.YtdkiglaidbahmaaCanMath
import Derived.Test.YtdkiglaidbahmaaGCanx3
namespace Go.Proofs.Ytdkiglaidbahmaa.Can
set_option linter.unusedSimpArgs false
set_option linter.unusedVariables false
open Go.RowKit Go.Proofs.Ytdkiglaidbahmaa.PCanvasLays Go.Proofs.Ytdkiglaidbahmaa.Ext Go.Proofs.Ytdkiglaidbahmaa.GCan Go.Proofs.YtdkiglaidbahmaaW.PrintWords Go.Proofs.YtdkiglaidbahmaaW.PrintLast Go.Proofs.YtdkiglaidbahmaaW.PrintMore

theorem awake_ge {k : Nat} (h : 40 ≤ k) : celluloidlaw21_awake.f k = some true := at_rounds celluloidlaw21_awake.mono h (by decide +kernel)
theorem awake_bind {k : Nat} (h : 40 ≤ k) : ((celluloidlaw21_awake.f k).bind fun t => some t) = some true := by rw [awake_ge h]; rfl

/-- What may be laid over. -/
def OK (p0 p1 p2 p3 : Int) (l : List S50) (m : Int) : Prop := FB p0 p1 p2 p3 ∧ PB 0 l ∧ 0 ≤ m ∧ m ≤ 16
instance (p0 p1 p2 p3 : Int) (l : List S50) (m : Int) : Decidable (OK p0 p1 p2 p3 l m) := inferInstanceAs (Decidable (FB p0 p1 p2 p3 ∧ PB 0 l ∧ 0 ≤ m ∧ m ≤ 16))
/-- A share of a part. -/
def cp (f : S50 → Int) (l : List S50) (m : Int) : Int := cl (sumP f l) m
/-- The pixel. -/
def px (l : List S50) (m p0 p1 p2 p3 : Int) : Int × Int × Int × Int × Int :=
  (ov (cp (fun x => x.f0.f0) l m) (cp (fun x => x.f0.f3) l m) p0, ov (cp (fun x => x.f0.f1) l m) (cp (fun x => x.f0.f3) l m) p1, ov (cp (fun x => x.f0.f2) l m) (cp (fun x => x.f0.f3) l m) p2, ov (cp (fun x => x.f0.f3) l m) (cp (fun x => x.f0.f3) l m) p3, 0)
theorem f_rng : (∀ x : S50, F23 x.f0 → 0 ≤ x.f0.f0 ∧ x.f0.f0 ≤ 255) ∧ (∀ x : S50, F23 x.f0 → 0 ≤ x.f0.f1 ∧ x.f0.f1 ≤ 255) ∧ (∀ x : S50, F23 x.f0 → 0 ≤ x.f0.f2 ∧ x.f0.f2 ≤ 255) ∧ (∀ x : S50, F23 x.f0 → 0 ≤ x.f0.f3 ∧ x.f0.f3 ≤ 255) := by
  refine ⟨?_, ?_, ?_, ?_⟩ <;> (intro x h; have h' := (FB_iff _ _ _ _).1 h; omega)
theorem over_yes {k : Nat} {p0 p1 p2 p3 : Int} {l : List S50} {m : Int} (hl : l.length ≤ maxLen) (hk : 2 * l.length + 7 ≤ k) (h : OK p0 p1 p2 p3 l m) : canvas_Over.f k p0 p1 p2 p3 l m = some (px l m p0 p1 p2 p3) := by
  obtain ⟨hf, hp, h0, h1⟩ := h
  have hf' := (FB_iff _ _ _ _).1 hf
  unfold canvas_Over.f
  rw [faint_ge (by omega), rp_ge hl hk]
  simp only [Option.bind_some]
  rw [if_pos (decide_eq_true hf), if_pos (decide_eq_true hp), if_neg (by omega), if_neg (by omega), ovR_is hp f_rng.1 h0 h1 (by omega) (by omega), ovR_is hp f_rng.2.1 h0 h1 (by omega) (by omega), ovR_is hp f_rng.2.2.1 h0 h1 (by omega) (by omega), ovR_is hp f_rng.2.2.2 h0 h1 (by omega) (by omega)]
  rfl
theorem over_no {k : Nat} {p0 p1 p2 p3 : Int} {l : List S50} {m : Int} (hl : l.length ≤ maxLen) (hk : 2 * l.length + 7 ≤ k) (h : ¬ OK p0 p1 p2 p3 l m) : canvas_Over.f k p0 p1 p2 p3 l m = some (0, 0, 0, 0, 1) := by
  unfold canvas_Over.f
  rw [faint_ge (by omega), rp_ge hl hk]
  simp only [Option.bind_some]
  by_cases hf : FB p0 p1 p2 p3
  · rw [if_pos (decide_eq_true hf)]
    by_cases hp : PB 0 l
    · rw [if_pos (decide_eq_true hp)]
      by_cases h0 : m < 0
      · rw [if_pos h0]
      · rw [if_neg h0]
        by_cases h1 : 16 < m
        · rw [if_pos h1]
        · exact absurd ⟨hf, hp, by omega, by omega⟩ h
    · rw [if_neg (by rw [decide_eq_false hp]; decide)]
  · rw [if_neg (by rw [decide_eq_false hf]; decide)]

/-- The shares of a colour's parts: none is above its opacity's. -/
theorem cp_rng {l : List S50} {m : Int} (h : PB 0 l) (h0 : 0 ≤ m) (h1 : m ≤ 16) : (0 ≤ cp (fun x => x.f0.f0) l m ∧ cp (fun x => x.f0.f0) l m ≤ cp (fun x => x.f0.f3) l m) ∧ (0 ≤ cp (fun x => x.f0.f1) l m ∧ cp (fun x => x.f0.f1) l m ≤ cp (fun x => x.f0.f3) l m) ∧ (0 ≤ cp (fun x => x.f0.f2) l m ∧ cp (fun x => x.f0.f2) l m ≤ cp (fun x => x.f0.f3) l m) ∧ 0 ≤ cp (fun x => x.f0.f3) l m ∧ cp (fun x => x.f0.f3) l m ≤ 255 := by
  have a0 := sumP_max h f_rng.1 (by omega)
  have a1 := sumP_max h f_rng.2.1 (by omega)
  have a2 := sumP_max h f_rng.2.2.1 (by omega)
  have a3 := sumP_max h f_rng.2.2.2 (by omega)
  have b0 := sumP_le (f := fun x => x.f0.f0) (g := fun x => x.f0.f3) h (fun x hx => by have h' := (FB_iff _ _ _ _).1 hx; exact ⟨by omega, by omega⟩)
  have b1 := sumP_le (f := fun x => x.f0.f1) (g := fun x => x.f0.f3) h (fun x hx => by have h' := (FB_iff _ _ _ _).1 hx; exact ⟨by omega, by omega⟩)
  have b2 := sumP_le (f := fun x => x.f0.f2) (g := fun x => x.f0.f3) h (fun x hx => by have h' := (FB_iff _ _ _ _).1 hx; exact ⟨by omega, by omega⟩)
  unfold cp
  exact ⟨⟨(cl_rng a0.1 a0.2 h0 h1).1, cl_le b0.2 h0⟩, ⟨(cl_rng a1.1 a1.2 h0 h1).1, cl_le b1.2 h0⟩, ⟨(cl_rng a2.1 a2.2 h0 h1).1, cl_le b2.2 h0⟩, cl_rng a3.1 a3.2 h0 h1⟩
/-- What is laid over is faint again, and no less opaque. -/
theorem px_faint {p0 p1 p2 p3 : Int} {l : List S50} {m : Int} (h : OK p0 p1 p2 p3 l m) : FB (px l m p0 p1 p2 p3).1 (px l m p0 p1 p2 p3).2.1 (px l m p0 p1 p2 p3).2.2.1 (px l m p0 p1 p2 p3).2.2.2.1 ∧ p3 ≤ (px l m p0 p1 p2 p3).2.2.2.1 := by
  obtain ⟨hf, hp, h0, h1⟩ := h
  have hf' := (FB_iff _ _ _ _).1 hf
  obtain ⟨c0, c1, c2, c3, c4⟩ := cp_rng hp h0 h1
  unfold px
  simp only
  generalize cp (fun x => x.f0.f0) l m = x0 at *
  generalize cp (fun x => x.f0.f1) l m = x1 at *
  generalize cp (fun x => x.f0.f2) l m = x2 at *
  generalize cp (fun x => x.f0.f3) l m = x3 at *
  have r0 := ov_rng (u := p0) c0.1 c0.2 c4 (by omega) (by omega)
  have r1 := ov_rng (u := p1) c1.1 c1.2 c4 (by omega) (by omega)
  have r2 := ov_rng (u := p2) c2.1 c2.2 c4 (by omega) (by omega)
  have r3 := ov_rng (u := p3) c3 (Int.le_refl _) c4 (by omega) (by omega)
  have l0 := ov_le (u := p0) (u' := p3) c0.2 (by omega) c4
  have l1 := ov_le (u := p1) (u' := p3) c1.2 (by omega) c4
  have l2 := ov_le (u := p2) (u' := p3) c2.2 (by omega) c4
  have l3 := ov_more (u := p3) c3 (by omega)
  exact ⟨(FB_iff _ _ _ _).2 ⟨r0.1, r1.1, r2.1, r3.1, r3.2, l0, l1, l2⟩, l3⟩
theorem ov_zero (u : Int) : ov 0 0 u = u := by unfold ov; omega
theorem cp_nil (f : S50 → Int) (m : Int) : cp f [] m = 0 := by unfold cp cl; rw [sumP_nil]; omega
theorem cl_zero (S : Int) : cl S 0 = 0 := by unfold cl; omega
theorem px_nil (m p0 p1 p2 p3 : Int) : px [] m p0 p1 p2 p3 = (p0, p1, p2, p3, 0) := by unfold px; simp only [cp_nil, ov_zero]
theorem px_none (l : List S50) (p0 p1 p2 p3 : Int) : px l 0 p0 p1 p2 p3 = (p0, p1, p2, p3, 0) := by unfold px cp; simp only [cl_zero, ov_zero]
/-- An opaque colour that covers all is all that is left. -/
theorem cl_all {n : Int} (h0 : 0 ≤ n) : cl (n * 16 + 0) 16 = n := by unfold cl; omega
theorem ov_full (c u : Int) : ov c 255 u = c := by unfold ov; omega
theorem px_all {x0 x1 x2 p0 p1 p2 p3 : Int} (h : FB x0 x1 x2 255) : px [⟨⟨x0, x1, x2, 255⟩, 16⟩] 16 p0 p1 p2 p3 = (x0, x1, x2, 255, 0) := by
  have h' := (FB_iff _ _ _ _).1 h
  unfold px cp
  simp only [sumP_cons, sumP_nil]
  rw [cl_all (by omega), cl_all (by omega), cl_all (by omega), cl_all (by omega)]
  simp only [ov_full]
end Go.Proofs.Ytdkiglaidbahmaa.Can
