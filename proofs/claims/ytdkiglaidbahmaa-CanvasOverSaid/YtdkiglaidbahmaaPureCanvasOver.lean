/- What any pixel is with any parts laid over it, by any mask, is what the document says, or it is refused. For at most 40 parts. -/
import Derived.Test.YtdkiglaidbahmaaGCanx7
import Derived.Test.YtdkiglaidbahmaaOpensK
import Derived.Test.YtdkiglaidbahmaaCanRef
namespace Go.Proofs.Ytdkiglaidbahmaa.Pure
set_option linter.unusedSimpArgs false
set_option linter.unusedVariables false
open Go.RowKit Go.Proofs.Ytdkiglaidbahmaa.Can Go.Proofs.Ytdkiglaidbahmaa.PCanvasLays Go.Proofs.Ytdkiglaidbahmaa.Ext Go.Proofs.Ytdkiglaidbahmaa.Opens Go.Proofs.Ytdkiglaidbahmaa.GCan Go.Proofs.YtdkiglaidbahmaaW.PrintWords Go.Proofs.YtdkiglaidbahmaaW.PrintLast Go.Proofs.YtdkiglaidbahmaaW.PrintMore

theorem j0_no {k : Nat} {l : List S50} {m p0 p1 p2 p3 : Int} (hk : 41 ≤ k) : celluloidlaw21_CanvasOver.j0 k l m 1 true p0 p1 p2 p3 0 0 0 0 = some true := by
  obtain ⟨k, rfl⟩ : ∃ m, k = m + 1 := ⟨k - 1, by omega⟩
  simp only [celluloidlaw21_CanvasOver.j0]
  rw [if_pos trivial, if_pos (by decide), if_pos trivial]
  exact awake_bind (by omega)
theorem j0_yes {k : Nat} {l : List S50} {m p0 p1 p2 p3 : Int} (hk : 300 ≤ k) (hl : l.length ≤ 40) (h : OK p0 p1 p2 p3 l m) : celluloidlaw21_CanvasOver.j0 k l m 0 false p0 p1 p2 p3 (px l m p0 p1 p2 p3).1 (px l m p0 p1 p2 p3).2.1 (px l m p0 p1 p2 p3).2.2.1 (px l m p0 p1 p2 p3).2.2.2.1 = some true := by
  obtain ⟨k, rfl⟩ : ∃ m, k = m + 1 := ⟨k - 1, by omega⟩
  simp only [celluloidlaw21_CanvasOver.j0]
  rw [if_neg (by decide), refs_ge (by omega) (by omega)]
  simp only [Option.bind_some]
  rw [refover_ge (by omega) (by omega) h]
  simp only [Option.bind_some, beq_self_eq_true, Bool.and_self, if_true]
  exact awake_bind (by omega)
def SaidCanvasOver : Prop := ∀ (a0_0 : Int) (a0_1 : Int) (a0_2 : Int) (a0_3 : Int) (l1 : List S50) (a2 : Int), (Lit.int .i64 a0_0).wf = true → (Lit.int .i64 a0_1).wf = true → (Lit.int .i64 a0_2).wf = true → (Lit.int .i64 a0_3).wf = true → l1.length ≤ maxLen ∧ (∀ x ∈ l1, G50 x) → (Lit.int .i64 a2).wf = true → ∃ k, celluloidlaw21_CanvasOver.f k a0_0 a0_1 a0_2 a0_3 l1 a2 = some true
theorem CanvasOver : SaidCanvasOver := by
  intro p0 p1 p2 p3 l m _ _ _ _ _ _
  refine ⟨400, ?_⟩
  unfold celluloidlaw21_CanvasOver.f
  by_cases h40 : (l.length : Int) > 40
  · rw [if_pos h40]
    exact awake_bind (by decide)
  · rw [if_neg h40]
    have hl : l.length ≤ 40 := by omega
    have hm : l.length ≤ maxLen := by unfold maxLen; omega
    rw [refs_ge (k := 400) (l := l) (by omega) (by omega)]
    simp only [Option.bind_some]
    rw [refparts_ge (k := 400) hm (by omega), rp_ge (k := 400) hm (by omega)]
    by_cases h : OK p0 p1 p2 p3 l m
    · rw [over_yes (k := 400) hm (by omega) h]
      simp only [Option.bind_some, bne_self_eq_false]
      rw [if_neg (by decide), if_pos (decide_eq_true h.2.1), reffaint_ge (by decide)]
      simp only [Option.bind_some]
      rw [if_pos (decide_eq_true h.1), if_neg (by have := h.2.2.1; omega), decide_eq_false (by have := h.2.2.2; omega)]
      exact j0_yes (by decide) hl h
    · rw [over_no (k := 400) hm (by omega) h]
      simp only [Option.bind_some, bne_self_eq_false]
      rw [if_neg (by decide)]
      by_cases hp : PB 0 l
      · rw [if_pos (decide_eq_true hp), reffaint_ge (by decide)]
        simp only [Option.bind_some]
        by_cases hf : FB p0 p1 p2 p3
        · rw [if_pos (decide_eq_true hf)]
          by_cases m0 : m < 0
          · rw [if_pos m0]; exact j0_no (by decide)
          · rw [if_neg m0]
            by_cases m1 : m > 16
            · rw [decide_eq_true m1]; exact j0_no (by decide)
            · exact absurd ⟨hf, hp, by omega, by omega⟩ h
        · rw [if_neg (by rw [decide_eq_false hf]; decide)]; exact j0_no (by decide)
      · rw [if_neg (by rw [decide_eq_false hp]; decide)]; exact j0_no (by decide)
end Go.Proofs.Ytdkiglaidbahmaa.Pure
