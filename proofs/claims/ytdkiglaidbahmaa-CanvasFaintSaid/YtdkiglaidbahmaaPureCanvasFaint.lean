/- What is laid over is faint again, and no less opaque than the pixel was; nothing, or no mask, turns nothing; an opaque colour that covers all is all that is left. For at most 40 parts. -/
import Derived.Test.YtdkiglaidbahmaaGCanx9
import Derived.Test.YtdkiglaidbahmaaOpensK
import Derived.Test.YtdkiglaidbahmaaCanPure
namespace Go.Proofs.Ytdkiglaidbahmaa.Pure
set_option linter.unusedSimpArgs false
set_option linter.unusedVariables false
open Go.RowKit Go.Proofs.Ytdkiglaidbahmaa.Can Go.Proofs.Ytdkiglaidbahmaa.PCanvasLays Go.Proofs.Ytdkiglaidbahmaa.Ext Go.Proofs.Ytdkiglaidbahmaa.Opens Go.Proofs.Ytdkiglaidbahmaa.GCan Go.Proofs.YtdkiglaidbahmaaW.PrintWords Go.Proofs.YtdkiglaidbahmaaW.PrintLast Go.Proofs.YtdkiglaidbahmaaW.PrintMore

theorem j2_true {k : Nat} {l : List S50} {p0 p1 p2 p3 : Int} (b : Bool) (hk : 50 ≤ k) (hf : FB p0 p1 p2 p3) (hp : PB 0 l) (hb : b = true → 0 < l.length ∧ (rd_T50 l 0).f0.f3 = 255) : celluloidlaw21_CanvasFaint.j2 k l b p0 p1 p2 p3 = some true := by
  obtain ⟨k, rfl⟩ : ∃ m, k = m + 1 := ⟨k - 1, by omega⟩
  simp only [celluloidlaw21_CanvasFaint.j2]
  cases b with
  | false => rw [if_neg (by decide)]; exact awake_bind (by omega)
  | true =>
    obtain ⟨h0, h255⟩ := hb rfl
    rw [if_pos rfl, if_pos (by omega)]
    have hx : F23 (rd_T50 l 0).f0 := by
      have := drop_rd50 l 0 h0
      rw [List.drop_zero] at this
      rw [this] at hp
      exact hp.1
    generalize (rd_T50 l 0).f0 = x at hx h255
    obtain ⟨x0, x1, x2, x3⟩ := x
    simp only at h255
    subst h255
    have hx' : FB x0 x1 x2 255 := hx
    have e := over_yes (k := k) (p0 := p0) (p1 := p1) (p2 := p2) (p3 := p3) (l := [⟨⟨x0, x1, x2, 255⟩, 16⟩]) (m := 16) (by simp [maxLen]) (by simp; omega) ⟨hf, ⟨hx, by simp, by simp, trivial⟩, by decide, by decide⟩
    simp only [e, px_all hx', Option.bind_some, beq_self_eq_true, Bool.and_self, if_true]
    exact awake_bind (by omega)
theorem j1_false {k : Nat} {l : List S50} {p0 p1 p2 p3 : Int} (hk : 51 ≤ k) (hf : FB p0 p1 p2 p3) (hp : PB 0 l) : celluloidlaw21_CanvasFaint.j1 k l false p0 p1 p2 p3 = some true := by
  obtain ⟨k, rfl⟩ : ∃ m, k = m + 1 := ⟨k - 1, by omega⟩
  simp only [celluloidlaw21_CanvasFaint.j1]
  rw [if_neg (by decide)]
  by_cases h : (l.length : Int) > 0
  · rw [if_pos h, if_pos (by omega)]
    exact j2_true _ (by omega) hf hp (fun hb => ⟨by omega, beq_iff_eq.1 hb⟩)
  · rw [if_neg h]
    exact j2_true _ (by omega) hf hp (fun hb => by cases hb)
theorem j0_true {k : Nat} {l : List S50} {m p0 p1 p2 p3 : Int} (hk : 41 ≤ k) : celluloidlaw21_CanvasFaint.j0 k l m true p0 p1 p2 p3 = some true := by
  obtain ⟨k, rfl⟩ : ∃ m, k = m + 1 := ⟨k - 1, by omega⟩
  simp only [celluloidlaw21_CanvasFaint.j0]
  rw [if_pos trivial]
  exact awake_bind (by omega)
theorem j0_false {k : Nat} {l : List S50} {m p0 p1 p2 p3 : Int} (hk : 150 ≤ k) (hl : l.length ≤ 40) : celluloidlaw21_CanvasFaint.j0 k l m false p0 p1 p2 p3 = some true := by
  obtain ⟨k, rfl⟩ : ∃ m, k = m + 1 := ⟨k - 1, by omega⟩
  have hm : l.length ≤ maxLen := by unfold maxLen; omega
  simp only [celluloidlaw21_CanvasFaint.j0]
  rw [if_neg (by decide)]
  by_cases h : OK p0 p1 p2 p3 l m
  · have hn : OK p0 p1 p2 p3 [] m := ⟨h.1, trivial, h.2.2⟩
    have hz : OK p0 p1 p2 p3 l 0 := ⟨h.1, h.2.1, by decide, by decide⟩
    rw [over_yes hm (by omega) h, over_yes (by simp) (by simp; omega) hn, over_yes hm (by omega) hz, px_nil, px_none]
    simp only [Option.bind_some]
    obtain ⟨hq, hle⟩ := px_faint h
    rw [reffaint_ge (by omega)]
    simp only [Option.bind_some]
    have e0 : (px l m p0 p1 p2 p3).2.2.2.2 = 0 := rfl
    rw [if_pos e0, if_pos (decide_eq_true hq), if_neg (by omega)]
    simp only [beq_self_eq_true, Bool.not_true, Bool.or_self, bne_self_eq_false]
    simp only [Bool.false_eq_true, if_false, if_true]
    exact j1_false (by omega) h.1 h.2.1
  · rw [over_no hm (by omega) h]
    simp only [Option.bind_some]
    rw [if_neg (by decide)]
    exact awake_bind (by omega)
def SaidCanvasFaint : Prop := ∀ (a0_0 : Int) (a0_1 : Int) (a0_2 : Int) (a0_3 : Int) (l1 : List S50) (a2 : Int), (Lit.int .i64 a0_0).wf = true → (Lit.int .i64 a0_1).wf = true → (Lit.int .i64 a0_2).wf = true → (Lit.int .i64 a0_3).wf = true → l1.length ≤ maxLen ∧ (∀ x ∈ l1, G50 x) → (Lit.int .i64 a2).wf = true → ∃ k, celluloidlaw21_CanvasFaint.f k a0_0 a0_1 a0_2 a0_3 l1 a2 = some true
theorem CanvasFaint : SaidCanvasFaint := by
  intro p0 p1 p2 p3 l m _ _ _ _ _ _
  refine ⟨150, ?_⟩
  unfold celluloidlaw21_CanvasFaint.f
  by_cases h40 : (l.length : Int) > 40
  · rw [if_pos h40]
    exact j0_true (by decide)
  · rw [if_neg h40, reffaint_ge (by decide)]
    simp only [Option.bind_some]
    by_cases hf : FB p0 p1 p2 p3
    · rw [decide_eq_true hf]
      exact j0_false (by decide) (by omega)
    · rw [decide_eq_false hf]
      exact j0_true (by decide)
end Go.Proofs.Ytdkiglaidbahmaa.Pure
