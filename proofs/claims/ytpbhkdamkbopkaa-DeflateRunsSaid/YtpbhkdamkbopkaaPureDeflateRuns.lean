/- The run of any place of any bytes: the program's and the reference's Run are both the run of the place. -/
import Derived.Test.YtpbhkdamkbopkaaGRunsx4
import Derived.Test.YtpbhkdamkbopkaaRunMathC
namespace Go.Proofs.Ytpbhkdamkbopkaa.Pure
open Go.RowKit Go.Proofs.Ytpbhkdamkbopkaa.GRuns Go.Proofs.YtpbhkdamkbopkaaW.PrintWords Go.Proofs.YtpbhkdamkbopkaaW.PrintLast
open Go.Proofs.Ytpbhkdamkbopkaa.Rn

theorem DeflateRuns : celluloidlaw06_DeflateRuns.Pure := by
  intro s x hs _
  have haw := awake_ok
  by_cases c : (s.size : Int) > 2048
  · refine ⟨300, ?_⟩
    unfold celluloidlaw06_DeflateRuns.f
    rw [if_pos c, haw 300 (Nat.le_refl _)]
    rfl
  · by_cases h : x < 0 ∨ x ≥ s.size
    · refine ⟨301, ?_⟩
      unfold celluloidlaw06_DeflateRuns.f
      rw [if_neg c, Run_no s hs x h]
      simp only [Option.bind_some]
      have e : celluloidlaw06_DeflateRuns.j0 301 s x 0 0 0 0 false = some true := by
        rw [celluloidlaw06_DeflateRuns.j0, if_neg (by decide), if_pos rfl, if_pos rfl, haw 300 (Nat.le_refl _)]
        rfl
      by_cases h0 : x ≥ 0
      · rw [if_pos h0, decide_eq_false (by omega)]; exact e
      · rw [if_neg h0]; exact e
    · obtain ⟨i, rfl⟩ : ∃ i : Nat, x = (i : Int) := ⟨x.toNat, by omega⟩
      refine ⟨300 * i + 1001, ?_⟩
      unfold celluloidlaw06_DeflateRuns.f
      rw [if_neg c, Run_f s hs i (by omega) _ (by omega)]
      simp only [Option.bind_some]
      rw [if_pos (by omega), decide_eq_true (by omega), show 300 * i + 1001 = (300 * i + 1000) + 1 from rfl, celluloidlaw06_DeflateRuns.j0, if_pos rfl, ref_f s hs i (by omega) _ (by omega)]
      simp only [Option.bind_some]
      rw [if_pos trivial, if_pos trivial, haw _ (by omega)]; rfl

end Go.Proofs.Ytpbhkdamkbopkaa.Pure
