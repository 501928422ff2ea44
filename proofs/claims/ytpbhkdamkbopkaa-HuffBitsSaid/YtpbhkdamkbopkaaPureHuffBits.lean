/- Any bits of any bytes are the number that the reference reads, or its error: for every input. -/
import Derived.Test.YtpbhkdamkbopkaaRefC
import Derived.Test.YtpbhkdamkbopkaaGHuffx6
namespace Go.Proofs.Ytpbhkdamkbopkaa.Pure
set_option linter.unusedSimpArgs false
set_option linter.unusedVariables false
open Go.RowKit Go.Proofs.Ytpbhkdamkbopkaa.Ext Go.Proofs.Ytpbhkdamkbopkaa.ExtAwake Go.Proofs.Ytpbhkdamkbopkaa.RefA Go.Proofs.Ytpbhkdamkbopkaa.GHuff Go.Proofs.YtpbhkdamkbopkaaW.PrintWords Go.Proofs.YtpbhkdamkbopkaaW.PrintLast Go.Proofs.YtpbhkdamkbopkaaW.PrintMore

theorem i64_range {x : Int} (h : (Lit.int .i64 x).wf = true) : -9223372036854775808 ≤ x ∧ x ≤ 9223372036854775807 := by
  simp [Lit.wf, IntKind.min, IntKind.max, IntKind.signed, IntKind.bits] at h
  omega
theorem HuffBits : celluloidlaw04_HuffBits.Pure := by
  intro s pos n hs hp hn
  obtain ⟨p0, p1⟩ := i64_range hp
  have haw : celluloidlaw04_awake.f = some true := rfl
  by_cases hbig : (s.size : Int) > 1024
  · exact ⟨0, by unfold celluloidlaw04_HuffBits.f; rw [if_pos hbig, haw]; rfl⟩
  obtain ⟨K1, h1⟩ := bits_is s hs pos n p1
  obtain ⟨K2, h2⟩ := refbits_is s hs pos n p1
  obtain ⟨K3, h3⟩ := refbit_is s hs pos p1 p0
  dsimp only at h1 h2 h3
  refine ⟨K1 + K2 + K3, ?_⟩
  unfold celluloidlaw04_HuffBits.f
  rw [if_neg hbig, h1 _ (by omega)]
  simp only [Option.bind_some]
  rw [h2 _ (by omega)]
  simp only [Option.bind_some]
  rw [h3 _ (by omega)]
  have hbr := bitN_rng s pos
  by_cases hneg : pos < 0
  · have hb : huff_Bit.f s pos = some (0, false) := by unfold huff_Bit.f; rw [if_pos hneg]
    rw [hb, if_neg (show ¬ (0 ≤ pos ∧ pos < 8 * s.size) by omega)]
    simp only [Option.bind_some, if_true]
    rw [haw]
    decide
  · rw [bit_is' s hs pos (by omega) p1]
    by_cases hin : pos < 8 * s.size
    · rw [if_pos hin, if_pos (show 0 ≤ pos ∧ pos < 8 * s.size from ⟨by omega, hin⟩)]
      simp only [Option.bind_some, if_true]
      rw [haw, if_pos (by rw [decide_eq_true hbr.1]; rfl), if_pos (by unfold mx; omega)]
      rfl
    · rw [if_neg hin, if_neg (show ¬ (0 ≤ pos ∧ pos < 8 * s.size) from fun h => hin h.2)]
      simp only [Option.bind_some, if_true]
      rw [haw]
      decide
end Go.Proofs.Ytpbhkdamkbopkaa.Pure
