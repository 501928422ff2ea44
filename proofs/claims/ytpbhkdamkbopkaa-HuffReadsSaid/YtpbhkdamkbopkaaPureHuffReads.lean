/- The symbol at any bit of any bytes, by any lengths, is what the reference reads, or its error: for every input. -/
import Derived.Test.YtpbhkdamkbopkaaRefC
import Derived.Test.YtpbhkdamkbopkaaGHuffx4
namespace Go.Proofs.Ytpbhkdamkbopkaa.Pure
set_option linter.unusedSimpArgs false
set_option linter.unusedVariables false
open Go.RowKit Go.Proofs.Ytpbhkdamkbopkaa.Ext Go.Proofs.Ytpbhkdamkbopkaa.ExtAwake Go.Proofs.Ytpbhkdamkbopkaa.RefA Go.Proofs.Ytpbhkdamkbopkaa.GHuff Go.Proofs.YtpbhkdamkbopkaaW.PrintWords Go.Proofs.YtpbhkdamkbopkaaW.PrintLast Go.Proofs.YtpbhkdamkbopkaaW.PrintMore

theorem i64_range' {x : Int} (h : (Lit.int .i64 x).wf = true) : -9223372036854775808 ≤ x ∧ x ≤ 9223372036854775807 := by
  simp [Lit.wf, IntKind.min, IntKind.max, IntKind.signed, IntKind.bits] at h
  omega
theorem next_of16 (cs ss : List Int) (h : cs.length = 16) (s : ByteArray) (pos : Int) :
    huff_Next.f (cs.getD 0 0) (cs.getD 1 0) (cs.getD 2 0) (cs.getD 3 0) (cs.getD 4 0) (cs.getD 5 0) (cs.getD 6 0) (cs.getD 7 0) (cs.getD 8 0) (cs.getD 9 0) (cs.getD 10 0) (cs.getD 11 0) (cs.getD 12 0) (cs.getD 13 0) (cs.getD 14 0) (cs.getD 15 0) ss s pos = nextOf cs ss s pos := by
  unfold huff_Next.f
  congr 1
  match cs, h with
  | [_, _, _, _, _, _, _, _, _, _, _, _, _, _, _, _], _ => rfl
theorem HuffReads : celluloidlaw04_HuffReads.Pure := by
  intro l s pos hlm hl8 hwf hs hp
  obtain ⟨p0, p1⟩ := i64_range' hp
  have haw : celluloidlaw04_awake.f = some true := rfl
  have big : ∀ k, celluloidlaw04_HuffReads.j0 (k + 1) l s pos true = some true := fun k => by
    simp only [celluloidlaw04_HuffReads.j0]
    rw [if_pos trivial, haw]; rfl
  by_cases hb1 : (l.length : Int) > 400
  · exact ⟨1, by unfold celluloidlaw04_HuffReads.f; rw [if_pos hb1]; exact big 0⟩
  by_cases hb2 : (s.size : Int) > 1024
  · exact ⟨1, by unfold celluloidlaw04_HuffReads.f; rw [if_neg hb1, decide_eq_true hb2]; exact big 0⟩
  obtain ⟨K1, h1⟩ := referr_is l
  dsimp only at h1
  by_cases he : errOf l = 0
  · obtain ⟨r, hr, K2, h2⟩ := next_is l he s hs pos p1
    dsimp only at h2
    refine ⟨K1 + K2 + 1, ?_⟩
    unfold celluloidlaw04_HuffReads.f
    rw [if_neg hb1, decide_eq_false hb2]
    simp only [celluloidlaw04_HuffReads.j0]
    rw [if_neg (by simp)]
    unfold huff_New.f
    simp only [Option.bind_some]
    rw [if_pos he, next_of16 _ _ (newCs_length l), hr]
    simp only [Option.bind_some]
    rw [h2 _ (by omega)]
    simp only [Option.bind_some, if_true]
    rw [haw]; rfl
  · refine ⟨K1 + 1, ?_⟩
    unfold celluloidlaw04_HuffReads.f
    rw [if_neg hb1, decide_eq_false hb2]
    simp only [celluloidlaw04_HuffReads.j0]
    rw [if_neg (by simp)]
    unfold huff_New.f
    simp only [Option.bind_some]
    rw [if_neg he, h1 _ (by omega)]
    simp only [Option.bind_some, if_true]
    rw [haw]; rfl
end Go.Proofs.Ytpbhkdamkbopkaa.Pure
