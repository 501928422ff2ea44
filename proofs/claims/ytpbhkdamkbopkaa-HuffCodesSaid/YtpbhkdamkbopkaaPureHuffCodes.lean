/- Any lengths have the codes that the reference reckons, or are refused with its error: for every input. -/
import Derived.Test.YtpbhkdamkbopkaaRefC
import Derived.Test.YtpbhkdamkbopkaaGHuffx3
namespace Go.Proofs.Ytpbhkdamkbopkaa.Pure
set_option linter.unusedSimpArgs false
set_option linter.unusedVariables false
open Go.RowKit Go.Proofs.Ytpbhkdamkbopkaa.Ext Go.Proofs.Ytpbhkdamkbopkaa.ExtAwake Go.Proofs.Ytpbhkdamkbopkaa.RefA Go.Proofs.Ytpbhkdamkbopkaa.GHuff Go.Proofs.YtpbhkdamkbopkaaW.PrintWords Go.Proofs.YtpbhkdamkbopkaaW.PrintLast Go.Proofs.YtpbhkdamkbopkaaW.PrintMore

theorem same_l (a : List Int) (ha : a.length ≤ 400) (d : Nat) : ∀ i : Nat, i + d = a.length → Ev (fun k => celluloidlaw04_HuffCodes.l0 k a a a.length i) true := by
  have haw : celluloidlaw04_awake.f = some true := rfl
  induction d with
  | zero =>
    intro i hi
    obtain rfl : i = a.length := by omega
    refine Ev.step (f := fun _ => some true) (fun k => ?_) (Ev.now _)
    simp only [celluloidlaw04_HuffCodes.l0]
    rw [if_neg (Int.lt_irrefl _), haw]; rfl
  | succ d ih =>
    intro i hi
    have hil : (i : Int) < a.length := by omega
    have e1 : Aside0 (wrap64 ((i : Int) + 1) = ((i + 1 : Nat) : Int)) := ⟨by rw [wrap_in (by omega) (by omega)]; rfl⟩
    refine Ev.step (fun k => ?_) (ih (i + 1) (by omega))
    simp only [celluloidlaw04_HuffCodes.l0]
    rw [if_pos hil, if_pos (Int.natCast_nonneg _), if_pos hil, if_pos hil, if_pos trivial, e1.out]
theorem HuffCodes : celluloidlaw04_HuffCodes.Pure := by
  intro l hlm hl8 hwf
  have haw : celluloidlaw04_awake.f = some true := rfl
  by_cases hb1 : (l.length : Int) > 400
  · exact ⟨1, by unfold celluloidlaw04_HuffCodes.f; rw [if_pos hb1, haw]; rfl⟩
  obtain ⟨K1, h1⟩ := referr_is l
  dsimp only at h1
  by_cases he : errOf l = 0
  · obtain ⟨hl, hok, hb⟩ := errOf_ok l he
    obtain ⟨K2, h2⟩ := refcodes_is l hl hok
    obtain ⟨K3, h3⟩ := same_l (codesOf l) (by rw [codesOf_length]; omega) (codesOf l).length 0 (by omega)
    dsimp only at h2 h3
    refine ⟨K1 + K2 + K3 + 1, ?_⟩
    unfold celluloidlaw04_HuffCodes.f
    rw [if_neg hb1]
    unfold huff_New.f huff_Codes.f
    simp only [Option.bind_some]
    rw [h1 _ (by omega)]
    simp only [Option.bind_some, if_true]
    have e : (errOf l != errOf l) = false := by simp
    rw [e]
    simp only [celluloidlaw04_HuffCodes.j0]
    rw [if_neg (by simp), if_pos he, h2 _ (by omega)]
    simp only [Option.bind_some]
    rw [if_pos he, if_pos rfl]
    exact h3 _ (by omega)
  · refine ⟨K1 + 1, ?_⟩
    unfold celluloidlaw04_HuffCodes.f
    rw [if_neg hb1]
    unfold huff_New.f huff_Codes.f
    simp only [Option.bind_some]
    rw [h1 _ (by omega)]
    simp only [Option.bind_some, if_true]
    have e : (errOf l != errOf l) = false := by simp
    rw [e]
    simp only [celluloidlaw04_HuffCodes.j0]
    rw [if_neg (by simp), if_neg he, if_neg he, haw]
    rfl
end Go.Proofs.Ytpbhkdamkbopkaa.Pure
