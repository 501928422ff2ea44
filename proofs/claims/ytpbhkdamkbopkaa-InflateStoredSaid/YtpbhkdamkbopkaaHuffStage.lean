/- What is read by codes, length by length. -/
import Derived.Test.YtpbhkdamkbopkaaHuffMath
import Derived.Test.YtpbhkdamkbopkaaExt
set_option linter.unusedSimpArgs false
set_option linter.unusedVariables false
namespace Go.Proofs.Ytpbhkdamkbopkaa.Stage
open Go.RowKit Go.Proofs.Ytpbhkdamkbopkaa.Ext Go.Proofs.YtpbhkdamkbopkaaW.PrintWords Go.Proofs.YtpbhkdamkbopkaaW.PrintLast Go.Proofs.YtpbhkdamkbopkaaW.PrintMore

def stageOf (l : List Int) (s : ByteArray) (pos : Int) (n : Nat) : Option (Int × Int × Int) :=
  if Vn s pos n < Gn l n then some ((idxN l n l.length).getD (Vn s pos n - firstC l n).toNat 0, pos + n, 0)
  else if Sn l n = (syms l).length then some (0, 0, 4)
  else nxt (cnts l) (syms l) s (15 - n) (pos + n) (Vn s pos n) (Gn l n) (Sn l n)

theorem stage_step (l : List Int) (hl : l.length ≤ 320) (s : ByteArray) (hs : s.size ≤ 140737488351232) (pos : Int) (h0 : 0 ≤ pos) (hp : pos ≤ 4611686018427387904) (n : Nat) (hn : n ≤ 14) (hV : Gn l n ≤ Vn s pos n) (hS : Sn l n ≠ (syms l).length) :
    stageOf l s pos n = if pos + n < 8 * s.size then stageOf l s pos (n + 1) else some (0, 0, 2) := by
  unfold stageOf
  rw [if_neg (Int.not_lt.2 hV), if_neg hS, show 15 - n = (15 - (n + 1)) + 1 by omega, nxt_step l hl s hs pos h0 hp n (15 - (n + 1)) (by omega) hV]

theorem nextOf_good (l : List Int) (he : errOf l = 0) (s : ByteArray) (pos : Int) (h0 : 0 ≤ pos) : nextOf (newCs l) (newSs l) s pos = if (syms l).length = 0 then some (0, 0, 4) else nxt (cnts l) (syms l) s 15 pos 0 0 0 := by
  obtain ⟨hl, _, _⟩ := errOf_ok l he
  unfold nextOf newCs newSs
  rw [if_pos he, if_pos he, if_neg (by omega)]
  by_cases ht : (syms l).length = 0
  · rw [if_pos ht, if_pos ht]
  · rw [if_neg ht, if_neg ht, if_pos]
    refine ⟨cnts_length l, ?_, fun x hx => ?_⟩
    · have := symsN_length l 15
      have h2 : 15 * l.length ≤ 15 * 320 := Nat.mul_le_mul_left _ hl
      unfold syms
      omega
    · obtain ⟨i, hi, rfl⟩ := List.getElem_of_mem hx
      have := cnts_rng l i
      rw [List.getD_eq_getElem?_getD, List.getElem?_eq_getElem hi, Option.getD_some] at this
      omega

theorem nextOf_stage (l : List Int) (he : errOf l = 0) (s : ByteArray) : nextOf (newCs l) (newSs l) s 0 = stageOf l s 0 0 := by
  rw [nextOf_good l he s 0 (by decide)]
  have e0 : Sn l 0 = 0 := rfl
  have eV : ¬ Vn s 0 0 < Gn l 0 := by rw [Gn_zero]; exact Int.lt_irrefl 0
  unfold stageOf
  rw [if_neg eV, e0, Gn_zero]
  by_cases ht : (syms l).length = 0
  · rw [if_pos ht, if_pos (by omega)]
  · rw [if_neg ht, if_neg (by omega)]
    rfl

theorem next_of16f (cs ss : List Int) (h : cs.length = 16) (s : ByteArray) (pos : Int) :
    huff_Next.f (cs.getD 0 0) (cs.getD 1 0) (cs.getD 2 0) (cs.getD 3 0) (cs.getD 4 0) (cs.getD 5 0) (cs.getD 6 0) (cs.getD 7 0) (cs.getD 8 0) (cs.getD 9 0) (cs.getD 10 0) (cs.getD 11 0) (cs.getD 12 0) (cs.getD 13 0) (cs.getD 14 0) (cs.getD 15 0) ss s pos = nextOf cs ss s pos := by
  unfold huff_Next.f
  congr 1
  match cs, h with
  | [_, _, _, _, _, _, _, _, _, _, _, _, _, _, _, _], _ => rfl

theorem ok_at (l : List Int) (h : okL l = true) (i : Nat) (hi : i < l.length) : ∃ n : Nat, l.getD i 0 = n ∧ n ≤ 15 := by
  obtain ⟨n, e, hn⟩ := good_is l i ((ok_is l).2 h i hi)
  exact ⟨n, by rw [← rd_nat]; exact e, by omega⟩

theorem codesOf_length (l : List Int) : (codesOf l).length = l.length := by simp [codesOf]

theorem codesOf_get (l : List Int) (i : Nat) (hi : i < l.length) : (codesOf l)[i]? = some (if l.getD i 0 ≤ 0 then 0 else codeAt l i) := by simp [codesOf, hi]

end Go.Proofs.Ytpbhkdamkbopkaa.Stage
