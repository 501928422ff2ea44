-- Written by a program of this session (wip/big/genhead.py): the facts on the seat's head.
import Derived.Test.YtpbhkdamkbopkaaChecked
import Derived.KernelRfl
import Derived.JoinedOf
namespace Go.Proofs.Ytpbhkdamkbopkaa.Head
open Go
set_option maxRecDepth 100000
theorem order : Try.prog.initOrder = "harness a7c15820a2cb1018fe4759f7c25c13e6d005c23fb6069a0d0dcc8b91bc198833 cut at celluloid/celluloidlaw04.HuffCodes celluloid/celluloidlaw04.HuffReads celluloid/celluloidlaw04.HuffBack celluloid/celluloidlaw04.HuffFull celluloid/celluloidlaw04.HuffBits celluloid/celluloidlaw06.DeflateRuns celluloid/celluloidlaw06.DeflateFinds celluloid/celluloidlaw06.DeflatePlain celluloid/celluloidlaw06.DeflateRaw celluloid/celluloidlaw05.InflateRaw celluloid/celluloidlaw05.InflateOpens celluloid/celluloidlaw05.InflateStored celluloid/celluloidlaw05.InflateEnds celluloid/celluloidlaw05.InflateBlocks celluloid/celluloidlaw06.DeflateBack celluloid/celluloidlaw06.DeflateLong celluloid/celluloidlaw11.PixelPuts celluloid/celluloidlaw11.PixelTakes celluloid/celluloidlaw11.PixelAgain celluloid/celluloidlaw11.PixelPoints celluloid/celluloidlaw11.PixelTable celluloid/celluloidlaw11.PixelNames" := by kernel_rfl
/-- The signs behind the third word. -/
def rest : List Char := ['a', 't', ' ', 'c', 'e', 'l', 'l', 'u', 'l', 'o', 'i', 'd', '/', 'c', 'e', 'l', 'l', 'u', 'l', 'o', 'i', 'd', 'l', 'a', 'w', '0', '4', '.', 'H', 'u', 'f', 'f', 'C', 'o', 'd', 'e', 's', ' ', 'c', 'e', 'l', 'l', 'u', 'l', 'o', 'i', 'd', '/', 'c', 'e', 'l', 'l', 'u', 'l', 'o', 'i', 'd', 'l', 'a', 'w', '0', '4', '.', 'H', 'u', 'f', 'f', 'R', 'e', 'a', 'd', 's', ' ', 'c', 'e', 'l', 'l', 'u', 'l', 'o', 'i', 'd', '/', 'c', 'e', 'l', 'l', 'u', 'l', 'o', 'i', 'd', 'l', 'a', 'w', '0', '4', '.', 'H', 'u', 'f', 'f', 'B', 'a', 'c', 'k', ' ', 'c', 'e', 'l', 'l', 'u', 'l', 'o', 'i', 'd', '/', 'c', 'e', 'l', 'l', 'u', 'l', 'o', 'i', 'd', 'l', 'a', 'w', '0', '4', '.', 'H', 'u', 'f', 'f', 'F', 'u', 'l', 'l', ' ', 'c', 'e', 'l', 'l', 'u', 'l', 'o', 'i', 'd', '/', 'c', 'e', 'l', 'l', 'u', 'l', 'o', 'i', 'd', 'l', 'a', 'w', '0', '4', '.', 'H', 'u', 'f', 'f', 'B', 'i', 't', 's', ' ', 'c', 'e', 'l', 'l', 'u', 'l', 'o', 'i', 'd', '/', 'c', 'e', 'l', 'l', 'u', 'l', 'o', 'i', 'd', 'l', 'a', 'w', '0', '6', '.', 'D', 'e', 'f', 'l', 'a', 't', 'e', 'R', 'u', 'n', 's', ' ', 'c', 'e', 'l', 'l', 'u', 'l', 'o', 'i', 'd', '/', 'c', 'e', 'l', 'l', 'u', 'l', 'o', 'i', 'd', 'l', 'a', 'w', '0', '6', '.', 'D', 'e', 'f', 'l', 'a', 't', 'e', 'F', 'i', 'n', 'd', 's', ' ', 'c', 'e', 'l', 'l', 'u', 'l', 'o', 'i', 'd', '/', 'c', 'e', 'l', 'l', 'u', 'l', 'o', 'i', 'd', 'l', 'a', 'w', '0', '6', '.', 'D', 'e', 'f', 'l', 'a', 't', 'e', 'P', 'l', 'a', 'i', 'n', ' ', 'c', 'e', 'l', 'l', 'u', 'l', 'o', 'i', 'd', '/', 'c', 'e', 'l', 'l', 'u', 'l', 'o', 'i', 'd', 'l', 'a', 'w', '0', '6', '.', 'D', 'e', 'f', 'l', 'a', 't', 'e', 'R', 'a', 'w', ' ', 'c', 'e', 'l', 'l', 'u', 'l', 'o', 'i', 'd', '/', 'c', 'e', 'l', 'l', 'u', 'l', 'o', 'i', 'd', 'l', 'a', 'w', '0', '5', '.', 'I', 'n', 'f', 'l', 'a', 't', 'e', 'R', 'a', 'w', ' ', 'c', 'e', 'l', 'l', 'u', 'l', 'o', 'i', 'd', '/', 'c', 'e', 'l', 'l', 'u', 'l', 'o', 'i', 'd', 'l', 'a', 'w', '0', '5', '.', 'I', 'n', 'f', 'l', 'a', 't', 'e', 'O', 'p', 'e', 'n', 's', ' ', 'c', 'e', 'l', 'l', 'u', 'l', 'o', 'i', 'd', '/', 'c', 'e', 'l', 'l', 'u', 'l', 'o', 'i', 'd', 'l', 'a', 'w', '0', '5', '.', 'I', 'n', 'f', 'l', 'a', 't', 'e', 'S', 't', 'o', 'r', 'e', 'd', ' ', 'c', 'e', 'l', 'l', 'u', 'l', 'o', 'i', 'd', '/', 'c', 'e', 'l', 'l', 'u', 'l', 'o', 'i', 'd', 'l', 'a', 'w', '0', '5', '.', 'I', 'n', 'f', 'l', 'a', 't', 'e', 'E', 'n', 'd', 's', ' ', 'c', 'e', 'l', 'l', 'u', 'l', 'o', 'i', 'd', '/', 'c', 'e', 'l', 'l', 'u', 'l', 'o', 'i', 'd', 'l', 'a', 'w', '0', '5', '.', 'I', 'n', 'f', 'l', 'a', 't', 'e', 'B', 'l', 'o', 'c', 'k', 's', ' ', 'c', 'e', 'l', 'l', 'u', 'l', 'o', 'i', 'd', '/', 'c', 'e', 'l', 'l', 'u', 'l', 'o', 'i', 'd', 'l', 'a', 'w', '0', '6', '.', 'D', 'e', 'f', 'l', 'a', 't', 'e', 'B', 'a', 'c', 'k', ' ', 'c', 'e', 'l', 'l', 'u', 'l', 'o', 'i', 'd', '/', 'c', 'e', 'l', 'l', 'u', 'l', 'o', 'i', 'd', 'l', 'a', 'w', '0', '6', '.', 'D', 'e', 'f', 'l', 'a', 't', 'e', 'L', 'o', 'n', 'g', ' ', 'c', 'e', 'l', 'l', 'u', 'l', 'o', 'i', 'd', '/', 'c', 'e', 'l', 'l', 'u', 'l', 'o', 'i', 'd', 'l', 'a', 'w', '1', '1', '.', 'P', 'i', 'x', 'e', 'l', 'P', 'u', 't', 's', ' ', 'c', 'e', 'l', 'l', 'u', 'l', 'o', 'i', 'd', '/', 'c', 'e', 'l', 'l', 'u', 'l', 'o', 'i', 'd', 'l', 'a', 'w', '1', '1', '.', 'P', 'i', 'x', 'e', 'l', 'T', 'a', 'k', 'e', 's', ' ', 'c', 'e', 'l', 'l', 'u', 'l', 'o', 'i', 'd', '/', 'c', 'e', 'l', 'l', 'u', 'l', 'o', 'i', 'd', 'l', 'a', 'w', '1', '1', '.', 'P', 'i', 'x', 'e', 'l', 'A', 'g', 'a', 'i', 'n', ' ', 'c', 'e', 'l', 'l', 'u', 'l', 'o', 'i', 'd', '/', 'c', 'e', 'l', 'l', 'u', 'l', 'o', 'i', 'd', 'l', 'a', 'w', '1', '1', '.', 'P', 'i', 'x', 'e', 'l', 'P', 'o', 'i', 'n', 't', 's', ' ', 'c', 'e', 'l', 'l', 'u', 'l', 'o', 'i', 'd', '/', 'c', 'e', 'l', 'l', 'u', 'l', 'o', 'i', 'd', 'l', 'a', 'w', '1', '1', '.', 'P', 'i', 'x', 'e', 'l', 'T', 'a', 'b', 'l', 'e', ' ', 'c', 'e', 'l', 'l', 'u', 'l', 'o', 'i', 'd', '/', 'c', 'e', 'l', 'l', 'u', 'l', 'o', 'i', 'd', 'l', 'a', 'w', '1', '1', '.', 'P', 'i', 'x', 'e', 'l', 'N', 'a', 'm', 'e', 's']
theorem signs : Try.prog.initOrder.toList = ['h', 'a', 'r', 'n', 'e', 's', 's'] ++ ' ' :: (['a', '7', 'c', '1', '5', '8', '2', '0', 'a', '2', 'c', 'b', '1', '0', '1', '8', 'f', 'e', '4', '7', '5', '9', 'f', '7', 'c', '2', '5', 'c', '1', '3', 'e', '6', 'd', '0', '0', '5', 'c', '2', '3', 'f', 'b', '6', '0', '6', '9', 'a', '0', 'd', '0', 'd', 'c', 'c', '8', 'b', '9', '1', 'b', 'c', '1', '9', '8', '8', '3', '3'] ++ ' ' :: (['c', 'u', 't'] ++ ' ' :: rest)) := by rw [order]; exact String.toList_ofList
/-- The words: a word, and those behind its space. -/
theorem words_cut (r : List Char) : ∀ (w : List Char), (∀ c ∈ w, c ≠ ' ') → wordsSigns (w ++ ' ' :: r) = w :: wordsSigns r
  | [], _ => by simp [wordsSigns]
  | c :: w, h => by
    have ih := words_cut r w (fun x hx => h x (List.mem_cons_of_mem _ hx))
    have hc : c ≠ ' ' := h c List.mem_cons_self
    rw [List.cons_append, wordsSigns.eq_3 _ _ hc, ih]
theorem words : behindMainWord (wordsSigns Try.prog.initOrder.toList) = ['c', 'u', 't'] :: wordsSigns rest := by
  rw [signs, words_cut _ _ (by decide), words_cut _ _ (by decide), words_cut _ _ (by decide)]
  have h1 : ((['h', 'a', 'r', 'n', 'e', 's', 's'] == "harness".toList || ['h', 'a', 'r', 'n', 'e', 's', 's'] == "ownmain".toList) && isSumSigns ['a', '7', 'c', '1', '5', '8', '2', '0', 'a', '2', 'c', 'b', '1', '0', '1', '8', 'f', 'e', '4', '7', '5', '9', 'f', '7', 'c', '2', '5', 'c', '1', '3', 'e', '6', 'd', '0', '0', '5', 'c', '2', '3', 'f', 'b', '6', '0', '6', '9', 'a', '0', 'd', '0', 'd', 'c', 'c', '8', 'b', '9', '1', 'b', 'c', '1', '9', '8', '8', '3', '3']) = true := by decide +kernel
  unfold behindMainWord
  simp only [h1, if_true]
theorem g1 : (['c', 'u', 't'] == "gc".toList) = false := by decide +kernel
theorem g2 : (['c', 'u', 't'] == "spec".toList) = false := by decide +kernel
theorem g3 : (['c', 'u', 't'] == "cut".toList) = true := by decide +kernel
theorem g4 : (['c', 'u', 't'] == "carried".toList) = false := by decide +kernel
theorem lifts (rs : List (List Char)) : stripLifts liftWords (['c', 'u', 't'] :: rs) = ([], ['c', 'u', 't'] :: rs) := by
  have h : liftWords.all (fun o => !(['c', 'u', 't'] == o.toList)) = true := by decide +kernel
  revert h
  generalize liftWords = os
  intro h
  induction os with
  | nil => rfl
  | cons o os ih =>
    rw [List.all_cons, Bool.and_eq_true, Bool.not_eq_true'] at h
    rw [stripLifts.eq_3, if_neg (by rw [h.1]; decide), ih h.2]
theorem make_of (P : Program) (rs : List (List Char)) (h : behindMainWord (wordsSigns P.initOrder.toList) = ['c', 'u', 't'] :: rs) : P.make = some .cut := by
  unfold Program.make
  rw [h]
  simp only [g1, g2, g3, Bool.false_or, Bool.true_or, if_true, Bool.false_eq_true, if_false]
theorem final_of (P : Program) (rs : List (List Char)) (h : behindMainWord (wordsSigns P.initOrder.toList) = ['c', 'u', 't'] :: rs) : P.liftsFinal = false := by
  unfold Program.liftsFinal Program.headLifts
  rw [h, lifts]
  rfl
theorem enters_of (P : Program) (rs : List (List Char)) (h : behindMainWord (wordsSigns P.initOrder.toList) = ['c', 'u', 't'] :: rs) (h1 : P.laysLater = false) (h2 : P.bearsReflect = false) (h3 : P.doorFits [] = true) : P.mayEnter = true := by
  unfold Program.mayEnter
  rw [h]
  dsimp only
  rw [lifts, h1, h2, h3]
  rfl
theorem make : Try.prog.make = some .cut := make_of _ _ words
theorem final : Try.prog.liftsFinal = false := final_of _ _ words
theorem later : Try.prog.laysLater = false := by kernel_rfl
theorem reflect : Try.prog.bearsReflect = false := by kernel_rfl
theorem door : Try.prog.doorFits [] = true := by kernel_rfl
theorem enters : Try.prog.mayEnter = true := enters_of _ _ words later reflect door
end Go.Proofs.Ytpbhkdamkbopkaa.Head
