-- Written by a program of this session (wip/tools/print2.py) for this claim.
import Derived.Test.YtpbhkdamkbopkaaGDeflx0
import Derived.Test.YtpbhkdamkbopkaaGDeflx2
import Derived.Test.YtpbhkdamkbopkaaGDeflx3
namespace Go.Proofs.Ytpbhkdamkbopkaa.GDefl
open Go.RowKit Go.Proofs.YtpbhkdamkbopkaaW.PrintWords Go.Proofs.YtpbhkdamkbopkaaW.PrintLast Go.Proofs.YtpbhkdamkbopkaaW.PrintMore Go.Proofs.Ytpbhkdamkbopkaa.Wr1 Go.Proofs.Ytpbhkdamkbopkaa.GRuns
attribute [local go_sem] max2_int min2_int max_two min_two max_three min_three max_four min_four   -- for this text's walks alone
set_option linter.unusedVariables false
set_option linter.unusedSimpArgs false

/-! ### celluloidref06_Raw: function 41 -/
mutual
def celluloidref06_Raw.l0 : Nat → ByteArray → List Int → List Int → List Int → List Int → Int → Option (ByteArray)
  | 0, _, _, _, _, _, _ => none
  | k + 1, x0, x3, x5, x6, x7, x8 => if x8 < (x0.size : Int) then ((celluloidref06_Run.f k x0 x8).bind fun bt166 => (if bt166.1 = 0 then (if 0 ≤ x8 then (if 0 ≤ (wrap64 (bt x0 x8)) then (if (wrap64 (bt x0 x8)) < (x5.length : Int) then (if (wrap64 (bt x0 x8)) < (x3.length : Int) then ((celluloidref06_code.f k x7 (rd x5 (wrap64 (bt x0 x8))) (rd x3 (wrap64 (bt x0 x8)))).bind fun t170 => (celluloidref06_Raw.l0 k x0 x3 x5 x6 t170 (wrap64 (x8 + 1)))) else (none)) else (none)) else (none)) else (none)) else (celluloidref06_Raw.l1 k x0 x3 x5 x6 x7 x8 bt166.1 bt166.2 257 257))) else (if 256 < (x5.length : Int) then (if 256 < (x3.length : Int) then ((celluloidref06_code.f k x7 (rd x5 256) (rd x3 256)).bind fun t198 => (if 0 ≤ (wrap64 (Int.tdiv (wrap64 ((t198.length : Int) + 7)) 8)) then (if (wrap64 (Int.tdiv (wrap64 ((t198.length : Int) + 7)) 8) : Int).toNat ≤ 281474976710656 then (celluloidref06_Raw.l3 k t198 (List.replicate (wrap64 (Int.tdiv (wrap64 ((t198.length : Int) + 7)) 8) : Int).toNat 0) 0) else (none)) else (none))) else (none)) else (none))
def celluloidref06_Raw.l1 : Nat → ByteArray → List Int → List Int → List Int → List Int → Int → Int → Int → Int → Int → Option (ByteArray)
  | 0, _, _, _, _, _, _, _, _, _, _ => none
  | k + 1, x0, x3, x5, x6, x7, x8, x9, x10, x12, x13 => if x13 < 286 then ((celluloidref05_Length.f k x13).bind fun bt173 => (if bt173.1 ≤ x9 then (celluloidref06_Raw.l1 k x0 x3 x5 x6 x7 x8 x9 x10 x13 (wrap64 (x13 + 1))) else (celluloidref06_Raw.l1 k x0 x3 x5 x6 x7 x8 x9 x10 x12 (wrap64 (x13 + 1))))) else ((celluloidref05_Length.f k x12).bind fun bt175 => (if 0 ≤ x12 then (if x12 < (x5.length : Int) then (if x12 < (x3.length : Int) then ((celluloidref06_code.f k x7 (rd x5 x12) (rd x3 x12)).bind fun t179 => ((celluloidref06_number.f k t179 (wrap64 (x9 - bt175.1)) bt175.2).bind fun t182 => (celluloidref06_Raw.l2 k x0 x3 x5 x6 t182 x8 x9 x10 0 0))) else (none)) else (none)) else (none)))
def celluloidref06_Raw.l2 : Nat → ByteArray → List Int → List Int → List Int → List Int → Int → Int → Int → Int → Int → Option (ByteArray)
  | 0, _, _, _, _, _, _, _, _, _, _ => none
  | k + 1, x0, x3, x5, x6, x7, x8, x9, x10, x12, x18 => if x18 < 30 then ((celluloidref05_Distance.f k x18).bind fun bt185 => (if bt185.1 ≤ x10 then (celluloidref06_Raw.l2 k x0 x3 x5 x6 x7 x8 x9 x10 x18 (wrap64 (x18 + 1))) else (celluloidref06_Raw.l2 k x0 x3 x5 x6 x7 x8 x9 x10 x12 (wrap64 (x18 + 1))))) else ((celluloidref05_Distance.f k x12).bind fun bt187 => (if 0 ≤ x12 then (if x12 < (x6.length : Int) then ((celluloidref06_code.f k x7 (rd x6 x12) 5).bind fun t190 => ((celluloidref06_number.f k t190 (wrap64 (x10 - bt187.1)) bt187.2).bind fun t193 => (celluloidref06_Raw.l0 k x0 x3 x5 x6 t193 (wrap64 (x8 + x9))))) else (none)) else (none)))
def celluloidref06_Raw.l3 : Nat → List Int → List Int → Int → Option (ByteArray)
  | 0, _, _, _ => none
  | k + 1, x7, x21, x22 => if x22 < (x7.length : Int) then (if 0 ≤ x22 then (celluloidref06_Raw.l4 k x7 x21 x22 (rd x7 x22) 0) else (none)) else (some (strOfNums x21))
def celluloidref06_Raw.l4 : Nat → List Int → List Int → Int → Int → Int → Option (ByteArray)
  | 0, _, _, _, _, _ => none
  | k + 1, x7, x21, x22, x23, x24 => if x24 < (Int.tmod x22 8) then (celluloidref06_Raw.l4 k x7 x21 x22 ((x23 * 2) % 256) (wrap64 (x24 + 1))) else (if 0 ≤ (wrap64 (Int.tdiv x22 8)) then (if (wrap64 (Int.tdiv x22 8)) < (x21.length : Int) then (celluloidref06_Raw.l3 k x7 (x21.set ((wrap64 (Int.tdiv x22 8)) : Int).toNat (((rd x21 (wrap64 (Int.tdiv x22 8))) + x23) % 256)) (wrap64 (x22 + 1))) else (none)) else (none))
end
def celluloidref06_Raw.f (k : Nat) (a0 : ByteArray) : Option (ByteArray) := (celluloidref05_Plain.f k).bind fun bt151 => ((celluloidref04_Codes.f k bt151.1).bind fun t157 => ((celluloidref04_Codes.f k bt151.2).bind fun t160 => (celluloidref06_Raw.l0 k a0 bt151.1 t157 t160 (([1, 1, 0] : List Int)) 0)))
theorem celluloidref06_Raw.mono_l : ∀ k, (∀ y0 y1 y2 y3 y4 y5, LeO (celluloidref06_Raw.l0 k y0 y1 y2 y3 y4 y5) (celluloidref06_Raw.l0 (k + 1) y0 y1 y2 y3 y4 y5)) ∧ (∀ y0 y1 y2 y3 y4 y5 y6 y7 y8 y9, LeO (celluloidref06_Raw.l1 k y0 y1 y2 y3 y4 y5 y6 y7 y8 y9) (celluloidref06_Raw.l1 (k + 1) y0 y1 y2 y3 y4 y5 y6 y7 y8 y9)) ∧ (∀ y0 y1 y2 y3 y4 y5 y6 y7 y8 y9, LeO (celluloidref06_Raw.l2 k y0 y1 y2 y3 y4 y5 y6 y7 y8 y9) (celluloidref06_Raw.l2 (k + 1) y0 y1 y2 y3 y4 y5 y6 y7 y8 y9)) ∧ (∀ y0 y1 y2, LeO (celluloidref06_Raw.l3 k y0 y1 y2) (celluloidref06_Raw.l3 (k + 1) y0 y1 y2)) ∧ (∀ y0 y1 y2 y3 y4, LeO (celluloidref06_Raw.l4 k y0 y1 y2 y3 y4) (celluloidref06_Raw.l4 (k + 1) y0 y1 y2 y3 y4))
  | 0 => ⟨fun _ _ _ _ _ _ r h => by simp [celluloidref06_Raw.l0] at h, fun _ _ _ _ _ _ _ _ _ _ r h => by simp [celluloidref06_Raw.l1] at h, fun _ _ _ _ _ _ _ _ _ _ r h => by simp [celluloidref06_Raw.l2] at h, fun _ _ _ r h => by simp [celluloidref06_Raw.l3] at h, fun _ _ _ _ _ r h => by simp [celluloidref06_Raw.l4] at h⟩
  | k + 1 => by
    obtain ⟨ih0, ih1, ih2, ih3, ih4⟩ := celluloidref06_Raw.mono_l k
    refine ⟨?_, ?_, ?_, ?_, ?_⟩
    · intro y0 y1 y2 y3 y4 y5
      unfold celluloidref06_Raw.l0
      repeat' first
      | (with_reducible exact ih0 _ _ _ _ _ _)
      | (with_reducible exact ih1 _ _ _ _ _ _ _ _ _ _)
      | (with_reducible exact ih2 _ _ _ _ _ _ _ _ _ _)
      | (with_reducible exact ih3 _ _ _)
      | (with_reducible exact ih4 _ _ _ _ _)
      | (with_reducible exact celluloidref04_Codes.mono _ _)
      | (with_reducible exact celluloidref05_Distance.mono _ _)
      | (with_reducible exact celluloidref05_Length.mono _ _)
      | (with_reducible exact celluloidref05_Plain.mono _)
      | (with_reducible exact celluloidref06_Run.mono _ _ _)
      | (with_reducible exact celluloidref06_code.mono _ _ _ _)
      | (with_reducible exact celluloidref06_number.mono _ _ _ _)
      | (with_reducible exact LeO.refl _)
      | (with_reducible exact LeO.none _)
      | (with_reducible refine LeO.ite ?_ ?_)
      | (with_reducible refine LeO.bind ?_ (fun _ => ?_))
      | exact ih0 _ _ _ _ _ _
      | exact ih1 _ _ _ _ _ _ _ _ _ _
      | exact ih2 _ _ _ _ _ _ _ _ _ _
      | exact ih3 _ _ _
      | exact ih4 _ _ _ _ _
      | exact celluloidref04_Codes.mono _ _
      | exact celluloidref05_Distance.mono _ _
      | exact celluloidref05_Length.mono _ _
      | exact celluloidref05_Plain.mono _
      | exact celluloidref06_Run.mono _ _ _
      | exact celluloidref06_code.mono _ _ _ _
      | exact celluloidref06_number.mono _ _ _ _
      | exact LeO.none _
      | refine LeO.ite ?_ ?_
      | refine LeO.bind ?_ (fun _ => ?_)
    · intro y0 y1 y2 y3 y4 y5 y6 y7 y8 y9
      unfold celluloidref06_Raw.l1
      repeat' first
      | (with_reducible exact ih0 _ _ _ _ _ _)
      | (with_reducible exact ih1 _ _ _ _ _ _ _ _ _ _)
      | (with_reducible exact ih2 _ _ _ _ _ _ _ _ _ _)
      | (with_reducible exact ih3 _ _ _)
      | (with_reducible exact ih4 _ _ _ _ _)
      | (with_reducible exact celluloidref04_Codes.mono _ _)
      | (with_reducible exact celluloidref05_Distance.mono _ _)
      | (with_reducible exact celluloidref05_Length.mono _ _)
      | (with_reducible exact celluloidref05_Plain.mono _)
      | (with_reducible exact celluloidref06_Run.mono _ _ _)
      | (with_reducible exact celluloidref06_code.mono _ _ _ _)
      | (with_reducible exact celluloidref06_number.mono _ _ _ _)
      | (with_reducible exact LeO.refl _)
      | (with_reducible exact LeO.none _)
      | (with_reducible refine LeO.ite ?_ ?_)
      | (with_reducible refine LeO.bind ?_ (fun _ => ?_))
      | exact ih0 _ _ _ _ _ _
      | exact ih1 _ _ _ _ _ _ _ _ _ _
      | exact ih2 _ _ _ _ _ _ _ _ _ _
      | exact ih3 _ _ _
      | exact ih4 _ _ _ _ _
      | exact celluloidref04_Codes.mono _ _
      | exact celluloidref05_Distance.mono _ _
      | exact celluloidref05_Length.mono _ _
      | exact celluloidref05_Plain.mono _
      | exact celluloidref06_Run.mono _ _ _
      | exact celluloidref06_code.mono _ _ _ _
      | exact celluloidref06_number.mono _ _ _ _
      | exact LeO.none _
      | refine LeO.ite ?_ ?_
      | refine LeO.bind ?_ (fun _ => ?_)
    · intro y0 y1 y2 y3 y4 y5 y6 y7 y8 y9
      unfold celluloidref06_Raw.l2
      repeat' first
      | (with_reducible exact ih0 _ _ _ _ _ _)
      | (with_reducible exact ih1 _ _ _ _ _ _ _ _ _ _)
      | (with_reducible exact ih2 _ _ _ _ _ _ _ _ _ _)
      | (with_reducible exact ih3 _ _ _)
      | (with_reducible exact ih4 _ _ _ _ _)
      | (with_reducible exact celluloidref04_Codes.mono _ _)
      | (with_reducible exact celluloidref05_Distance.mono _ _)
      | (with_reducible exact celluloidref05_Length.mono _ _)
      | (with_reducible exact celluloidref05_Plain.mono _)
      | (with_reducible exact celluloidref06_Run.mono _ _ _)
      | (with_reducible exact celluloidref06_code.mono _ _ _ _)
      | (with_reducible exact celluloidref06_number.mono _ _ _ _)
      | (with_reducible exact LeO.refl _)
      | (with_reducible exact LeO.none _)
      | (with_reducible refine LeO.ite ?_ ?_)
      | (with_reducible refine LeO.bind ?_ (fun _ => ?_))
      | exact ih0 _ _ _ _ _ _
      | exact ih1 _ _ _ _ _ _ _ _ _ _
      | exact ih2 _ _ _ _ _ _ _ _ _ _
      | exact ih3 _ _ _
      | exact ih4 _ _ _ _ _
      | exact celluloidref04_Codes.mono _ _
      | exact celluloidref05_Distance.mono _ _
      | exact celluloidref05_Length.mono _ _
      | exact celluloidref05_Plain.mono _
      | exact celluloidref06_Run.mono _ _ _
      | exact celluloidref06_code.mono _ _ _ _
      | exact celluloidref06_number.mono _ _ _ _
      | exact LeO.none _
      | refine LeO.ite ?_ ?_
      | refine LeO.bind ?_ (fun _ => ?_)
    · intro y0 y1 y2
      unfold celluloidref06_Raw.l3
      repeat' first
      | (with_reducible exact ih0 _ _ _ _ _ _)
      | (with_reducible exact ih1 _ _ _ _ _ _ _ _ _ _)
      | (with_reducible exact ih2 _ _ _ _ _ _ _ _ _ _)
      | (with_reducible exact ih3 _ _ _)
      | (with_reducible exact ih4 _ _ _ _ _)
      | (with_reducible exact celluloidref04_Codes.mono _ _)
      | (with_reducible exact celluloidref05_Distance.mono _ _)
      | (with_reducible exact celluloidref05_Length.mono _ _)
      | (with_reducible exact celluloidref05_Plain.mono _)
      | (with_reducible exact celluloidref06_Run.mono _ _ _)
      | (with_reducible exact celluloidref06_code.mono _ _ _ _)
      | (with_reducible exact celluloidref06_number.mono _ _ _ _)
      | (with_reducible exact LeO.refl _)
      | (with_reducible exact LeO.none _)
      | (with_reducible refine LeO.ite ?_ ?_)
      | (with_reducible refine LeO.bind ?_ (fun _ => ?_))
      | exact ih0 _ _ _ _ _ _
      | exact ih1 _ _ _ _ _ _ _ _ _ _
      | exact ih2 _ _ _ _ _ _ _ _ _ _
      | exact ih3 _ _ _
      | exact ih4 _ _ _ _ _
      | exact celluloidref04_Codes.mono _ _
      | exact celluloidref05_Distance.mono _ _
      | exact celluloidref05_Length.mono _ _
      | exact celluloidref05_Plain.mono _
      | exact celluloidref06_Run.mono _ _ _
      | exact celluloidref06_code.mono _ _ _ _
      | exact celluloidref06_number.mono _ _ _ _
      | exact LeO.none _
      | refine LeO.ite ?_ ?_
      | refine LeO.bind ?_ (fun _ => ?_)
    · intro y0 y1 y2 y3 y4
      unfold celluloidref06_Raw.l4
      repeat' first
      | (with_reducible exact ih0 _ _ _ _ _ _)
      | (with_reducible exact ih1 _ _ _ _ _ _ _ _ _ _)
      | (with_reducible exact ih2 _ _ _ _ _ _ _ _ _ _)
      | (with_reducible exact ih3 _ _ _)
      | (with_reducible exact ih4 _ _ _ _ _)
      | (with_reducible exact celluloidref04_Codes.mono _ _)
      | (with_reducible exact celluloidref05_Distance.mono _ _)
      | (with_reducible exact celluloidref05_Length.mono _ _)
      | (with_reducible exact celluloidref05_Plain.mono _)
      | (with_reducible exact celluloidref06_Run.mono _ _ _)
      | (with_reducible exact celluloidref06_code.mono _ _ _ _)
      | (with_reducible exact celluloidref06_number.mono _ _ _ _)
      | (with_reducible exact LeO.refl _)
      | (with_reducible exact LeO.none _)
      | (with_reducible refine LeO.ite ?_ ?_)
      | (with_reducible refine LeO.bind ?_ (fun _ => ?_))
      | exact ih0 _ _ _ _ _ _
      | exact ih1 _ _ _ _ _ _ _ _ _ _
      | exact ih2 _ _ _ _ _ _ _ _ _ _
      | exact ih3 _ _ _
      | exact ih4 _ _ _ _ _
      | exact celluloidref04_Codes.mono _ _
      | exact celluloidref05_Distance.mono _ _
      | exact celluloidref05_Length.mono _ _
      | exact celluloidref05_Plain.mono _
      | exact celluloidref06_Run.mono _ _ _
      | exact celluloidref06_code.mono _ _ _ _
      | exact celluloidref06_number.mono _ _ _ _
      | exact LeO.none _
      | refine LeO.ite ?_ ?_
      | refine LeO.bind ?_ (fun _ => ?_)
theorem celluloidref06_Raw.mono : ∀ a0 k, LeO (celluloidref06_Raw.f k a0) (celluloidref06_Raw.f (k + 1) a0) := by
  intro a0 k
  obtain ⟨ih0, ih1, ih2, ih3, ih4⟩ := celluloidref06_Raw.mono_l k
  unfold celluloidref06_Raw.f
  repeat' first
      | (with_reducible exact ih0 _ _ _ _ _ _)
      | (with_reducible exact ih1 _ _ _ _ _ _ _ _ _ _)
      | (with_reducible exact ih2 _ _ _ _ _ _ _ _ _ _)
      | (with_reducible exact ih3 _ _ _)
      | (with_reducible exact ih4 _ _ _ _ _)
      | (with_reducible exact celluloidref04_Codes.mono _ _)
      | (with_reducible exact celluloidref05_Distance.mono _ _)
      | (with_reducible exact celluloidref05_Length.mono _ _)
      | (with_reducible exact celluloidref05_Plain.mono _)
      | (with_reducible exact celluloidref06_Run.mono _ _ _)
      | (with_reducible exact celluloidref06_code.mono _ _ _ _)
      | (with_reducible exact celluloidref06_number.mono _ _ _ _)
      | (with_reducible exact LeO.refl _)
      | (with_reducible exact LeO.none _)
      | (with_reducible refine LeO.ite ?_ ?_)
      | (with_reducible refine LeO.bind ?_ (fun _ => ?_))
      | exact ih0 _ _ _ _ _ _
      | exact ih1 _ _ _ _ _ _ _ _ _ _
      | exact ih2 _ _ _ _ _ _ _ _ _ _
      | exact ih3 _ _ _
      | exact ih4 _ _ _ _ _
      | exact celluloidref04_Codes.mono _ _
      | exact celluloidref05_Distance.mono _ _
      | exact celluloidref05_Length.mono _ _
      | exact celluloidref05_Plain.mono _
      | exact celluloidref06_Run.mono _ _ _
      | exact celluloidref06_code.mono _ _ _ _
      | exact celluloidref06_number.mono _ _ _ _
      | exact LeO.none _
      | refine LeO.ite ?_ ?_
      | refine LeO.bind ?_ (fun _ => ?_)
def celluloidref06_Raw.T9 : Bool × List (List Nat × List Nat) := (true, [([], []), ([], []), ([], []), ([1, 2], [1, 2]), ([3], [3]), ([], []), ([], []), ([5, 6], [5, 6]), ([7], [7]), ([0, 4, 8], [0, 4, 8]), ([9, 9, 0, 1, 2, 3, 4, 5, 6, 7, 8, 9], [0, 9])])
def celluloidref06_Raw.B9 : List Nat := [0, 0, 0, 6, 14, 0, 0, 96, 224, 511, 1023]
theorem celluloidref06_Raw.tab9 : rtab .any (opsOf Try.f41 9) = celluloidref06_Raw.T9 := by kernel_rfl
theorem celluloidref06_Raw.bits9 : waitsOk celluloidref06_Raw.T9.2 celluloidref06_Raw.B9 = true := by kernel_rfl
def celluloidref06_Raw.T19 : Bool × List (List Nat × List Nat) := (true, [([], []), ([], []), ([], []), ([1, 2], [1, 2]), ([3], [3]), ([], []), ([], []), ([5, 6], [5, 6]), ([7], [7]), ([0, 4, 8], [0, 4, 8]), ([9, 9, 0, 1, 2, 3, 4, 5, 6, 7, 8, 9], [0, 9])])
def celluloidref06_Raw.B19 : List Nat := [0, 0, 0, 6, 14, 0, 0, 96, 224, 511, 1023]
theorem celluloidref06_Raw.tab19 : rtab .any (opsOf Try.f41 19) = celluloidref06_Raw.T19 := by kernel_rfl
theorem celluloidref06_Raw.bits19 : waitsOk celluloidref06_Raw.T19.2 celluloidref06_Raw.B19 = true := by kernel_rfl
def celluloidref06_Raw.T32 : Bool × List (List Nat × List Nat) := (true, [([], []), ([], []), ([1], [1]), ([2], [2]), ([], []), ([4], [4]), ([5], [5]), ([0, 3, 6], [0, 3, 6]), ([7, 7, 0, 1, 2, 3, 4, 5, 6, 7], [0, 7])])
def celluloidref06_Raw.B32 : List Nat := [0, 0, 2, 6, 0, 16, 48, 127, 255]
theorem celluloidref06_Raw.tab32 : rtab .any (opsOf Try.f41 32) = celluloidref06_Raw.T32 := by kernel_rfl
theorem celluloidref06_Raw.bits32 : waitsOk celluloidref06_Raw.T32.2 celluloidref06_Raw.B32 = true := by kernel_rfl
set_option maxHeartbeats 8000000 in
set_option maxRecDepth 100000 in
theorem celluloidref06_Raw.calls (k : Nat) (a0 : ByteArray) (r : ByteArray) (w : World) (h : celluloidref06_Raw.f k a0 = some r) :
    Calls Try.prog 41 #[.string a0] w fun e w' => e = .returned (.string r) ∧ Below w.heap.size w w' := by
  have HB := Aside0.mk (Below.refl w.heap.size w)
  have H : ((celluloidref05_Plain.f k).bind fun bt151 => ((celluloidref04_Codes.f k bt151.1).bind fun t157 => ((celluloidref04_Codes.f k bt151.2).bind fun t160 => (celluloidref06_Raw.l0 k a0 bt151.1 t157 t160 (([1, 1, 0] : List Int)) 0)))) = some r := h
  clear h
  replace H := Option.bind_eq_some_iff.mp H
  obtain ⟨⟨t151, t152⟩, A20, H⟩ := H
  replace H : ((celluloidref04_Codes.f k t151).bind fun t157 => ((celluloidref04_Codes.f k t152).bind fun t160 => (celluloidref06_Raw.l0 k a0 t151 t157 t160 (([1, 1, 0] : List Int)) 0))) = some r := H
  have A2 := Aside0.mk A20
  clear A20
  replace H := Option.bind_eq_some_iff.mp H
  obtain ⟨t157, A30, H⟩ := H
  replace H : ((celluloidref04_Codes.f k t152).bind fun t160 => (celluloidref06_Raw.l0 k a0 t151 t157 t160 (([1, 1, 0] : List Int)) 0)) = some r := H
  have A3 := Aside0.mk A30
  clear A30
  replace H := Option.bind_eq_some_iff.mp H
  obtain ⟨t160, A40, H⟩ := H
  replace H : (celluloidref06_Raw.l0 k a0 t151 t157 t160 (([1, 1, 0] : List Int)) 0) = some r := H
  have A4 := Aside0.mk A40
  clear A40
  obtain ⟨y163, hy163⟩ : ∃ y_ : List Int, y_ = (([1, 1, 0] : List Int)) := ⟨_, rfl⟩
  replace H : (celluloidref06_Raw.l0 k a0 t151 t157 t160 y163 0) = some r := by first | (rw [hy163]; with_reducible exact H) | (have H2_ := (Option.bind_some _ _).symm.trans H; rw [hy163]; with_reducible exact H2_) | (have H2_ := (Option.bind_some _ _).symm.trans H; with_reducible exact H2_) | with_reducible exact H | (rw [hy163]; exact H) | exact H
  have Ny163 := Aside0.mk hy163
  clear hy163
  have H' := Aside0.mk H
  clear H
  go_enter Try.func41, Try.ntmps41
  go_wp2_with (first | ((with_reducible refine gate_callee (f := 66) rfl ?_); refine goesL_ (some 26) rfl rfl Try.func66 (by kernel_rfl) rfl #[] rfl (by (try simp only [List.map_toArray, List.map_cons, List.map_nil]); first | done | rfl | (simp only [List.length_drop, List.length_take]; rfl)) ?_; (with_reducible refine (celluloidref05_Plain.calls k  t151 t152 _ A2.out).mono ?_); rintro e w5 ⟨v153, v155, rfl, ho0, ho1, hb⟩; refine ⟨_, rfl, ?_⟩; have n0_ := Aside0.mk (Kd.R_lower ho0 (below_size (by repeat (first | (with_reducible first | exact HB.out | apply below_alloc | apply pw_below_drewN | apply below_drew1) | exact HB.out)))); have n1_ := Aside0.mk (Kd.R_lower ho1 (below_size (by repeat (first | (with_reducible first | exact HB.out | apply below_alloc | apply pw_below_drewN | apply below_drew1) | exact HB.out)))); have n2_ := Aside0.mk (below_step (by repeat (first | (with_reducible first | exact HB.out | apply below_alloc | apply pw_below_drewN | apply below_drew1) | exact HB.out)) hb); clear HB; have HO154 := n0_; have HO156 := n1_; have HB := n2_; clear n0_ n1_ n2_; (try clear hb); (try clear hb2); (try clear hk); (try clear hi); (try clear ho0); (try clear ho1); obtain ⟨Ao6, co6, eo6⟩ := Kd.R_slice HO154.out; subst eo6) | ((with_reducible refine gate_callee (f := 29) rfl ?_); refine goesL_ (some 30) rfl rfl Try.func29 (by kernel_rfl) rfl #[.slice Ao6 t151.length co6] rfl (by (try simp only [List.map_toArray, List.map_cons, List.map_nil]); first | done | rfl | (simp only [List.length_drop, List.length_take]; rfl)) ?_; (with_reducible refine (celluloidref04_Codes.calls k _ _ t151 t157 _ ?side1 ?side2 A3.out).mono ?_); (case side1 => repeat (first | exact (Kd.R_reads' HO154.out).2.2 | (with_reducible refine Kd.C_alloc ?_ _) | (with_reducible refine Kd.C_drewN ?_ _) | (with_reducible refine Kd.C_drew ?_))); (case side2 => exact (Kd.R_reads' HO154.out).2.1); rintro e w7 ⟨v158, rfl, ho0, hb⟩; refine ⟨_, rfl, ?_⟩; have n0_ := Aside0.mk (Kd.R_elder' (by (with_reducible repeat (first | apply Kd.R_alloc | apply Kd.R_drewN | apply Kd.R_drew)); exact HO154.out) (Kd.R_base ho0) hb); have n1_ := Aside0.mk (Kd.R_elder' (by (with_reducible repeat (first | apply Kd.R_alloc | apply Kd.R_drewN | apply Kd.R_drew)); exact HO156.out) (Kd.R_base ho0) hb); have n2_ := Aside0.mk (Kd.R_lower (Kd.R_new' (Kd.R_new' ho0 (Kd.R_lt (by (with_reducible repeat (first | apply Kd.R_alloc | apply Kd.R_drewN | apply Kd.R_drew)); exact HO154.out))) (Kd.R_lt (by (with_reducible repeat (first | apply Kd.R_alloc | apply Kd.R_drewN | apply Kd.R_drew)); exact HO156.out))) (below_size (by repeat (first | (with_reducible first | exact HB.out | apply below_alloc | apply pw_below_drewN | apply below_drew1) | exact HB.out)))); have n3_ := Aside0.mk (below_step (by repeat (first | (with_reducible first | exact HB.out | apply below_alloc | apply pw_below_drewN | apply below_drew1) | exact HB.out)) hb); clear HO154; clear HO156; clear HB; have HO154 := n0_; have HO156 := n1_; have HO159 := n2_; have HB := n3_; clear n0_ n1_ n2_ n3_; (try clear hb); (try clear hb2); (try clear hk); (try clear hi); (try clear ho0); obtain ⟨Ao8, co8, eo8⟩ := Kd.R_slice HO156.out; subst eo8) | ((with_reducible refine gate_callee (f := 29) rfl ?_); refine goesL_ (some 32) rfl rfl Try.func29 (by kernel_rfl) rfl #[.slice Ao8 t152.length co8] rfl (by (try simp only [List.map_toArray, List.map_cons, List.map_nil]); first | done | rfl | (simp only [List.length_drop, List.length_take]; rfl)) ?_; (with_reducible refine (celluloidref04_Codes.calls k _ _ t152 t160 _ ?side1 ?side2 A4.out).mono ?_); (case side1 => repeat (first | exact (Kd.R_reads' HO156.out).2.2 | (with_reducible refine Kd.C_alloc ?_ _) | (with_reducible refine Kd.C_drewN ?_ _) | (with_reducible refine Kd.C_drew ?_))); (case side2 => exact (Kd.R_reads' HO156.out).2.1); rintro e w9 ⟨v161, rfl, ho0, hb⟩; refine ⟨_, rfl, ?_⟩; have n0_ := Aside0.mk (Kd.R_elder' (by (with_reducible repeat (first | apply Kd.R_alloc | apply Kd.R_drewN | apply Kd.R_drew)); exact HO154.out) (Kd.R_base ho0) hb); have n1_ := Aside0.mk (Kd.R_elder' (by (with_reducible repeat (first | apply Kd.R_alloc | apply Kd.R_drewN | apply Kd.R_drew)); exact HO156.out) (Kd.R_base ho0) hb); have n2_ := Aside0.mk (Kd.R_elder' (by (with_reducible repeat (first | apply Kd.R_alloc | apply Kd.R_drewN | apply Kd.R_drew)); exact HO159.out) (Kd.R_base ho0) hb); have n3_ := Aside0.mk (Kd.R_lower (Kd.R_new' (Kd.R_new' (Kd.R_new' ho0 (Kd.R_lt (by (with_reducible repeat (first | apply Kd.R_alloc | apply Kd.R_drewN | apply Kd.R_drew)); exact HO154.out))) (Kd.R_lt (by (with_reducible repeat (first | apply Kd.R_alloc | apply Kd.R_drewN | apply Kd.R_drew)); exact HO156.out))) (Kd.R_lt (by (with_reducible repeat (first | apply Kd.R_alloc | apply Kd.R_drewN | apply Kd.R_drew)); exact HO159.out))) (below_size (by repeat (first | (with_reducible first | exact HB.out | apply below_alloc | apply pw_below_drewN | apply below_drew1) | exact HB.out)))); have n4_ := Aside0.mk (below_step (by repeat (first | (with_reducible first | exact HB.out | apply below_alloc | apply pw_below_drewN | apply below_drew1) | exact HB.out)) hb); clear HO154; clear HO156; clear HO159; clear HB; have HO154 := n0_; have HO156 := n1_; have HO159 := n2_; have HO162 := n3_; have HB := n4_; clear n0_ n1_ n2_ n3_ n4_; (try clear hb); (try clear hb2); (try clear hk); (try clear hi); (try clear ho0)) | ((with_reducible refine gate_dst (N := 33) rfl ?_); refine Kd.R_lit (Kd.int .u8) _ 5 ?hg (N := 33) ?hd (xs := ([1, 1, 0] : List Int)) (inner := [.int .u8 1, .int .u8 1, .int .u8 0]) (ok := fun _ => True) (okp := fun _ => True) ?hr ?hp (fun _ hk => hk) trivial (Below.refl _ _) (Nat.le_refl _) (by simp) ?_; (case hd => rfl); (case hg => rfl); (case hr => first | (go_simp; done) | (go_simp; rfl)); (case hp => exact (Reps.one (show Kd.M (Kd.int .u8) _ _ _ 1 [.int .u8 1] from rfl) (Reps.one (show Kd.M (Kd.int .u8) _ _ _ 1 [.int .u8 1] from rfl) (Reps.one (show Kd.M (Kd.int .u8) _ _ _ 0 [.int .u8 0] from rfl) (Reps.none _ _))))); intro v164 w10 ho11 hb hg_ hnew_; clear hg_ hnew_; (first | rw [← Ny163.out] at ho11 | (simp only [Int.reduceToNat] at ho11; rw [← Ny163.out] at ho11)); have n0_ := Aside0.mk (Kd.R_below (by (with_reducible repeat (first | apply Kd.R_alloc | apply Kd.R_drewN | apply Kd.R_drew)); exact HO154.out) hb); have n1_ := Aside0.mk (Kd.R_below (by (with_reducible repeat (first | apply Kd.R_alloc | apply Kd.R_drewN | apply Kd.R_drew)); exact HO156.out) hb); have n2_ := Aside0.mk (Kd.R_below (by (with_reducible repeat (first | apply Kd.R_alloc | apply Kd.R_drewN | apply Kd.R_drew)); exact HO159.out) hb); have n3_ := Aside0.mk (Kd.R_below (by (with_reducible repeat (first | apply Kd.R_alloc | apply Kd.R_drewN | apply Kd.R_drew)); exact HO162.out) hb); have n4_ := Aside0.mk (Kd.R_lower ho11 (below_size (by repeat (first | (with_reducible first | exact HB.out | apply below_alloc | apply pw_below_drewN | apply below_drew1) | exact HB.out)))); have n5_ := Aside0.mk (below_step (by repeat (first | (with_reducible first | exact HB.out | apply below_alloc | apply pw_below_drewN | apply below_drew1) | exact HB.out)) hb); clear HO154; clear HO156; clear HO159; clear HO162; clear HB; have HO154 := n0_; have HO156 := n1_; have HO159 := n2_; have HO162 := n3_; have HO165 := n4_; have HB := n5_; clear n0_ n1_ n2_ n3_ n4_ n5_; clear hb ho11))
  go_loopg [7, 8] k (fun kq v7 v8 w' => ∃ (x7_1 : List Int) (x8_1 : Int), v8 = .int .i64 x8_1 ∧ Aside0 (celluloidref06_Raw.l0 kq a0 t151 t157 t160 x7_1 x8_1 = some r) ∧ Aside0 (kq ≤ k) ∧ Aside0 (Kd.R (Kd.int .i64) 3 w' w.heap.size (fun k_ => some k_ ≠ (v158 : Value).ownBlock ∧ some k_ ≠ (v161 : Value).ownBlock) (.slice Ao6 t151.length co6) t151) ∧ Aside0 (Kd.R (Kd.int .i64) 3 w' w.heap.size (fun k_ => some k_ ≠ ((.slice Ao6 t151.length co6) : Value).ownBlock ∧ some k_ ≠ (v161 : Value).ownBlock) v158 t157) ∧ Aside0 (Kd.R (Kd.int .i64) 3 w' w.heap.size (fun k_ => some k_ ≠ ((.slice Ao6 t151.length co6) : Value).ownBlock ∧ some k_ ≠ (v158 : Value).ownBlock) v161 t160) ∧ Aside0 (Kd.R (Kd.int .u8) 5 w' w.heap.size (fun _ => True) v7 x7_1) ∧ Aside0 (Below w.heap.size w w'))
  case atStart => exact ⟨(y163), (0), (by first | rfl | (simp; done) | (simp [*]; done)), H', ⟨Nat.le_refl _⟩, ⟨by (with_reducible repeat (first | apply Kd.R_alloc | apply Kd.R_drewN | apply Kd.R_drew)); exact Kd.R_mono HO154.out (fun _ hk => ⟨hk.1.2, hk.2⟩)⟩, ⟨by (with_reducible repeat (first | apply Kd.R_alloc | apply Kd.R_drewN | apply Kd.R_drew)); exact Kd.R_mono HO159.out (fun _ hk => ⟨hk.1.1.2, hk.2⟩)⟩, ⟨by (with_reducible repeat (first | apply Kd.R_alloc | apply Kd.R_drewN | apply Kd.R_drew)); exact Kd.R_mono HO162.out (fun _ hk => ⟨hk.1.1.2, hk.2⟩)⟩, ⟨by (with_reducible repeat (first | apply Kd.R_alloc | apply Kd.R_drewN | apply Kd.R_drew)); exact HO165.out⟩, ⟨by repeat (first | (with_reducible first | exact HB.out | apply below_alloc | apply pw_below_drewN | apply below_drew1) | exact HB.out)⟩⟩
  case round =>
    clear H'
    try clear c2
    try clear p2
    try clear c4
    try clear c6
    obtain ⟨x7_1, x8_1, rfl, HA, HK1, HO_3, HO_5, HO_6, HO_7, HB⟩ := hrel
    cases gk with
    | zero => exact absurd HA.out (by simp [celluloidref06_Raw.l0])
    | succ k1 =>
      have H := HA.out
      clear HA
      simp only [celluloidref06_Raw.l0] at H
      by_cases c12 : x8_1 < (a0.size : Int)
      · rw [if_pos c12] at H
        have c12b0 : decide (x8_1 < (a0.size : Int)) = true := decide_eq_true c12
        clear c12
        replace H := Option.bind_eq_some_iff.mp H
        obtain ⟨⟨t166, t167⟩, A130, H⟩ := H
        replace H : (if t166 = 0 then (if 0 ≤ x8_1 then (if 0 ≤ (wrap64 (bt a0 x8_1)) then (if (wrap64 (bt a0 x8_1)) < (t157.length : Int) then (if (wrap64 (bt a0 x8_1)) < (t151.length : Int) then ((celluloidref06_code.f k1 x7_1 (rd t157 (wrap64 (bt a0 x8_1))) (rd t151 (wrap64 (bt a0 x8_1)))).bind fun t170 => (celluloidref06_Raw.l0 k1 a0 t151 t157 t160 t170 (wrap64 (x8_1 + 1)))) else (none)) else (none)) else (none)) else (none)) else (celluloidref06_Raw.l1 k1 a0 t151 t157 t160 x7_1 x8_1 t166 t167 257 257)) = some r := H
        have A13 := Aside0.mk A130
        clear A130
        by_cases c14 : t166 = 0
        · rw [if_pos c14] at H
          have c14b0 : (t166 == 0) = true := beq_iff_eq.mpr c14
          have c14b1 : (t166 != 0) = false := bne_eq_false_iff_eq.mpr c14
          clear c14
          by_cases c15 : 0 ≤ x8_1
          · rw [if_pos c15] at H
            have c15b0 : decide (0 ≤ x8_1) = true := decide_eq_true c15
            clear c15
            obtain ⟨ji17, hji17⟩ : ∃ j_ : Int, (wrap64 (bt a0 x8_1)) = j_ := ⟨_, rfl⟩
            replace H : (if 0 ≤ (ji17) then (if (ji17) < (t157.length : Int) then (if (ji17) < (t151.length : Int) then ((celluloidref06_code.f k1 x7_1 (rd t157 (ji17)) (rd t151 (ji17))).bind fun t170 => (celluloidref06_Raw.l0 k1 a0 t151 t157 t160 t170 (wrap64 (x8_1 + 1)))) else (none)) else (none)) else (none)) = some r := by first | (rw [hji17] at H; exact H) | (simp only [hji17] at H ⊢; exact H)
            (try rw [hji17] at A13)
            have hji17w : (IntKind.i64.wrap (bt a0 x8_1)) = ji17 := (i64_w _).trans hji17
            by_cases c18 : 0 ≤ (ji17)
            · rw [if_pos c18] at H
              have c18b0 : decide (0 ≤ (ji17)) = true := decide_eq_true c18
              clear c18
              by_cases c19 : (ji17) < (t157.length : Int)
              · rw [if_pos c19] at H
                have c19b0 : decide ((ji17) < (t157.length : Int)) = true := decide_eq_true c19
                clear c19
                by_cases c20 : (ji17) < (t151.length : Int)
                · rw [if_pos c20] at H
                  have c20b0 : decide ((ji17) < (t151.length : Int)) = true := decide_eq_true c20
                  clear c20
                  replace H := Option.bind_eq_some_iff.mp H
                  obtain ⟨t170, A210, H⟩ := H
                  replace H : (celluloidref06_Raw.l0 k1 a0 t151 t157 t160 t170 (wrap64 (x8_1 + 1))) = some r := H
                  have A21 := Aside0.mk A210
                  clear A210
                  have H' := Aside0.mk H
                  clear H
                  try go_wp2_with (first | ((with_reducible refine gate_callee (f := 38) rfl ?_); refine goesL_ (some 41) rfl rfl Try.func38 (by kernel_rfl) rfl #[.string a0, .int .i64 x8_1] rfl (by (try simp only [List.map_toArray, List.map_cons, List.map_nil]); first | done | rfl | (simp only [List.length_drop, List.length_take]; rfl)) ?_; (with_reducible refine (celluloidref06_Run.calls k1 a0 x8_1 t166 t167 _ A13.out).mono ?_); rintro e w' ⟨rfl, ⟨nd, rfl⟩⟩; refine ⟨_, rfl, ?_⟩; have p16 : 0 ≤ (x8_1 : Int) := of_decide_eq_true (by first | (with_reducible assumption) | assumption); have q16 : x8_1 < (a0.size : Int) := of_decide_eq_true (by first | (with_reducible assumption) | assumption); have hx16 := bt_at a0 x8_1; replace p16 := eq_true p16; replace q16 := eq_true q16))
                  (try (rw [drewN_self wr]; generalize hq_ : World.drewN wr _ = wr; have n0_ : Aside0 (Kd.R (Kd.int .i64) 3 wr w.heap.size (fun k_ => some k_ ≠ (v158 : Value).ownBlock ∧ some k_ ≠ (v161 : Value).ownBlock) (.slice Ao6 t151.length co6) t151) := ⟨by rw [← hq_]; exact (by (with_reducible repeat (first | apply Kd.R_alloc | apply Kd.R_drewN | apply Kd.R_drew)); exact HO_3.out)⟩; have n1_ : Aside0 (Kd.R (Kd.int .i64) 3 wr w.heap.size (fun k_ => some k_ ≠ (.slice Ao6 t151.length co6 : Value).ownBlock ∧ some k_ ≠ (v161 : Value).ownBlock) v158 t157) := ⟨by rw [← hq_]; exact (by (with_reducible repeat (first | apply Kd.R_alloc | apply Kd.R_drewN | apply Kd.R_drew)); exact HO_5.out)⟩; have n2_ : Aside0 (Kd.R (Kd.int .i64) 3 wr w.heap.size (fun k_ => some k_ ≠ (.slice Ao6 t151.length co6 : Value).ownBlock ∧ some k_ ≠ (v158 : Value).ownBlock) v161 t160) := ⟨by rw [← hq_]; exact (by (with_reducible repeat (first | apply Kd.R_alloc | apply Kd.R_drewN | apply Kd.R_drew)); exact HO_6.out)⟩; have n3_ : Aside0 (Kd.R (Kd.int .u8) 5 wr w.heap.size (fun _ => True) u7 x7_1) := ⟨by rw [← hq_]; exact (by (with_reducible repeat (first | apply Kd.R_alloc | apply Kd.R_drewN | apply Kd.R_drew)); exact HO_7.out)⟩; have n4_ : Aside0 (Below w.heap.size w wr) := ⟨by rw [← hq_]; exact (by repeat (first | (with_reducible first | exact HB.out | apply below_alloc | apply pw_below_drewN | apply below_drew1) | exact HB.out))⟩; clear HO_3 HO_5 HO_6 HO_7 HB hq_; have HO_3 := n0_; have HO_5 := n1_; have HO_6 := n2_; have HO_7 := n3_; have HB := n4_; clear n0_ n1_ n2_ n3_ n4_))
                  have n0_ := Aside0.mk (Kd.R_drew HO_3.out)
                  have n1_ := Aside0.mk (Kd.R_drew HO_5.out)
                  have n2_ := Aside0.mk (Kd.R_drew HO_6.out)
                  have n3_ := Aside0.mk (Kd.R_drew HO_7.out)
                  have n4_ := Aside0.mk (below_drew1 HB.out)
                  clear HO_3
                  clear HO_5
                  clear HO_6
                  clear HO_7
                  clear HB
                  have HO_3 := n0_
                  have HO_5 := n1_
                  have HO_6 := n2_
                  have HO_7 := n3_
                  have HB := n4_
                  clear n0_ n1_ n2_ n3_ n4_
                  obtain ⟨Ao23, co23, eo23⟩ := Kd.R_slice HO_5.out
                  (first | subst eo23 | (injection eo23 with f1_ f2_ f3_; have f4_ := f1_.symm; have f5_ := f3_.symm; clear f1_ f2_ f3_; subst f4_; subst f5_))
                  have p168 : 0 ≤ ((ji17) : Int) := of_decide_eq_true (by first | (with_reducible assumption) | assumption)
                  have q168 : (ji17) < (t157.length : Int) := of_decide_eq_true (by first | (with_reducible assumption) | assumption)
                  obtain ⟨ad168, e168, hx168_0⟩ := Kd.at_int (Kd.R_reads' HO_5.out).2.2 (ji17) p168 q168
                  cases e168
                  replace p168 := eq_true p168
                  replace q168 := eq_true q168
                  have p169 : 0 ≤ ((ji17) : Int) := of_decide_eq_true (by first | (with_reducible assumption) | assumption)
                  have q169 : (ji17) < (t151.length : Int) := of_decide_eq_true (by first | (with_reducible assumption) | assumption)
                  obtain ⟨ad169, e169, hx169_0⟩ := Kd.at_int (Kd.R_reads' HO_3.out).2.2 (ji17) p169 q169
                  cases e169
                  replace p169 := eq_true p169
                  replace q169 := eq_true q169
                  obtain ⟨Ao24, co24, eo24⟩ := Kd.R_slice HO_7.out
                  (first | subst eo24 | (injection eo24 with f1_ f2_ f3_; have f4_ := f1_.symm; have f5_ := f3_.symm; clear f1_ f2_ f3_; subst f4_; subst f5_))
                  refine start_ (n := 11) (S := fun w' => w'.cell? (ad168.add ((ji17)).toNat) = some (.int .i64 (rd t157 (ji17))) ∧ w'.cell? (ad169.add ((ji17)).toNat) = some (.int .i64 (rd t151 (ji17)))) (ds := []) #[false, false, false, false, false, false, false, false, false, false, false] (by kernel_rfl) rfl rfl ⟨hx168_0, hx169_0⟩ (fun hHeld => ?_); refine with_tabW celluloidref06_Raw.tab9 celluloidref06_Raw.bits9 (fun HT_ HW_ => ?_)
                  generalize wr.drew = w22 at HO_3 HO_5 HO_6 HO_7 HB hx168_0 hx169_0 hHeld ⊢
                  refine pure_ (i := 0) (N := some 50) (v := ?_) (a' := ?_) #[true, false, false, false, false, false, false, false, false, false, false] rfl rfl (any_of HT_.out (by kernel_rfl)) (fun _ _ _ h => h) (Or.inl ⟨by rfl, ?_⟩) ?_ ?_
                  rotate_left
                  · intro w'
                    go_simp
                    with_reducible rfl
                  rotate_left
                  · simp only [Act.put, List.setIfInBounds_toArray, List.set_cons_zero, List.set_cons_succ, i64_w, i32_w]
                    rfl
                  refine pure_ (i := 1) (N := some 51) (v := ?_) (a' := ?_) #[true, true, false, false, false, false, false, false, false, false, false] rfl rfl (any_of HT_.out (by kernel_rfl)) (fun _ _ _ h => h) (Or.inl ⟨by rfl, ?_⟩) ?_ ?_
                  rotate_left
                  · intro w'
                    go_simp
                    with_reducible rfl
                  rotate_left
                  · simp only [Act.put, List.setIfInBounds_toArray, List.set_cons_zero, List.set_cons_succ, i64_w, i32_w]
                    rfl
                  refine pure_ (i := 2) (N := some 52) (v := ?_) (a' := ?_) #[true, true, true, false, false, false, false, false, false, false, false] rfl rfl (any_of HT_.out (by kernel_rfl)) (fun _ _ _ h => h) (Or.inl ⟨by rfl, ?_⟩) ?_ ?_
                  rotate_left
                  · intro w'
                    go_simp
                    with_reducible rfl
                  rotate_left
                  · simp only [Act.put, List.setIfInBounds_toArray, List.set_cons_zero, List.set_cons_succ, i64_w, i32_w]
                    rfl
                  refine pure_ (i := 3) (N := some 53) (v := ?_) (a' := ?_) #[true, true, true, true, false, false, false, false, false, false, false] rfl rfl (any_of HT_.out (by kernel_rfl)) (fun _ _ _ h => h) (Or.inl ⟨by rfl, ?_⟩) ?_ ?_
                  rotate_left
                  · intro w'
                    go_simp
                    with_reducible rfl
                  rotate_left
                  · simp only [Act.put, List.setIfInBounds_toArray, List.set_cons_zero, List.set_cons_succ, i64_w, i32_w]
                    rfl
                  refine pure_ (i := 5) (N := some 55) (v := ?_) (a' := ?_) #[true, true, true, true, false, true, false, false, false, false, false] rfl rfl (any_of HT_.out (by kernel_rfl)) (fun _ _ _ h => h) (Or.inl ⟨by rfl, ?_⟩) ?_ ?_
                  rotate_left
                  · intro w'
                    go_simp
                    with_reducible rfl
                  rotate_left
                  · simp only [Act.put, List.setIfInBounds_toArray, List.set_cons_zero, List.set_cons_succ, i64_w, i32_w]
                    rfl
                  refine pure_ (i := 6) (N := some 56) (v := ?_) (a' := ?_) #[true, true, true, true, false, true, true, false, false, false, false] rfl rfl (any_of HT_.out (by kernel_rfl)) (fun _ _ _ h => h) (Or.inl ⟨by rfl, ?_⟩) ?_ ?_
                  rotate_left
                  · intro w'
                    go_simp
                    with_reducible rfl
                  rotate_left
                  · simp only [Act.put, List.setIfInBounds_toArray, List.set_cons_zero, List.set_cons_succ, i64_w, i32_w]
                    rfl
                  refine pure_ (i := 7) (N := some 57) (v := ?_) (a' := ?_) #[true, true, true, true, false, true, true, true, false, false, false] rfl rfl (any_of HT_.out (by kernel_rfl)) (fun _ _ _ h => h) (Or.inl ⟨by rfl, ?_⟩) ?_ ?_
                  rotate_left
                  · intro w'
                    go_simp
                    with_reducible rfl
                  rotate_left
                  · simp only [Act.put, List.setIfInBounds_toArray, List.set_cons_zero, List.set_cons_succ, i64_w, i32_w]
                    rfl
                  refine take_ (i := 4) (N := some 54) (v := ?_) (a' := ?_) #[true, true, true, true, true, true, true, true, false, false, false] rfl rfl (take_ofW HT_.out HW_.out (by kernel_rfl)) (fun _ _ _ h => h) (Or.inl ⟨by rfl, ?_⟩) hHeld ?_ ?_
                  rotate_left
                  · rintro w' ⟨s0, s1⟩
                    go_simp
                    with_reducible rfl
                  rotate_left
                  · simp only [Act.put, List.setIfInBounds_toArray, List.set_cons_zero, List.set_cons_succ, i64_w, i32_w]
                    rfl
                  refine take_ (i := 8) (N := some 58) (v := ?_) (a' := ?_) #[true, true, true, true, true, true, true, true, true, false, false] rfl rfl (take_ofW HT_.out HW_.out (by kernel_rfl)) (fun _ _ _ h => h) (Or.inl ⟨by rfl, ?_⟩) hHeld ?_ ?_
                  rotate_left
                  · rintro w' ⟨s0, s1⟩
                    go_simp
                    with_reducible rfl
                  rotate_left
                  · simp only [Act.put, List.setIfInBounds_toArray, List.set_cons_zero, List.set_cons_succ, i64_w, i32_w]
                    rfl
                  refine one_ (i := 9) (N := some 59) #[true, true, true, true, true, true, true, true, true, true, false] rfl rfl (one_of HT_.out (by kernel_rfl)) (by decide) (fun K hK => ?_)
                  refine goes_ Try.func67 (by kernel_rfl) rfl #[.slice Ao24 x7_1.length co24, .int .i64 (rd t157 (ji17)), .int .i64 (rd t151 (ji17))] (by rfl) rfl rfl (by (try simp only [List.map_toArray, List.map_cons, List.map_nil]); first | done | (simp only [hji17]; rfl) | rfl | (simp only [List.length_drop, List.length_take]; rfl)) ?_
                  with_reducible refine (celluloidref06_code.calls k1 (fun k_ => some k_ = (.slice Ao24 x7_1.length co24 : Value).ownBlock) (.slice Ao24 x7_1.length co24) x7_1 (rd t157 (ji17)) (rd t151 (ji17)) t170 w _ ?side1 ?side2 A21.out).mono ?_
                  (case side1 => repeat (first | (with_reducible first | exact HB.out | apply below_alloc | apply pw_below_drewN | apply below_drew1) | exact HB.out))
                  (case side2 => exact Kd.R_tight rfl HO_7.out)
                  rintro e w25 ⟨v171, rfl, ho0, hb, hkp⟩
                  have HS0_ := cell_kept (hHeld.1) hkp (by first | (rw [add_block]; exact (fun hs_ => ((((Kd.R_apart' HO_5.out (Kd.R_typed HO_7.out) (by decide))).1 _ rfl).2) hs_)) | (show ¬ _; simp only [add_block]; exact (fun hs_ => ((((Kd.R_apart' HO_5.out (Kd.R_typed HO_7.out) (by decide))).1 _ rfl).2) hs_)) | exact (fun hs_ => ((((Kd.R_apart' HO_5.out (Kd.R_typed HO_7.out) (by decide))).1 _ rfl).2) hs_))
                  have HS1_ := cell_kept (hHeld.2) hkp (by first | (rw [add_block]; exact (fun hs_ => ((((Kd.R_apart' HO_3.out (Kd.R_typed HO_7.out) (by decide))).1 _ rfl).2) hs_)) | (show ¬ _; simp only [add_block]; exact (fun hs_ => ((((Kd.R_apart' HO_3.out (Kd.R_typed HO_7.out) (by decide))).1 _ rfl).2) hs_)) | exact (fun hs_ => ((((Kd.R_apart' HO_3.out (Kd.R_typed HO_7.out) (by decide))).1 _ rfl).2) hs_))
                  refine ⟨_, rfl, ?_⟩
                  have n0_ := Aside0.mk (Kd.R_mono (ok' := fun k_ => some k_ ≠ (.slice (some ad168) t157.length co23 : Value).ownBlock ∧ some k_ ≠ (v161 : Value).ownBlock) (Kd.R_keptB ((Kd.R_apart' HO_3.out (Kd.R_typed HO_7.out) (by decide))) hkp (fun k_ hk_ hs_ => (hk_.2) hs_)) (fun k_ hk_ => ⟨hk_.1.1.1, hk_.1.1.2⟩))
                  have n1_ := Aside0.mk (Kd.R_mono (ok' := fun k_ => some k_ ≠ (.slice (some ad169) t151.length co6 : Value).ownBlock ∧ some k_ ≠ (v161 : Value).ownBlock) (Kd.R_keptB ((Kd.R_apart' HO_5.out (Kd.R_typed HO_7.out) (by decide))) hkp (fun k_ hk_ hs_ => (hk_.2) hs_)) (fun k_ hk_ => ⟨hk_.1.1.1, hk_.1.1.2⟩))
                  have n2_ := Aside0.mk (Kd.R_mono (ok' := fun k_ => some k_ ≠ (.slice (some ad169) t151.length co6 : Value).ownBlock ∧ some k_ ≠ (.slice (some ad168) t157.length co23 : Value).ownBlock) (Kd.R_keptB ((Kd.R_apart' HO_6.out (Kd.R_typed HO_7.out) (by decide))) hkp (fun k_ hk_ hs_ => (hk_.2) hs_)) (fun k_ hk_ => ⟨hk_.1.1.1, hk_.1.1.2⟩))
                  have n3_ := Aside0.mk (Kd.R_mono (ok' := fun k_ => True) ho0 (fun k_ hk_ => trivial))
                  have n4_ := Aside0.mk (hb)
                  clear HO_3
                  clear HO_5
                  clear HO_6
                  clear HB
                  clear HO_7
                  have HO_3 := n0_
                  have HO_5 := n1_
                  have HO_6 := n2_
                  have HO172 := n3_
                  have HB := n4_
                  clear n0_ n1_ n2_ n3_ n4_
                  (try clear hb)
                  (try clear hkp)
                  (try clear ho0)
                  refine hK.out _ _ ⟨HS0_, HS1_⟩ (fun hHeld => ?_)
                  clear hK K
                  refine norm_ (a' := ?_) ?_ ?_
                  rotate_left
                  · show Act.put _ (some 59) _ = _
                    simp only [Act.put, List.setIfInBounds_toArray, List.set_cons_zero, List.set_cons_succ, i64_w, i32_w]
                    rfl
                  refine pure_ (i := 10) (N := some 7) (v := ?_) (a' := ?_) #[true, true, true, true, true, true, true, true, true, true, true] rfl rfl (any_of HT_.out (by kernel_rfl)) (fun _ _ _ h => h) (Or.inl ⟨by rfl, ?_⟩) ?_ ?_
                  rotate_left
                  · intro w'
                    go_simp
                    with_reducible rfl
                  rotate_left
                  · simp only [Act.put, List.setIfInBounds_toArray, List.set_cons_zero, List.set_cons_succ, i64_w, i32_w]
                    rfl
                  refine done_ (done_of HT_.out (by kernel_rfl)) ?_
                  try go_wp2
                  go_roundg k1
                  case measure => have := HK1.out; omega
                  case rel => exact ⟨(t170), (wrap64 (x8_1 + 1)), (by first | rfl | (simp; done) | (simp [*]; done)), H', ⟨by have := HK1.out; omega⟩, ⟨by (with_reducible repeat (first | apply Kd.R_alloc | apply Kd.R_drewN | apply Kd.R_drew)); exact HO_3.out⟩, ⟨by (with_reducible repeat (first | apply Kd.R_alloc | apply Kd.R_drewN | apply Kd.R_drew)); exact HO_5.out⟩, ⟨by (with_reducible repeat (first | apply Kd.R_alloc | apply Kd.R_drewN | apply Kd.R_drew)); exact HO_6.out⟩, ⟨by (with_reducible repeat (first | apply Kd.R_alloc | apply Kd.R_drewN | apply Kd.R_drew)); exact HO172.out⟩, ⟨by repeat (first | (with_reducible first | exact HB.out | apply below_alloc | apply pw_below_drewN | apply below_drew1) | exact HB.out)⟩⟩
                · rw [if_neg c20] at H
                  exact absurd H (by simp)
              · rw [if_neg c19] at H
                exact absurd H (by simp)
            · rw [if_neg c18] at H
              exact absurd H (by simp)
          · rw [if_neg c15] at H
            exact absurd H (by simp)
        · rw [if_neg c14] at H
          have c14b0 : (t166 == 0) = false := beq_eq_false_iff_ne.mpr c14
          have c14b1 : (t166 != 0) = true := bne_iff_ne.mpr c14
          have H' := Aside0.mk H
          clear H
          go_wp2_with (first | ((with_reducible refine gate_callee (f := 38) rfl ?_); refine goesL_ (some 41) rfl rfl Try.func38 (by kernel_rfl) rfl #[.string a0, .int .i64 x8_1] rfl (by (try simp only [List.map_toArray, List.map_cons, List.map_nil]); first | done | rfl | (simp only [List.length_drop, List.length_take]; rfl)) ?_; (with_reducible refine (celluloidref06_Run.calls k1 a0 x8_1 t166 t167 _ A13.out).mono ?_); rintro e w' ⟨rfl, ⟨nd, rfl⟩⟩; refine ⟨_, rfl, ?_⟩))
          go_loopg [12, 13] k1 (fun kq v12 v13 w' => ∃ (x12_2 : Int) (x13_2 : Int), v12 = .int .i64 x12_2 ∧ v13 = .int .i64 x13_2 ∧ Aside0 (celluloidref06_Raw.l1 kq a0 t151 t157 t160 x7_1 x8_1 t166 t167 x12_2 x13_2 = some r) ∧ Aside0 (kq ≤ k1) ∧ Aside0 (Kd.R (Kd.int .i64) 3 w' w.heap.size (fun k_ => some k_ ≠ (v158 : Value).ownBlock ∧ some k_ ≠ (v161 : Value).ownBlock) (.slice Ao6 t151.length co6) t151) ∧ Aside0 (Kd.R (Kd.int .i64) 3 w' w.heap.size (fun k_ => some k_ ≠ ((.slice Ao6 t151.length co6) : Value).ownBlock ∧ some k_ ≠ (v161 : Value).ownBlock) v158 t157) ∧ Aside0 (Kd.R (Kd.int .i64) 3 w' w.heap.size (fun k_ => some k_ ≠ ((.slice Ao6 t151.length co6) : Value).ownBlock ∧ some k_ ≠ (v158 : Value).ownBlock) v161 t160) ∧ Aside0 (Kd.R (Kd.int .u8) 5 w' w.heap.size (fun _ => True) u7 x7_1) ∧ Aside0 (Below w.heap.size w w'))
          case atStart => exact ⟨(257), (257), (by first | rfl | (simp; done) | (simp [*]; done)), (by first | rfl | (simp; done) | (simp [*]; done)), H', ⟨Nat.le_refl _⟩, ⟨by (with_reducible repeat (first | apply Kd.R_alloc | apply Kd.R_drewN | apply Kd.R_drew)); exact HO_3.out⟩, ⟨by (with_reducible repeat (first | apply Kd.R_alloc | apply Kd.R_drewN | apply Kd.R_drew)); exact HO_5.out⟩, ⟨by (with_reducible repeat (first | apply Kd.R_alloc | apply Kd.R_drewN | apply Kd.R_drew)); exact HO_6.out⟩, ⟨by (with_reducible repeat (first | apply Kd.R_alloc | apply Kd.R_drewN | apply Kd.R_drew)); exact HO_7.out⟩, ⟨by repeat (first | (with_reducible first | exact HB.out | apply below_alloc | apply pw_below_drewN | apply below_drew1) | exact HB.out)⟩⟩
          case round =>
            clear H'
            try clear c1
            try clear p1
            try clear q1
            try clear hx1
            try clear c2
            try clear p2
            try clear c3
            try clear c4
            try clear c6
            try clear p6
            try clear c12
            try clear c12b0
            try clear c14
            try clear c14b0
            try clear c14b1
            try clear c15
            try clear c15b0
            try clear p16
            try clear q16
            try clear hx16
            try clear c18
            try clear c18b0
            try clear c19
            try clear c19b0
            try clear c20
            try clear c20b0
            try clear hx168_0
            try clear hx169_0
            try clear p16
            try clear p168
            try clear p169
            try clear p2
            try clear q16
            try clear q168
            try clear q169
            obtain ⟨x12_2, x13_2, rfl, rfl, HA, HK2, HO_3, HO_5, HO_6, HO_7, HB⟩ := hrel
            cases gk with
            | zero => exact absurd HA.out (by simp [celluloidref06_Raw.l1])
            | succ k2 =>
              have H := HA.out
              clear HA
              simp only [celluloidref06_Raw.l1] at H
              by_cases c26 : x13_2 < 286
              · rw [if_pos c26] at H
                have c26b0 : decide (x13_2 < 286) = true := decide_eq_true c26
                clear c26
                replace H := Option.bind_eq_some_iff.mp H
                obtain ⟨⟨t173, t174⟩, A270, H⟩ := H
                replace H : (if t173 ≤ t166 then (celluloidref06_Raw.l1 k2 a0 t151 t157 t160 x7_1 x8_1 t166 t167 x13_2 (wrap64 (x13_2 + 1))) else (celluloidref06_Raw.l1 k2 a0 t151 t157 t160 x7_1 x8_1 t166 t167 x12_2 (wrap64 (x13_2 + 1)))) = some r := H
                have A27 := Aside0.mk A270
                clear A270
                by_cases c28 : t173 ≤ t166
                · rw [if_pos c28] at H
                  have c28b0 : decide (t173 ≤ t166) = true := decide_eq_true c28
                  clear c28
                  have H' := Aside0.mk H
                  clear H
                  go_wp2_with (first | ((with_reducible refine gate_callee (f := 68) rfl ?_); refine goesL_ (some 68) rfl rfl Try.func68 (by kernel_rfl) rfl #[.int .i64 x13_2] rfl (by (try simp only [List.map_toArray, List.map_cons, List.map_nil]); first | done | rfl | (simp only [List.length_drop, List.length_take]; rfl)) ?_; (with_reducible refine (celluloidref05_Length.calls k2 x13_2 t173 t174 _ A27.out).mono ?_); rintro e w' ⟨rfl, ⟨nd, rfl⟩⟩; refine ⟨_, rfl, ?_⟩))
                  go_roundg k2
                  case measure => have := HK1.out; have := HK2.out; omega
                  case rel => exact ⟨(x13_2), (wrap64 (x13_2 + 1)), (by first | rfl | (simp; done) | (simp [*]; done)), (by first | rfl | (simp; done) | (simp [*]; done)), H', ⟨by have := HK1.out; have := HK2.out; omega⟩, ⟨by (with_reducible repeat (first | apply Kd.R_alloc | apply Kd.R_drewN | apply Kd.R_drew)); exact HO_3.out⟩, ⟨by (with_reducible repeat (first | apply Kd.R_alloc | apply Kd.R_drewN | apply Kd.R_drew)); exact HO_5.out⟩, ⟨by (with_reducible repeat (first | apply Kd.R_alloc | apply Kd.R_drewN | apply Kd.R_drew)); exact HO_6.out⟩, ⟨by (with_reducible repeat (first | apply Kd.R_alloc | apply Kd.R_drewN | apply Kd.R_drew)); exact HO_7.out⟩, ⟨by repeat (first | (with_reducible first | exact HB.out | apply below_alloc | apply pw_below_drewN | apply below_drew1) | exact HB.out)⟩⟩
                · rw [if_neg c28] at H
                  have c28b0 : decide (t173 ≤ t166) = false := decide_eq_false c28
                  clear c28
                  have H' := Aside0.mk H
                  clear H
                  go_wp2_with (first | ((with_reducible refine gate_callee (f := 68) rfl ?_); refine goesL_ (some 68) rfl rfl Try.func68 (by kernel_rfl) rfl #[.int .i64 x13_2] rfl (by (try simp only [List.map_toArray, List.map_cons, List.map_nil]); first | done | rfl | (simp only [List.length_drop, List.length_take]; rfl)) ?_; (with_reducible refine (celluloidref05_Length.calls k2 x13_2 t173 t174 _ A27.out).mono ?_); rintro e w' ⟨rfl, ⟨nd, rfl⟩⟩; refine ⟨_, rfl, ?_⟩))
                  go_roundg k2
                  case measure => have := HK1.out; have := HK2.out; omega
                  case rel => exact ⟨(x12_2), (wrap64 (x13_2 + 1)), (by first | rfl | (simp; done) | (simp [*]; done)), (by first | rfl | (simp; done) | (simp [*]; done)), H', ⟨by have := HK1.out; have := HK2.out; omega⟩, ⟨by (with_reducible repeat (first | apply Kd.R_alloc | apply Kd.R_drewN | apply Kd.R_drew)); exact HO_3.out⟩, ⟨by (with_reducible repeat (first | apply Kd.R_alloc | apply Kd.R_drewN | apply Kd.R_drew)); exact HO_5.out⟩, ⟨by (with_reducible repeat (first | apply Kd.R_alloc | apply Kd.R_drewN | apply Kd.R_drew)); exact HO_6.out⟩, ⟨by (with_reducible repeat (first | apply Kd.R_alloc | apply Kd.R_drewN | apply Kd.R_drew)); exact HO_7.out⟩, ⟨by repeat (first | (with_reducible first | exact HB.out | apply below_alloc | apply pw_below_drewN | apply below_drew1) | exact HB.out)⟩⟩
              · rw [if_neg c26] at H
                have c26b0 : decide (x13_2 < 286) = false := decide_eq_false c26
                clear c26
                replace H := Option.bind_eq_some_iff.mp H
                obtain ⟨⟨t175, t176⟩, A290, H⟩ := H
                replace H : (if 0 ≤ x12_2 then (if x12_2 < (t157.length : Int) then (if x12_2 < (t151.length : Int) then ((celluloidref06_code.f k2 x7_1 (rd t157 x12_2) (rd t151 x12_2)).bind fun t179 => ((celluloidref06_number.f k2 t179 (wrap64 (t166 - t175)) t176).bind fun t182 => (celluloidref06_Raw.l2 k2 a0 t151 t157 t160 t182 x8_1 t166 t167 0 0))) else (none)) else (none)) else (none)) = some r := H
                have A29 := Aside0.mk A290
                clear A290
                by_cases c30 : 0 ≤ x12_2
                · rw [if_pos c30] at H
                  have c30b0 : decide (0 ≤ x12_2) = true := decide_eq_true c30
                  clear c30
                  by_cases c31 : x12_2 < (t157.length : Int)
                  · rw [if_pos c31] at H
                    have c31b0 : decide (x12_2 < (t157.length : Int)) = true := decide_eq_true c31
                    clear c31
                    by_cases c32 : x12_2 < (t151.length : Int)
                    · rw [if_pos c32] at H
                      have c32b0 : decide (x12_2 < (t151.length : Int)) = true := decide_eq_true c32
                      clear c32
                      replace H := Option.bind_eq_some_iff.mp H
                      obtain ⟨t179, A330, H⟩ := H
                      replace H : ((celluloidref06_number.f k2 t179 (wrap64 (t166 - t175)) t176).bind fun t182 => (celluloidref06_Raw.l2 k2 a0 t151 t157 t160 t182 x8_1 t166 t167 0 0)) = some r := H
                      have A33 := Aside0.mk A330
                      clear A330
                      replace H := Option.bind_eq_some_iff.mp H
                      obtain ⟨t182, A340, H⟩ := H
                      replace H : (celluloidref06_Raw.l2 k2 a0 t151 t157 t160 t182 x8_1 t166 t167 0 0) = some r := H
                      have A34 := Aside0.mk A340
                      clear A340
                      have H' := Aside0.mk H
                      clear H
                      try go_wp2_with (first | ((with_reducible refine gate_callee (f := 68) rfl ?_); refine goesL_ (some 77) rfl rfl Try.func68 (by kernel_rfl) rfl #[.int .i64 x12_2] rfl (by (try simp only [List.map_toArray, List.map_cons, List.map_nil]); first | done | rfl | (simp only [List.length_drop, List.length_take]; rfl)) ?_; (with_reducible refine (celluloidref05_Length.calls k2 x12_2 t175 t176 _ A29.out).mono ?_); rintro e w' ⟨rfl, ⟨nd, rfl⟩⟩; refine ⟨_, rfl, ?_⟩))
                      (try (rw [drewN_self wr]; generalize hq_ : World.drewN wr _ = wr; have n0_ : Aside0 (Kd.R (Kd.int .i64) 3 wr w.heap.size (fun k_ => some k_ ≠ (v158 : Value).ownBlock ∧ some k_ ≠ (v161 : Value).ownBlock) (.slice Ao6 t151.length co6) t151) := ⟨by rw [← hq_]; exact (by (with_reducible repeat (first | apply Kd.R_alloc | apply Kd.R_drewN | apply Kd.R_drew)); exact HO_3.out)⟩; have n1_ : Aside0 (Kd.R (Kd.int .i64) 3 wr w.heap.size (fun k_ => some k_ ≠ (.slice Ao6 t151.length co6 : Value).ownBlock ∧ some k_ ≠ (v161 : Value).ownBlock) v158 t157) := ⟨by rw [← hq_]; exact (by (with_reducible repeat (first | apply Kd.R_alloc | apply Kd.R_drewN | apply Kd.R_drew)); exact HO_5.out)⟩; have n2_ : Aside0 (Kd.R (Kd.int .i64) 3 wr w.heap.size (fun k_ => some k_ ≠ (.slice Ao6 t151.length co6 : Value).ownBlock ∧ some k_ ≠ (v158 : Value).ownBlock) v161 t160) := ⟨by rw [← hq_]; exact (by (with_reducible repeat (first | apply Kd.R_alloc | apply Kd.R_drewN | apply Kd.R_drew)); exact HO_6.out)⟩; have n3_ : Aside0 (Kd.R (Kd.int .u8) 5 wr w.heap.size (fun _ => True) u7 x7_1) := ⟨by rw [← hq_]; exact (by (with_reducible repeat (first | apply Kd.R_alloc | apply Kd.R_drewN | apply Kd.R_drew)); exact HO_7.out)⟩; have n4_ : Aside0 (Below w.heap.size w wr) := ⟨by rw [← hq_]; exact (by repeat (first | (with_reducible first | exact HB.out | apply below_alloc | apply pw_below_drewN | apply below_drew1) | exact HB.out))⟩; clear HO_3 HO_5 HO_6 HO_7 HB hq_; have HO_3 := n0_; have HO_5 := n1_; have HO_6 := n2_; have HO_7 := n3_; have HB := n4_; clear n0_ n1_ n2_ n3_ n4_))
                      have n0_ := Aside0.mk (Kd.R_drew HO_3.out)
                      have n1_ := Aside0.mk (Kd.R_drew HO_5.out)
                      have n2_ := Aside0.mk (Kd.R_drew HO_6.out)
                      have n3_ := Aside0.mk (Kd.R_drew HO_7.out)
                      have n4_ := Aside0.mk (below_drew1 HB.out)
                      clear HO_3
                      clear HO_5
                      clear HO_6
                      clear HO_7
                      clear HB
                      have HO_3 := n0_
                      have HO_5 := n1_
                      have HO_6 := n2_
                      have HO_7 := n3_
                      have HB := n4_
                      clear n0_ n1_ n2_ n3_ n4_
                      obtain ⟨Ao36, co36, eo36⟩ := Kd.R_slice HO_5.out
                      (first | subst eo36 | (injection eo36 with f1_ f2_ f3_; have f4_ := f1_.symm; have f5_ := f3_.symm; clear f1_ f2_ f3_; subst f4_; subst f5_))
                      have p177 : 0 ≤ (x12_2 : Int) := of_decide_eq_true (by first | (with_reducible assumption) | assumption)
                      have q177 : x12_2 < (t157.length : Int) := of_decide_eq_true (by first | (with_reducible assumption) | assumption)
                      obtain ⟨ad177, e177, hx177_0⟩ := Kd.at_int (Kd.R_reads' HO_5.out).2.2 x12_2 p177 q177
                      cases e177
                      replace p177 := eq_true p177
                      replace q177 := eq_true q177
                      have p178 : 0 ≤ (x12_2 : Int) := of_decide_eq_true (by first | (with_reducible assumption) | assumption)
                      have q178 : x12_2 < (t151.length : Int) := of_decide_eq_true (by first | (with_reducible assumption) | assumption)
                      obtain ⟨ad178, e178, hx178_0⟩ := Kd.at_int (Kd.R_reads' HO_3.out).2.2 x12_2 p178 q178
                      cases e178
                      replace p178 := eq_true p178
                      replace q178 := eq_true q178
                      obtain ⟨Ao37, co37, eo37⟩ := Kd.R_slice HO_7.out
                      (first | subst eo37 | (injection eo37 with f1_ f2_ f3_; have f4_ := f1_.symm; have f5_ := f3_.symm; clear f1_ f2_ f3_; subst f4_; subst f5_))
                      refine start_ (n := 11) (S := fun w' => w'.cell? (ad177.add (x12_2).toNat) = some (.int .i64 (rd t157 x12_2)) ∧ w'.cell? (ad178.add (x12_2).toNat) = some (.int .i64 (rd t151 x12_2))) (ds := []) #[false, false, false, false, false, false, false, false, false, false, false] (by kernel_rfl) rfl rfl ⟨hx177_0, hx178_0⟩ (fun hHeld => ?_); refine with_tabW celluloidref06_Raw.tab19 celluloidref06_Raw.bits19 (fun HT_ HW_ => ?_)
                      generalize wr.drew = w35 at HO_3 HO_5 HO_6 HO_7 HB hx177_0 hx178_0 hHeld ⊢
                      refine pure_ (i := 0) (N := some 80) (v := ?_) (a' := ?_) #[true, false, false, false, false, false, false, false, false, false, false] rfl rfl (any_of HT_.out (by kernel_rfl)) (fun _ _ _ h => h) (Or.inl ⟨by rfl, ?_⟩) ?_ ?_
                      rotate_left
                      · intro w'
                        go_simp
                        with_reducible rfl
                      rotate_left
                      · simp only [Act.put, List.setIfInBounds_toArray, List.set_cons_zero, List.set_cons_succ, i64_w, i32_w]
                        rfl
                      refine pure_ (i := 1) (N := some 81) (v := ?_) (a' := ?_) #[true, true, false, false, false, false, false, false, false, false, false] rfl rfl (any_of HT_.out (by kernel_rfl)) (fun _ _ _ h => h) (Or.inl ⟨by rfl, ?_⟩) ?_ ?_
                      rotate_left
                      · intro w'
                        go_simp
                        with_reducible rfl
                      rotate_left
                      · simp only [Act.put, List.setIfInBounds_toArray, List.set_cons_zero, List.set_cons_succ, i64_w, i32_w]
                        rfl
                      refine pure_ (i := 2) (N := some 82) (v := ?_) (a' := ?_) #[true, true, true, false, false, false, false, false, false, false, false] rfl rfl (any_of HT_.out (by kernel_rfl)) (fun _ _ _ h => h) (Or.inl ⟨by rfl, ?_⟩) ?_ ?_
                      rotate_left
                      · intro w'
                        go_simp
                        with_reducible rfl
                      rotate_left
                      · simp only [Act.put, List.setIfInBounds_toArray, List.set_cons_zero, List.set_cons_succ, i64_w, i32_w]
                        rfl
                      refine pure_ (i := 3) (N := some 83) (v := ?_) (a' := ?_) #[true, true, true, true, false, false, false, false, false, false, false] rfl rfl (any_of HT_.out (by kernel_rfl)) (fun _ _ _ h => h) (Or.inl ⟨by rfl, ?_⟩) ?_ ?_
                      rotate_left
                      · intro w'
                        go_simp
                        with_reducible rfl
                      rotate_left
                      · simp only [Act.put, List.setIfInBounds_toArray, List.set_cons_zero, List.set_cons_succ, i64_w, i32_w]
                        rfl
                      refine pure_ (i := 5) (N := some 85) (v := ?_) (a' := ?_) #[true, true, true, true, false, true, false, false, false, false, false] rfl rfl (any_of HT_.out (by kernel_rfl)) (fun _ _ _ h => h) (Or.inl ⟨by rfl, ?_⟩) ?_ ?_
                      rotate_left
                      · intro w'
                        go_simp
                        with_reducible rfl
                      rotate_left
                      · simp only [Act.put, List.setIfInBounds_toArray, List.set_cons_zero, List.set_cons_succ, i64_w, i32_w]
                        rfl
                      refine pure_ (i := 6) (N := some 86) (v := ?_) (a' := ?_) #[true, true, true, true, false, true, true, false, false, false, false] rfl rfl (any_of HT_.out (by kernel_rfl)) (fun _ _ _ h => h) (Or.inl ⟨by rfl, ?_⟩) ?_ ?_
                      rotate_left
                      · intro w'
                        go_simp
                        with_reducible rfl
                      rotate_left
                      · simp only [Act.put, List.setIfInBounds_toArray, List.set_cons_zero, List.set_cons_succ, i64_w, i32_w]
                        rfl
                      refine pure_ (i := 7) (N := some 87) (v := ?_) (a' := ?_) #[true, true, true, true, false, true, true, true, false, false, false] rfl rfl (any_of HT_.out (by kernel_rfl)) (fun _ _ _ h => h) (Or.inl ⟨by rfl, ?_⟩) ?_ ?_
                      rotate_left
                      · intro w'
                        go_simp
                        with_reducible rfl
                      rotate_left
                      · simp only [Act.put, List.setIfInBounds_toArray, List.set_cons_zero, List.set_cons_succ, i64_w, i32_w]
                        rfl
                      refine take_ (i := 4) (N := some 84) (v := ?_) (a' := ?_) #[true, true, true, true, true, true, true, true, false, false, false] rfl rfl (take_ofW HT_.out HW_.out (by kernel_rfl)) (fun _ _ _ h => h) (Or.inl ⟨by rfl, ?_⟩) hHeld ?_ ?_
                      rotate_left
                      · rintro w' ⟨s0, s1⟩
                        go_simp
                        with_reducible rfl
                      rotate_left
                      · simp only [Act.put, List.setIfInBounds_toArray, List.set_cons_zero, List.set_cons_succ, i64_w, i32_w]
                        rfl
                      refine take_ (i := 8) (N := some 88) (v := ?_) (a' := ?_) #[true, true, true, true, true, true, true, true, true, false, false] rfl rfl (take_ofW HT_.out HW_.out (by kernel_rfl)) (fun _ _ _ h => h) (Or.inl ⟨by rfl, ?_⟩) hHeld ?_ ?_
                      rotate_left
                      · rintro w' ⟨s0, s1⟩
                        go_simp
                        with_reducible rfl
                      rotate_left
                      · simp only [Act.put, List.setIfInBounds_toArray, List.set_cons_zero, List.set_cons_succ, i64_w, i32_w]
                        rfl
                      refine one_ (i := 9) (N := some 89) #[true, true, true, true, true, true, true, true, true, true, false] rfl rfl (one_of HT_.out (by kernel_rfl)) (by decide) (fun K hK => ?_)
                      refine goes_ Try.func67 (by kernel_rfl) rfl #[.slice Ao37 x7_1.length co37, .int .i64 (rd t157 x12_2), .int .i64 (rd t151 x12_2)] (by rfl) rfl rfl (by (try simp only [List.map_toArray, List.map_cons, List.map_nil]); first | done | rfl | (simp only [List.length_drop, List.length_take]; rfl)) ?_
                      with_reducible refine (celluloidref06_code.calls k2 (fun k_ => some k_ = (.slice Ao37 x7_1.length co37 : Value).ownBlock) (.slice Ao37 x7_1.length co37) x7_1 (rd t157 x12_2) (rd t151 x12_2) t179 w _ ?side1 ?side2 A33.out).mono ?_
                      (case side1 => repeat (first | (with_reducible first | exact HB.out | apply below_alloc | apply pw_below_drewN | apply below_drew1) | exact HB.out))
                      (case side2 => exact Kd.R_tight rfl HO_7.out)
                      rintro e w38 ⟨v180, rfl, ho0, hb, hkp⟩
                      have HS0_ := cell_kept (hHeld.1) hkp (by first | (rw [add_block]; exact (fun hs_ => ((((Kd.R_apart' HO_5.out (Kd.R_typed HO_7.out) (by decide))).1 _ rfl).2) hs_)) | (show ¬ _; simp only [add_block]; exact (fun hs_ => ((((Kd.R_apart' HO_5.out (Kd.R_typed HO_7.out) (by decide))).1 _ rfl).2) hs_)) | exact (fun hs_ => ((((Kd.R_apart' HO_5.out (Kd.R_typed HO_7.out) (by decide))).1 _ rfl).2) hs_))
                      have HS1_ := cell_kept (hHeld.2) hkp (by first | (rw [add_block]; exact (fun hs_ => ((((Kd.R_apart' HO_3.out (Kd.R_typed HO_7.out) (by decide))).1 _ rfl).2) hs_)) | (show ¬ _; simp only [add_block]; exact (fun hs_ => ((((Kd.R_apart' HO_3.out (Kd.R_typed HO_7.out) (by decide))).1 _ rfl).2) hs_)) | exact (fun hs_ => ((((Kd.R_apart' HO_3.out (Kd.R_typed HO_7.out) (by decide))).1 _ rfl).2) hs_))
                      refine ⟨_, rfl, ?_⟩
                      have n0_ := Aside0.mk (Kd.R_mono (ok' := fun k_ => some k_ ≠ (.slice (some ad177) t157.length co36 : Value).ownBlock ∧ some k_ ≠ (v161 : Value).ownBlock) (Kd.R_keptB ((Kd.R_apart' HO_3.out (Kd.R_typed HO_7.out) (by decide))) hkp (fun k_ hk_ hs_ => (hk_.2) hs_)) (fun k_ hk_ => ⟨hk_.1.1.1, hk_.1.1.2⟩))
                      have n1_ := Aside0.mk (Kd.R_mono (ok' := fun k_ => some k_ ≠ (.slice (some ad178) t151.length co6 : Value).ownBlock ∧ some k_ ≠ (v161 : Value).ownBlock) (Kd.R_keptB ((Kd.R_apart' HO_5.out (Kd.R_typed HO_7.out) (by decide))) hkp (fun k_ hk_ hs_ => (hk_.2) hs_)) (fun k_ hk_ => ⟨hk_.1.1.1, hk_.1.1.2⟩))
                      have n2_ := Aside0.mk (Kd.R_mono (ok' := fun k_ => some k_ ≠ (.slice (some ad178) t151.length co6 : Value).ownBlock ∧ some k_ ≠ (.slice (some ad177) t157.length co36 : Value).ownBlock) (Kd.R_keptB ((Kd.R_apart' HO_6.out (Kd.R_typed HO_7.out) (by decide))) hkp (fun k_ hk_ hs_ => (hk_.2) hs_)) (fun k_ hk_ => ⟨hk_.1.1.1, hk_.1.1.2⟩))
                      have n3_ := Aside0.mk (Kd.R_mono (ok' := fun k_ => True) ho0 (fun k_ hk_ => trivial))
                      have n4_ := Aside0.mk (hb)
                      clear HO_3
                      clear HO_5
                      clear HO_6
                      clear HB
                      clear HO_7
                      have HO_3 := n0_
                      have HO_5 := n1_
                      have HO_6 := n2_
                      have HO181 := n3_
                      have HB := n4_
                      clear n0_ n1_ n2_ n3_ n4_
                      (try clear hb)
                      (try clear hkp)
                      (try clear ho0)
                      refine hK.out _ _ ⟨HS0_, HS1_⟩ (fun hHeld => ?_)
                      clear hK K
                      refine norm_ (a' := ?_) ?_ ?_
                      rotate_left
                      · show Act.put _ (some 89) _ = _
                        simp only [Act.put, List.setIfInBounds_toArray, List.set_cons_zero, List.set_cons_succ, i64_w, i32_w]
                        rfl
                      refine pure_ (i := 10) (N := some 7) (v := ?_) (a' := ?_) #[true, true, true, true, true, true, true, true, true, true, true] rfl rfl (any_of HT_.out (by kernel_rfl)) (fun _ _ _ h => h) (Or.inl ⟨by rfl, ?_⟩) ?_ ?_
                      rotate_left
                      · intro w'
                        go_simp
                        with_reducible rfl
                      rotate_left
                      · simp only [Act.put, List.setIfInBounds_toArray, List.set_cons_zero, List.set_cons_succ, i64_w, i32_w]
                        rfl
                      refine done_ (done_of HT_.out (by kernel_rfl)) ?_
                      obtain ⟨Ao39, co39, eo39⟩ := Kd.R_slice HO181.out
                      subst eo39
                      try go_wp2_with (first | ((with_reducible refine gate_callee (f := 69) rfl ?_); refine goesL_ (some 95) rfl rfl Try.func69 (by kernel_rfl) rfl #[.slice Ao39 t179.length co39, .int .i64 (wrap64 (t166 - t175)), .int .i64 t176] rfl (by (try simp only [List.map_toArray, List.map_cons, List.map_nil]); first | done | rfl | (simp only [List.length_drop, List.length_take]; rfl)) ?_; (with_reducible refine (celluloidref06_number.calls k2 (fun k_ => some k_ = (.slice Ao39 t179.length co39 : Value).ownBlock) (.slice Ao39 t179.length co39) t179 (wrap64 (t166 - t175)) t176 t182 w _ ?side1 ?side2 A34.out).mono ?_); (case side1 => repeat (first | (with_reducible first | exact HB.out | apply below_alloc | apply pw_below_drewN | apply below_drew1) | exact HB.out)); (case side2 => exact Kd.R_tight rfl HO181.out); rintro e w40 ⟨v183, rfl, ho0, hb, hkp⟩; refine ⟨_, rfl, ?_⟩; have n0_ := Aside0.mk (Kd.R_mono (ok' := fun k_ => some k_ ≠ (.slice (some ad177) t157.length co36 : Value).ownBlock ∧ some k_ ≠ (v161 : Value).ownBlock) (Kd.R_keptB ((Kd.R_apart' HO_3.out (Kd.R_typed HO181.out) (by decide))) hkp (fun k_ hk_ hs_ => (hk_.2) hs_)) (fun k_ hk_ => ⟨hk_.1.1.1, hk_.1.1.2⟩)); have n1_ := Aside0.mk (Kd.R_mono (ok' := fun k_ => some k_ ≠ (.slice (some ad178) t151.length co6 : Value).ownBlock ∧ some k_ ≠ (v161 : Value).ownBlock) (Kd.R_keptB ((Kd.R_apart' HO_5.out (Kd.R_typed HO181.out) (by decide))) hkp (fun k_ hk_ hs_ => (hk_.2) hs_)) (fun k_ hk_ => ⟨hk_.1.1.1, hk_.1.1.2⟩)); have n2_ := Aside0.mk (Kd.R_mono (ok' := fun k_ => some k_ ≠ (.slice (some ad178) t151.length co6 : Value).ownBlock ∧ some k_ ≠ (.slice (some ad177) t157.length co36 : Value).ownBlock) (Kd.R_keptB ((Kd.R_apart' HO_6.out (Kd.R_typed HO181.out) (by decide))) hkp (fun k_ hk_ hs_ => (hk_.2) hs_)) (fun k_ hk_ => ⟨hk_.1.1.1, hk_.1.1.2⟩)); have n3_ := Aside0.mk (Kd.R_mono (ok' := fun k_ => True) ho0 (fun k_ hk_ => trivial)); have n4_ := Aside0.mk (hb); clear HO_3; clear HO_5; clear HO_6; clear HB; clear HO181; have HO_3 := n0_; have HO_5 := n1_; have HO_6 := n2_; have HO184 := n3_; have HB := n4_; clear n0_ n1_ n2_ n3_ n4_; (try clear hb); (try clear hkp); (try clear ho0)))
                      go_loopg [12, 18] k2 (fun kq v12 v18 w' => ∃ (x12_3 : Int) (x18_3 : Int), v12 = .int .i64 x12_3 ∧ v18 = .int .i64 x18_3 ∧ Aside0 (celluloidref06_Raw.l2 kq a0 t151 t157 t160 t182 x8_1 t166 t167 x12_3 x18_3 = some r) ∧ Aside0 (kq ≤ k2) ∧ Aside0 (Kd.R (Kd.int .i64) 3 w' w.heap.size (fun k_ => some k_ ≠ ((.slice (some ad177) t157.length co36) : Value).ownBlock ∧ some k_ ≠ (v161 : Value).ownBlock) (.slice (some ad178) t151.length co6) t151) ∧ Aside0 (Kd.R (Kd.int .i64) 3 w' w.heap.size (fun k_ => some k_ ≠ ((.slice (some ad178) t151.length co6) : Value).ownBlock ∧ some k_ ≠ (v161 : Value).ownBlock) (.slice (some ad177) t157.length co36) t157) ∧ Aside0 (Kd.R (Kd.int .i64) 3 w' w.heap.size (fun k_ => some k_ ≠ ((.slice (some ad178) t151.length co6) : Value).ownBlock ∧ some k_ ≠ ((.slice (some ad177) t157.length co36) : Value).ownBlock) v161 t160) ∧ Aside0 (Kd.R (Kd.int .u8) 5 w' w.heap.size (fun _ => True) v183 t182) ∧ Aside0 (Below w.heap.size w w'))
                      case atStart => exact ⟨(0), (0), (by first | rfl | (simp; done) | (simp [*]; done)), (by first | rfl | (simp; done) | (simp [*]; done)), H', ⟨Nat.le_refl _⟩, ⟨by (with_reducible repeat (first | apply Kd.R_alloc | apply Kd.R_drewN | apply Kd.R_drew)); exact HO_3.out⟩, ⟨by (with_reducible repeat (first | apply Kd.R_alloc | apply Kd.R_drewN | apply Kd.R_drew)); exact HO_5.out⟩, ⟨by (with_reducible repeat (first | apply Kd.R_alloc | apply Kd.R_drewN | apply Kd.R_drew)); exact HO_6.out⟩, ⟨by (with_reducible repeat (first | apply Kd.R_alloc | apply Kd.R_drewN | apply Kd.R_drew)); exact HO184.out⟩, ⟨by repeat (first | (with_reducible first | exact HB.out | apply below_alloc | apply pw_below_drewN | apply below_drew1) | exact HB.out)⟩⟩
                      case round =>
                        clear H'
                        try clear c1
                        try clear p1
                        try clear q1
                        try clear hx1
                        try clear c2
                        try clear p2
                        try clear c3
                        try clear c4
                        try clear c6
                        try clear p6
                        try clear c12
                        try clear c12b0
                        try clear c14
                        try clear c14b0
                        try clear c14b1
                        try clear c15
                        try clear c15b0
                        try clear p16
                        try clear q16
                        try clear hx16
                        try clear p17
                        try clear q17
                        try clear hx17
                        try clear c18
                        try clear c18b0
                        try clear c19
                        try clear c19b0
                        try clear c20
                        try clear c20b0
                        try clear c26
                        try clear c26b0
                        try clear c28
                        try clear c28b0
                        try clear c29
                        try clear c30
                        try clear c30b0
                        try clear c31
                        try clear c31b0
                        try clear c32
                        try clear c32b0
                        try clear c38
                        try clear hx168_0
                        try clear hx169_0
                        try clear hx177_0
                        try clear hx178_0
                        try clear p1
                        try clear p16
                        try clear p168
                        try clear p169
                        try clear p177
                        try clear p178
                        try clear p2
                        try clear p6
                        try clear q1
                        try clear q16
                        try clear q168
                        try clear q169
                        try clear q177
                        try clear q178
                        obtain ⟨x12_3, x18_3, rfl, rfl, HA, HK3, HO_3, HO_5, HO_6, HO_7, HB⟩ := hrel
                        cases gk with
                        | zero => exact absurd HA.out (by simp [celluloidref06_Raw.l2])
                        | succ k3 =>
                          have H := HA.out
                          clear HA
                          simp only [celluloidref06_Raw.l2] at H
                          by_cases c41 : x18_3 < 30
                          · rw [if_pos c41] at H
                            have c41b0 : decide (x18_3 < 30) = true := decide_eq_true c41
                            clear c41
                            replace H := Option.bind_eq_some_iff.mp H
                            obtain ⟨⟨t185, t186⟩, A420, H⟩ := H
                            replace H : (if t185 ≤ t167 then (celluloidref06_Raw.l2 k3 a0 t151 t157 t160 t182 x8_1 t166 t167 x18_3 (wrap64 (x18_3 + 1))) else (celluloidref06_Raw.l2 k3 a0 t151 t157 t160 t182 x8_1 t166 t167 x12_3 (wrap64 (x18_3 + 1)))) = some r := H
                            have A42 := Aside0.mk A420
                            clear A420
                            by_cases c43 : t185 ≤ t167
                            · rw [if_pos c43] at H
                              have c43b0 : decide (t185 ≤ t167) = true := decide_eq_true c43
                              clear c43
                              have H' := Aside0.mk H
                              clear H
                              go_wp2_with (first | ((with_reducible refine gate_callee (f := 70) rfl ?_); refine goesL_ (some 102) rfl rfl Try.func70 (by kernel_rfl) rfl #[.int .i64 x18_3] rfl (by (try simp only [List.map_toArray, List.map_cons, List.map_nil]); first | done | rfl | (simp only [List.length_drop, List.length_take]; rfl)) ?_; (with_reducible refine (celluloidref05_Distance.calls k3 x18_3 t185 t186 _ A42.out).mono ?_); rintro e w' ⟨rfl, ⟨nd, rfl⟩⟩; refine ⟨_, rfl, ?_⟩))
                              go_roundg k3
                              case measure => have := HK1.out; have := HK2.out; have := HK3.out; omega
                              case rel => exact ⟨(x18_3), (wrap64 (x18_3 + 1)), (by first | rfl | (simp; done) | (simp [*]; done)), (by first | rfl | (simp; done) | (simp [*]; done)), H', ⟨by have := HK1.out; have := HK2.out; have := HK3.out; omega⟩, ⟨by (with_reducible repeat (first | apply Kd.R_alloc | apply Kd.R_drewN | apply Kd.R_drew)); exact HO_3.out⟩, ⟨by (with_reducible repeat (first | apply Kd.R_alloc | apply Kd.R_drewN | apply Kd.R_drew)); exact HO_5.out⟩, ⟨by (with_reducible repeat (first | apply Kd.R_alloc | apply Kd.R_drewN | apply Kd.R_drew)); exact HO_6.out⟩, ⟨by (with_reducible repeat (first | apply Kd.R_alloc | apply Kd.R_drewN | apply Kd.R_drew)); exact HO_7.out⟩, ⟨by repeat (first | (with_reducible first | exact HB.out | apply below_alloc | apply pw_below_drewN | apply below_drew1) | exact HB.out)⟩⟩
                            · rw [if_neg c43] at H
                              have c43b0 : decide (t185 ≤ t167) = false := decide_eq_false c43
                              clear c43
                              have H' := Aside0.mk H
                              clear H
                              go_wp2_with (first | ((with_reducible refine gate_callee (f := 70) rfl ?_); refine goesL_ (some 102) rfl rfl Try.func70 (by kernel_rfl) rfl #[.int .i64 x18_3] rfl (by (try simp only [List.map_toArray, List.map_cons, List.map_nil]); first | done | rfl | (simp only [List.length_drop, List.length_take]; rfl)) ?_; (with_reducible refine (celluloidref05_Distance.calls k3 x18_3 t185 t186 _ A42.out).mono ?_); rintro e w' ⟨rfl, ⟨nd, rfl⟩⟩; refine ⟨_, rfl, ?_⟩))
                              go_roundg k3
                              case measure => have := HK1.out; have := HK2.out; have := HK3.out; omega
                              case rel => exact ⟨(x12_3), (wrap64 (x18_3 + 1)), (by first | rfl | (simp; done) | (simp [*]; done)), (by first | rfl | (simp; done) | (simp [*]; done)), H', ⟨by have := HK1.out; have := HK2.out; have := HK3.out; omega⟩, ⟨by (with_reducible repeat (first | apply Kd.R_alloc | apply Kd.R_drewN | apply Kd.R_drew)); exact HO_3.out⟩, ⟨by (with_reducible repeat (first | apply Kd.R_alloc | apply Kd.R_drewN | apply Kd.R_drew)); exact HO_5.out⟩, ⟨by (with_reducible repeat (first | apply Kd.R_alloc | apply Kd.R_drewN | apply Kd.R_drew)); exact HO_6.out⟩, ⟨by (with_reducible repeat (first | apply Kd.R_alloc | apply Kd.R_drewN | apply Kd.R_drew)); exact HO_7.out⟩, ⟨by repeat (first | (with_reducible first | exact HB.out | apply below_alloc | apply pw_below_drewN | apply below_drew1) | exact HB.out)⟩⟩
                          · rw [if_neg c41] at H
                            have c41b0 : decide (x18_3 < 30) = false := decide_eq_false c41
                            clear c41
                            replace H := Option.bind_eq_some_iff.mp H
                            obtain ⟨⟨t187, t188⟩, A440, H⟩ := H
                            replace H : (if 0 ≤ x12_3 then (if x12_3 < (t160.length : Int) then ((celluloidref06_code.f k3 t182 (rd t160 x12_3) 5).bind fun t190 => ((celluloidref06_number.f k3 t190 (wrap64 (t167 - t187)) t188).bind fun t193 => (celluloidref06_Raw.l0 k3 a0 t151 t157 t160 t193 (wrap64 (x8_1 + t166))))) else (none)) else (none)) = some r := H
                            have A44 := Aside0.mk A440
                            clear A440
                            by_cases c45 : 0 ≤ x12_3
                            · rw [if_pos c45] at H
                              have c45b0 : decide (0 ≤ x12_3) = true := decide_eq_true c45
                              clear c45
                              by_cases c46 : x12_3 < (t160.length : Int)
                              · rw [if_pos c46] at H
                                have c46b0 : decide (x12_3 < (t160.length : Int)) = true := decide_eq_true c46
                                clear c46
                                replace H := Option.bind_eq_some_iff.mp H
                                obtain ⟨t190, A470, H⟩ := H
                                replace H : ((celluloidref06_number.f k3 t190 (wrap64 (t167 - t187)) t188).bind fun t193 => (celluloidref06_Raw.l0 k3 a0 t151 t157 t160 t193 (wrap64 (x8_1 + t166)))) = some r := H
                                have A47 := Aside0.mk A470
                                clear A470
                                replace H := Option.bind_eq_some_iff.mp H
                                obtain ⟨t193, A480, H⟩ := H
                                replace H : (celluloidref06_Raw.l0 k3 a0 t151 t157 t160 t193 (wrap64 (x8_1 + t166))) = some r := H
                                have A48 := Aside0.mk A480
                                clear A480
                                have H' := Aside0.mk H
                                clear H
                                go_wp2_with (first | ((with_reducible refine gate_callee (f := 70) rfl ?_); refine goesL_ (some 111) rfl rfl Try.func70 (by kernel_rfl) rfl #[.int .i64 x12_3] rfl (by (try simp only [List.map_toArray, List.map_cons, List.map_nil]); first | done | rfl | (simp only [List.length_drop, List.length_take]; rfl)) ?_; (with_reducible refine (celluloidref05_Distance.calls k3 x12_3 t187 t188 _ A44.out).mono ?_); rintro e w' ⟨rfl, ⟨nd, rfl⟩⟩; refine ⟨_, rfl, ?_⟩; obtain ⟨Ao49, co49, eo49⟩ := Kd.R_slice HO_6.out; subst eo49; have p189 : 0 ≤ (x12_3 : Int) := of_decide_eq_true (by first | (with_reducible assumption) | assumption); have q189 : x12_3 < (t160.length : Int) := of_decide_eq_true (by first | (with_reducible assumption) | assumption); obtain ⟨ad189, e189, hx189_0⟩ := Kd.at_int (Kd.R_reads' HO_6.out).2.2 x12_3 p189 q189; cases e189; replace p189 := eq_true p189; replace q189 := eq_true q189; obtain ⟨Ao50, co50, eo50⟩ := Kd.R_slice HO_7.out; subst eo50) | ((with_reducible refine gate_callee (f := 67) rfl ?_); refine goesL_ (some 119) rfl rfl Try.func67 (by kernel_rfl) rfl #[.slice Ao50 t182.length co50, .int .i64 (rd t160 x12_3), .int .i64 5] rfl (by (try simp only [List.map_toArray, List.map_cons, List.map_nil]); first | done | rfl | (simp only [List.length_drop, List.length_take]; rfl)) ?_; (with_reducible refine (celluloidref06_code.calls k3 (fun k_ => some k_ = (.slice Ao50 t182.length co50 : Value).ownBlock) (.slice Ao50 t182.length co50) t182 (rd t160 x12_3) 5 t190 w _ ?side1 ?side2 A47.out).mono ?_); (case side1 => repeat (first | (with_reducible first | exact HB.out | apply below_alloc | apply pw_below_drewN | apply below_drew1) | exact HB.out)); (case side2 => exact Kd.R_tight rfl HO_7.out); rintro e w51 ⟨v191, rfl, ho0, hb, hkp⟩; refine ⟨_, rfl, ?_⟩; have n0_ := Aside0.mk (Kd.R_mono (ok' := fun k_ => some k_ ≠ (.slice (some ad177) t157.length co36 : Value).ownBlock ∧ some k_ ≠ (.slice (some ad189) t160.length co49 : Value).ownBlock) (Kd.R_keptB ((Kd.R_apart' HO_3.out (Kd.R_typed HO_7.out) (by decide))) hkp (fun k_ hk_ hs_ => (hk_.2) hs_)) (fun k_ hk_ => ⟨hk_.1.1.1, hk_.1.1.2⟩)); have n1_ := Aside0.mk (Kd.R_mono (ok' := fun k_ => some k_ ≠ (.slice (some ad178) t151.length co6 : Value).ownBlock ∧ some k_ ≠ (.slice (some ad189) t160.length co49 : Value).ownBlock) (Kd.R_keptB ((Kd.R_apart' HO_5.out (Kd.R_typed HO_7.out) (by decide))) hkp (fun k_ hk_ hs_ => (hk_.2) hs_)) (fun k_ hk_ => ⟨hk_.1.1.1, hk_.1.1.2⟩)); have n2_ := Aside0.mk (Kd.R_mono (ok' := fun k_ => some k_ ≠ (.slice (some ad178) t151.length co6 : Value).ownBlock ∧ some k_ ≠ (.slice (some ad177) t157.length co36 : Value).ownBlock) (Kd.R_keptB ((Kd.R_apart' HO_6.out (Kd.R_typed HO_7.out) (by decide))) hkp (fun k_ hk_ hs_ => (hk_.2) hs_)) (fun k_ hk_ => ⟨hk_.1.1.1, hk_.1.1.2⟩)); have n3_ := Aside0.mk (Kd.R_mono (ok' := fun k_ => True) ho0 (fun k_ hk_ => trivial)); have n4_ := Aside0.mk (hb); clear HO_3; clear HO_5; clear HO_6; clear HB; clear HO_7; have HO_3 := n0_; have HO_5 := n1_; have HO_6 := n2_; have HO192 := n3_; have HB := n4_; clear n0_ n1_ n2_ n3_ n4_; (try clear hb); (try clear hkp); (try clear ho0); obtain ⟨Ao52, co52, eo52⟩ := Kd.R_slice HO192.out; subst eo52) | ((with_reducible refine gate_callee (f := 69) rfl ?_); refine goesL_ (some 125) rfl rfl Try.func69 (by kernel_rfl) rfl #[.slice Ao52 t190.length co52, .int .i64 (wrap64 (t167 - t187)), .int .i64 t188] rfl (by (try simp only [List.map_toArray, List.map_cons, List.map_nil]); first | done | rfl | (simp only [List.length_drop, List.length_take]; rfl)) ?_; (with_reducible refine (celluloidref06_number.calls k3 (fun k_ => some k_ = (.slice Ao52 t190.length co52 : Value).ownBlock) (.slice Ao52 t190.length co52) t190 (wrap64 (t167 - t187)) t188 t193 w _ ?side1 ?side2 A48.out).mono ?_); (case side1 => repeat (first | (with_reducible first | exact HB.out | apply below_alloc | apply pw_below_drewN | apply below_drew1) | exact HB.out)); (case side2 => exact Kd.R_tight rfl HO192.out); rintro e w53 ⟨v194, rfl, ho0, hb, hkp⟩; refine ⟨_, rfl, ?_⟩; have n0_ := Aside0.mk (Kd.R_mono (ok' := fun k_ => some k_ ≠ (.slice (some ad177) t157.length co36 : Value).ownBlock ∧ some k_ ≠ (.slice (some ad189) t160.length co49 : Value).ownBlock) (Kd.R_keptB ((Kd.R_apart' HO_3.out (Kd.R_typed HO192.out) (by decide))) hkp (fun k_ hk_ hs_ => (hk_.2) hs_)) (fun k_ hk_ => ⟨hk_.1.1.1, hk_.1.1.2⟩)); have n1_ := Aside0.mk (Kd.R_mono (ok' := fun k_ => some k_ ≠ (.slice (some ad178) t151.length co6 : Value).ownBlock ∧ some k_ ≠ (.slice (some ad189) t160.length co49 : Value).ownBlock) (Kd.R_keptB ((Kd.R_apart' HO_5.out (Kd.R_typed HO192.out) (by decide))) hkp (fun k_ hk_ hs_ => (hk_.2) hs_)) (fun k_ hk_ => ⟨hk_.1.1.1, hk_.1.1.2⟩)); have n2_ := Aside0.mk (Kd.R_mono (ok' := fun k_ => some k_ ≠ (.slice (some ad178) t151.length co6 : Value).ownBlock ∧ some k_ ≠ (.slice (some ad177) t157.length co36 : Value).ownBlock) (Kd.R_keptB ((Kd.R_apart' HO_6.out (Kd.R_typed HO192.out) (by decide))) hkp (fun k_ hk_ hs_ => (hk_.2) hs_)) (fun k_ hk_ => ⟨hk_.1.1.1, hk_.1.1.2⟩)); have n3_ := Aside0.mk (Kd.R_mono (ok' := fun k_ => True) ho0 (fun k_ hk_ => trivial)); have n4_ := Aside0.mk (hb); clear HO_3; clear HO_5; clear HO_6; clear HB; clear HO192; have HO_3 := n0_; have HO_5 := n1_; have HO_6 := n2_; have HO195 := n3_; have HB := n4_; clear n0_ n1_ n2_ n3_ n4_; (try clear hb); (try clear hkp); (try clear ho0)))
                                go_roundg k3
                                case measure => have := HK1.out; have := HK2.out; have := HK3.out; omega
                                case rel => exact ⟨(t193), (wrap64 (x8_1 + t166)), (by first | rfl | (simp; done) | (simp [*]; done)), H', ⟨by have := HK1.out; have := HK2.out; have := HK3.out; omega⟩, ⟨by (with_reducible repeat (first | apply Kd.R_alloc | apply Kd.R_drewN | apply Kd.R_drew)); exact HO_3.out⟩, ⟨by (with_reducible repeat (first | apply Kd.R_alloc | apply Kd.R_drewN | apply Kd.R_drew)); exact HO_5.out⟩, ⟨by (with_reducible repeat (first | apply Kd.R_alloc | apply Kd.R_drewN | apply Kd.R_drew)); exact HO_6.out⟩, ⟨by (with_reducible repeat (first | apply Kd.R_alloc | apply Kd.R_drewN | apply Kd.R_drew)); exact HO195.out⟩, ⟨by repeat (first | (with_reducible first | exact HB.out | apply below_alloc | apply pw_below_drewN | apply below_drew1) | exact HB.out)⟩⟩
                              · rw [if_neg c46] at H
                                exact absurd H (by simp)
                            · rw [if_neg c45] at H
                              exact absurd H (by simp)
                    · rw [if_neg c32] at H
                      exact absurd H (by simp)
                  · rw [if_neg c31] at H
                    exact absurd H (by simp)
                · rw [if_neg c30] at H
                  exact absurd H (by simp)
      · rw [if_neg c12] at H
        have c12b0 : decide (x8_1 < (a0.size : Int)) = false := decide_eq_false c12
        clear c12
        by_cases c54 : 256 < (t157.length : Int)
        · rw [if_pos c54] at H
          have c54b0 : decide (256 < (t157.length : Int)) = true := decide_eq_true c54
          have c54b1 : decide (256 < t157.length) = true := decide_eq_true (by omega)
          clear c54
          by_cases c55 : 256 < (t151.length : Int)
          · rw [if_pos c55] at H
            have c55b0 : decide (256 < (t151.length : Int)) = true := decide_eq_true c55
            have c55b1 : decide (256 < t151.length) = true := decide_eq_true (by omega)
            clear c55
            replace H := Option.bind_eq_some_iff.mp H
            obtain ⟨t198, A560, H⟩ := H
            replace H : (if 0 ≤ (wrap64 (Int.tdiv (wrap64 ((t198.length : Int) + 7)) 8)) then (if (wrap64 (Int.tdiv (wrap64 ((t198.length : Int) + 7)) 8) : Int).toNat ≤ 281474976710656 then (celluloidref06_Raw.l3 k1 t198 (List.replicate (wrap64 (Int.tdiv (wrap64 ((t198.length : Int) + 7)) 8) : Int).toNat 0) 0) else (none)) else (none)) = some r := H
            have A56 := Aside0.mk A560
            clear A560
            obtain ⟨ji57, hji57⟩ : ∃ j_ : Int, (wrap64 (Int.tdiv (wrap64 ((t198.length : Int) + 7)) 8)) = j_ := ⟨_, rfl⟩
            replace H : (if 0 ≤ (ji57) then (if (ji57 : Int).toNat ≤ 281474976710656 then (celluloidref06_Raw.l3 k1 t198 (List.replicate (ji57 : Int).toNat 0) 0) else (none)) else (none)) = some r := by first | (rw [hji57] at H; exact H) | (simp only [hji57] at H ⊢; exact H)
            (try rw [hji57] at A56)
            have hji57w : (IntKind.i64.wrap (Int.tdiv (wrap64 ((t198.length : Int) + 7)) 8)) = ji57 := (i64_w _).trans hji57
            by_cases c58 : 0 ≤ (ji57)
            · rw [if_pos c58] at H
              have c58b0 := eq_true c58
              have c58b1 : decide (0 ≤ (ji57)) = true := decide_eq_true c58
              clear c58
              by_cases c59 : (ji57 : Int).toNat ≤ 281474976710656
              · rw [if_pos c59] at H
                have c59b0 := eq_true c59
                have c59b1 : decide ((ji57 : Int).toNat ≤ 281474976710656) = true := decide_eq_true c59
                clear c59
                obtain ⟨y201, hy201⟩ : ∃ y_ : List Int, y_ = (List.replicate (ji57 : Int).toNat 0) := ⟨_, rfl⟩
                replace H : (celluloidref06_Raw.l3 k1 t198 y201 0) = some r := by first | (rw [hy201]; with_reducible exact H) | (have H2_ := (Option.bind_some _ _).symm.trans H; rw [hy201]; with_reducible exact H2_) | (have H2_ := (Option.bind_some _ _).symm.trans H; with_reducible exact H2_) | with_reducible exact H | (rw [hy201]; exact H) | exact H
                have Ny201 := Aside0.mk hy201
                clear hy201
                have H' := Aside0.mk H
                clear H
                try go_wp2
                have n0_ := Aside0.mk (Kd.R_drew HO_3.out)
                have n1_ := Aside0.mk (Kd.R_drew HO_5.out)
                have n2_ := Aside0.mk (Kd.R_drew HO_6.out)
                have n3_ := Aside0.mk (Kd.R_drew HO_7.out)
                have n4_ := Aside0.mk (below_drew1 HB.out)
                clear HO_3
                clear HO_5
                clear HO_6
                clear HO_7
                clear HB
                have HO_3 := n0_
                have HO_5 := n1_
                have HO_6 := n2_
                have HO_7 := n3_
                have HB := n4_
                clear n0_ n1_ n2_ n3_ n4_
                obtain ⟨Ao61, co61, eo61⟩ := Kd.R_slice HO_5.out
                (first | subst eo61 | (injection eo61 with f1_ f2_ f3_; have f4_ := f1_.symm; have f5_ := f3_.symm; clear f1_ f2_ f3_; subst f4_; subst f5_))
                have p196 : 0 ≤ (256 : Int) := (by omega)
                have q196 : 256 < (t157.length : Int) := of_decide_eq_true (by first | (with_reducible assumption) | assumption)
                obtain ⟨ad196, e196, hx196_0⟩ := Kd.at_int (Kd.R_reads' HO_5.out).2.2 256 p196 q196
                cases e196
                (try simp only [show (256 : Int).toNat = 256 from rfl, Nat.reduceMul, Nat.reduceEqDiff, Go.Addr.add, ↓reduceIte] at hx196_0)
                have qi196 : (256 < t157.length) = True := eq_true (by omega)
                (try rw [show ((256 : Int)).toNat = 256 from rfl] at hx196_0)
                replace p196 := eq_true p196
                replace q196 := eq_true q196
                have p197 : 0 ≤ (256 : Int) := (by omega)
                have q197 : 256 < (t151.length : Int) := of_decide_eq_true (by first | (with_reducible assumption) | assumption)
                obtain ⟨ad197, e197, hx197_0⟩ := Kd.at_int (Kd.R_reads' HO_3.out).2.2 256 p197 q197
                cases e197
                (try simp only [show (256 : Int).toNat = 256 from rfl, Nat.reduceMul, Nat.reduceEqDiff, Go.Addr.add, ↓reduceIte] at hx197_0)
                have qi197 : (256 < t151.length) = True := eq_true (by omega)
                (try rw [show ((256 : Int)).toNat = 256 from rfl] at hx197_0)
                replace p197 := eq_true p197
                replace q197 := eq_true q197
                obtain ⟨Ao62, co62, eo62⟩ := Kd.R_slice HO_7.out
                (first | subst eo62 | (injection eo62 with f1_ f2_ f3_; have f4_ := f1_.symm; have f5_ := f3_.symm; clear f1_ f2_ f3_; subst f4_; subst f5_))
                refine start_ (n := 9) (S := fun w' => w'.cell? ⟨ad196.block, ad196.off + 256, none⟩ = some (.int .i64 (rd t157 256)) ∧ w'.cell? ⟨ad197.block, ad197.off + 256, none⟩ = some (.int .i64 (rd t151 256))) (ds := []) #[false, false, false, false, false, false, false, false, false] (by kernel_rfl) rfl rfl ⟨hx196_0, hx197_0⟩ (fun hHeld => ?_); refine with_tabW celluloidref06_Raw.tab32 celluloidref06_Raw.bits32 (fun HT_ HW_ => ?_)
                generalize wr.drew = w60 at HO_3 HO_5 HO_6 HO_7 HB hx196_0 hx197_0 hHeld ⊢
                refine pure_ (i := 0) (N := some 129) (v := ?_) (a' := ?_) #[true, false, false, false, false, false, false, false, false] rfl rfl (any_of HT_.out (by kernel_rfl)) (fun _ _ _ h => h) (Or.inl ⟨by rfl, ?_⟩) ?_ ?_
                rotate_left
                · intro w'
                  go_simp
                  with_reducible rfl
                rotate_left
                · simp only [Act.put, List.setIfInBounds_toArray, List.set_cons_zero, List.set_cons_succ, i64_w, i32_w]
                  rfl
                refine pure_ (i := 1) (N := some 130) (v := ?_) (a' := ?_) #[true, true, false, false, false, false, false, false, false] rfl rfl (any_of HT_.out (by kernel_rfl)) (fun _ _ _ h => h) (Or.inl ⟨by rfl, ?_⟩) ?_ ?_
                rotate_left
                · intro w'
                  go_simp
                  with_reducible rfl
                rotate_left
                · simp only [Act.put, List.setIfInBounds_toArray, List.set_cons_zero, List.set_cons_succ, i64_w, i32_w]
                  rfl
                refine pure_ (i := 2) (N := some 131) (v := ?_) (a' := ?_) #[true, true, true, false, false, false, false, false, false] rfl rfl (any_of HT_.out (by kernel_rfl)) (fun _ _ _ h => h) (Or.inl ⟨by rfl, ?_⟩) ?_ ?_
                rotate_left
                · intro w'
                  go_simp
                  with_reducible rfl
                rotate_left
                · simp only [Act.put, List.setIfInBounds_toArray, List.set_cons_zero, List.set_cons_succ, i64_w, i32_w]
                  rfl
                refine pure_ (i := 4) (N := some 133) (v := ?_) (a' := ?_) #[true, true, true, false, true, false, false, false, false] rfl rfl (any_of HT_.out (by kernel_rfl)) (fun _ _ _ h => h) (Or.inl ⟨by rfl, ?_⟩) ?_ ?_
                rotate_left
                · intro w'
                  go_simp
                  with_reducible rfl
                rotate_left
                · simp only [Act.put, List.setIfInBounds_toArray, List.set_cons_zero, List.set_cons_succ, i64_w, i32_w]
                  rfl
                refine pure_ (i := 5) (N := some 134) (v := ?_) (a' := ?_) #[true, true, true, false, true, true, false, false, false] rfl rfl (any_of HT_.out (by kernel_rfl)) (fun _ _ _ h => h) (Or.inl ⟨by rfl, ?_⟩) ?_ ?_
                rotate_left
                · intro w'
                  go_simp
                  with_reducible rfl
                rotate_left
                · simp only [Act.put, List.setIfInBounds_toArray, List.set_cons_zero, List.set_cons_succ, i64_w, i32_w]
                  rfl
                refine take_ (i := 3) (N := some 132) (v := ?_) (a' := ?_) #[true, true, true, true, true, true, false, false, false] rfl rfl (take_ofW HT_.out HW_.out (by kernel_rfl)) (fun _ _ _ h => h) (Or.inl ⟨by rfl, ?_⟩) hHeld ?_ ?_
                rotate_left
                · rintro w' ⟨s0, s1⟩
                  go_simp
                  with_reducible rfl
                rotate_left
                · simp only [Act.put, List.setIfInBounds_toArray, List.set_cons_zero, List.set_cons_succ, i64_w, i32_w]
                  rfl
                refine take_ (i := 6) (N := some 135) (v := ?_) (a' := ?_) #[true, true, true, true, true, true, true, false, false] rfl rfl (take_ofW HT_.out HW_.out (by kernel_rfl)) (fun _ _ _ h => h) (Or.inl ⟨by rfl, ?_⟩) hHeld ?_ ?_
                rotate_left
                · rintro w' ⟨s0, s1⟩
                  go_simp
                  with_reducible rfl
                rotate_left
                · simp only [Act.put, List.setIfInBounds_toArray, List.set_cons_zero, List.set_cons_succ, i64_w, i32_w]
                  rfl
                refine one_ (i := 7) (N := some 136) #[true, true, true, true, true, true, true, true, false] rfl rfl (one_of HT_.out (by kernel_rfl)) (by decide) (fun K hK => ?_)
                refine goes_ Try.func67 (by kernel_rfl) rfl #[.slice Ao62 x7_1.length co62, .int .i64 (rd t157 256), .int .i64 (rd t151 256)] (by rfl) rfl rfl (by (try simp only [List.map_toArray, List.map_cons, List.map_nil]); first | done | rfl | (simp only [List.length_drop, List.length_take]; rfl)) ?_
                with_reducible refine (celluloidref06_code.calls k1 (fun k_ => some k_ = (.slice Ao62 x7_1.length co62 : Value).ownBlock) (.slice Ao62 x7_1.length co62) x7_1 (rd t157 256) (rd t151 256) t198 w _ ?side1 ?side2 A56.out).mono ?_
                (case side1 => repeat (first | (with_reducible first | exact HB.out | apply below_alloc | apply pw_below_drewN | apply below_drew1) | exact HB.out))
                (case side2 => exact Kd.R_tight rfl HO_7.out)
                rintro e w63 ⟨v199, rfl, ho0, hb, hkp⟩
                have HS0_ := cell_kept (hHeld.1) hkp (by first | (rw [add_block]; exact (fun hs_ => ((((Kd.R_apart' HO_5.out (Kd.R_typed HO_7.out) (by decide))).1 _ rfl).2) hs_)) | (show ¬ _; simp only [add_block]; exact (fun hs_ => ((((Kd.R_apart' HO_5.out (Kd.R_typed HO_7.out) (by decide))).1 _ rfl).2) hs_)) | exact (fun hs_ => ((((Kd.R_apart' HO_5.out (Kd.R_typed HO_7.out) (by decide))).1 _ rfl).2) hs_))
                have HS1_ := cell_kept (hHeld.2) hkp (by first | (rw [add_block]; exact (fun hs_ => ((((Kd.R_apart' HO_3.out (Kd.R_typed HO_7.out) (by decide))).1 _ rfl).2) hs_)) | (show ¬ _; simp only [add_block]; exact (fun hs_ => ((((Kd.R_apart' HO_3.out (Kd.R_typed HO_7.out) (by decide))).1 _ rfl).2) hs_)) | exact (fun hs_ => ((((Kd.R_apart' HO_3.out (Kd.R_typed HO_7.out) (by decide))).1 _ rfl).2) hs_))
                refine ⟨_, rfl, ?_⟩
                have n0_ := Aside0.mk (Kd.R_mono (ok' := fun k_ => some k_ ≠ (.slice (some ad196) t157.length co61 : Value).ownBlock ∧ some k_ ≠ (v161 : Value).ownBlock) (Kd.R_keptB ((Kd.R_apart' HO_3.out (Kd.R_typed HO_7.out) (by decide))) hkp (fun k_ hk_ hs_ => (hk_.2) hs_)) (fun k_ hk_ => ⟨hk_.1.1.1, hk_.1.1.2⟩))
                have n1_ := Aside0.mk (Kd.R_mono (ok' := fun k_ => some k_ ≠ (.slice (some ad197) t151.length co6 : Value).ownBlock ∧ some k_ ≠ (v161 : Value).ownBlock) (Kd.R_keptB ((Kd.R_apart' HO_5.out (Kd.R_typed HO_7.out) (by decide))) hkp (fun k_ hk_ hs_ => (hk_.2) hs_)) (fun k_ hk_ => ⟨hk_.1.1.1, hk_.1.1.2⟩))
                have n2_ := Aside0.mk (Kd.R_mono (ok' := fun k_ => some k_ ≠ (.slice (some ad197) t151.length co6 : Value).ownBlock ∧ some k_ ≠ (.slice (some ad196) t157.length co61 : Value).ownBlock) (Kd.R_keptB ((Kd.R_apart' HO_6.out (Kd.R_typed HO_7.out) (by decide))) hkp (fun k_ hk_ hs_ => (hk_.2) hs_)) (fun k_ hk_ => ⟨hk_.1.1.1, hk_.1.1.2⟩))
                have n3_ := Aside0.mk (Kd.R_mono (ok' := fun k_ => True) ho0 (fun k_ hk_ => trivial))
                have n4_ := Aside0.mk (hb)
                clear HO_3
                clear HO_5
                clear HO_6
                clear HB
                clear HO_7
                have HO_3 := n0_
                have HO_5 := n1_
                have HO_6 := n2_
                have HO200 := n3_
                have HB := n4_
                clear n0_ n1_ n2_ n3_ n4_
                (try clear hb)
                (try clear hkp)
                (try clear ho0)
                refine hK.out _ _ ⟨HS0_, HS1_⟩ (fun hHeld => ?_)
                clear hK K
                refine norm_ (a' := ?_) ?_ ?_
                rotate_left
                · show Act.put _ (some 136) _ = _
                  simp only [Act.put, List.setIfInBounds_toArray, List.set_cons_zero, List.set_cons_succ, i64_w, i32_w]
                  rfl
                refine pure_ (i := 8) (N := some 7) (v := ?_) (a' := ?_) #[true, true, true, true, true, true, true, true, true] rfl rfl (any_of HT_.out (by kernel_rfl)) (fun _ _ _ h => h) (Or.inl ⟨by rfl, ?_⟩) ?_ ?_
                rotate_left
                · intro w'
                  go_simp
                  with_reducible rfl
                rotate_left
                · simp only [Act.put, List.setIfInBounds_toArray, List.set_cons_zero, List.set_cons_succ, i64_w, i32_w]
                  rfl
                refine done_ (done_of HT_.out (by kernel_rfl)) ?_
                obtain ⟨Ao64, co64, eo64⟩ := Kd.R_slice HO200.out
                subst eo64
                try go_wp2_with (first | ((with_reducible refine gate_dst (N := 141) rfl ?_); refine Kd.R_make (Kd.int .u8) _ 5 rfl (N := 141) rfl 40 _ _ rfl ji57 rfl rfl Try.underlying40 (.int .u8 0) 1 info5 rfl (by decide) (by omega) 0 (ok := fun _ => True) (okp := fun _ => True) rfl (fun _ hk => hk) trivial (of_decide_eq_true (by first | (with_reducible assumption) | assumption)) (Nat.le_trans (Nat.mul_le_mul_right _ (of_decide_eq_true (by first | (with_reducible assumption) | assumption) : ji57.toNat ≤ 281474976710656)) (by omega)) (Below.refl _ _) (Nat.le_refl _) ?_; intro v202 w65 ho66 hb hg_ hnew_; clear hg_ hnew_; (first | rw [← Ny201.out] at ho66 | (simp only [Int.reduceToNat] at ho66; rw [← Ny201.out] at ho66)); have n0_ := Aside0.mk (Kd.R_below (by (with_reducible repeat (first | apply Kd.R_alloc | apply Kd.R_drewN | apply Kd.R_drew)); exact HO_3.out) hb); have n1_ := Aside0.mk (Kd.R_below (by (with_reducible repeat (first | apply Kd.R_alloc | apply Kd.R_drewN | apply Kd.R_drew)); exact HO_5.out) hb); have n2_ := Aside0.mk (Kd.R_below (by (with_reducible repeat (first | apply Kd.R_alloc | apply Kd.R_drewN | apply Kd.R_drew)); exact HO_6.out) hb); have n3_ := Aside0.mk (Kd.R_elder' (by (with_reducible repeat (first | apply Kd.R_alloc | apply Kd.R_drewN | apply Kd.R_drew)); exact HO200.out) (Kd.R_base ho66) hb); have n4_ := Aside0.mk (Kd.R_lower (Kd.R_new' ho66 (Kd.R_lt (by (with_reducible repeat (first | apply Kd.R_alloc | apply Kd.R_drewN | apply Kd.R_drew)); exact HO200.out))) (below_size (by repeat (first | (with_reducible first | exact HB.out | apply below_alloc | apply pw_below_drewN | apply below_drew1) | exact HB.out)))); have n5_ := Aside0.mk (below_step (by repeat (first | (with_reducible first | exact HB.out | apply below_alloc | apply pw_below_drewN | apply below_drew1) | exact HB.out)) hb); clear HO_3; clear HO_5; clear HO_6; clear HO200; clear HB; have HO_3 := n0_; have HO_5 := n1_; have HO_6 := n2_; have HO200 := n3_; have HO203 := n4_; have HB := n5_; clear n0_ n1_ n2_ n3_ n4_ n5_; clear hb ho66))
                go_loopg [22] k1 (fun kq v22 w' => ∃ (x21_2 : List Int) (x22_2 : Int), v22 = .int .i64 x22_2 ∧ Aside0 (celluloidref06_Raw.l3 kq t198 x21_2 x22_2 = some r) ∧ Aside0 (kq ≤ k1) ∧ Aside0 (Kd.R (Kd.int .u8) 5 w' w.heap.size (fun k_ => some k_ ≠ (v202 : Value).ownBlock) (.slice Ao64 t198.length co64) t198) ∧ Aside0 (Kd.R (Kd.int .u8) 5 w' w.heap.size (fun k_ => some k_ ≠ ((.slice Ao64 t198.length co64) : Value).ownBlock) v202 x21_2) ∧ Aside0 (Below w.heap.size w w'))
                case atStart => exact ⟨(y201), (0), (by first | rfl | (simp; done) | (simp [*]; done)), H', ⟨Nat.le_refl _⟩, ⟨by (with_reducible repeat (first | apply Kd.R_alloc | apply Kd.R_drewN | apply Kd.R_drew)); exact Kd.R_mono HO200.out (fun _ hk => hk.2)⟩, ⟨by (with_reducible repeat (first | apply Kd.R_alloc | apply Kd.R_drewN | apply Kd.R_drew)); exact Kd.R_mono HO203.out (fun _ hk => hk.2)⟩, ⟨by repeat (first | (with_reducible first | exact HB.out | apply below_alloc | apply pw_below_drewN | apply below_drew1) | exact HB.out)⟩⟩
                case round =>
                  clear H'
                  try clear c1
                  try clear p1
                  try clear q1
                  try clear hx1
                  try clear qi1
                  try clear c2
                  try clear p2
                  try clear c3
                  try clear c4
                  try clear c5
                  try clear c6
                  try clear p6
                  try clear c7
                  try clear c12
                  try clear c12b0
                  try clear c14
                  try clear c14b0
                  try clear c14b1
                  try clear c15
                  try clear c15b0
                  try clear p16
                  try clear q16
                  try clear hx16
                  try clear p17
                  try clear q17
                  try clear hx17
                  try clear c18
                  try clear c18b0
                  try clear p18
                  try clear q18
                  try clear hx18
                  try clear c19
                  try clear c19b0
                  try clear p19
                  try clear q19
                  try clear hx19
                  try clear qi19
                  try clear c20
                  try clear c20b0
                  try clear c26
                  try clear c26b0
                  try clear c28
                  try clear c28b0
                  try clear c29
                  try clear c30
                  try clear c30b0
                  try clear c31
                  try clear c31b0
                  try clear c32
                  try clear c32b0
                  try clear c38
                  try clear c41
                  try clear c41b0
                  try clear c43
                  try clear c43b0
                  try clear c45
                  try clear c45b0
                  try clear c46
                  try clear c46b0
                  try clear c54
                  try clear c54b0
                  try clear c54b1
                  try clear c55
                  try clear c55b0
                  try clear c55b1
                  try clear c58
                  try clear c58b0
                  try clear c58b1
                  try clear c59
                  try clear c59b0
                  try clear c59b1
                  try clear p64
                  try clear hx168_0
                  try clear hx169_0
                  try clear hx177_0
                  try clear hx178_0
                  try clear hx189_0
                  try clear hx196_0
                  try clear hx197_0
                  try clear p1
                  try clear p16
                  try clear p168
                  try clear p169
                  try clear p17
                  try clear p177
                  try clear p178
                  try clear p189
                  try clear p196
                  try clear p197
                  try clear p2
                  try clear p6
                  try clear q1
                  try clear q16
                  try clear q168
                  try clear q169
                  try clear q17
                  try clear q177
                  try clear q178
                  try clear q189
                  try clear q196
                  try clear q197
                  obtain ⟨x21_2, x22_2, rfl, HA, HK2, HO_7, HO_21, HB⟩ := hrel
                  cases gk with
                  | zero => exact absurd HA.out (by simp [celluloidref06_Raw.l3])
                  | succ k2 =>
                    have H := HA.out
                    clear HA
                    simp only [celluloidref06_Raw.l3] at H
                    by_cases c67 : x22_2 < (t198.length : Int)
                    · rw [if_pos c67] at H
                      have c67b0 : decide (x22_2 < (t198.length : Int)) = true := decide_eq_true c67
                      clear c67
                      by_cases c68 : 0 ≤ x22_2
                      · rw [if_pos c68] at H
                        have c68b0 : decide (0 ≤ x22_2) = true := decide_eq_true c68
                        clear c68
                        have H' := Aside0.mk H
                        clear H
                        have p204 : 0 ≤ (x22_2 : Int) := of_decide_eq_true (by first | (with_reducible assumption) | assumption)
                        have q204 : x22_2 < (t198.length : Int) := of_decide_eq_true (by first | (with_reducible assumption) | assumption)
                        obtain ⟨ad204, e204, hx204_0⟩ := Kd.at_int (Kd.R_reads' HO_7.out).2.2 x22_2 p204 q204
                        cases e204
                        replace p204 := eq_true p204
                        replace q204 := eq_true q204
                        go_wp2
                        go_loopg [23, 24] k2 (fun kq v23 v24 w' => ∃ (x23_3 : Int) (x24_3 : Int), v23 = .int .u8 x23_3 ∧ v24 = .int .i64 x24_3 ∧ Aside0 (celluloidref06_Raw.l4 kq t198 x21_2 x22_2 x23_3 x24_3 = some r) ∧ Aside0 (kq ≤ k2) ∧ Aside0 (Kd.R (Kd.int .u8) 5 w' w.heap.size (fun k_ => some k_ ≠ (v202 : Value).ownBlock) (.slice (some ad204) t198.length co64) t198) ∧ Aside0 (Kd.R (Kd.int .u8) 5 w' w.heap.size (fun k_ => some k_ ≠ ((.slice (some ad204) t198.length co64) : Value).ownBlock) v202 x21_2) ∧ Aside0 (Below w.heap.size w w'))
                        case atStart => exact ⟨(rd t198 x22_2), (0), (by first | rfl | (simp; done) | (simp [*]; done)), (by first | rfl | (simp; done) | (simp [*]; done)), H', ⟨Nat.le_refl _⟩, ⟨by (with_reducible repeat (first | apply Kd.R_alloc | apply Kd.R_drewN | apply Kd.R_drew)); exact HO_7.out⟩, ⟨by (with_reducible repeat (first | apply Kd.R_alloc | apply Kd.R_drewN | apply Kd.R_drew)); exact HO_21.out⟩, ⟨by repeat (first | (with_reducible first | exact HB.out | apply below_alloc | apply pw_below_drewN | apply below_drew1) | exact HB.out)⟩⟩
                        case round =>
                          clear H'
                          try clear c1
                          try clear p1
                          try clear q1
                          try clear hx1
                          try clear qi1
                          try clear c2
                          try clear p2
                          try clear q2
                          try clear hx2
                          try clear c3
                          try clear c4
                          try clear c5
                          try clear c6
                          try clear p6
                          try clear c7
                          try clear c12
                          try clear c12b0
                          try clear c14
                          try clear c14b0
                          try clear c14b1
                          try clear c15
                          try clear c15b0
                          try clear p16
                          try clear q16
                          try clear hx16
                          try clear p17
                          try clear q17
                          try clear hx17
                          try clear c18
                          try clear c18b0
                          try clear p18
                          try clear q18
                          try clear hx18
                          try clear c19
                          try clear c19b0
                          try clear p19
                          try clear q19
                          try clear hx19
                          try clear qi19
                          try clear c20
                          try clear c20b0
                          try clear p20
                          try clear q20
                          try clear hx20
                          try clear c26
                          try clear c26b0
                          try clear c28
                          try clear c28b0
                          try clear c29
                          try clear c30
                          try clear c30b0
                          try clear c31
                          try clear c31b0
                          try clear c32
                          try clear c32b0
                          try clear c38
                          try clear c41
                          try clear c41b0
                          try clear c43
                          try clear c43b0
                          try clear c45
                          try clear c45b0
                          try clear c46
                          try clear c46b0
                          try clear c54
                          try clear c54b0
                          try clear c54b1
                          try clear c55
                          try clear c55b0
                          try clear c55b1
                          try clear c58
                          try clear c58b0
                          try clear c58b1
                          try clear c59
                          try clear c59b0
                          try clear c59b1
                          try clear p64
                          try clear c67
                          try clear c67b0
                          try clear c68
                          try clear c68b0
                          try clear hx168_0
                          try clear hx169_0
                          try clear hx177_0
                          try clear hx178_0
                          try clear hx189_0
                          try clear hx196_0
                          try clear hx197_0
                          try clear hx204_0
                          try clear p1
                          try clear p16
                          try clear p168
                          try clear p169
                          try clear p17
                          try clear p177
                          try clear p178
                          try clear p18
                          try clear p189
                          try clear p19
                          try clear p196
                          try clear p197
                          try clear p2
                          try clear p204
                          try clear p6
                          try clear p64
                          try clear q1
                          try clear q16
                          try clear q168
                          try clear q169
                          try clear q17
                          try clear q177
                          try clear q178
                          try clear q18
                          try clear q189
                          try clear q19
                          try clear q196
                          try clear q197
                          try clear q204
                          obtain ⟨x23_3, x24_3, rfl, rfl, HA, HK3, HO_7, HO_21, HB⟩ := hrel
                          cases gk with
                          | zero => exact absurd HA.out (by simp [celluloidref06_Raw.l4])
                          | succ k3 =>
                            have H := HA.out
                            clear HA
                            simp only [celluloidref06_Raw.l4] at H
                            by_cases c69 : x24_3 < (Int.tmod x22_2 8)
                            · rw [if_pos c69] at H
                              have c69b0 : decide (x24_3 < (Int.tmod x22_2 8)) = true := decide_eq_true c69
                              clear c69
                              have H' := Aside0.mk H
                              clear H
                              go_wp2
                              go_roundg k3
                              case measure => have := HK1.out; have := HK2.out; have := HK3.out; omega
                              case rel => exact ⟨((x23_3 * 2) % 256), (wrap64 (x24_3 + 1)), (by first | rfl | (simp; done) | (simp [*]; done)), (by first | rfl | (simp; done) | (simp [*]; done)), H', ⟨by have := HK1.out; have := HK2.out; have := HK3.out; omega⟩, ⟨by (with_reducible repeat (first | apply Kd.R_alloc | apply Kd.R_drewN | apply Kd.R_drew)); exact HO_7.out⟩, ⟨by (with_reducible repeat (first | apply Kd.R_alloc | apply Kd.R_drewN | apply Kd.R_drew)); exact HO_21.out⟩, ⟨by repeat (first | (with_reducible first | exact HB.out | apply below_alloc | apply pw_below_drewN | apply below_drew1) | exact HB.out)⟩⟩
                            · rw [if_neg c69] at H
                              have c69b0 : decide (x24_3 < (Int.tmod x22_2 8)) = false := decide_eq_false c69
                              clear c69
                              obtain ⟨ji70, hji70⟩ : ∃ j_ : Int, (wrap64 (Int.tdiv x22_2 8)) = j_ := ⟨_, rfl⟩
                              replace H : (if 0 ≤ (ji70) then (if (ji70) < (x21_2.length : Int) then (celluloidref06_Raw.l3 k3 t198 (x21_2.set ((ji70) : Int).toNat (((rd x21_2 (ji70)) + x23_3) % 256)) (wrap64 (x22_2 + 1))) else (none)) else (none)) = some r := by first | (rw [hji70] at H; exact H) | (simp only [hji70] at H ⊢; exact H)
                              have hji70w : (IntKind.i64.wrap (Int.tdiv x22_2 8)) = ji70 := (i64_w _).trans hji70
                              by_cases c71 : 0 ≤ (ji70)
                              · rw [if_pos c71] at H
                                have c71b0 : decide (0 ≤ (ji70)) = true := decide_eq_true c71
                                clear c71
                                by_cases c72 : (ji70) < (x21_2.length : Int)
                                · rw [if_pos c72] at H
                                  have c72b0 : decide ((ji70) < (x21_2.length : Int)) = true := decide_eq_true c72
                                  clear c72
                                  obtain ⟨y206, hy206⟩ : ∃ y_ : List Int, y_ = (x21_2.set ((ji70) : Int).toNat (((rd x21_2 (ji70)) + x23_3) % 256)) := ⟨_, rfl⟩
                                  replace H : (celluloidref06_Raw.l3 k3 t198 y206 (wrap64 (x22_2 + 1))) = some r := by first | (rw [hy206]; with_reducible exact H) | (have H2_ := (Option.bind_some _ _).symm.trans H; rw [hy206]; with_reducible exact H2_) | (have H2_ := (Option.bind_some _ _).symm.trans H; with_reducible exact H2_) | with_reducible exact H | (rw [hy206]; exact H) | exact H
                                  have Ny206 := Aside0.mk hy206
                                  clear hy206
                                  have H' := Aside0.mk H
                                  clear H
                                  obtain ⟨Ao74, co74, eo74⟩ := Kd.R_slice HO_21.out
                                  subst eo74
                                  have p205 : 0 ≤ ((ji70) : Int) := of_decide_eq_true (by first | (with_reducible assumption) | assumption)
                                  have q205 : (ji70) < (x21_2.length : Int) := of_decide_eq_true (by first | (with_reducible assumption) | assumption)
                                  obtain ⟨ad205, e205, hx205_0⟩ := Kd.at_int (Kd.R_reads' HO_21.out).2.2 (ji70) p205 q205
                                  cases e205
                                  replace p205 := eq_true p205
                                  replace q205 := eq_true q205
                                  have p73 : 0 ≤ ((ji70) : Int) := of_decide_eq_true (by first | (with_reducible assumption) | assumption)
                                  have q73 : ((ji70) : Int) < ((x21_2.length : Int) : Int) := of_decide_eq_true (by first | (with_reducible assumption) | assumption)
                                  obtain ⟨go73, co73, eo73, gb73, gl73, cl73, HG73⟩ := Kd.R_form HO_21.out (by omega)
                                  (first | cases eo73 | (injection eo73 with ea_ en_ ec_; (first | subst ea_ | (injection ea_ with ea_; subst ea_)); subst ec_; clear en_))
                                  have GB73 := Aside0.mk gb73
                                  have GG73 := Aside0.mk HG73
                                  clear gb73 gl73 HG73
                                  (first | simp only [add_plain] at hx205_0 | skip)
                                  obtain ⟨hx73_0, hf73_0⟩ := Kd.R_celln 0 HO_21.out ((ji70) : Int) p73 q73
                                  replace p73 := eq_true p73
                                  replace q73 := eq_true q73
                                  have HP75 := Kd.R_putg HO_21.out ((ji70) : Int) (((rd x21_2 (ji70)) + x23_3) % 256)
                                  go_wp2_with (first | ((with_reducible refine gate_store (t := 5) (p := 167) rfl ?_); refine store_event (t := 5) (p := 167) (v := ?vo_w76) (w1 := (wr.setCell ⟨go73, ((ji70) : Int).toNat, none⟩ (.int .u8 (((rd x21_2 (ji70)) + x23_3) % 256)))) ?hg ?ho ?hn ?hr ?_; (case ho => rfl); (case hg => rfl); (case hn => rfl); (case hr => first | (go_simp; done) | (go_simp; rfl)); intro w76 hw; have hg : wr.grownBy w76 (some go73) := (by rw [hw]; exact HP75.2); have hp_ : Kd.R (Kd.int .u8) 5 w76 w.heap.size (fun k_ => some k_ ≠ (.slice (some ad204) t198.length co64 : Value).ownBlock) (.slice (some ⟨go73, 0, none⟩) x21_2.length co74) y206 := (by rw [hw, Ny206.out]; exact HP75.1); clear HP75; have n0_ := Aside0.mk (Kd.R_after (v := (.slice (some ⟨go73, 0, none⟩) x21_2.length co74)) (v1 := (.slice (some ⟨go73, 0, none⟩) x21_2.length co74)) (ok := (fun _ => True)) (by (with_reducible repeat (first | apply Kd.R_alloc | apply Kd.R_drewN | apply Kd.R_drew)); exact Kd.R_mono HO_7.out (fun _ hk => ⟨trivial, hk⟩)) hg (.inl rfl)); have n1_ := Aside0.mk (hp_); have n2_ := Aside0.mk ((by rw [hw]; exact below_set (HB.out) GB73.out : Below w.heap.size w w76)); clear HO_7; clear HO_21; clear HB; have HO_7 := n0_; have HO_21 := n1_; have HB := n2_; clear n0_ n1_ n2_; clear hg hw hp_))
                                  go_roundg k3
                                  case measure => have := HK1.out; have := HK2.out; have := HK3.out; omega
                                  case rel => exact ⟨(y206), (wrap64 (x22_2 + 1)), (by first | rfl | (simp; done) | (simp [*]; done)), H', ⟨by have := HK1.out; have := HK2.out; have := HK3.out; omega⟩, ⟨by (with_reducible repeat (first | apply Kd.R_alloc | apply Kd.R_drewN | apply Kd.R_drew)); exact Kd.R_mono HO_7.out (fun _ hk => hk.2)⟩, ⟨by (with_reducible repeat (first | apply Kd.R_alloc | apply Kd.R_drewN | apply Kd.R_drew)); exact HO_21.out⟩, ⟨by repeat (first | (with_reducible first | exact HB.out | apply below_alloc | apply pw_below_drewN | apply below_drew1) | exact HB.out)⟩⟩
                                · rw [if_neg c72] at H
                                  exact absurd H (by simp)
                              · rw [if_neg c71] at H
                                exact absurd H (by simp)
                      · rw [if_neg c68] at H
                        exact absurd H (by simp)
                    · rw [if_neg c67] at H
                      have c67b0 : decide (x22_2 < (t198.length : Int)) = false := decide_eq_false c67
                      clear c67
                      obtain rfl := Option.some.inj H
                      have hcv77 := own_string (P := Try.prog) Try.underlying40 Try.underlying5 Try.underlying9 (Kd.own_of_R HO_21.out)
                      go_wp2
                      go_ret
                      exact ⟨by first | rfl | (simp [errW_none, errW_some] <;> rfl) | (simp only [← hji57]; first | rfl | (simp [errW_none, errW_some] <;> rfl)) | (simp [*, errW_none, errW_some] <;> rfl), by repeat (first | (with_reducible first | exact HB.out | apply below_alloc | apply pw_below_drewN | apply below_drew1) | exact HB.out)⟩
              · rw [if_neg c59] at H
                exact absurd H (by simp)
            · rw [if_neg c58] at H
              exact absurd H (by simp)
          · rw [if_neg c55] at H
            exact absurd H (by simp)
        · rw [if_neg c54] at H
          exact absurd H (by simp)

end Go.Proofs.Ytpbhkdamkbopkaa.GDefl
