-- Written by a program of this session (wip/tools/print2.py) for this claim.
import Derived.Test.YtdkiglaidbahmaaGCanx0
import Derived.Test.YtdkiglaidbahmaaGCanx1
import Derived.Test.YtdkiglaidbahmaaGCanx2
import Derived.Test.YtdkiglaidbahmaaGCanx3
namespace Go.Proofs.Ytdkiglaidbahmaa.GCan
open Go.RowKit Go.Proofs.YtdkiglaidbahmaaW.PrintWords Go.Proofs.YtdkiglaidbahmaaW.PrintLast Go.Proofs.YtdkiglaidbahmaaW.PrintMore Go.Proofs.Ytdkiglaidbahmaa.PCanvasLays Go.Proofs.Ytdkiglaidbahmaa.Ext
attribute [local go_sem] max2_int min2_int max_two min_two max_three min_three max_four min_four   -- for this text's walks alone
set_option linter.unusedVariables false
set_option linter.unusedSimpArgs false

attribute [local go_sem high] eqA23
/-! ### celluloidlaw21_CanvasNews: function 3 -/
mutual
def celluloidlaw21_CanvasNews.j0 : Nat → Int → Int → Int → Int → Int → Bool → Int → Int → Int → Int → Int → Int → List (S23) → Option (Bool)
  | 0, _, _, _, _, _, _, _, _, _, _, _, _, _ => none
  | k + 1, x0, x1, x3, x4, x12, x40, x155000, x155001, x155002, x155003, x162000, x162001, x162002 => if x40 = true then (if x12 = 1 then (if (x162002.length : Int) = 0 then ((celluloidlaw21_awake.f k).bind fun t163 => (some t163)) else (some false)) else (some false)) else (if x12 = 0 then (if x162000 = x0 then (if x162001 = x1 then (if (x162002.length : Int) = (wrap64 (x0 * x1)) then ((canvas_Right.f k x162000 x162001 x162002).bind fun t164 => (celluloidlaw21_CanvasNews.j1 k x0 x1 x3 x4 (!t164) x155000 x155001 x155002 x155003 x162000 x162001 x162002)) else (celluloidlaw21_CanvasNews.j1 k x0 x1 x3 x4 true x155000 x155001 x155002 x155003 x162000 x162001 x162002)) else (celluloidlaw21_CanvasNews.j1 k x0 x1 x3 x4 true x155000 x155001 x155002 x155003 x162000 x162001 x162002)) else (celluloidlaw21_CanvasNews.j1 k x0 x1 x3 x4 true x155000 x155001 x155002 x155003 x162000 x162001 x162002)) else (celluloidlaw21_CanvasNews.j1 k x0 x1 x3 x4 true x155000 x155001 x155002 x155003 x162000 x162001 x162002))
def celluloidlaw21_CanvasNews.j1 : Nat → Int → Int → Int → Int → Bool → Int → Int → Int → Int → Int → Int → List (S23) → Option (Bool)
  | 0, _, _, _, _, _, _, _, _, _, _, _, _ => none
  | k + 1, x0, x1, x3, x4, x79, x155000, x155001, x155002, x155003, x162000, x162001, x162002 => if x79 = true then (some false) else (celluloidlaw21_CanvasNews.l0 k x0 x1 x3 x4 (x162002.length : Int) 0 x155000 x155001 x155002 x155003 x162000 x162001 x162002)
def celluloidlaw21_CanvasNews.l0 : Nat → Int → Int → Int → Int → Int → Int → Int → Int → Int → Int → Int → Int → List (S23) → Option (Bool)
  | 0, _, _, _, _, _, _, _, _, _, _, _, _, _ => none
  | k + 1, x0, x1, x3, x4, x82, x83, x155000, x155001, x155002, x155003, x162000, x162001, x162002 => if x83 < x82 then (if 0 ≤ x83 then (if x83 < (x162002.length : Int) then (if (!(((rd_T23 x162002 x83).f0) == x155000) || (!(((rd_T23 x162002 x83).f1) == x155001) || (!(((rd_T23 x162002 x83).f2) == x155002) || (!(((rd_T23 x162002 x83).f3) == x155003))))) = true then (some false) else (celluloidlaw21_CanvasNews.l0 k x0 x1 x3 x4 x82 (wrap64 (x83 + 1)) x155000 x155001 x155002 x155003 x162000 x162001 x162002)) else (none)) else (none)) else (if x3 < 0 then (celluloidlaw21_CanvasNews.j3 k x3 x4 true x162000 x162001 x162002 x155000 x155001 x155002 x155003) else (if x3 ≥ x0 then (celluloidlaw21_CanvasNews.j3 k x3 x4 true x162000 x162001 x162002 x155000 x155001 x155002 x155003) else (if x4 < 0 then (celluloidlaw21_CanvasNews.j3 k x3 x4 true x162000 x162001 x162002 x155000 x155001 x155002 x155003) else (celluloidlaw21_CanvasNews.j3 k x3 x4 (decide (x4 ≥ x1)) x162000 x162001 x162002 x155000 x155001 x155002 x155003))))
def celluloidlaw21_CanvasNews.j3 : Nat → Int → Int → Bool → Int → Int → List (S23) → Int → Int → Int → Int → Option (Bool)
  | 0, _, _, _, _, _, _, _, _, _, _ => none
  | k + 1, x3, x4, x110, x162000, x162001, x162002, x167000, x167001, x167002, x167003 => if x110 = true then (celluloidlaw21_CanvasNews.j4 k x3 x4 x162000 x162001 x162002 0 0 0 0) else (celluloidlaw21_CanvasNews.j4 k x3 x4 x162000 x162001 x162002 x167000 x167001 x167002 x167003)
def celluloidlaw21_CanvasNews.j4 : Nat → Int → Int → Int → Int → List (S23) → Int → Int → Int → Int → Option (Bool)
  | 0, _, _, _, _, _, _, _, _, _ => none
  | k + 1, x3, x4, x162000, x162001, x162002, x167000, x167001, x167002, x167003 => (canvas_At.f k x162000 x162001 x162002 x3 x4).bind fun bt167 => (if (bt167.1 == x167000 && (bt167.2.1 == x167001 && (bt167.2.2.1 == x167002 && (bt167.2.2.2 == x167003)))) = true then ((celluloidlaw21_awake.f k).bind fun t171 => (some t171)) else (some false))
end
def celluloidlaw21_CanvasNews.f (k : Nat) (a0 : Int) (a1 : Int) (a2_0 : Int) (a2_1 : Int) (a2_2 : Int) (a2_3 : Int) (a3 : Int) (a4 : Int) : Option (Bool) := (canvas_New.f k a0 a1 a2_0 a2_1 a2_2 a2_3).bind fun bt155 => (if a0 < 1 then (celluloidlaw21_CanvasNews.j0 k a0 a1 a3 a4 bt155.2.2.2 true a2_0 a2_1 a2_2 a2_3 bt155.1 bt155.2.1 bt155.2.2.1) else (if a0 > 256 then (celluloidlaw21_CanvasNews.j0 k a0 a1 a3 a4 bt155.2.2.2 true a2_0 a2_1 a2_2 a2_3 bt155.1 bt155.2.1 bt155.2.2.1) else (if a1 < 1 then (celluloidlaw21_CanvasNews.j0 k a0 a1 a3 a4 bt155.2.2.2 true a2_0 a2_1 a2_2 a2_3 bt155.1 bt155.2.1 bt155.2.2.1) else (if a1 > 256 then (celluloidlaw21_CanvasNews.j0 k a0 a1 a3 a4 bt155.2.2.2 true a2_0 a2_1 a2_2 a2_3 bt155.1 bt155.2.1 bt155.2.2.1) else ((celluloidref21_Faint.f k a2_0 a2_1 a2_2 a2_3).bind fun t162 => (celluloidlaw21_CanvasNews.j0 k a0 a1 a3 a4 bt155.2.2.2 (!t162) a2_0 a2_1 a2_2 a2_3 bt155.1 bt155.2.1 bt155.2.2.1))))))
theorem celluloidlaw21_CanvasNews.mono_l : ∀ k, (∀ y0 y1 y2 y3 y4 y5 y6 y7 y8 y9 y10 y11 y12, LeO (celluloidlaw21_CanvasNews.j0 k y0 y1 y2 y3 y4 y5 y6 y7 y8 y9 y10 y11 y12) (celluloidlaw21_CanvasNews.j0 (k + 1) y0 y1 y2 y3 y4 y5 y6 y7 y8 y9 y10 y11 y12)) ∧ (∀ y0 y1 y2 y3 y4 y5 y6 y7 y8 y9 y10 y11, LeO (celluloidlaw21_CanvasNews.j1 k y0 y1 y2 y3 y4 y5 y6 y7 y8 y9 y10 y11) (celluloidlaw21_CanvasNews.j1 (k + 1) y0 y1 y2 y3 y4 y5 y6 y7 y8 y9 y10 y11)) ∧ (∀ y0 y1 y2 y3 y4 y5 y6 y7 y8 y9 y10 y11 y12, LeO (celluloidlaw21_CanvasNews.l0 k y0 y1 y2 y3 y4 y5 y6 y7 y8 y9 y10 y11 y12) (celluloidlaw21_CanvasNews.l0 (k + 1) y0 y1 y2 y3 y4 y5 y6 y7 y8 y9 y10 y11 y12)) ∧ (∀ y0 y1 y2 y3 y4 y5 y6 y7 y8 y9, LeO (celluloidlaw21_CanvasNews.j3 k y0 y1 y2 y3 y4 y5 y6 y7 y8 y9) (celluloidlaw21_CanvasNews.j3 (k + 1) y0 y1 y2 y3 y4 y5 y6 y7 y8 y9)) ∧ (∀ y0 y1 y2 y3 y4 y5 y6 y7 y8, LeO (celluloidlaw21_CanvasNews.j4 k y0 y1 y2 y3 y4 y5 y6 y7 y8) (celluloidlaw21_CanvasNews.j4 (k + 1) y0 y1 y2 y3 y4 y5 y6 y7 y8))
  | 0 => ⟨fun _ _ _ _ _ _ _ _ _ _ _ _ _ r h => by simp [celluloidlaw21_CanvasNews.j0] at h, fun _ _ _ _ _ _ _ _ _ _ _ _ r h => by simp [celluloidlaw21_CanvasNews.j1] at h, fun _ _ _ _ _ _ _ _ _ _ _ _ _ r h => by simp [celluloidlaw21_CanvasNews.l0] at h, fun _ _ _ _ _ _ _ _ _ _ r h => by simp [celluloidlaw21_CanvasNews.j3] at h, fun _ _ _ _ _ _ _ _ _ r h => by simp [celluloidlaw21_CanvasNews.j4] at h⟩
  | k + 1 => by
    obtain ⟨ih0, ih1, ih2, ih3, ih4⟩ := celluloidlaw21_CanvasNews.mono_l k
    refine ⟨?_, ?_, ?_, ?_, ?_⟩
    · intro y0 y1 y2 y3 y4 y5 y6 y7 y8 y9 y10 y11 y12
      unfold celluloidlaw21_CanvasNews.j0
      repeat' first
      | (with_reducible exact ih0 _ _ _ _ _ _ _ _ _ _ _ _ _)
      | (with_reducible exact ih1 _ _ _ _ _ _ _ _ _ _ _ _)
      | (with_reducible exact ih2 _ _ _ _ _ _ _ _ _ _ _ _ _)
      | (with_reducible exact ih3 _ _ _ _ _ _ _ _ _ _)
      | (with_reducible exact ih4 _ _ _ _ _ _ _ _ _)
      | (with_reducible exact canvas_At.mono _ _ _ _ _ _)
      | (with_reducible exact canvas_New.mono _ _ _ _ _ _ _)
      | (with_reducible exact canvas_Right.mono _ _ _ _)
      | (with_reducible exact celluloidlaw21_awake.mono _)
      | (with_reducible exact celluloidref21_Faint.mono _ _ _ _ _)
      | (with_reducible exact LeO.refl _)
      | (with_reducible exact LeO.none _)
      | (with_reducible refine LeO.ite ?_ ?_)
      | (with_reducible refine LeO.bind ?_ (fun _ => ?_))
      | exact ih0 _ _ _ _ _ _ _ _ _ _ _ _ _
      | exact ih1 _ _ _ _ _ _ _ _ _ _ _ _
      | exact ih2 _ _ _ _ _ _ _ _ _ _ _ _ _
      | exact ih3 _ _ _ _ _ _ _ _ _ _
      | exact ih4 _ _ _ _ _ _ _ _ _
      | exact canvas_At.mono _ _ _ _ _ _
      | exact canvas_New.mono _ _ _ _ _ _ _
      | exact canvas_Right.mono _ _ _ _
      | exact celluloidlaw21_awake.mono _
      | exact celluloidref21_Faint.mono _ _ _ _ _
      | exact LeO.none _
      | refine LeO.ite ?_ ?_
      | refine LeO.bind ?_ (fun _ => ?_)
    · intro y0 y1 y2 y3 y4 y5 y6 y7 y8 y9 y10 y11
      unfold celluloidlaw21_CanvasNews.j1
      repeat' first
      | (with_reducible exact ih0 _ _ _ _ _ _ _ _ _ _ _ _ _)
      | (with_reducible exact ih1 _ _ _ _ _ _ _ _ _ _ _ _)
      | (with_reducible exact ih2 _ _ _ _ _ _ _ _ _ _ _ _ _)
      | (with_reducible exact ih3 _ _ _ _ _ _ _ _ _ _)
      | (with_reducible exact ih4 _ _ _ _ _ _ _ _ _)
      | (with_reducible exact canvas_At.mono _ _ _ _ _ _)
      | (with_reducible exact canvas_New.mono _ _ _ _ _ _ _)
      | (with_reducible exact canvas_Right.mono _ _ _ _)
      | (with_reducible exact celluloidlaw21_awake.mono _)
      | (with_reducible exact celluloidref21_Faint.mono _ _ _ _ _)
      | (with_reducible exact LeO.refl _)
      | (with_reducible exact LeO.none _)
      | (with_reducible refine LeO.ite ?_ ?_)
      | (with_reducible refine LeO.bind ?_ (fun _ => ?_))
      | exact ih0 _ _ _ _ _ _ _ _ _ _ _ _ _
      | exact ih1 _ _ _ _ _ _ _ _ _ _ _ _
      | exact ih2 _ _ _ _ _ _ _ _ _ _ _ _ _
      | exact ih3 _ _ _ _ _ _ _ _ _ _
      | exact ih4 _ _ _ _ _ _ _ _ _
      | exact canvas_At.mono _ _ _ _ _ _
      | exact canvas_New.mono _ _ _ _ _ _ _
      | exact canvas_Right.mono _ _ _ _
      | exact celluloidlaw21_awake.mono _
      | exact celluloidref21_Faint.mono _ _ _ _ _
      | exact LeO.none _
      | refine LeO.ite ?_ ?_
      | refine LeO.bind ?_ (fun _ => ?_)
    · intro y0 y1 y2 y3 y4 y5 y6 y7 y8 y9 y10 y11 y12
      unfold celluloidlaw21_CanvasNews.l0
      repeat' first
      | (with_reducible exact ih0 _ _ _ _ _ _ _ _ _ _ _ _ _)
      | (with_reducible exact ih1 _ _ _ _ _ _ _ _ _ _ _ _)
      | (with_reducible exact ih2 _ _ _ _ _ _ _ _ _ _ _ _ _)
      | (with_reducible exact ih3 _ _ _ _ _ _ _ _ _ _)
      | (with_reducible exact ih4 _ _ _ _ _ _ _ _ _)
      | (with_reducible exact canvas_At.mono _ _ _ _ _ _)
      | (with_reducible exact canvas_New.mono _ _ _ _ _ _ _)
      | (with_reducible exact canvas_Right.mono _ _ _ _)
      | (with_reducible exact celluloidlaw21_awake.mono _)
      | (with_reducible exact celluloidref21_Faint.mono _ _ _ _ _)
      | (with_reducible exact LeO.refl _)
      | (with_reducible exact LeO.none _)
      | (with_reducible refine LeO.ite ?_ ?_)
      | (with_reducible refine LeO.bind ?_ (fun _ => ?_))
      | exact ih0 _ _ _ _ _ _ _ _ _ _ _ _ _
      | exact ih1 _ _ _ _ _ _ _ _ _ _ _ _
      | exact ih2 _ _ _ _ _ _ _ _ _ _ _ _ _
      | exact ih3 _ _ _ _ _ _ _ _ _ _
      | exact ih4 _ _ _ _ _ _ _ _ _
      | exact canvas_At.mono _ _ _ _ _ _
      | exact canvas_New.mono _ _ _ _ _ _ _
      | exact canvas_Right.mono _ _ _ _
      | exact celluloidlaw21_awake.mono _
      | exact celluloidref21_Faint.mono _ _ _ _ _
      | exact LeO.none _
      | refine LeO.ite ?_ ?_
      | refine LeO.bind ?_ (fun _ => ?_)
    · intro y0 y1 y2 y3 y4 y5 y6 y7 y8 y9
      unfold celluloidlaw21_CanvasNews.j3
      repeat' first
      | (with_reducible exact ih0 _ _ _ _ _ _ _ _ _ _ _ _ _)
      | (with_reducible exact ih1 _ _ _ _ _ _ _ _ _ _ _ _)
      | (with_reducible exact ih2 _ _ _ _ _ _ _ _ _ _ _ _ _)
      | (with_reducible exact ih3 _ _ _ _ _ _ _ _ _ _)
      | (with_reducible exact ih4 _ _ _ _ _ _ _ _ _)
      | (with_reducible exact canvas_At.mono _ _ _ _ _ _)
      | (with_reducible exact canvas_New.mono _ _ _ _ _ _ _)
      | (with_reducible exact canvas_Right.mono _ _ _ _)
      | (with_reducible exact celluloidlaw21_awake.mono _)
      | (with_reducible exact celluloidref21_Faint.mono _ _ _ _ _)
      | (with_reducible exact LeO.refl _)
      | (with_reducible exact LeO.none _)
      | (with_reducible refine LeO.ite ?_ ?_)
      | (with_reducible refine LeO.bind ?_ (fun _ => ?_))
      | exact ih0 _ _ _ _ _ _ _ _ _ _ _ _ _
      | exact ih1 _ _ _ _ _ _ _ _ _ _ _ _
      | exact ih2 _ _ _ _ _ _ _ _ _ _ _ _ _
      | exact ih3 _ _ _ _ _ _ _ _ _ _
      | exact ih4 _ _ _ _ _ _ _ _ _
      | exact canvas_At.mono _ _ _ _ _ _
      | exact canvas_New.mono _ _ _ _ _ _ _
      | exact canvas_Right.mono _ _ _ _
      | exact celluloidlaw21_awake.mono _
      | exact celluloidref21_Faint.mono _ _ _ _ _
      | exact LeO.none _
      | refine LeO.ite ?_ ?_
      | refine LeO.bind ?_ (fun _ => ?_)
    · intro y0 y1 y2 y3 y4 y5 y6 y7 y8
      unfold celluloidlaw21_CanvasNews.j4
      repeat' first
      | (with_reducible exact ih0 _ _ _ _ _ _ _ _ _ _ _ _ _)
      | (with_reducible exact ih1 _ _ _ _ _ _ _ _ _ _ _ _)
      | (with_reducible exact ih2 _ _ _ _ _ _ _ _ _ _ _ _ _)
      | (with_reducible exact ih3 _ _ _ _ _ _ _ _ _ _)
      | (with_reducible exact ih4 _ _ _ _ _ _ _ _ _)
      | (with_reducible exact canvas_At.mono _ _ _ _ _ _)
      | (with_reducible exact canvas_New.mono _ _ _ _ _ _ _)
      | (with_reducible exact canvas_Right.mono _ _ _ _)
      | (with_reducible exact celluloidlaw21_awake.mono _)
      | (with_reducible exact celluloidref21_Faint.mono _ _ _ _ _)
      | (with_reducible exact LeO.refl _)
      | (with_reducible exact LeO.none _)
      | (with_reducible refine LeO.ite ?_ ?_)
      | (with_reducible refine LeO.bind ?_ (fun _ => ?_))
      | exact ih0 _ _ _ _ _ _ _ _ _ _ _ _ _
      | exact ih1 _ _ _ _ _ _ _ _ _ _ _ _
      | exact ih2 _ _ _ _ _ _ _ _ _ _ _ _ _
      | exact ih3 _ _ _ _ _ _ _ _ _ _
      | exact ih4 _ _ _ _ _ _ _ _ _
      | exact canvas_At.mono _ _ _ _ _ _
      | exact canvas_New.mono _ _ _ _ _ _ _
      | exact canvas_Right.mono _ _ _ _
      | exact celluloidlaw21_awake.mono _
      | exact celluloidref21_Faint.mono _ _ _ _ _
      | exact LeO.none _
      | refine LeO.ite ?_ ?_
      | refine LeO.bind ?_ (fun _ => ?_)
theorem celluloidlaw21_CanvasNews.mono : ∀ a0 a1 a2 a3 a4 a5 a6 a7 k, LeO (celluloidlaw21_CanvasNews.f k a0 a1 a2 a3 a4 a5 a6 a7) (celluloidlaw21_CanvasNews.f (k + 1) a0 a1 a2 a3 a4 a5 a6 a7) := by
  intro a0 a1 a2 a3 a4 a5 a6 a7 k
  obtain ⟨ih0, ih1, ih2, ih3, ih4⟩ := celluloidlaw21_CanvasNews.mono_l k
  unfold celluloidlaw21_CanvasNews.f
  repeat' first
      | (with_reducible exact ih0 _ _ _ _ _ _ _ _ _ _ _ _ _)
      | (with_reducible exact ih1 _ _ _ _ _ _ _ _ _ _ _ _)
      | (with_reducible exact ih2 _ _ _ _ _ _ _ _ _ _ _ _ _)
      | (with_reducible exact ih3 _ _ _ _ _ _ _ _ _ _)
      | (with_reducible exact ih4 _ _ _ _ _ _ _ _ _)
      | (with_reducible exact canvas_At.mono _ _ _ _ _ _)
      | (with_reducible exact canvas_New.mono _ _ _ _ _ _ _)
      | (with_reducible exact canvas_Right.mono _ _ _ _)
      | (with_reducible exact celluloidlaw21_awake.mono _)
      | (with_reducible exact celluloidref21_Faint.mono _ _ _ _ _)
      | (with_reducible exact LeO.refl _)
      | (with_reducible exact LeO.none _)
      | (with_reducible refine LeO.ite ?_ ?_)
      | (with_reducible refine LeO.bind ?_ (fun _ => ?_))
      | exact ih0 _ _ _ _ _ _ _ _ _ _ _ _ _
      | exact ih1 _ _ _ _ _ _ _ _ _ _ _ _
      | exact ih2 _ _ _ _ _ _ _ _ _ _ _ _ _
      | exact ih3 _ _ _ _ _ _ _ _ _ _
      | exact ih4 _ _ _ _ _ _ _ _ _
      | exact canvas_At.mono _ _ _ _ _ _
      | exact canvas_New.mono _ _ _ _ _ _ _
      | exact canvas_Right.mono _ _ _ _
      | exact celluloidlaw21_awake.mono _
      | exact celluloidref21_Faint.mono _ _ _ _ _
      | exact LeO.none _
      | refine LeO.ite ?_ ?_
      | refine LeO.bind ?_ (fun _ => ?_)
def celluloidlaw21_CanvasNews.T15 : Bool × List (List Nat × List Nat) := (true, [([], []), ([], []), ([], []), ([0, 1, 2], [0, 1, 2]), ([], []), ([3, 4], [3, 4]), ([5, 3], [5]), ([6, 6], [6]), ([6, 7], [6, 7]), ([8, 7, 0, 1, 2, 3, 4, 5, 6, 7, 8], [8])])
def celluloidlaw21_CanvasNews.B15 : List Nat := [0, 0, 0, 7, 0, 31, 63, 127, 255, 511]
theorem celluloidlaw21_CanvasNews.tab15 : rtab .any (opsOf Try.f3 15) = celluloidlaw21_CanvasNews.T15 := by kernel_rfl
theorem celluloidlaw21_CanvasNews.bits15 : waitsOk celluloidlaw21_CanvasNews.T15.2 celluloidlaw21_CanvasNews.B15 = true := by kernel_rfl
theorem celluloidlaw21_CanvasNews.j1_dead (k : Nat) : ∀ y0 y1 y2 y3 y5 y6 y7 y8 y9 y10 y11, celluloidlaw21_CanvasNews.j1 k y0 y1 y2 y3 true y5 y6 y7 y8 y9 y10 y11 ≠ some true := by
  cases k <;> intros <;> simp [celluloidlaw21_CanvasNews.j1]
set_option maxHeartbeats 8000000 in
set_option maxRecDepth 100000 in
theorem celluloidlaw21_CanvasNews.calls (k : Nat) (a0 : Int) (a1 : Int) (a2_0 : Int) (a2_1 : Int) (a2_2 : Int) (a2_3 : Int) (a3 : Int) (a4 : Int) (r : Bool) (w : World) (h : celluloidlaw21_CanvasNews.f k a0 a1 a2_0 a2_1 a2_2 a2_3 a3 a4 = some r) (hr_ : Aside0 (r = true)) :
    Calls Try.prog 3 #[.int .i64 a0, .int .i64 a1, .agg #[.int .i64 a2_0, .int .i64 a2_1, .int .i64 a2_2, .int .i64 a2_3], .int .i64 a3, .int .i64 a4] w fun e w' => e = .returned (.bool r) ∧ Below w.heap.size w w' := by
  have hu23 := Try.underlying23
  have hu26 := Try.underlying26
  have HB := Aside0.mk (Below.refl w.heap.size w)
  have H : ((canvas_New.f k a0 a1 a2_0 a2_1 a2_2 a2_3).bind fun bt155 => (if a0 < 1 then (celluloidlaw21_CanvasNews.j0 k a0 a1 a3 a4 bt155.2.2.2 true a2_0 a2_1 a2_2 a2_3 bt155.1 bt155.2.1 bt155.2.2.1) else (if a0 > 256 then (celluloidlaw21_CanvasNews.j0 k a0 a1 a3 a4 bt155.2.2.2 true a2_0 a2_1 a2_2 a2_3 bt155.1 bt155.2.1 bt155.2.2.1) else (if a1 < 1 then (celluloidlaw21_CanvasNews.j0 k a0 a1 a3 a4 bt155.2.2.2 true a2_0 a2_1 a2_2 a2_3 bt155.1 bt155.2.1 bt155.2.2.1) else (if a1 > 256 then (celluloidlaw21_CanvasNews.j0 k a0 a1 a3 a4 bt155.2.2.2 true a2_0 a2_1 a2_2 a2_3 bt155.1 bt155.2.1 bt155.2.2.1) else ((celluloidref21_Faint.f k a2_0 a2_1 a2_2 a2_3).bind fun t162 => (celluloidlaw21_CanvasNews.j0 k a0 a1 a3 a4 bt155.2.2.2 (!t162) a2_0 a2_1 a2_2 a2_3 bt155.1 bt155.2.1 bt155.2.2.1))))))) = some r := h
  clear h
  replace H := Option.bind_eq_some_iff.mp H
  obtain ⟨⟨t155, t156, t157, t160⟩, A60, H⟩ := H
  replace H : (if a0 < 1 then (celluloidlaw21_CanvasNews.j0 k a0 a1 a3 a4 t160 true a2_0 a2_1 a2_2 a2_3 t155 t156 t157) else (if a0 > 256 then (celluloidlaw21_CanvasNews.j0 k a0 a1 a3 a4 t160 true a2_0 a2_1 a2_2 a2_3 t155 t156 t157) else (if a1 < 1 then (celluloidlaw21_CanvasNews.j0 k a0 a1 a3 a4 t160 true a2_0 a2_1 a2_2 a2_3 t155 t156 t157) else (if a1 > 256 then (celluloidlaw21_CanvasNews.j0 k a0 a1 a3 a4 t160 true a2_0 a2_1 a2_2 a2_3 t155 t156 t157) else ((celluloidref21_Faint.f k a2_0 a2_1 a2_2 a2_3).bind fun t162 => (celluloidlaw21_CanvasNews.j0 k a0 a1 a3 a4 t160 (!t162) a2_0 a2_1 a2_2 a2_3 t155 t156 t157)))))) = some r := H
  have A6 := Aside0.mk A60
  clear A60
  have HC7 := Aside0.mk H
  clear H
  go_enter Try.func3, Try.ntmps3
  go_upto_region 2 with (first | ((with_reducible refine gate_dst (N := 7) rfl ?_); (try (refine gate_guard (by rfl) ?_; dsimp only)); refine box_event ?hg (N := 7) ?hd (cs := #[.int .i64 a2_0, .int .i64 a2_1, .int .i64 a2_2, .int .i64 a2_3]) (t := 23) ?hr ?_; (case hd => rfl); (case hg => rfl); (case hr => first | (go_simp; done) | (go_simp; rfl)); intro gb154 hg w8 hbox hb; have n0_ := Aside0.mk (below_step (by repeat (first | (with_reducible first | exact HB.out | apply below_alloc | apply pw_below_drewN | apply below_drew1) | exact HB.out)) hb); have n1_ := Aside0.mk (hbox); have n2_ := Aside0.mk ((by rw [hg]; exact (below_size (by repeat (first | (with_reducible first | exact HB.out | apply below_alloc | apply pw_below_drewN | apply below_drew1) | exact HB.out))) : w.heap.size ≤ gb154)); have n3_ := Aside0.mk ((by rw [hg]; exact (below_size (by repeat (first | (with_reducible first | exact HB.out | apply below_alloc | apply pw_below_drewN | apply below_drew1) | exact HB.out))) : w.heap.size ≤ gb154)); clear HB; have HB := n0_; have BK154 := n1_; have GW154 := n2_; have GE154 := n3_; clear n0_ n1_ n2_ n3_; clear hb hbox hg; have hcz9_0 : w8.cell? ⟨gb154, 0, none⟩ = some (.int .i64 a2_0) := (blk_cell BK154.out 0).trans rfl; have hcz9_1 : w8.cell? ⟨gb154, 1, none⟩ = some (.int .i64 a2_1) := (blk_cell BK154.out 1).trans rfl; have hcz9_2 : w8.cell? ⟨gb154, 2, none⟩ = some (.int .i64 a2_2) := (blk_cell BK154.out 2).trans rfl; have hcz9_3 : w8.cell? ⟨gb154, 3, none⟩ = some (.int .i64 a2_3) := (blk_cell BK154.out 3).trans rfl; have hfz9_0 := blk_frozen BK154.out 0; have hfz9_1 := blk_frozen BK154.out 1; have hfz9_2 := blk_frozen BK154.out 2; have hfz9_3 := blk_frozen BK154.out 3) | ((with_reducible refine gate_callee (f := 9) rfl ?_); refine goesL_ (some 19) rfl rfl Try.func9 (by kernel_rfl) rfl #[.int .i64 a0, .int .i64 a1, .agg #[.int .i64 a2_0, .int .i64 a2_1, .int .i64 a2_2, .int .i64 a2_3]] rfl (by (try simp only [List.map_toArray, List.map_cons, List.map_nil]); first | done | rfl | (simp only [List.length_drop, List.length_take]; rfl)) ?_; (with_reducible refine (canvas_New.calls k a0 a1 a2_0 a2_1 a2_2 a2_3 t155 t156 t157 t160 _ A6.out).mono ?_); rintro e w10 ⟨v158, rfl, ho0, hb⟩; refine ⟨_, rfl, ?_⟩; have n0_ := Aside0.mk (Kd.R_lower (Kd.R_newB ho0 (g := gb154) (o := .cells #[.int .i64 a2_0, .int .i64 a2_1, .int .i64 a2_2, .int .i64 a2_3] 23 (0, 0)) (by (with_reducible repeat (first | refine blk_drewN ?_ _ | refine blk_drew ?_ | refine blk_alloc ?_ _)); exact BK154.out)) (below_size (by repeat (first | (with_reducible first | exact HB.out | apply below_alloc | apply pw_below_drewN | apply below_drew1 | refine below_set ?_ GE154.out) | exact HB.out)))); have n1_ := Aside0.mk (blk_below (g := gb154) (o := .cells #[.int .i64 a2_0, .int .i64 a2_1, .int .i64 a2_2, .int .i64 a2_3] 23 (0, 0)) (by (with_reducible repeat (first | refine blk_drewN ?_ _ | refine blk_drew ?_ | refine blk_alloc ?_ _)); exact BK154.out) hb); have n2_ := Aside0.mk (below_step (by repeat (first | (with_reducible first | exact HB.out | apply below_alloc | apply pw_below_drewN | apply below_drew1 | refine below_set ?_ GE154.out) | exact HB.out)) hb); clear BK154; clear HB; have HO159 := n0_; have BK154 := n1_; have HB := n2_; clear n0_ n1_ n2_; (try clear hb); (try clear hb2); (try clear hk); (try clear hi); (try clear ho0)) | ((with_reducible refine gate_dst (N := 11) rfl ?_); (try (refine gate_guard (by rfl) ?_; dsimp only)); refine box_event ?hg (N := 11) ?hd (cs := #[.int .i64 0, .int .i64 0, .slice none 0 0]) (t := 26) ?hr ?_; (case hd => rfl); (case hg => rfl); (case hr => first | (go_simp; done) | (go_simp; rfl)); intro gb161 hg w11 hbox hb; have n0_ := Aside0.mk (Kd.R_below (by (with_reducible repeat (first | apply Kd.R_alloc | apply Kd.R_drewN | apply Kd.R_drew)); exact HO159.out) hb); have n1_ := Aside0.mk (blk_below (g := gb154) (o := .cells #[.int .i64 a2_0, .int .i64 a2_1, .int .i64 a2_2, .int .i64 a2_3] 23 (0, 0)) (by (with_reducible repeat (first | refine blk_drewN ?_ _ | refine blk_drew ?_ | refine blk_alloc ?_ _)); exact BK154.out) hb); have n2_ := Aside0.mk (below_step (by repeat (first | (with_reducible first | exact HB.out | apply below_alloc | apply pw_below_drewN | apply below_drew1 | refine below_set ?_ GE154.out) | exact HB.out)) hb); have n3_ := Aside0.mk (hbox); have n4_ := Aside0.mk ((by rw [hg]; exact (below_size (by repeat (first | (with_reducible first | exact HB.out | apply below_alloc | apply pw_below_drewN | apply below_drew1 | refine below_set ?_ GE154.out) | exact HB.out))) : w.heap.size ≤ gb161)); have n5_ := Aside0.mk ((by rw [hg]; exact (below_size (by repeat (first | (with_reducible first | exact HB.out | apply below_alloc | apply pw_below_drewN | apply below_drew1 | refine below_set ?_ GE154.out) | exact HB.out))) : w.heap.size ≤ gb161)); have n6_ := Aside0.mk ((by rw [hg]; exact Nat.ne_of_lt (blk_lt (g := gb154) (o := .cells #[.int .i64 a2_0, .int .i64 a2_1, .int .i64 a2_2, .int .i64 a2_3] 23 (0, 0)) (by (with_reducible repeat (first | refine blk_drewN ?_ _ | refine blk_drew ?_ | refine blk_alloc ?_ _)); exact BK154.out)) : gb154 ≠ gb161)); have n7_ := Aside0.mk ((by rw [hg]; exact Nat.ne_of_gt (blk_lt (g := gb154) (o := .cells #[.int .i64 a2_0, .int .i64 a2_1, .int .i64 a2_2, .int .i64 a2_3] 23 (0, 0)) (by (with_reducible repeat (first | refine blk_drewN ?_ _ | refine blk_drew ?_ | refine blk_alloc ?_ _)); exact BK154.out)) : gb161 ≠ gb154)); clear HO159; clear BK154; clear HB; have HO159 := n0_; have BK154 := n1_; have HB := n2_; have BK161 := n3_; have GW161 := n4_; have GE161 := n5_; have NB154_161 := n6_; have NB161_154 := n7_; clear n0_ n1_ n2_ n3_ n4_ n5_ n6_ n7_; clear hb hbox hg; have hnb12 := NB161_154.out; have hnc12 := NB154_161.out; have hcz13_0 : w11.cell? ⟨gb161, 0, none⟩ = some (.int .i64 0) := (blk_cell BK161.out 0).trans rfl; have hcz13_1 : w11.cell? ⟨gb161, 1, none⟩ = some (.int .i64 0) := (blk_cell BK161.out 1).trans rfl; have hcz13_2 : w11.cell? ⟨gb161, 2, none⟩ = some (.slice none 0 0) := (blk_cell BK161.out 2).trans rfl; have hfz13_0 := blk_frozen BK161.out 0; have hfz13_1 := blk_frozen BK161.out 1; have hfz13_2 := blk_frozen BK161.out 2; obtain ⟨Ao14, co14, eo14⟩ := Kd.R_slice HO159.out; subst eo14))
  (try simp only [Act.put, List.setIfInBounds_toArray, List.set_cons_zero, List.set_cons_succ])
  go_cut [40] (fun v40 wc => ∃ (kq : Nat) (x40_6 : Bool), v40 = .bool x40_6 ∧ Aside0 (celluloidlaw21_CanvasNews.j0 kq a0 a1 a3 a4 t160 x40_6 a2_0 a2_1 a2_2 a2_3 t155 t156 t157 = some r) ∧ Aside0 (kq ≤ k) ∧ Aside0 (Kd.R k23 23 wc w.heap.size (fun k_ => k_ ≠ gb154) (.slice Ao14 t157.length co14) t157) ∧ Aside0 (wc.heap[gb154]? = some (.cells #[.int .i64 a2_0, .int .i64 a2_1, .int .i64 a2_2, .int .i64 a2_3] 23 (0, 0))) ∧ Aside0 (wc.heap[gb161]? = some (.cells #[.int .i64 t155, .int .i64 t156, (.slice Ao14 t157.length co14)] 26 (0, 0))) ∧ Aside0 (Below w.heap.size w wc))
  case first =>
    have H := HC7.out
    clear HC7
    by_cases c15 : a0 < 1
    · rw [if_pos c15] at H
      have c15b0 : decide (a0 < 1) = true := decide_eq_true c15
      clear c15
      (first | rw [c15b0] | (simp only [i64_w, i32_w]; rw [c15b0]) | skip)
      have H' := Aside0.mk H
      clear H
      go_wp2
      go_meet
      case rel => exact ⟨_, (true), (by first | rfl | (simp; done) | (simp [*]; done)), H', ⟨by first | omega | exact Nat.le_refl _⟩, ⟨by (with_reducible repeat (first | apply Kd.R_alloc | apply Kd.R_drewN | apply Kd.R_drew)); exact Kd.R_mono (Kd.R_far (p := ⟨gb161, 2, none⟩) (Kd.R_far (p := ⟨gb161, 1, none⟩) (Kd.R_far (p := ⟨gb161, 0, none⟩) (Kd.R_types HO159.out BK161.out (by decide)) (fun _ hk => hk.2) (.int .i64 t155)) (fun _ hk => hk.2) (.int .i64 t156)) (fun _ hk => hk.2) (.slice Ao14 t157.length co14)) (fun _ hk => hk.1.2)⟩, ⟨by (with_reducible repeat (first | refine blk_drewN ?_ _ | refine blk_drew ?_ | refine blk_alloc ?_ _)); refine blk_far ?_ NB154_161.out _; (with_reducible repeat (first | refine blk_drewN ?_ _ | refine blk_drew ?_ | refine blk_alloc ?_ _)); refine blk_far ?_ NB154_161.out _; (with_reducible repeat (first | refine blk_drewN ?_ _ | refine blk_drew ?_ | refine blk_alloc ?_ _)); refine blk_far ?_ NB154_161.out _; (with_reducible repeat (first | refine blk_drewN ?_ _ | refine blk_drew ?_ | refine blk_alloc ?_ _)); exact BK154.out⟩, ⟨by (with_reducible repeat (first | refine blk_drewN ?_ _ | refine blk_drew ?_ | refine blk_alloc ?_ _)); refine blk_put (cs := #[.int .i64 t155, .int .i64 t156, .slice none 0 0]) ?_ 2 _ rfl; (with_reducible repeat (first | refine blk_drewN ?_ _ | refine blk_drew ?_ | refine blk_alloc ?_ _)); refine blk_put (cs := #[.int .i64 t155, .int .i64 0, .slice none 0 0]) ?_ 1 _ rfl; (with_reducible repeat (first | refine blk_drewN ?_ _ | refine blk_drew ?_ | refine blk_alloc ?_ _)); refine blk_put (cs := #[.int .i64 0, .int .i64 0, .slice none 0 0]) ?_ 0 _ rfl; (with_reducible repeat (first | refine blk_drewN ?_ _ | refine blk_drew ?_ | refine blk_alloc ?_ _)); exact BK161.out⟩, ⟨by repeat (first | (with_reducible first | exact HB.out | apply below_alloc | apply pw_below_drewN | apply below_drew1 | refine below_set ?_ GE154.out | refine below_set ?_ GE161.out) | exact HB.out)⟩⟩
    · rw [if_neg c15] at H
      have c15b0 : decide (a0 < 1) = false := decide_eq_false c15
      clear c15
      (first | rw [c15b0] | (simp only [i64_w, i32_w]; rw [c15b0]) | skip)
      by_cases c16 : a0 > 256
      · rw [if_pos c16] at H
        have c16b0 : decide (256 < a0) = true := decide_eq_true c16
        clear c16
        have H' := Aside0.mk H
        clear H
        go_wp2
        go_meet
        case rel => exact ⟨_, (true), (by first | rfl | (simp; done) | (simp [*]; done)), H', ⟨by first | omega | exact Nat.le_refl _⟩, ⟨by (with_reducible repeat (first | apply Kd.R_alloc | apply Kd.R_drewN | apply Kd.R_drew)); exact Kd.R_mono (Kd.R_far (p := ⟨gb161, 2, none⟩) (Kd.R_far (p := ⟨gb161, 1, none⟩) (Kd.R_far (p := ⟨gb161, 0, none⟩) (Kd.R_types HO159.out BK161.out (by decide)) (fun _ hk => hk.2) (.int .i64 t155)) (fun _ hk => hk.2) (.int .i64 t156)) (fun _ hk => hk.2) (.slice Ao14 t157.length co14)) (fun _ hk => hk.1.2)⟩, ⟨by (with_reducible repeat (first | refine blk_drewN ?_ _ | refine blk_drew ?_ | refine blk_alloc ?_ _)); refine blk_far ?_ NB154_161.out _; (with_reducible repeat (first | refine blk_drewN ?_ _ | refine blk_drew ?_ | refine blk_alloc ?_ _)); refine blk_far ?_ NB154_161.out _; (with_reducible repeat (first | refine blk_drewN ?_ _ | refine blk_drew ?_ | refine blk_alloc ?_ _)); refine blk_far ?_ NB154_161.out _; (with_reducible repeat (first | refine blk_drewN ?_ _ | refine blk_drew ?_ | refine blk_alloc ?_ _)); exact BK154.out⟩, ⟨by (with_reducible repeat (first | refine blk_drewN ?_ _ | refine blk_drew ?_ | refine blk_alloc ?_ _)); refine blk_put (cs := #[.int .i64 t155, .int .i64 t156, .slice none 0 0]) ?_ 2 _ rfl; (with_reducible repeat (first | refine blk_drewN ?_ _ | refine blk_drew ?_ | refine blk_alloc ?_ _)); refine blk_put (cs := #[.int .i64 t155, .int .i64 0, .slice none 0 0]) ?_ 1 _ rfl; (with_reducible repeat (first | refine blk_drewN ?_ _ | refine blk_drew ?_ | refine blk_alloc ?_ _)); refine blk_put (cs := #[.int .i64 0, .int .i64 0, .slice none 0 0]) ?_ 0 _ rfl; (with_reducible repeat (first | refine blk_drewN ?_ _ | refine blk_drew ?_ | refine blk_alloc ?_ _)); exact BK161.out⟩, ⟨by repeat (first | (with_reducible first | exact HB.out | apply below_alloc | apply pw_below_drewN | apply below_drew1 | refine below_set ?_ GE154.out | refine below_set ?_ GE161.out) | exact HB.out)⟩⟩
      · rw [if_neg c16] at H
        have c16b0 : decide (256 < a0) = false := decide_eq_false c16
        clear c16
        by_cases c17 : a1 < 1
        · rw [if_pos c17] at H
          have c17b0 : decide (a1 < 1) = true := decide_eq_true c17
          clear c17
          have H' := Aside0.mk H
          clear H
          go_wp2
          go_meet
          case rel => exact ⟨_, (true), (by first | rfl | (simp; done) | (simp [*]; done)), H', ⟨by first | omega | exact Nat.le_refl _⟩, ⟨by (with_reducible repeat (first | apply Kd.R_alloc | apply Kd.R_drewN | apply Kd.R_drew)); exact Kd.R_mono (Kd.R_far (p := ⟨gb161, 2, none⟩) (Kd.R_far (p := ⟨gb161, 1, none⟩) (Kd.R_far (p := ⟨gb161, 0, none⟩) (Kd.R_types HO159.out BK161.out (by decide)) (fun _ hk => hk.2) (.int .i64 t155)) (fun _ hk => hk.2) (.int .i64 t156)) (fun _ hk => hk.2) (.slice Ao14 t157.length co14)) (fun _ hk => hk.1.2)⟩, ⟨by (with_reducible repeat (first | refine blk_drewN ?_ _ | refine blk_drew ?_ | refine blk_alloc ?_ _)); refine blk_far ?_ NB154_161.out _; (with_reducible repeat (first | refine blk_drewN ?_ _ | refine blk_drew ?_ | refine blk_alloc ?_ _)); refine blk_far ?_ NB154_161.out _; (with_reducible repeat (first | refine blk_drewN ?_ _ | refine blk_drew ?_ | refine blk_alloc ?_ _)); refine blk_far ?_ NB154_161.out _; (with_reducible repeat (first | refine blk_drewN ?_ _ | refine blk_drew ?_ | refine blk_alloc ?_ _)); exact BK154.out⟩, ⟨by (with_reducible repeat (first | refine blk_drewN ?_ _ | refine blk_drew ?_ | refine blk_alloc ?_ _)); refine blk_put (cs := #[.int .i64 t155, .int .i64 t156, .slice none 0 0]) ?_ 2 _ rfl; (with_reducible repeat (first | refine blk_drewN ?_ _ | refine blk_drew ?_ | refine blk_alloc ?_ _)); refine blk_put (cs := #[.int .i64 t155, .int .i64 0, .slice none 0 0]) ?_ 1 _ rfl; (with_reducible repeat (first | refine blk_drewN ?_ _ | refine blk_drew ?_ | refine blk_alloc ?_ _)); refine blk_put (cs := #[.int .i64 0, .int .i64 0, .slice none 0 0]) ?_ 0 _ rfl; (with_reducible repeat (first | refine blk_drewN ?_ _ | refine blk_drew ?_ | refine blk_alloc ?_ _)); exact BK161.out⟩, ⟨by repeat (first | (with_reducible first | exact HB.out | apply below_alloc | apply pw_below_drewN | apply below_drew1 | refine below_set ?_ GE154.out | refine below_set ?_ GE161.out) | exact HB.out)⟩⟩
        · rw [if_neg c17] at H
          have c17b0 : decide (a1 < 1) = false := decide_eq_false c17
          clear c17
          by_cases c18 : a1 > 256
          · rw [if_pos c18] at H
            have c18b0 : decide (256 < a1) = true := decide_eq_true c18
            clear c18
            have H' := Aside0.mk H
            clear H
            go_wp2
            go_meet
            case rel => exact ⟨_, (true), (by first | rfl | (simp; done) | (simp [*]; done)), H', ⟨by first | omega | exact Nat.le_refl _⟩, ⟨by (with_reducible repeat (first | apply Kd.R_alloc | apply Kd.R_drewN | apply Kd.R_drew)); exact Kd.R_mono (Kd.R_far (p := ⟨gb161, 2, none⟩) (Kd.R_far (p := ⟨gb161, 1, none⟩) (Kd.R_far (p := ⟨gb161, 0, none⟩) (Kd.R_types HO159.out BK161.out (by decide)) (fun _ hk => hk.2) (.int .i64 t155)) (fun _ hk => hk.2) (.int .i64 t156)) (fun _ hk => hk.2) (.slice Ao14 t157.length co14)) (fun _ hk => hk.1.2)⟩, ⟨by (with_reducible repeat (first | refine blk_drewN ?_ _ | refine blk_drew ?_ | refine blk_alloc ?_ _)); refine blk_far ?_ NB154_161.out _; (with_reducible repeat (first | refine blk_drewN ?_ _ | refine blk_drew ?_ | refine blk_alloc ?_ _)); refine blk_far ?_ NB154_161.out _; (with_reducible repeat (first | refine blk_drewN ?_ _ | refine blk_drew ?_ | refine blk_alloc ?_ _)); refine blk_far ?_ NB154_161.out _; (with_reducible repeat (first | refine blk_drewN ?_ _ | refine blk_drew ?_ | refine blk_alloc ?_ _)); exact BK154.out⟩, ⟨by (with_reducible repeat (first | refine blk_drewN ?_ _ | refine blk_drew ?_ | refine blk_alloc ?_ _)); refine blk_put (cs := #[.int .i64 t155, .int .i64 t156, .slice none 0 0]) ?_ 2 _ rfl; (with_reducible repeat (first | refine blk_drewN ?_ _ | refine blk_drew ?_ | refine blk_alloc ?_ _)); refine blk_put (cs := #[.int .i64 t155, .int .i64 0, .slice none 0 0]) ?_ 1 _ rfl; (with_reducible repeat (first | refine blk_drewN ?_ _ | refine blk_drew ?_ | refine blk_alloc ?_ _)); refine blk_put (cs := #[.int .i64 0, .int .i64 0, .slice none 0 0]) ?_ 0 _ rfl; (with_reducible repeat (first | refine blk_drewN ?_ _ | refine blk_drew ?_ | refine blk_alloc ?_ _)); exact BK161.out⟩, ⟨by repeat (first | (with_reducible first | exact HB.out | apply below_alloc | apply pw_below_drewN | apply below_drew1 | refine below_set ?_ GE154.out | refine below_set ?_ GE161.out) | exact HB.out)⟩⟩
          · rw [if_neg c18] at H
            have c18b0 : decide (256 < a1) = false := decide_eq_false c18
            clear c18
            replace H := Option.bind_eq_some_iff.mp H
            obtain ⟨t162, A190, H⟩ := H
            replace H : (celluloidlaw21_CanvasNews.j0 k a0 a1 a3 a4 t160 (!t162) a2_0 a2_1 a2_2 a2_3 t155 t156 t157) = some r := H
            have A19 := Aside0.mk A190
            clear A190
            have H' := Aside0.mk H
            clear H
            have hnb20 := NB154_161.out
            have hnc20 := NB161_154.out
            have hcz21_0 : w11.cell? ⟨gb154, 0, none⟩ = some (.int .i64 a2_0) := (blk_cell BK154.out 0).trans rfl
            have hcz21_1 : w11.cell? ⟨gb154, 1, none⟩ = some (.int .i64 a2_1) := (blk_cell BK154.out 1).trans rfl
            have hcz21_2 : w11.cell? ⟨gb154, 2, none⟩ = some (.int .i64 a2_2) := (blk_cell BK154.out 2).trans rfl
            have hcz21_3 : w11.cell? ⟨gb154, 3, none⟩ = some (.int .i64 a2_3) := (blk_cell BK154.out 3).trans rfl
            have hfz21_0 := blk_frozen BK154.out 0
            have hfz21_1 := blk_frozen BK154.out 1
            have hfz21_2 := blk_frozen BK154.out 2
            have hfz21_3 := blk_frozen BK154.out 3
            go_wp2_with (first | (go_at_call 10; (with_reducible refine (celluloidref21_Faint.calls k a2_0 a2_1 a2_2 a2_3 t162 _ A19.out).mono ?_); rintro e w22 ⟨rfl, hb⟩; have n0_ := Aside0.mk (Kd.R_below (by (with_reducible repeat (first | apply Kd.R_alloc | apply Kd.R_drewN | apply Kd.R_drew)); exact (Kd.R_mono (Kd.R_far (p := ⟨gb161, 2, none⟩) (Kd.R_far (p := ⟨gb161, 1, none⟩) (Kd.R_far (p := ⟨gb161, 0, none⟩) (Kd.R_types HO159.out BK161.out (by decide)) (fun _ hk => hk.2) (.int .i64 t155)) (fun _ hk => hk.2) (.int .i64 t156)) (fun _ hk => hk.2) (.slice Ao14 t157.length co14)) (fun _ h_ => h_.1))) hb); have n1_ := Aside0.mk (blk_below (g := gb154) (o := .cells #[.int .i64 a2_0, .int .i64 a2_1, .int .i64 a2_2, .int .i64 a2_3] 23 (0, 0)) (by (with_reducible repeat (first | refine blk_drewN ?_ _ | refine blk_drew ?_ | refine blk_alloc ?_ _)); refine blk_far ?_ NB154_161.out _; (with_reducible repeat (first | refine blk_drewN ?_ _ | refine blk_drew ?_ | refine blk_alloc ?_ _)); refine blk_far ?_ NB154_161.out _; (with_reducible repeat (first | refine blk_drewN ?_ _ | refine blk_drew ?_ | refine blk_alloc ?_ _)); refine blk_far ?_ NB154_161.out _; (with_reducible repeat (first | refine blk_drewN ?_ _ | refine blk_drew ?_ | refine blk_alloc ?_ _)); exact BK154.out) hb); have n2_ := Aside0.mk (blk_below (g := gb161) (o := .cells #[.int .i64 t155, .int .i64 t156, .slice Ao14 t157.length co14] 26 (0, 0)) (by (with_reducible repeat (first | refine blk_drewN ?_ _ | refine blk_drew ?_ | refine blk_alloc ?_ _)); refine blk_put (cs := #[.int .i64 t155, .int .i64 t156, .slice none 0 0]) ?_ 2 _ rfl; (with_reducible repeat (first | refine blk_drewN ?_ _ | refine blk_drew ?_ | refine blk_alloc ?_ _)); refine blk_put (cs := #[.int .i64 t155, .int .i64 0, .slice none 0 0]) ?_ 1 _ rfl; (with_reducible repeat (first | refine blk_drewN ?_ _ | refine blk_drew ?_ | refine blk_alloc ?_ _)); refine blk_put (cs := #[.int .i64 0, .int .i64 0, .slice none 0 0]) ?_ 0 _ rfl; (with_reducible repeat (first | refine blk_drewN ?_ _ | refine blk_drew ?_ | refine blk_alloc ?_ _)); exact BK161.out) hb); have n3_ := Aside0.mk (below_step (by repeat (first | (with_reducible first | exact HB.out | apply below_alloc | apply pw_below_drewN | apply below_drew1 | refine below_set ?_ GE154.out | refine below_set ?_ GE161.out) | exact HB.out)) hb); clear HO159; clear BK154; clear BK161; clear HB; have HO159 := n0_; have BK154 := n1_; have BK161 := n2_; have HB := n3_; clear n0_ n1_ n2_ n3_; (try clear hb); (try clear hb2); (try clear hk); (try clear hi)))
            go_meet
            case rel => exact ⟨_, (!t162), (by first | rfl | (simp; done) | (simp [*]; done)), H', ⟨by first | omega | exact Nat.le_refl _⟩, ⟨by (with_reducible repeat (first | apply Kd.R_alloc | apply Kd.R_drewN | apply Kd.R_drew)); exact Kd.R_mono HO159.out (fun _ hk => hk.2)⟩, ⟨by (with_reducible repeat (first | refine blk_drewN ?_ _ | refine blk_drew ?_ | refine blk_alloc ?_ _)); exact BK154.out⟩, ⟨by (with_reducible repeat (first | refine blk_drewN ?_ _ | refine blk_drew ?_ | refine blk_alloc ?_ _)); exact BK161.out⟩, ⟨by repeat (first | (with_reducible first | exact HB.out | apply below_alloc | apply pw_below_drewN | apply below_drew1 | refine below_set ?_ GE154.out | refine below_set ?_ GE161.out) | exact HB.out)⟩⟩
  case rest =>
    clear HC7
    try clear c1
    try clear c2
    try clear p2
    try clear c3
    try clear c9
    try clear c12
    try clear c15
    try clear c15b0
    try clear c16
    try clear c16b0
    try clear c17
    try clear c17b0
    try clear c18
    try clear c18b0
    try clear c20
    try clear hcz13_0
    try clear hcz13_1
    try clear hcz13_2
    try clear hcz21_0
    try clear hcz21_1
    try clear hcz21_2
    try clear hcz21_3
    try clear hcz9_0
    try clear hcz9_1
    try clear hcz9_2
    try clear hcz9_3
    try clear hfz13_0
    try clear hfz13_1
    try clear hfz13_2
    try clear hfz21_0
    try clear hfz21_1
    try clear hfz21_2
    try clear hfz21_3
    try clear hfz9_0
    try clear hfz9_1
    try clear hfz9_2
    try clear hfz9_3
    obtain ⟨kq, x40_6, rfl, HA, HJ6, HO_162002, BK154, BK161, HB⟩ := hcut
    cases kq with
    | zero => exact absurd HA.out (by simp [celluloidlaw21_CanvasNews.j0])
    | succ kj6 =>
      have H := HA.out
      clear HA
      simp only [celluloidlaw21_CanvasNews.j0] at H
      by_cases c23 : x40_6 = true
      · subst c23
        have H1 : (if t160 = 1 then (if (t157.length : Int) = 0 then ((celluloidlaw21_awake.f kj6).bind fun t163 => (some t163)) else (some false)) else (some false)) = some r := by rw [if_pos rfl] at H; exact H
        clear H
        have H := H1
        clear H1
        by_cases c24 : t160 = 1
        · rw [if_pos c24] at H
          have c24b0 : (t160 == 1) = true := beq_iff_eq.mpr c24
          have c24b1 : (t160 != 1) = false := bne_eq_false_iff_eq.mpr c24
          clear c24
          by_cases c25 : (t157.length : Int) = 0
          · rw [if_pos c25] at H
            have c25b0 : ((t157.length : Int) == 0) = true := beq_iff_eq.mpr c25
            have c25b1 : ((t157.length : Int) != 0) = false := bne_eq_false_iff_eq.mpr c25
            clear c25
            replace H := Option.bind_eq_some_iff.mp H
            obtain ⟨t163, A260, H⟩ := H
            replace H : (some t163) = some r := H
            have A26 := Aside0.mk A260
            clear A260
            first
            | exact absurd (Option.some.inj H) (by rw [hr_.out]; decide)
            | obtain rfl := Option.some.inj H
              have hnb27 := NB161_154.out
              have hnc27 := NB154_161.out
              have hcz28_0 : wc.cell? ⟨gb161, 0, none⟩ = some (.int .i64 t155) := (blk_cell BK161.out 0).trans rfl
              have hcz28_1 : wc.cell? ⟨gb161, 1, none⟩ = some (.int .i64 t156) := (blk_cell BK161.out 1).trans rfl
              have hcz28_2 : wc.cell? ⟨gb161, 2, none⟩ = some (.slice Ao14 t157.length co14) := (blk_cell BK161.out 2).trans rfl
              have hfz28_0 := blk_frozen BK161.out 0
              have hfz28_1 := blk_frozen BK161.out 1
              have hfz28_2 := blk_frozen BK161.out 2
              go_wp2_with (first | (go_at_call 11; (with_reducible refine (celluloidlaw21_awake.calls kj6  t163 _ A26.out).mono ?_); rintro e w29 ⟨rfl, hb⟩; have n0_ := Aside0.mk (Kd.R_below (by (with_reducible repeat (first | apply Kd.R_alloc | apply Kd.R_drewN | apply Kd.R_drew)); exact HO_162002.out) hb); have n1_ := Aside0.mk (blk_below (g := gb154) (o := .cells #[.int .i64 a2_0, .int .i64 a2_1, .int .i64 a2_2, .int .i64 a2_3] 23 (0, 0)) (by (with_reducible repeat (first | refine blk_drewN ?_ _ | refine blk_drew ?_ | refine blk_alloc ?_ _)); exact BK154.out) hb); have n2_ := Aside0.mk (blk_below (g := gb161) (o := .cells #[.int .i64 t155, .int .i64 t156, .slice Ao14 t157.length co14] 26 (0, 0)) (by (with_reducible repeat (first | refine blk_drewN ?_ _ | refine blk_drew ?_ | refine blk_alloc ?_ _)); exact BK161.out) hb); have n3_ := Aside0.mk (below_step (by repeat (first | (with_reducible first | exact HB.out | apply below_alloc | apply pw_below_drewN | apply below_drew1 | refine below_set ?_ GE154.out | refine below_set ?_ GE161.out) | exact HB.out)) hb); clear HO_162002; clear BK154; clear BK161; clear HB; have HO_162002 := n0_; have BK154 := n1_; have BK161 := n2_; have HB := n3_; clear n0_ n1_ n2_ n3_; (try clear hb); (try clear hb2); (try clear hk); (try clear hi)))
              go_ret
              exact ⟨by first | rfl | (simp [errW_none, errW_some] <;> rfl) | (simp [*, errW_none, errW_some] <;> rfl), by repeat (first | (with_reducible first | exact HB.out | apply below_alloc | apply pw_below_drewN | apply below_drew1 | refine below_set ?_ GE154.out | refine below_set ?_ GE161.out) | exact HB.out)⟩
          · rw [if_neg c25] at H
            have c25b0 : ((t157.length : Int) == 0) = false := beq_eq_false_iff_ne.mpr c25
            have c25b1 : ((t157.length : Int) != 0) = true := bne_iff_ne.mpr c25
            have c25b2 : ¬ (t157 = []) := fun h_ => c25 (by rw [h_]; rfl)
            exact absurd (Option.some.inj H) (by rw [hr_.out]; decide)
        · rw [if_neg c24] at H
          have c24b0 : (t160 == 1) = false := beq_eq_false_iff_ne.mpr c24
          have c24b1 : (t160 != 1) = true := bne_iff_ne.mpr c24
          exact absurd (Option.some.inj H) (by rw [hr_.out]; decide)
      · replace c23 := Bool.eq_false_iff.mpr c23
        subst c23
        have H1 : (if t160 = 0 then (if t155 = a0 then (if t156 = a1 then (if (t157.length : Int) = (wrap64 (a0 * a1)) then ((canvas_Right.f kj6 t155 t156 t157).bind fun t164 => (celluloidlaw21_CanvasNews.j1 kj6 a0 a1 a3 a4 (!t164) a2_0 a2_1 a2_2 a2_3 t155 t156 t157)) else (celluloidlaw21_CanvasNews.j1 kj6 a0 a1 a3 a4 true a2_0 a2_1 a2_2 a2_3 t155 t156 t157)) else (celluloidlaw21_CanvasNews.j1 kj6 a0 a1 a3 a4 true a2_0 a2_1 a2_2 a2_3 t155 t156 t157)) else (celluloidlaw21_CanvasNews.j1 kj6 a0 a1 a3 a4 true a2_0 a2_1 a2_2 a2_3 t155 t156 t157)) else (celluloidlaw21_CanvasNews.j1 kj6 a0 a1 a3 a4 true a2_0 a2_1 a2_2 a2_3 t155 t156 t157)) = some r := by rw [if_neg (show ¬ (false = true) by decide)] at H; exact H
        clear H
        have H := H1
        clear H1
        have HC32 := Aside0.mk H
        clear H
        go_upto_region 4 with (fail)
        go_cut [79] (fun v79 wc => ∃ (kq : Nat) (x79_31 : Bool), v79 = .bool x79_31 ∧ Aside0 (celluloidlaw21_CanvasNews.j1 kq a0 a1 a3 a4 x79_31 a2_0 a2_1 a2_2 a2_3 t155 t156 t157 = some r) ∧ Aside0 (kq ≤ kj6) ∧ Aside0 (Kd.R k23 23 wc w.heap.size (fun k_ => k_ ≠ gb154) (.slice Ao14 t157.length co14) t157) ∧ Aside0 (wc.heap[gb154]? = some (.cells #[.int .i64 a2_0, .int .i64 a2_1, .int .i64 a2_2, .int .i64 a2_3] 23 (0, 0))) ∧ Aside0 (wc.heap[gb161]? = some (.cells #[.int .i64 t155, .int .i64 t156, (.slice Ao14 t157.length co14)] 26 (0, 0))) ∧ Aside0 (Below w.heap.size w wc))
        case first =>
          have H := HC32.out
          clear HC32
          by_cases c33 : t160 = 0
          · rw [if_pos c33] at H
            have c33b0 : (t160 == 0) = true := beq_iff_eq.mpr c33
            have c33b1 : (t160 != 0) = false := bne_eq_false_iff_eq.mpr c33
            clear c33
            (first | rw [c33b0] | (simp only [i64_w, i32_w]; rw [c33b0]) | skip)
            by_cases c34 : t155 = a0
            · rw [if_pos c34] at H
              have c34b0 : (t155 == a0) = true := beq_iff_eq.mpr c34
              have c34b1 : (t155 != a0) = false := bne_eq_false_iff_eq.mpr c34
              clear c34
              by_cases c35 : t156 = a1
              · rw [if_pos c35] at H
                have c35b0 : (t156 == a1) = true := beq_iff_eq.mpr c35
                have c35b1 : (t156 != a1) = false := bne_eq_false_iff_eq.mpr c35
                clear c35
                by_cases c36 : (t157.length : Int) = (wrap64 (a0 * a1))
                · rw [if_pos c36] at H
                  have c36b0 : ((t157.length : Int) == (wrap64 (a0 * a1))) = true := beq_iff_eq.mpr c36
                  have c36b1 : ((t157.length : Int) != (wrap64 (a0 * a1))) = false := bne_eq_false_iff_eq.mpr c36
                  clear c36
                  replace H := Option.bind_eq_some_iff.mp H
                  obtain ⟨t164, A370, H⟩ := H
                  replace H : (celluloidlaw21_CanvasNews.j1 kj6 a0 a1 a3 a4 (!t164) a2_0 a2_1 a2_2 a2_3 t155 t156 t157) = some r := H
                  have A37 := Aside0.mk A370
                  clear A370
                  have H' := Aside0.mk H
                  clear H
                  have hnb38 := NB161_154.out
                  have hnc38 := NB154_161.out
                  have hcz39_0 : wc.cell? ⟨gb161, 0, none⟩ = some (.int .i64 t155) := (blk_cell BK161.out 0).trans rfl
                  have hcz39_1 : wc.cell? ⟨gb161, 1, none⟩ = some (.int .i64 t156) := (blk_cell BK161.out 1).trans rfl
                  have hcz39_2 : wc.cell? ⟨gb161, 2, none⟩ = some (.slice Ao14 t157.length co14) := (blk_cell BK161.out 2).trans rfl
                  have hfz39_0 := blk_frozen BK161.out 0
                  have hfz39_1 := blk_frozen BK161.out 1
                  have hfz39_2 := blk_frozen BK161.out 2
                  go_wp2_with (first | (go_at_call 12; (with_reducible refine (canvas_Right.calls kj6 t155 t156 _ _ t157 t164 _ ?side1 ?side2 A37.out).mono ?_); (case side1 => repeat (first | exact (Kd.R_reads' HO_162002.out).2.2 | (with_reducible refine Kd.C_alloc ?_ _) | (with_reducible refine Kd.C_drewN ?_ _) | (with_reducible refine Kd.C_drew ?_))); (case side2 => exact (Kd.R_reads' HO_162002.out).2.1); rintro e w40 ⟨rfl, hb⟩; have n0_ := Aside0.mk (Kd.R_below (by (with_reducible repeat (first | apply Kd.R_alloc | apply Kd.R_drewN | apply Kd.R_drew)); exact HO_162002.out) hb); have n1_ := Aside0.mk (blk_below (g := gb154) (o := .cells #[.int .i64 a2_0, .int .i64 a2_1, .int .i64 a2_2, .int .i64 a2_3] 23 (0, 0)) (by (with_reducible repeat (first | refine blk_drewN ?_ _ | refine blk_drew ?_ | refine blk_alloc ?_ _)); exact BK154.out) hb); have n2_ := Aside0.mk (blk_below (g := gb161) (o := .cells #[.int .i64 t155, .int .i64 t156, .slice Ao14 t157.length co14] 26 (0, 0)) (by (with_reducible repeat (first | refine blk_drewN ?_ _ | refine blk_drew ?_ | refine blk_alloc ?_ _)); exact BK161.out) hb); have n3_ := Aside0.mk (below_step (by repeat (first | (with_reducible first | exact HB.out | apply below_alloc | apply pw_below_drewN | apply below_drew1 | refine below_set ?_ GE154.out | refine below_set ?_ GE161.out) | exact HB.out)) hb); clear HO_162002; clear BK154; clear BK161; clear HB; have HO_162002 := n0_; have BK154 := n1_; have BK161 := n2_; have HB := n3_; clear n0_ n1_ n2_ n3_; (try clear hb); (try clear hb2); (try clear hk); (try clear hi)))
                  go_meet
                  case rel => exact ⟨_, (!t164), (by first | rfl | (simp; done) | (simp [*]; done)), H', ⟨by have := HJ6.out; first | omega | exact Nat.le_refl _⟩, ⟨by (with_reducible repeat (first | apply Kd.R_alloc | apply Kd.R_drewN | apply Kd.R_drew)); exact HO_162002.out⟩, ⟨by (with_reducible repeat (first | refine blk_drewN ?_ _ | refine blk_drew ?_ | refine blk_alloc ?_ _)); exact BK154.out⟩, ⟨by (with_reducible repeat (first | refine blk_drewN ?_ _ | refine blk_drew ?_ | refine blk_alloc ?_ _)); exact BK161.out⟩, ⟨by repeat (first | (with_reducible first | exact HB.out | apply below_alloc | apply pw_below_drewN | apply below_drew1 | refine below_set ?_ GE154.out | refine below_set ?_ GE161.out) | exact HB.out)⟩⟩
                · rw [if_neg c36] at H
                  have c36b0 : ((t157.length : Int) == (wrap64 (a0 * a1))) = false := beq_eq_false_iff_ne.mpr c36
                  have c36b1 : ((t157.length : Int) != (wrap64 (a0 * a1))) = true := bne_iff_ne.mpr c36
                  exact absurd (H.trans (congrArg some hr_.out)) (celluloidlaw21_CanvasNews.j1_dead _ _ _ _ _ _ _ _ _ _ _ _)
              · rw [if_neg c35] at H
                have c35b0 : (t156 == a1) = false := beq_eq_false_iff_ne.mpr c35
                have c35b1 : (t156 != a1) = true := bne_iff_ne.mpr c35
                exact absurd (H.trans (congrArg some hr_.out)) (celluloidlaw21_CanvasNews.j1_dead _ _ _ _ _ _ _ _ _ _ _ _)
            · rw [if_neg c34] at H
              have c34b0 : (t155 == a0) = false := beq_eq_false_iff_ne.mpr c34
              have c34b1 : (t155 != a0) = true := bne_iff_ne.mpr c34
              exact absurd (H.trans (congrArg some hr_.out)) (celluloidlaw21_CanvasNews.j1_dead _ _ _ _ _ _ _ _ _ _ _ _)
          · rw [if_neg c33] at H
            have c33b0 : (t160 == 0) = false := beq_eq_false_iff_ne.mpr c33
            have c33b1 : (t160 != 0) = true := bne_iff_ne.mpr c33
            (first | rw [c33b0] | (simp only [i64_w, i32_w]; rw [c33b0]) | skip)
            exact absurd (H.trans (congrArg some hr_.out)) (celluloidlaw21_CanvasNews.j1_dead _ _ _ _ _ _ _ _ _ _ _ _)
        case rest =>
          clear HC32
          try clear c1
          try clear c2
          try clear p2
          try clear c3
          try clear c4
          try clear p6
          try clear c9
          try clear c12
          try clear c15
          try clear c15b0
          try clear c16
          try clear c16b0
          try clear c17
          try clear c17b0
          try clear c18
          try clear c18b0
          try clear c20
          try clear c23
          try clear c24
          try clear c24b0
          try clear c24b1
          try clear c25
          try clear c25b0
          try clear c25b1
          try clear c25b2
          try clear c27
          try clear c30
          try clear c33
          try clear c33b0
          try clear c33b1
          try clear c34
          try clear c34b0
          try clear c34b1
          try clear c35
          try clear c35b0
          try clear c35b1
          try clear c36
          try clear c36b0
          try clear c36b1
          try clear c38
          try clear c41
          try clear c43
          try clear c45
          try clear hcz13_0
          try clear hcz13_1
          try clear hcz13_2
          try clear hcz21_0
          try clear hcz21_1
          try clear hcz21_2
          try clear hcz21_3
          try clear hcz28_0
          try clear hcz28_1
          try clear hcz28_2
          try clear hcz31_0
          try clear hcz31_1
          try clear hcz31_2
          try clear hcz39_0
          try clear hcz39_1
          try clear hcz39_2
          try clear hcz42_0
          try clear hcz42_1
          try clear hcz42_2
          try clear hcz44_0
          try clear hcz44_1
          try clear hcz44_2
          try clear hcz46_0
          try clear hcz46_1
          try clear hcz46_2
          try clear hcz9_0
          try clear hcz9_1
          try clear hcz9_2
          try clear hcz9_3
          try clear hfz13_0
          try clear hfz13_1
          try clear hfz13_2
          try clear hfz21_0
          try clear hfz21_1
          try clear hfz21_2
          try clear hfz21_3
          try clear hfz28_0
          try clear hfz28_1
          try clear hfz28_2
          try clear hfz31_0
          try clear hfz31_1
          try clear hfz31_2
          try clear hfz39_0
          try clear hfz39_1
          try clear hfz39_2
          try clear hfz42_0
          try clear hfz42_1
          try clear hfz42_2
          try clear hfz44_0
          try clear hfz44_1
          try clear hfz44_2
          try clear hfz46_0
          try clear hfz46_1
          try clear hfz46_2
          try clear hfz9_0
          try clear hfz9_1
          try clear hfz9_2
          try clear hfz9_3
          try clear p2
          obtain ⟨kq, x79_31, rfl, HA, HJ31, HO_162002, BK154, BK161, HB⟩ := hcut
          cases kq with
          | zero => exact absurd HA.out (by simp [celluloidlaw21_CanvasNews.j1])
          | succ kj31 =>
            have H := HA.out
            clear HA
            simp only [celluloidlaw21_CanvasNews.j1] at H
            by_cases c47 : x79_31 = true
            · subst c47
              have H1 : (some false) = some r := by rw [if_pos rfl] at H; exact H
              clear H
              have H := H1
              clear H1
              exact absurd (Option.some.inj H) (by rw [hr_.out]; decide)
            · replace c47 := Bool.eq_false_iff.mpr c47
              subst c47
              have H1 : (celluloidlaw21_CanvasNews.l0 kj31 a0 a1 a3 a4 (t157.length : Int) 0 a2_0 a2_1 a2_2 a2_3 t155 t156 t157) = some r := by rw [if_neg (show ¬ (false = true) by decide)] at H; exact H
              clear H
              have H := H1
              clear H1
              have H' := Aside0.mk H
              clear H
              have hnb48 := NB161_154.out
              have hnc48 := NB154_161.out
              have hcz49_0 : wc.cell? ⟨gb161, 0, none⟩ = some (.int .i64 t155) := (blk_cell BK161.out 0).trans rfl
              have hcz49_1 : wc.cell? ⟨gb161, 1, none⟩ = some (.int .i64 t156) := (blk_cell BK161.out 1).trans rfl
              have hcz49_2 : wc.cell? ⟨gb161, 2, none⟩ = some (.slice Ao14 t157.length co14) := (blk_cell BK161.out 2).trans rfl
              have hfz49_0 := blk_frozen BK161.out 0
              have hfz49_1 := blk_frozen BK161.out 1
              have hfz49_2 := blk_frozen BK161.out 2
              go_wp2
              go_loopg [83] kj31 (fun kq v83 w' => ∃ (x83_3 : Int), v83 = .int .i64 x83_3 ∧ Aside0 (celluloidlaw21_CanvasNews.l0 kq a0 a1 a3 a4 (t157.length : Int) x83_3 a2_0 a2_1 a2_2 a2_3 t155 t156 t157 = some r) ∧ Aside0 (kq ≤ kj31) ∧ Aside0 (Kd.R k23 23 w' w.heap.size (fun k_ => k_ ≠ gb154) (.slice Ao14 t157.length co14) t157) ∧ Aside0 (w'.heap[gb154]? = some (.cells #[.int .i64 a2_0, .int .i64 a2_1, .int .i64 a2_2, .int .i64 a2_3] 23 (0, 0))) ∧ Aside0 (w'.heap[gb161]? = some (.cells #[.int .i64 t155, .int .i64 t156, (.slice Ao14 t157.length co14)] 26 (0, 0))) ∧ Aside0 (Below w.heap.size w w'))
              case atStart => exact ⟨(0), (by first | rfl | (simp; done) | (simp [*]; done)), H', ⟨Nat.le_refl _⟩, ⟨by (with_reducible repeat (first | apply Kd.R_alloc | apply Kd.R_drewN | apply Kd.R_drew)); exact HO_162002.out⟩, ⟨by (with_reducible repeat (first | refine blk_drewN ?_ _ | refine blk_drew ?_ | refine blk_alloc ?_ _)); exact BK154.out⟩, ⟨by (with_reducible repeat (first | refine blk_drewN ?_ _ | refine blk_drew ?_ | refine blk_alloc ?_ _)); exact BK161.out⟩, ⟨by repeat (first | (with_reducible first | exact HB.out | apply below_alloc | apply pw_below_drewN | apply below_drew1 | refine below_set ?_ GE154.out | refine below_set ?_ GE161.out) | exact HB.out)⟩⟩
              case round =>
                clear H'
                try clear c1
                try clear c2
                try clear p2
                try clear c3
                try clear c4
                try clear p6
                try clear c9
                try clear c12
                try clear c15
                try clear c15b0
                try clear c16
                try clear c16b0
                try clear c17
                try clear c17b0
                try clear c18
                try clear c18b0
                try clear c20
                try clear c23
                try clear c24
                try clear c24b0
                try clear c24b1
                try clear c25
                try clear c25b0
                try clear c25b1
                try clear c25b2
                try clear c27
                try clear c30
                try clear c33
                try clear c33b0
                try clear c33b1
                try clear c34
                try clear c34b0
                try clear c34b1
                try clear c35
                try clear c35b0
                try clear c35b1
                try clear c36
                try clear c36b0
                try clear c36b1
                try clear c38
                try clear c41
                try clear c43
                try clear c45
                try clear c47
                try clear c48
                try clear hcz13_0
                try clear hcz13_1
                try clear hcz13_2
                try clear hcz21_0
                try clear hcz21_1
                try clear hcz21_2
                try clear hcz21_3
                try clear hcz28_0
                try clear hcz28_1
                try clear hcz28_2
                try clear hcz31_0
                try clear hcz31_1
                try clear hcz31_2
                try clear hcz39_0
                try clear hcz39_1
                try clear hcz39_2
                try clear hcz42_0
                try clear hcz42_1
                try clear hcz42_2
                try clear hcz44_0
                try clear hcz44_1
                try clear hcz44_2
                try clear hcz46_0
                try clear hcz46_1
                try clear hcz46_2
                try clear hcz49_0
                try clear hcz49_1
                try clear hcz49_2
                try clear hcz9_0
                try clear hcz9_1
                try clear hcz9_2
                try clear hcz9_3
                try clear hfz13_0
                try clear hfz13_1
                try clear hfz13_2
                try clear hfz21_0
                try clear hfz21_1
                try clear hfz21_2
                try clear hfz21_3
                try clear hfz28_0
                try clear hfz28_1
                try clear hfz28_2
                try clear hfz31_0
                try clear hfz31_1
                try clear hfz31_2
                try clear hfz39_0
                try clear hfz39_1
                try clear hfz39_2
                try clear hfz42_0
                try clear hfz42_1
                try clear hfz42_2
                try clear hfz44_0
                try clear hfz44_1
                try clear hfz44_2
                try clear hfz46_0
                try clear hfz46_1
                try clear hfz46_2
                try clear hfz49_0
                try clear hfz49_1
                try clear hfz49_2
                try clear hfz9_0
                try clear hfz9_1
                try clear hfz9_2
                try clear hfz9_3
                try clear p2
                try clear p6
                obtain ⟨x83_3, rfl, HA, HK3, HO_162002, BK154, BK161, HB⟩ := hrel
                cases gk with
                | zero => exact absurd HA.out (by simp [celluloidlaw21_CanvasNews.l0])
                | succ k3 =>
                  have H := HA.out
                  clear HA
                  simp only [celluloidlaw21_CanvasNews.l0] at H
                  by_cases c50 : x83_3 < (t157.length : Int)
                  · rw [if_pos c50] at H
                    have c50b0 : decide (x83_3 < (t157.length : Int)) = true := decide_eq_true c50
                    clear c50
                    by_cases c51 : 0 ≤ x83_3
                    · rw [if_pos c51] at H
                      have c51b0 : decide (0 ≤ x83_3) = true := decide_eq_true c51
                      clear c51
                      by_cases c52 : x83_3 < (t157.length : Int)
                      · rw [if_pos c52] at H
                        have c52b0 : decide (x83_3 < (t157.length : Int)) = true := decide_eq_true c52
                        clear c52
                        by_cases c53 : (!(((rd_T23 t157 x83_3).f0) == a2_0) || (!(((rd_T23 t157 x83_3).f1) == a2_1) || (!(((rd_T23 t157 x83_3).f2) == a2_2) || (!(((rd_T23 t157 x83_3).f3) == a2_3))))) = true
                        · rw [if_pos c53] at H
                          have c53b0 : (!(((rd_T23 t157 x83_3).f0) == a2_0) || (!(((rd_T23 t157 x83_3).f1) == a2_1) || (!(((rd_T23 t157 x83_3).f2) == a2_2) || (!(((rd_T23 t157 x83_3).f3) == a2_3))))) = true := c53
                          clear c53
                          first
                          | exact absurd (Option.some.inj H) (by rw [hr_.out]; decide)
                          | obtain rfl := Option.some.inj H
                            try go_wp2
                            have n0_ := Aside0.mk (Kd.R_drew HO_162002.out)
                            have n1_ := Aside0.mk (blk_drew BK154.out)
                            have n2_ := Aside0.mk (blk_drew BK161.out)
                            have n3_ := Aside0.mk (below_drew1 HB.out)
                            clear HO_162002
                            clear BK154
                            clear BK161
                            clear HB
                            have HO_162002 := n0_
                            have BK154 := n1_
                            have BK161 := n2_
                            have HB := n3_
                            clear n0_ n1_ n2_ n3_
                            have p165 : 0 ≤ (x83_3 : Int) := of_decide_eq_true (by first | (with_reducible assumption) | assumption)
                            have q165 : x83_3 < (t157.length : Int) := of_decide_eq_true (by first | (with_reducible assumption) | assumption)
                            obtain ⟨ad165, e165, hx165_0, hx165_1, hx165_2, hx165_3⟩ := at_T23 (Kd.R_reads' HO_162002.out).2.2 x83_3 p165 q165
                            cases e165
                            replace p165 := eq_true p165
                            replace q165 := eq_true q165
                            refine start_ (n := 7) (S := fun w' => w'.cell? ⟨gb161, 0, none⟩ = some (.int .i64 t155) ∧ w'.cell? ⟨gb161, 1, none⟩ = some (.int .i64 t156) ∧ w'.cell? ⟨gb161, 2, none⟩ = some (.slice (some ad165) t157.length co14) ∧ w'.cell? ⟨gb154, 0, none⟩ = some (.int .i64 a2_0) ∧ w'.cell? ⟨gb154, 1, none⟩ = some (.int .i64 a2_1) ∧ w'.cell? ⟨gb154, 2, none⟩ = some (.int .i64 a2_2) ∧ w'.cell? ⟨gb154, 3, none⟩ = some (.int .i64 a2_3) ∧ w'.cell? (ad165.add ((x83_3).toNat * 4)) = some (.int .i64 ((rd_T23 t157 x83_3).f0)) ∧ w'.cell? ⟨(ad165.add ((x83_3).toNat * 4)).block, (ad165.add ((x83_3).toNat * 4)).off + 1, none⟩ = some (.int .i64 ((rd_T23 t157 x83_3).f1)) ∧ w'.cell? ⟨(ad165.add ((x83_3).toNat * 4)).block, (ad165.add ((x83_3).toNat * 4)).off + 2, none⟩ = some (.int .i64 ((rd_T23 t157 x83_3).f2)) ∧ w'.cell? ⟨(ad165.add ((x83_3).toNat * 4)).block, (ad165.add ((x83_3).toNat * 4)).off + 3, none⟩ = some (.int .i64 ((rd_T23 t157 x83_3).f3))) (ds := []) #[false, false, false, false, false, false, false] (by kernel_rfl) rfl rfl ⟨(blk_cell BK161.out 0).trans rfl, (blk_cell BK161.out 1).trans rfl, (blk_cell BK161.out 2).trans rfl, (blk_cell BK154.out 0).trans rfl, (blk_cell BK154.out 1).trans rfl, (blk_cell BK154.out 2).trans rfl, (blk_cell BK154.out 3).trans rfl, hx165_0, hx165_1, hx165_2, hx165_3⟩ (fun hHeld => ?_)
                            generalize wr.drew = w54 at HO_162002 BK154 BK161 HB hx165_0 hx165_1 hx165_2 hx165_3 hHeld ⊢
                            refine pure_ (i := 0) (N := some 86) (v := ?_) (a' := ?_) #[true, false, false, false, false, false, false] rfl rfl (by kernel_rfl) (fun _ _ _ h => h) (Or.inl ⟨by rfl, ?_⟩) ?_ ?_
                            rotate_left
                            · intro w'
                              go_simp
                              with_reducible rfl
                            rotate_left
                            · simp only [Act.put, List.setIfInBounds_toArray, List.set_cons_zero, List.set_cons_succ, i64_w, i32_w]
                              rfl
                            refine pure_ (i := 2) (N := some 88) (v := ?_) (a' := ?_) #[true, false, true, false, false, false, false] rfl rfl (by kernel_rfl) (fun _ _ _ h => h) (Or.inl ⟨by rfl, ?_⟩) ?_ ?_
                            rotate_left
                            · intro w'
                              go_simp
                              with_reducible rfl
                            rotate_left
                            · simp only [Act.put, List.setIfInBounds_toArray, List.set_cons_zero, List.set_cons_succ, i64_w, i32_w]
                              rfl
                            refine take_ (i := 1) (N := some 87) (v := ?_) (a' := ?_) #[true, true, true, false, false, false, false] rfl rfl (by kernel_rfl) (fun _ _ _ h => h) (Or.inl ⟨by rfl, ?_⟩) hHeld ?_ ?_
                            rotate_left
                            · rintro w' ⟨s0, s1, s2, s3, s4, s5, s6, s7, s8, s9, s10⟩
                              go_simp
                              with_reducible rfl
                            rotate_left
                            · simp only [Act.put, List.setIfInBounds_toArray, List.set_cons_zero, List.set_cons_succ, i64_w, i32_w]
                              rfl
                            refine pure_ (i := 3) (N := some 89) (v := ?_) (a' := ?_) #[true, true, true, true, false, false, false] rfl rfl (by kernel_rfl) (fun _ _ _ h => h) (Or.inl ⟨by rfl, ?_⟩) ?_ ?_
                            rotate_left
                            · intro w'
                              go_simp
                              with_reducible rfl
                            rotate_left
                            · simp only [Act.put, List.setIfInBounds_toArray, List.set_cons_zero, List.set_cons_succ, i64_w, i32_w]
                              rfl
                            refine take_ (i := 4) (N := some 90) (v := ?_) (a' := ?_) #[true, true, true, true, true, false, false] rfl rfl (by kernel_rfl) (fun _ _ _ h => h) (Or.inl ⟨by rfl, ?_⟩) hHeld ?_ ?_
                            rotate_left
                            · rintro w' ⟨s0, s1, s2, s3, s4, s5, s6, s7, s8, s9, s10⟩
                              go_simp
                              with_reducible rfl
                            rotate_left
                            · simp only [Act.put, List.setIfInBounds_toArray, List.set_cons_zero, List.set_cons_succ, i64_w, i32_w]
                              rfl
                            refine take_ (i := 5) (N := some 91) (v := ?_) (a' := ?_) #[true, true, true, true, true, true, false] rfl rfl (by kernel_rfl) (fun _ _ _ h => h) (Or.inl ⟨by rfl, ?_⟩) hHeld ?_ ?_
                            rotate_left
                            · rintro w' ⟨s0, s1, s2, s3, s4, s5, s6, s7, s8, s9, s10⟩
                              go_simp
                              with_reducible rfl
                            rotate_left
                            · simp only [Act.put, List.setIfInBounds_toArray, List.set_cons_zero, List.set_cons_succ, i64_w, i32_w]
                              rfl
                            refine pure_ (i := 6) (N := some 92) (v := ?_) (a' := ?_) #[true, true, true, true, true, true, true] rfl rfl (by kernel_rfl) (fun _ _ _ h => h) (Or.inl ⟨by rfl, ?_⟩) ?_ ?_
                            rotate_left
                            · intro w'
                              go_simp
                              with_reducible rfl
                            rotate_left
                            · simp only [Act.put, List.setIfInBounds_toArray, List.set_cons_zero, List.set_cons_succ, i64_w, i32_w]
                              rfl
                            refine done_ (by kernel_rfl) ?_
                            try go_wp2
                            go_ret
                            exact ⟨by first | rfl | (simp [errW_none, errW_some] <;> rfl) | (simp [*, errW_none, errW_some] <;> rfl), by repeat (first | (with_reducible first | exact HB.out | apply below_alloc | apply pw_below_drewN | apply below_drew1 | refine below_set ?_ GE154.out | refine below_set ?_ GE161.out) | exact HB.out)⟩
                        · rw [if_neg c53] at H
                          have c53b0 : (!(((rd_T23 t157 x83_3).f0) == a2_0) || (!(((rd_T23 t157 x83_3).f1) == a2_1) || (!(((rd_T23 t157 x83_3).f2) == a2_2) || (!(((rd_T23 t157 x83_3).f3) == a2_3))))) = false := by simpa using c53
                          clear c53
                          have H' := Aside0.mk H
                          clear H
                          try go_wp2
                          have n0_ := Aside0.mk (Kd.R_drew HO_162002.out)
                          have n1_ := Aside0.mk (blk_drew BK154.out)
                          have n2_ := Aside0.mk (blk_drew BK161.out)
                          have n3_ := Aside0.mk (below_drew1 HB.out)
                          clear HO_162002
                          clear BK154
                          clear BK161
                          clear HB
                          have HO_162002 := n0_
                          have BK154 := n1_
                          have BK161 := n2_
                          have HB := n3_
                          clear n0_ n1_ n2_ n3_
                          have p165 : 0 ≤ (x83_3 : Int) := of_decide_eq_true (by first | (with_reducible assumption) | assumption)
                          have q165 : x83_3 < (t157.length : Int) := of_decide_eq_true (by first | (with_reducible assumption) | assumption)
                          obtain ⟨ad165, e165, hx165_0, hx165_1, hx165_2, hx165_3⟩ := at_T23 (Kd.R_reads' HO_162002.out).2.2 x83_3 p165 q165
                          cases e165
                          replace p165 := eq_true p165
                          replace q165 := eq_true q165
                          refine start_ (n := 7) (S := fun w' => w'.cell? ⟨gb161, 0, none⟩ = some (.int .i64 t155) ∧ w'.cell? ⟨gb161, 1, none⟩ = some (.int .i64 t156) ∧ w'.cell? ⟨gb161, 2, none⟩ = some (.slice (some ad165) t157.length co14) ∧ w'.cell? ⟨gb154, 0, none⟩ = some (.int .i64 a2_0) ∧ w'.cell? ⟨gb154, 1, none⟩ = some (.int .i64 a2_1) ∧ w'.cell? ⟨gb154, 2, none⟩ = some (.int .i64 a2_2) ∧ w'.cell? ⟨gb154, 3, none⟩ = some (.int .i64 a2_3) ∧ w'.cell? (ad165.add ((x83_3).toNat * 4)) = some (.int .i64 ((rd_T23 t157 x83_3).f0)) ∧ w'.cell? ⟨(ad165.add ((x83_3).toNat * 4)).block, (ad165.add ((x83_3).toNat * 4)).off + 1, none⟩ = some (.int .i64 ((rd_T23 t157 x83_3).f1)) ∧ w'.cell? ⟨(ad165.add ((x83_3).toNat * 4)).block, (ad165.add ((x83_3).toNat * 4)).off + 2, none⟩ = some (.int .i64 ((rd_T23 t157 x83_3).f2)) ∧ w'.cell? ⟨(ad165.add ((x83_3).toNat * 4)).block, (ad165.add ((x83_3).toNat * 4)).off + 3, none⟩ = some (.int .i64 ((rd_T23 t157 x83_3).f3))) (ds := []) #[false, false, false, false, false, false, false] (by kernel_rfl) rfl rfl ⟨(blk_cell BK161.out 0).trans rfl, (blk_cell BK161.out 1).trans rfl, (blk_cell BK161.out 2).trans rfl, (blk_cell BK154.out 0).trans rfl, (blk_cell BK154.out 1).trans rfl, (blk_cell BK154.out 2).trans rfl, (blk_cell BK154.out 3).trans rfl, hx165_0, hx165_1, hx165_2, hx165_3⟩ (fun hHeld => ?_)
                          generalize wr.drew = w55 at HO_162002 BK154 BK161 HB hx165_0 hx165_1 hx165_2 hx165_3 hHeld ⊢
                          refine pure_ (i := 0) (N := some 86) (v := ?_) (a' := ?_) #[true, false, false, false, false, false, false] rfl rfl (by kernel_rfl) (fun _ _ _ h => h) (Or.inl ⟨by rfl, ?_⟩) ?_ ?_
                          rotate_left
                          · intro w'
                            go_simp
                            with_reducible rfl
                          rotate_left
                          · simp only [Act.put, List.setIfInBounds_toArray, List.set_cons_zero, List.set_cons_succ, i64_w, i32_w]
                            rfl
                          refine pure_ (i := 2) (N := some 88) (v := ?_) (a' := ?_) #[true, false, true, false, false, false, false] rfl rfl (by kernel_rfl) (fun _ _ _ h => h) (Or.inl ⟨by rfl, ?_⟩) ?_ ?_
                          rotate_left
                          · intro w'
                            go_simp
                            with_reducible rfl
                          rotate_left
                          · simp only [Act.put, List.setIfInBounds_toArray, List.set_cons_zero, List.set_cons_succ, i64_w, i32_w]
                            rfl
                          refine take_ (i := 1) (N := some 87) (v := ?_) (a' := ?_) #[true, true, true, false, false, false, false] rfl rfl (by kernel_rfl) (fun _ _ _ h => h) (Or.inl ⟨by rfl, ?_⟩) hHeld ?_ ?_
                          rotate_left
                          · rintro w' ⟨s0, s1, s2, s3, s4, s5, s6, s7, s8, s9, s10⟩
                            go_simp
                            with_reducible rfl
                          rotate_left
                          · simp only [Act.put, List.setIfInBounds_toArray, List.set_cons_zero, List.set_cons_succ, i64_w, i32_w]
                            rfl
                          refine pure_ (i := 3) (N := some 89) (v := ?_) (a' := ?_) #[true, true, true, true, false, false, false] rfl rfl (by kernel_rfl) (fun _ _ _ h => h) (Or.inl ⟨by rfl, ?_⟩) ?_ ?_
                          rotate_left
                          · intro w'
                            go_simp
                            with_reducible rfl
                          rotate_left
                          · simp only [Act.put, List.setIfInBounds_toArray, List.set_cons_zero, List.set_cons_succ, i64_w, i32_w]
                            rfl
                          refine take_ (i := 4) (N := some 90) (v := ?_) (a' := ?_) #[true, true, true, true, true, false, false] rfl rfl (by kernel_rfl) (fun _ _ _ h => h) (Or.inl ⟨by rfl, ?_⟩) hHeld ?_ ?_
                          rotate_left
                          · rintro w' ⟨s0, s1, s2, s3, s4, s5, s6, s7, s8, s9, s10⟩
                            go_simp
                            with_reducible rfl
                          rotate_left
                          · simp only [Act.put, List.setIfInBounds_toArray, List.set_cons_zero, List.set_cons_succ, i64_w, i32_w]
                            rfl
                          refine take_ (i := 5) (N := some 91) (v := ?_) (a' := ?_) #[true, true, true, true, true, true, false] rfl rfl (by kernel_rfl) (fun _ _ _ h => h) (Or.inl ⟨by rfl, ?_⟩) hHeld ?_ ?_
                          rotate_left
                          · rintro w' ⟨s0, s1, s2, s3, s4, s5, s6, s7, s8, s9, s10⟩
                            go_simp
                            with_reducible rfl
                          rotate_left
                          · simp only [Act.put, List.setIfInBounds_toArray, List.set_cons_zero, List.set_cons_succ, i64_w, i32_w]
                            rfl
                          refine pure_ (i := 6) (N := some 92) (v := ?_) (a' := ?_) #[true, true, true, true, true, true, true] rfl rfl (by kernel_rfl) (fun _ _ _ h => h) (Or.inl ⟨by rfl, ?_⟩) ?_ ?_
                          rotate_left
                          · intro w'
                            go_simp
                            with_reducible rfl
                          rotate_left
                          · simp only [Act.put, List.setIfInBounds_toArray, List.set_cons_zero, List.set_cons_succ, i64_w, i32_w]
                            rfl
                          refine done_ (by kernel_rfl) ?_
                          try go_wp2
                          go_roundg k3
                          case measure => have := HJ6.out; have := HJ31.out; have := HK3.out; omega
                          case rel => exact ⟨(wrap64 (x83_3 + 1)), (by first | rfl | (simp; done) | (simp [*]; done)), H', ⟨by have := HJ6.out; have := HJ31.out; have := HK3.out; omega⟩, ⟨by (with_reducible repeat (first | apply Kd.R_alloc | apply Kd.R_drewN | apply Kd.R_drew)); exact HO_162002.out⟩, ⟨by (with_reducible repeat (first | refine blk_drewN ?_ _ | refine blk_drew ?_ | refine blk_alloc ?_ _)); exact BK154.out⟩, ⟨by (with_reducible repeat (first | refine blk_drewN ?_ _ | refine blk_drew ?_ | refine blk_alloc ?_ _)); exact BK161.out⟩, ⟨by repeat (first | (with_reducible first | exact HB.out | apply below_alloc | apply pw_below_drewN | apply below_drew1 | refine below_set ?_ GE154.out | refine below_set ?_ GE161.out) | exact HB.out)⟩⟩
                      · rw [if_neg c52] at H
                        exact absurd H (by simp)
                    · rw [if_neg c51] at H
                      exact absurd H (by simp)
                  · rw [if_neg c50] at H
                    have c50b0 : decide (x83_3 < (t157.length : Int)) = false := decide_eq_false c50
                    clear c50
                    have HC56 := Aside0.mk H
                    clear H
                    have hnb57 := NB154_161.out
                    have hnc57 := NB161_154.out
                    have hcz58_0 : wr.cell? ⟨gb154, 0, none⟩ = some (.int .i64 a2_0) := (blk_cell BK154.out 0).trans rfl
                    have hcz58_1 : wr.cell? ⟨gb154, 1, none⟩ = some (.int .i64 a2_1) := (blk_cell BK154.out 1).trans rfl
                    have hcz58_2 : wr.cell? ⟨gb154, 2, none⟩ = some (.int .i64 a2_2) := (blk_cell BK154.out 2).trans rfl
                    have hcz58_3 : wr.cell? ⟨gb154, 3, none⟩ = some (.int .i64 a2_3) := (blk_cell BK154.out 3).trans rfl
                    have hfz58_0 := blk_frozen BK154.out 0
                    have hfz58_1 := blk_frozen BK154.out 1
                    have hfz58_2 := blk_frozen BK154.out 2
                    have hfz58_3 := blk_frozen BK154.out 3
                    go_upto_region 13 with (first | ((with_reducible refine gate_dst (N := 14) rfl ?_); (try (refine gate_guard (by rfl) ?_; dsimp only)); refine box_event ?hg (N := 14) ?hd (cs := #[.int .i64 0, .int .i64 0, .int .i64 0, .int .i64 0]) (t := 23) ?hr ?_; (case hd => rfl); (case hg => rfl); (case hr => first | (go_simp; done) | (go_simp; rfl)); intro gb166 hg w59 hbox hb; have n0_ := Aside0.mk (Kd.R_below (Kd.R_elderB (by (with_reducible repeat (first | apply Kd.R_alloc | apply Kd.R_drewN | apply Kd.R_drew)); exact HO_162002.out) gb166 (Nat.le_of_eq hg.symm)) hb); have n1_ := Aside0.mk (blk_below (g := gb154) (o := .cells #[.int .i64 a2_0, .int .i64 a2_1, .int .i64 a2_2, .int .i64 a2_3] 23 (0, 0)) (by (with_reducible repeat (first | refine blk_drewN ?_ _ | refine blk_drew ?_ | refine blk_alloc ?_ _)); exact BK154.out) hb); have n2_ := Aside0.mk (blk_below (g := gb161) (o := .cells #[.int .i64 t155, .int .i64 t156, .slice Ao14 t157.length co14] 26 (0, 0)) (by (with_reducible repeat (first | refine blk_drewN ?_ _ | refine blk_drew ?_ | refine blk_alloc ?_ _)); exact BK161.out) hb); have n3_ := Aside0.mk (below_step (by repeat (first | (with_reducible first | exact HB.out | apply below_alloc | apply pw_below_drewN | apply below_drew1 | refine below_set ?_ GE154.out | refine below_set ?_ GE161.out) | exact HB.out)) hb); have n4_ := Aside0.mk (hbox); have n5_ := Aside0.mk ((by rw [hg]; exact (below_size (by repeat (first | (with_reducible first | exact HB.out | apply below_alloc | apply pw_below_drewN | apply below_drew1 | refine below_set ?_ GE154.out | refine below_set ?_ GE161.out) | exact HB.out))) : w.heap.size ≤ gb166)); have n6_ := Aside0.mk ((by rw [hg]; exact (below_size (by repeat (first | (with_reducible first | exact HB.out | apply below_alloc | apply pw_below_drewN | apply below_drew1 | refine below_set ?_ GE154.out | refine below_set ?_ GE161.out) | exact HB.out))) : w.heap.size ≤ gb166)); have n7_ := Aside0.mk ((by rw [hg]; exact Nat.ne_of_lt (blk_lt (g := gb154) (o := .cells #[.int .i64 a2_0, .int .i64 a2_1, .int .i64 a2_2, .int .i64 a2_3] 23 (0, 0)) (by (with_reducible repeat (first | refine blk_drewN ?_ _ | refine blk_drew ?_ | refine blk_alloc ?_ _)); exact BK154.out)) : gb154 ≠ gb166)); have n8_ := Aside0.mk ((by rw [hg]; exact Nat.ne_of_gt (blk_lt (g := gb154) (o := .cells #[.int .i64 a2_0, .int .i64 a2_1, .int .i64 a2_2, .int .i64 a2_3] 23 (0, 0)) (by (with_reducible repeat (first | refine blk_drewN ?_ _ | refine blk_drew ?_ | refine blk_alloc ?_ _)); exact BK154.out)) : gb166 ≠ gb154)); have n9_ := Aside0.mk ((by rw [hg]; exact Nat.ne_of_lt (blk_lt (g := gb161) (o := .cells #[.int .i64 t155, .int .i64 t156, .slice Ao14 t157.length co14] 26 (0, 0)) (by (with_reducible repeat (first | refine blk_drewN ?_ _ | refine blk_drew ?_ | refine blk_alloc ?_ _)); exact BK161.out)) : gb161 ≠ gb166)); have n10_ := Aside0.mk ((by rw [hg]; exact Nat.ne_of_gt (blk_lt (g := gb161) (o := .cells #[.int .i64 t155, .int .i64 t156, .slice Ao14 t157.length co14] 26 (0, 0)) (by (with_reducible repeat (first | refine blk_drewN ?_ _ | refine blk_drew ?_ | refine blk_alloc ?_ _)); exact BK161.out)) : gb166 ≠ gb161)); clear HO_162002; clear BK154; clear BK161; clear HB; have HO_162002 := n0_; have BK154 := n1_; have BK161 := n2_; have HB := n3_; have BK166 := n4_; have GW166 := n5_; have GE166 := n6_; have NB154_166 := n7_; have NB166_154 := n8_; have NB161_166 := n9_; have NB166_161 := n10_; clear n0_ n1_ n2_ n3_ n4_ n5_ n6_ n7_ n8_ n9_ n10_; clear hb hbox hg; have hnb60 := NB166_154.out; have hnc60 := NB154_166.out; have hnb61 := NB166_161.out; have hnc61 := NB161_166.out; have hcz62_0 : w59.cell? ⟨gb166, 0, none⟩ = some (.int .i64 0) := (blk_cell BK166.out 0).trans rfl; have hcz62_1 : w59.cell? ⟨gb166, 1, none⟩ = some (.int .i64 0) := (blk_cell BK166.out 1).trans rfl; have hcz62_2 : w59.cell? ⟨gb166, 2, none⟩ = some (.int .i64 0) := (blk_cell BK166.out 2).trans rfl; have hcz62_3 : w59.cell? ⟨gb166, 3, none⟩ = some (.int .i64 0) := (blk_cell BK166.out 3).trans rfl; have hfz62_0 := blk_frozen BK166.out 0; have hfz62_1 := blk_frozen BK166.out 1; have hfz62_2 := blk_frozen BK166.out 2; have hfz62_3 := blk_frozen BK166.out 3))
                    (try simp only [Act.put, List.setIfInBounds_toArray, List.set_cons_zero, List.set_cons_succ])
                    go_cut [110] (fun v110 wc => ∃ (kq : Nat) (x110_55 : Bool), v110 = .bool x110_55 ∧ Aside0 (celluloidlaw21_CanvasNews.j3 kq a3 a4 x110_55 t155 t156 t157 a2_0 a2_1 a2_2 a2_3 = some r) ∧ Aside0 (kq ≤ k3) ∧ Aside0 (Kd.R k23 23 wc w.heap.size (fun k_ => k_ ≠ gb154 ∧ k_ ≠ gb166) (.slice Ao14 t157.length co14) t157) ∧ Aside0 (wc.heap[gb154]? = some (.cells #[.int .i64 a2_0, .int .i64 a2_1, .int .i64 a2_2, .int .i64 a2_3] 23 (0, 0))) ∧ Aside0 (wc.heap[gb161]? = some (.cells #[.int .i64 t155, .int .i64 t156, (.slice Ao14 t157.length co14)] 26 (0, 0))) ∧ Aside0 (wc.heap[gb166]? = some (.cells #[.int .i64 a2_0, .int .i64 a2_1, .int .i64 a2_2, .int .i64 a2_3] 23 (0, 0))) ∧ Aside0 (Below w.heap.size w wc))
                    case first =>
                      have H := HC56.out
                      clear HC56
                      by_cases c63 : a3 < 0
                      · rw [if_pos c63] at H
                        have c63b0 : decide (a3 < 0) = true := decide_eq_true c63
                        clear c63
                        (first | rw [c63b0] | (simp only [i64_w, i32_w]; rw [c63b0]) | skip)
                        have H' := Aside0.mk H
                        clear H
                        go_wp2
                        go_meet
                        case rel => exact ⟨_, (true), (by first | rfl | (simp; done) | (simp [*]; done)), H', ⟨by have := HJ6.out; have := HJ31.out; have := HK3.out; first | omega | exact Nat.le_refl _⟩, ⟨by (with_reducible repeat (first | apply Kd.R_alloc | apply Kd.R_drewN | apply Kd.R_drew)); exact Kd.R_mono (Kd.R_far (p := ⟨gb166, 3, none⟩) (Kd.R_far (p := ⟨gb166, 2, none⟩) (Kd.R_far (p := ⟨gb166, 1, none⟩) (Kd.R_far (p := ⟨gb166, 0, none⟩) (Kd.R_mono HO_162002.out (fun k_ hk => (⟨hk, hk.2⟩ : _ ∧ k_ ≠ gb166))) (fun _ hk => hk.2) (.int .i64 a2_0)) (fun _ hk => hk.2) (.int .i64 a2_1)) (fun _ hk => hk.2) (.int .i64 a2_2)) (fun _ hk => hk.2) (.int .i64 a2_3)) (fun _ hk => ⟨hk.1.1, hk.1.2⟩)⟩, ⟨by (with_reducible repeat (first | refine blk_drewN ?_ _ | refine blk_drew ?_ | refine blk_alloc ?_ _)); refine blk_far ?_ NB154_166.out _; (with_reducible repeat (first | refine blk_drewN ?_ _ | refine blk_drew ?_ | refine blk_alloc ?_ _)); refine blk_far ?_ NB154_166.out _; (with_reducible repeat (first | refine blk_drewN ?_ _ | refine blk_drew ?_ | refine blk_alloc ?_ _)); refine blk_far ?_ NB154_166.out _; (with_reducible repeat (first | refine blk_drewN ?_ _ | refine blk_drew ?_ | refine blk_alloc ?_ _)); refine blk_far ?_ NB154_166.out _; (with_reducible repeat (first | refine blk_drewN ?_ _ | refine blk_drew ?_ | refine blk_alloc ?_ _)); exact BK154.out⟩, ⟨by (with_reducible repeat (first | refine blk_drewN ?_ _ | refine blk_drew ?_ | refine blk_alloc ?_ _)); refine blk_far ?_ NB161_166.out _; (with_reducible repeat (first | refine blk_drewN ?_ _ | refine blk_drew ?_ | refine blk_alloc ?_ _)); refine blk_far ?_ NB161_166.out _; (with_reducible repeat (first | refine blk_drewN ?_ _ | refine blk_drew ?_ | refine blk_alloc ?_ _)); refine blk_far ?_ NB161_166.out _; (with_reducible repeat (first | refine blk_drewN ?_ _ | refine blk_drew ?_ | refine blk_alloc ?_ _)); refine blk_far ?_ NB161_166.out _; (with_reducible repeat (first | refine blk_drewN ?_ _ | refine blk_drew ?_ | refine blk_alloc ?_ _)); exact BK161.out⟩, ⟨by (with_reducible repeat (first | refine blk_drewN ?_ _ | refine blk_drew ?_ | refine blk_alloc ?_ _)); refine blk_put (cs := #[.int .i64 a2_0, .int .i64 a2_1, .int .i64 a2_2, .int .i64 0]) ?_ 3 _ rfl; (with_reducible repeat (first | refine blk_drewN ?_ _ | refine blk_drew ?_ | refine blk_alloc ?_ _)); refine blk_put (cs := #[.int .i64 a2_0, .int .i64 a2_1, .int .i64 0, .int .i64 0]) ?_ 2 _ rfl; (with_reducible repeat (first | refine blk_drewN ?_ _ | refine blk_drew ?_ | refine blk_alloc ?_ _)); refine blk_put (cs := #[.int .i64 a2_0, .int .i64 0, .int .i64 0, .int .i64 0]) ?_ 1 _ rfl; (with_reducible repeat (first | refine blk_drewN ?_ _ | refine blk_drew ?_ | refine blk_alloc ?_ _)); refine blk_put (cs := #[.int .i64 0, .int .i64 0, .int .i64 0, .int .i64 0]) ?_ 0 _ rfl; (with_reducible repeat (first | refine blk_drewN ?_ _ | refine blk_drew ?_ | refine blk_alloc ?_ _)); exact BK166.out⟩, ⟨by repeat (first | (with_reducible first | exact HB.out | apply below_alloc | apply pw_below_drewN | apply below_drew1 | refine below_set ?_ GE154.out | refine below_set ?_ GE161.out | refine below_set ?_ GE166.out) | exact HB.out)⟩⟩
                      · rw [if_neg c63] at H
                        have c63b0 : decide (a3 < 0) = false := decide_eq_false c63
                        clear c63
                        (first | rw [c63b0] | (simp only [i64_w, i32_w]; rw [c63b0]) | skip)
                        by_cases c64 : a3 ≥ a0
                        · rw [if_pos c64] at H
                          have c64b0 : decide (a0 ≤ a3) = true := decide_eq_true c64
                          clear c64
                          have H' := Aside0.mk H
                          clear H
                          go_wp2
                          go_meet
                          case rel => exact ⟨_, (true), (by first | rfl | (simp; done) | (simp [*]; done)), H', ⟨by have := HJ6.out; have := HJ31.out; have := HK3.out; first | omega | exact Nat.le_refl _⟩, ⟨by (with_reducible repeat (first | apply Kd.R_alloc | apply Kd.R_drewN | apply Kd.R_drew)); exact Kd.R_mono (Kd.R_far (p := ⟨gb166, 3, none⟩) (Kd.R_far (p := ⟨gb166, 2, none⟩) (Kd.R_far (p := ⟨gb166, 1, none⟩) (Kd.R_far (p := ⟨gb166, 0, none⟩) (Kd.R_mono HO_162002.out (fun k_ hk => (⟨hk, hk.2⟩ : _ ∧ k_ ≠ gb166))) (fun _ hk => hk.2) (.int .i64 a2_0)) (fun _ hk => hk.2) (.int .i64 a2_1)) (fun _ hk => hk.2) (.int .i64 a2_2)) (fun _ hk => hk.2) (.int .i64 a2_3)) (fun _ hk => ⟨hk.1.1, hk.1.2⟩)⟩, ⟨by (with_reducible repeat (first | refine blk_drewN ?_ _ | refine blk_drew ?_ | refine blk_alloc ?_ _)); refine blk_far ?_ NB154_166.out _; (with_reducible repeat (first | refine blk_drewN ?_ _ | refine blk_drew ?_ | refine blk_alloc ?_ _)); refine blk_far ?_ NB154_166.out _; (with_reducible repeat (first | refine blk_drewN ?_ _ | refine blk_drew ?_ | refine blk_alloc ?_ _)); refine blk_far ?_ NB154_166.out _; (with_reducible repeat (first | refine blk_drewN ?_ _ | refine blk_drew ?_ | refine blk_alloc ?_ _)); refine blk_far ?_ NB154_166.out _; (with_reducible repeat (first | refine blk_drewN ?_ _ | refine blk_drew ?_ | refine blk_alloc ?_ _)); exact BK154.out⟩, ⟨by (with_reducible repeat (first | refine blk_drewN ?_ _ | refine blk_drew ?_ | refine blk_alloc ?_ _)); refine blk_far ?_ NB161_166.out _; (with_reducible repeat (first | refine blk_drewN ?_ _ | refine blk_drew ?_ | refine blk_alloc ?_ _)); refine blk_far ?_ NB161_166.out _; (with_reducible repeat (first | refine blk_drewN ?_ _ | refine blk_drew ?_ | refine blk_alloc ?_ _)); refine blk_far ?_ NB161_166.out _; (with_reducible repeat (first | refine blk_drewN ?_ _ | refine blk_drew ?_ | refine blk_alloc ?_ _)); refine blk_far ?_ NB161_166.out _; (with_reducible repeat (first | refine blk_drewN ?_ _ | refine blk_drew ?_ | refine blk_alloc ?_ _)); exact BK161.out⟩, ⟨by (with_reducible repeat (first | refine blk_drewN ?_ _ | refine blk_drew ?_ | refine blk_alloc ?_ _)); refine blk_put (cs := #[.int .i64 a2_0, .int .i64 a2_1, .int .i64 a2_2, .int .i64 0]) ?_ 3 _ rfl; (with_reducible repeat (first | refine blk_drewN ?_ _ | refine blk_drew ?_ | refine blk_alloc ?_ _)); refine blk_put (cs := #[.int .i64 a2_0, .int .i64 a2_1, .int .i64 0, .int .i64 0]) ?_ 2 _ rfl; (with_reducible repeat (first | refine blk_drewN ?_ _ | refine blk_drew ?_ | refine blk_alloc ?_ _)); refine blk_put (cs := #[.int .i64 a2_0, .int .i64 0, .int .i64 0, .int .i64 0]) ?_ 1 _ rfl; (with_reducible repeat (first | refine blk_drewN ?_ _ | refine blk_drew ?_ | refine blk_alloc ?_ _)); refine blk_put (cs := #[.int .i64 0, .int .i64 0, .int .i64 0, .int .i64 0]) ?_ 0 _ rfl; (with_reducible repeat (first | refine blk_drewN ?_ _ | refine blk_drew ?_ | refine blk_alloc ?_ _)); exact BK166.out⟩, ⟨by repeat (first | (with_reducible first | exact HB.out | apply below_alloc | apply pw_below_drewN | apply below_drew1 | refine below_set ?_ GE154.out | refine below_set ?_ GE161.out | refine below_set ?_ GE166.out) | exact HB.out)⟩⟩
                        · rw [if_neg c64] at H
                          have c64b0 : decide (a0 ≤ a3) = false := decide_eq_false c64
                          clear c64
                          by_cases c65 : a4 < 0
                          · rw [if_pos c65] at H
                            have c65b0 : decide (a4 < 0) = true := decide_eq_true c65
                            clear c65
                            have H' := Aside0.mk H
                            clear H
                            go_wp2
                            go_meet
                            case rel => exact ⟨_, (true), (by first | rfl | (simp; done) | (simp [*]; done)), H', ⟨by have := HJ6.out; have := HJ31.out; have := HK3.out; first | omega | exact Nat.le_refl _⟩, ⟨by (with_reducible repeat (first | apply Kd.R_alloc | apply Kd.R_drewN | apply Kd.R_drew)); exact Kd.R_mono (Kd.R_far (p := ⟨gb166, 3, none⟩) (Kd.R_far (p := ⟨gb166, 2, none⟩) (Kd.R_far (p := ⟨gb166, 1, none⟩) (Kd.R_far (p := ⟨gb166, 0, none⟩) (Kd.R_mono HO_162002.out (fun k_ hk => (⟨hk, hk.2⟩ : _ ∧ k_ ≠ gb166))) (fun _ hk => hk.2) (.int .i64 a2_0)) (fun _ hk => hk.2) (.int .i64 a2_1)) (fun _ hk => hk.2) (.int .i64 a2_2)) (fun _ hk => hk.2) (.int .i64 a2_3)) (fun _ hk => ⟨hk.1.1, hk.1.2⟩)⟩, ⟨by (with_reducible repeat (first | refine blk_drewN ?_ _ | refine blk_drew ?_ | refine blk_alloc ?_ _)); refine blk_far ?_ NB154_166.out _; (with_reducible repeat (first | refine blk_drewN ?_ _ | refine blk_drew ?_ | refine blk_alloc ?_ _)); refine blk_far ?_ NB154_166.out _; (with_reducible repeat (first | refine blk_drewN ?_ _ | refine blk_drew ?_ | refine blk_alloc ?_ _)); refine blk_far ?_ NB154_166.out _; (with_reducible repeat (first | refine blk_drewN ?_ _ | refine blk_drew ?_ | refine blk_alloc ?_ _)); refine blk_far ?_ NB154_166.out _; (with_reducible repeat (first | refine blk_drewN ?_ _ | refine blk_drew ?_ | refine blk_alloc ?_ _)); exact BK154.out⟩, ⟨by (with_reducible repeat (first | refine blk_drewN ?_ _ | refine blk_drew ?_ | refine blk_alloc ?_ _)); refine blk_far ?_ NB161_166.out _; (with_reducible repeat (first | refine blk_drewN ?_ _ | refine blk_drew ?_ | refine blk_alloc ?_ _)); refine blk_far ?_ NB161_166.out _; (with_reducible repeat (first | refine blk_drewN ?_ _ | refine blk_drew ?_ | refine blk_alloc ?_ _)); refine blk_far ?_ NB161_166.out _; (with_reducible repeat (first | refine blk_drewN ?_ _ | refine blk_drew ?_ | refine blk_alloc ?_ _)); refine blk_far ?_ NB161_166.out _; (with_reducible repeat (first | refine blk_drewN ?_ _ | refine blk_drew ?_ | refine blk_alloc ?_ _)); exact BK161.out⟩, ⟨by (with_reducible repeat (first | refine blk_drewN ?_ _ | refine blk_drew ?_ | refine blk_alloc ?_ _)); refine blk_put (cs := #[.int .i64 a2_0, .int .i64 a2_1, .int .i64 a2_2, .int .i64 0]) ?_ 3 _ rfl; (with_reducible repeat (first | refine blk_drewN ?_ _ | refine blk_drew ?_ | refine blk_alloc ?_ _)); refine blk_put (cs := #[.int .i64 a2_0, .int .i64 a2_1, .int .i64 0, .int .i64 0]) ?_ 2 _ rfl; (with_reducible repeat (first | refine blk_drewN ?_ _ | refine blk_drew ?_ | refine blk_alloc ?_ _)); refine blk_put (cs := #[.int .i64 a2_0, .int .i64 0, .int .i64 0, .int .i64 0]) ?_ 1 _ rfl; (with_reducible repeat (first | refine blk_drewN ?_ _ | refine blk_drew ?_ | refine blk_alloc ?_ _)); refine blk_put (cs := #[.int .i64 0, .int .i64 0, .int .i64 0, .int .i64 0]) ?_ 0 _ rfl; (with_reducible repeat (first | refine blk_drewN ?_ _ | refine blk_drew ?_ | refine blk_alloc ?_ _)); exact BK166.out⟩, ⟨by repeat (first | (with_reducible first | exact HB.out | apply below_alloc | apply pw_below_drewN | apply below_drew1 | refine below_set ?_ GE154.out | refine below_set ?_ GE161.out | refine below_set ?_ GE166.out) | exact HB.out)⟩⟩
                          · rw [if_neg c65] at H
                            have c65b0 : decide (a4 < 0) = false := decide_eq_false c65
                            clear c65
                            have H' := Aside0.mk H
                            clear H
                            go_wp2
                            go_meet
                            case rel => exact ⟨_, (decide (a4 ≥ a1)), (by first | rfl | (simp; done) | (simp [*]; done)), H', ⟨by have := HJ6.out; have := HJ31.out; have := HK3.out; first | omega | exact Nat.le_refl _⟩, ⟨by (with_reducible repeat (first | apply Kd.R_alloc | apply Kd.R_drewN | apply Kd.R_drew)); exact Kd.R_mono (Kd.R_far (p := ⟨gb166, 3, none⟩) (Kd.R_far (p := ⟨gb166, 2, none⟩) (Kd.R_far (p := ⟨gb166, 1, none⟩) (Kd.R_far (p := ⟨gb166, 0, none⟩) (Kd.R_mono HO_162002.out (fun k_ hk => (⟨hk, hk.2⟩ : _ ∧ k_ ≠ gb166))) (fun _ hk => hk.2) (.int .i64 a2_0)) (fun _ hk => hk.2) (.int .i64 a2_1)) (fun _ hk => hk.2) (.int .i64 a2_2)) (fun _ hk => hk.2) (.int .i64 a2_3)) (fun _ hk => ⟨hk.1.1, hk.1.2⟩)⟩, ⟨by (with_reducible repeat (first | refine blk_drewN ?_ _ | refine blk_drew ?_ | refine blk_alloc ?_ _)); refine blk_far ?_ NB154_166.out _; (with_reducible repeat (first | refine blk_drewN ?_ _ | refine blk_drew ?_ | refine blk_alloc ?_ _)); refine blk_far ?_ NB154_166.out _; (with_reducible repeat (first | refine blk_drewN ?_ _ | refine blk_drew ?_ | refine blk_alloc ?_ _)); refine blk_far ?_ NB154_166.out _; (with_reducible repeat (first | refine blk_drewN ?_ _ | refine blk_drew ?_ | refine blk_alloc ?_ _)); refine blk_far ?_ NB154_166.out _; (with_reducible repeat (first | refine blk_drewN ?_ _ | refine blk_drew ?_ | refine blk_alloc ?_ _)); exact BK154.out⟩, ⟨by (with_reducible repeat (first | refine blk_drewN ?_ _ | refine blk_drew ?_ | refine blk_alloc ?_ _)); refine blk_far ?_ NB161_166.out _; (with_reducible repeat (first | refine blk_drewN ?_ _ | refine blk_drew ?_ | refine blk_alloc ?_ _)); refine blk_far ?_ NB161_166.out _; (with_reducible repeat (first | refine blk_drewN ?_ _ | refine blk_drew ?_ | refine blk_alloc ?_ _)); refine blk_far ?_ NB161_166.out _; (with_reducible repeat (first | refine blk_drewN ?_ _ | refine blk_drew ?_ | refine blk_alloc ?_ _)); refine blk_far ?_ NB161_166.out _; (with_reducible repeat (first | refine blk_drewN ?_ _ | refine blk_drew ?_ | refine blk_alloc ?_ _)); exact BK161.out⟩, ⟨by (with_reducible repeat (first | refine blk_drewN ?_ _ | refine blk_drew ?_ | refine blk_alloc ?_ _)); refine blk_put (cs := #[.int .i64 a2_0, .int .i64 a2_1, .int .i64 a2_2, .int .i64 0]) ?_ 3 _ rfl; (with_reducible repeat (first | refine blk_drewN ?_ _ | refine blk_drew ?_ | refine blk_alloc ?_ _)); refine blk_put (cs := #[.int .i64 a2_0, .int .i64 a2_1, .int .i64 0, .int .i64 0]) ?_ 2 _ rfl; (with_reducible repeat (first | refine blk_drewN ?_ _ | refine blk_drew ?_ | refine blk_alloc ?_ _)); refine blk_put (cs := #[.int .i64 a2_0, .int .i64 0, .int .i64 0, .int .i64 0]) ?_ 1 _ rfl; (with_reducible repeat (first | refine blk_drewN ?_ _ | refine blk_drew ?_ | refine blk_alloc ?_ _)); refine blk_put (cs := #[.int .i64 0, .int .i64 0, .int .i64 0, .int .i64 0]) ?_ 0 _ rfl; (with_reducible repeat (first | refine blk_drewN ?_ _ | refine blk_drew ?_ | refine blk_alloc ?_ _)); exact BK166.out⟩, ⟨by repeat (first | (with_reducible first | exact HB.out | apply below_alloc | apply pw_below_drewN | apply below_drew1 | refine below_set ?_ GE154.out | refine below_set ?_ GE161.out | refine below_set ?_ GE166.out) | exact HB.out)⟩⟩
                    case rest =>
                      clear HC56
                      try clear c1
                      try clear p1
                      try clear q1
                      try clear hx1
                      try clear c2
                      try clear p2
                      try clear c3
                      try clear c4
                      try clear c5
                      try clear c6
                      try clear p6
                      try clear c9
                      try clear c12
                      try clear c15
                      try clear c15b0
                      try clear c16
                      try clear c16b0
                      try clear p16
                      try clear q16
                      try clear hx16
                      try clear c17
                      try clear c17b0
                      try clear c18
                      try clear c18b0
                      try clear c20
                      try clear c23
                      try clear c24
                      try clear c24b0
                      try clear c24b1
                      try clear c25
                      try clear c25b0
                      try clear c25b1
                      try clear c25b2
                      try clear c27
                      try clear c30
                      try clear c33
                      try clear c33b0
                      try clear c33b1
                      try clear c34
                      try clear c34b0
                      try clear c34b1
                      try clear c35
                      try clear c35b0
                      try clear c35b1
                      try clear c36
                      try clear c36b0
                      try clear c36b1
                      try clear c38
                      try clear c41
                      try clear c43
                      try clear c45
                      try clear c47
                      try clear c48
                      try clear c50
                      try clear c50b0
                      try clear c51
                      try clear c51b0
                      try clear c52
                      try clear c52b0
                      try clear c53
                      try clear c53b0
                      try clear c57
                      try clear c60
                      try clear c61
                      try clear c63
                      try clear c63b0
                      try clear c64
                      try clear c64b0
                      try clear p64
                      try clear c65
                      try clear c65b0
                      try clear hcz13_0
                      try clear hcz13_1
                      try clear hcz13_2
                      try clear hcz21_0
                      try clear hcz21_1
                      try clear hcz21_2
                      try clear hcz21_3
                      try clear hcz28_0
                      try clear hcz28_1
                      try clear hcz28_2
                      try clear hcz31_0
                      try clear hcz31_1
                      try clear hcz31_2
                      try clear hcz39_0
                      try clear hcz39_1
                      try clear hcz39_2
                      try clear hcz42_0
                      try clear hcz42_1
                      try clear hcz42_2
                      try clear hcz44_0
                      try clear hcz44_1
                      try clear hcz44_2
                      try clear hcz46_0
                      try clear hcz46_1
                      try clear hcz46_2
                      try clear hcz49_0
                      try clear hcz49_1
                      try clear hcz49_2
                      try clear hcz58_0
                      try clear hcz58_1
                      try clear hcz58_2
                      try clear hcz58_3
                      try clear hcz62_0
                      try clear hcz62_1
                      try clear hcz62_2
                      try clear hcz62_3
                      try clear hcz9_0
                      try clear hcz9_1
                      try clear hcz9_2
                      try clear hcz9_3
                      try clear hfz13_0
                      try clear hfz13_1
                      try clear hfz13_2
                      try clear hfz21_0
                      try clear hfz21_1
                      try clear hfz21_2
                      try clear hfz21_3
                      try clear hfz28_0
                      try clear hfz28_1
                      try clear hfz28_2
                      try clear hfz31_0
                      try clear hfz31_1
                      try clear hfz31_2
                      try clear hfz39_0
                      try clear hfz39_1
                      try clear hfz39_2
                      try clear hfz42_0
                      try clear hfz42_1
                      try clear hfz42_2
                      try clear hfz44_0
                      try clear hfz44_1
                      try clear hfz44_2
                      try clear hfz46_0
                      try clear hfz46_1
                      try clear hfz46_2
                      try clear hfz49_0
                      try clear hfz49_1
                      try clear hfz49_2
                      try clear hfz58_0
                      try clear hfz58_1
                      try clear hfz58_2
                      try clear hfz58_3
                      try clear hfz62_0
                      try clear hfz62_1
                      try clear hfz62_2
                      try clear hfz62_3
                      try clear hfz9_0
                      try clear hfz9_1
                      try clear hfz9_2
                      try clear hfz9_3
                      try clear hx165_0
                      try clear hx165_1
                      try clear hx165_2
                      try clear hx165_3
                      try clear p165
                      try clear p2
                      try clear p6
                      try clear q165
                      obtain ⟨kq, x110_55, rfl, HA, HJ55, HO_162002, BK154, BK161, BK166, HB⟩ := hcut
                      cases kq with
                      | zero => exact absurd HA.out (by simp [celluloidlaw21_CanvasNews.j3])
                      | succ kj55 =>
                        have H := HA.out
                        clear HA
                        simp only [celluloidlaw21_CanvasNews.j3] at H
                        have HC66 := Aside0.mk H
                        clear H
                        go_upto_if 110 with (fail)
                        go_cut [] (fun wc => ∃ (kq : Nat) (x167000_65 : Int) (x167001_65 : Int) (x167002_65 : Int) (x167003_65 : Int), Aside0 (celluloidlaw21_CanvasNews.j4 kq a3 a4 t155 t156 t157 x167000_65 x167001_65 x167002_65 x167003_65 = some r) ∧ Aside0 (kq ≤ kj55) ∧ Aside0 (Kd.R k23 23 wc w.heap.size (fun k_ => k_ ≠ gb154 ∧ k_ ≠ gb166) (.slice Ao14 t157.length co14) t157) ∧ Aside0 (wc.heap[gb154]? = some (.cells #[.int .i64 a2_0, .int .i64 a2_1, .int .i64 a2_2, .int .i64 a2_3] 23 (0, 0))) ∧ Aside0 (wc.heap[gb161]? = some (.cells #[.int .i64 t155, .int .i64 t156, (.slice Ao14 t157.length co14)] 26 (0, 0))) ∧ Aside0 (wc.heap[gb166]? = some (.cells #[.int .i64 x167000_65, .int .i64 x167001_65, .int .i64 x167002_65, .int .i64 x167003_65] 23 (0, 0))) ∧ Aside0 (Below w.heap.size w wc))
                        case first =>
                          have H := HC66.out
                          clear HC66
                          by_cases c67 : x110_55 = true
                          · subst c67
                            have H1 : (celluloidlaw21_CanvasNews.j4 kj55 a3 a4 t155 t156 t157 0 0 0 0) = some r := by rw [if_pos rfl] at H; exact H
                            clear H
                            have H := H1
                            clear H1
                            have H' := Aside0.mk H
                            clear H
                            have hnb68 := NB166_154.out
                            have hnc68 := NB154_166.out
                            have hnb69 := NB166_161.out
                            have hnc69 := NB161_166.out
                            have hcz70_0 : wc.cell? ⟨gb166, 0, none⟩ = some (.int .i64 a2_0) := (blk_cell BK166.out 0).trans rfl
                            have hcz70_1 : wc.cell? ⟨gb166, 1, none⟩ = some (.int .i64 a2_1) := (blk_cell BK166.out 1).trans rfl
                            have hcz70_2 : wc.cell? ⟨gb166, 2, none⟩ = some (.int .i64 a2_2) := (blk_cell BK166.out 2).trans rfl
                            have hcz70_3 : wc.cell? ⟨gb166, 3, none⟩ = some (.int .i64 a2_3) := (blk_cell BK166.out 3).trans rfl
                            have hfz70_0 := blk_frozen BK166.out 0
                            have hfz70_1 := blk_frozen BK166.out 1
                            have hfz70_2 := blk_frozen BK166.out 2
                            have hfz70_3 := blk_frozen BK166.out 3
                            go_wp2
                            go_meet
                            case rel => exact ⟨_, (0), (0), (0), (0), H', ⟨by have := HJ6.out; have := HJ31.out; have := HK3.out; have := HJ55.out; first | omega | exact Nat.le_refl _⟩, ⟨by (with_reducible repeat (first | apply Kd.R_alloc | apply Kd.R_drewN | apply Kd.R_drew)); exact Kd.R_mono (Kd.R_far (p := ⟨gb166, 3, none⟩) (Kd.R_far (p := ⟨gb166, 2, none⟩) (Kd.R_far (p := ⟨gb166, 1, none⟩) (Kd.R_far (p := ⟨gb166, 0, none⟩) (Kd.R_mono HO_162002.out (fun k_ hk => (⟨hk, hk.2⟩ : _ ∧ k_ ≠ gb166))) (fun _ hk => hk.2) (.int .i64 0)) (fun _ hk => hk.2) (.int .i64 0)) (fun _ hk => hk.2) (.int .i64 0)) (fun _ hk => hk.2) (.int .i64 0)) (fun _ hk => ⟨hk.1.1, hk.1.2⟩)⟩, ⟨by (with_reducible repeat (first | refine blk_drewN ?_ _ | refine blk_drew ?_ | refine blk_alloc ?_ _)); refine blk_far ?_ NB154_166.out _; (with_reducible repeat (first | refine blk_drewN ?_ _ | refine blk_drew ?_ | refine blk_alloc ?_ _)); refine blk_far ?_ NB154_166.out _; (with_reducible repeat (first | refine blk_drewN ?_ _ | refine blk_drew ?_ | refine blk_alloc ?_ _)); refine blk_far ?_ NB154_166.out _; (with_reducible repeat (first | refine blk_drewN ?_ _ | refine blk_drew ?_ | refine blk_alloc ?_ _)); refine blk_far ?_ NB154_166.out _; (with_reducible repeat (first | refine blk_drewN ?_ _ | refine blk_drew ?_ | refine blk_alloc ?_ _)); exact BK154.out⟩, ⟨by (with_reducible repeat (first | refine blk_drewN ?_ _ | refine blk_drew ?_ | refine blk_alloc ?_ _)); refine blk_far ?_ NB161_166.out _; (with_reducible repeat (first | refine blk_drewN ?_ _ | refine blk_drew ?_ | refine blk_alloc ?_ _)); refine blk_far ?_ NB161_166.out _; (with_reducible repeat (first | refine blk_drewN ?_ _ | refine blk_drew ?_ | refine blk_alloc ?_ _)); refine blk_far ?_ NB161_166.out _; (with_reducible repeat (first | refine blk_drewN ?_ _ | refine blk_drew ?_ | refine blk_alloc ?_ _)); refine blk_far ?_ NB161_166.out _; (with_reducible repeat (first | refine blk_drewN ?_ _ | refine blk_drew ?_ | refine blk_alloc ?_ _)); exact BK161.out⟩, ⟨by (with_reducible repeat (first | refine blk_drewN ?_ _ | refine blk_drew ?_ | refine blk_alloc ?_ _)); refine blk_put (cs := #[.int .i64 0, .int .i64 0, .int .i64 0, .int .i64 a2_3]) ?_ 3 _ rfl; (with_reducible repeat (first | refine blk_drewN ?_ _ | refine blk_drew ?_ | refine blk_alloc ?_ _)); refine blk_put (cs := #[.int .i64 0, .int .i64 0, .int .i64 a2_2, .int .i64 a2_3]) ?_ 2 _ rfl; (with_reducible repeat (first | refine blk_drewN ?_ _ | refine blk_drew ?_ | refine blk_alloc ?_ _)); refine blk_put (cs := #[.int .i64 0, .int .i64 a2_1, .int .i64 a2_2, .int .i64 a2_3]) ?_ 1 _ rfl; (with_reducible repeat (first | refine blk_drewN ?_ _ | refine blk_drew ?_ | refine blk_alloc ?_ _)); refine blk_put (cs := #[.int .i64 a2_0, .int .i64 a2_1, .int .i64 a2_2, .int .i64 a2_3]) ?_ 0 _ rfl; (with_reducible repeat (first | refine blk_drewN ?_ _ | refine blk_drew ?_ | refine blk_alloc ?_ _)); exact BK166.out⟩, ⟨by repeat (first | (with_reducible first | exact HB.out | apply below_alloc | apply pw_below_drewN | apply below_drew1 | refine below_set ?_ GE154.out | refine below_set ?_ GE161.out | refine below_set ?_ GE166.out) | exact HB.out)⟩⟩
                          · replace c67 := Bool.eq_false_iff.mpr c67
                            subst c67
                            have H1 : (celluloidlaw21_CanvasNews.j4 kj55 a3 a4 t155 t156 t157 a2_0 a2_1 a2_2 a2_3) = some r := by rw [if_neg (show ¬ (false = true) by decide)] at H; exact H
                            clear H
                            have H := H1
                            clear H1
                            have H' := Aside0.mk H
                            clear H
                            go_wp2
                            go_meet
                            case rel => exact ⟨_, (a2_0), (a2_1), (a2_2), (a2_3), H', ⟨by have := HJ6.out; have := HJ31.out; have := HK3.out; have := HJ55.out; first | omega | exact Nat.le_refl _⟩, ⟨by (with_reducible repeat (first | apply Kd.R_alloc | apply Kd.R_drewN | apply Kd.R_drew)); exact HO_162002.out⟩, ⟨by (with_reducible repeat (first | refine blk_drewN ?_ _ | refine blk_drew ?_ | refine blk_alloc ?_ _)); exact BK154.out⟩, ⟨by (with_reducible repeat (first | refine blk_drewN ?_ _ | refine blk_drew ?_ | refine blk_alloc ?_ _)); exact BK161.out⟩, ⟨by (with_reducible repeat (first | refine blk_drewN ?_ _ | refine blk_drew ?_ | refine blk_alloc ?_ _)); exact BK166.out⟩, ⟨by repeat (first | (with_reducible first | exact HB.out | apply below_alloc | apply pw_below_drewN | apply below_drew1 | refine below_set ?_ GE154.out | refine below_set ?_ GE161.out | refine below_set ?_ GE166.out) | exact HB.out)⟩⟩
                        case rest =>
                          clear HC66
                          try clear c1
                          try clear p1
                          try clear q1
                          try clear hx1
                          try clear c2
                          try clear p2
                          try clear c3
                          try clear c4
                          try clear c5
                          try clear c6
                          try clear p6
                          try clear c9
                          try clear c12
                          try clear c15
                          try clear c15b0
                          try clear c16
                          try clear c16b0
                          try clear p16
                          try clear q16
                          try clear hx16
                          try clear c17
                          try clear c17b0
                          try clear c18
                          try clear c18b0
                          try clear c20
                          try clear c23
                          try clear c24
                          try clear c24b0
                          try clear c24b1
                          try clear c25
                          try clear c25b0
                          try clear c25b1
                          try clear c25b2
                          try clear c27
                          try clear c30
                          try clear c33
                          try clear c33b0
                          try clear c33b1
                          try clear c34
                          try clear c34b0
                          try clear c34b1
                          try clear c35
                          try clear c35b0
                          try clear c35b1
                          try clear c36
                          try clear c36b0
                          try clear c36b1
                          try clear c38
                          try clear c41
                          try clear c43
                          try clear c45
                          try clear c47
                          try clear c48
                          try clear c50
                          try clear c50b0
                          try clear c51
                          try clear c51b0
                          try clear c52
                          try clear c52b0
                          try clear c53
                          try clear c53b0
                          try clear c57
                          try clear c60
                          try clear c61
                          try clear c63
                          try clear c63b0
                          try clear c64
                          try clear c64b0
                          try clear p64
                          try clear c65
                          try clear c65b0
                          try clear c67
                          try clear c68
                          try clear c69
                          try clear hcz13_0
                          try clear hcz13_1
                          try clear hcz13_2
                          try clear hcz21_0
                          try clear hcz21_1
                          try clear hcz21_2
                          try clear hcz21_3
                          try clear hcz28_0
                          try clear hcz28_1
                          try clear hcz28_2
                          try clear hcz31_0
                          try clear hcz31_1
                          try clear hcz31_2
                          try clear hcz39_0
                          try clear hcz39_1
                          try clear hcz39_2
                          try clear hcz42_0
                          try clear hcz42_1
                          try clear hcz42_2
                          try clear hcz44_0
                          try clear hcz44_1
                          try clear hcz44_2
                          try clear hcz46_0
                          try clear hcz46_1
                          try clear hcz46_2
                          try clear hcz49_0
                          try clear hcz49_1
                          try clear hcz49_2
                          try clear hcz58_0
                          try clear hcz58_1
                          try clear hcz58_2
                          try clear hcz58_3
                          try clear hcz62_0
                          try clear hcz62_1
                          try clear hcz62_2
                          try clear hcz62_3
                          try clear hcz70_0
                          try clear hcz70_1
                          try clear hcz70_2
                          try clear hcz70_3
                          try clear hcz9_0
                          try clear hcz9_1
                          try clear hcz9_2
                          try clear hcz9_3
                          try clear hfz13_0
                          try clear hfz13_1
                          try clear hfz13_2
                          try clear hfz21_0
                          try clear hfz21_1
                          try clear hfz21_2
                          try clear hfz21_3
                          try clear hfz28_0
                          try clear hfz28_1
                          try clear hfz28_2
                          try clear hfz31_0
                          try clear hfz31_1
                          try clear hfz31_2
                          try clear hfz39_0
                          try clear hfz39_1
                          try clear hfz39_2
                          try clear hfz42_0
                          try clear hfz42_1
                          try clear hfz42_2
                          try clear hfz44_0
                          try clear hfz44_1
                          try clear hfz44_2
                          try clear hfz46_0
                          try clear hfz46_1
                          try clear hfz46_2
                          try clear hfz49_0
                          try clear hfz49_1
                          try clear hfz49_2
                          try clear hfz58_0
                          try clear hfz58_1
                          try clear hfz58_2
                          try clear hfz58_3
                          try clear hfz62_0
                          try clear hfz62_1
                          try clear hfz62_2
                          try clear hfz62_3
                          try clear hfz70_0
                          try clear hfz70_1
                          try clear hfz70_2
                          try clear hfz70_3
                          try clear hfz9_0
                          try clear hfz9_1
                          try clear hfz9_2
                          try clear hfz9_3
                          try clear hx165_0
                          try clear hx165_1
                          try clear hx165_2
                          try clear hx165_3
                          try clear p1
                          try clear p16
                          try clear p165
                          try clear p2
                          try clear p6
                          try clear p64
                          try clear q1
                          try clear q16
                          try clear q165
                          obtain ⟨kq, x167000_65, x167001_65, x167002_65, x167003_65, HA, HJ65, HO_162002, BK154, BK161, BK166, HB⟩ := hcut
                          cases kq with
                          | zero => exact absurd HA.out (by simp [celluloidlaw21_CanvasNews.j4])
                          | succ kj65 =>
                            have H := HA.out
                            clear HA
                            simp only [celluloidlaw21_CanvasNews.j4] at H
                            replace H := Option.bind_eq_some_iff.mp H
                            obtain ⟨⟨t167, t168, t169, t170⟩, A710, H⟩ := H
                            replace H : (if (t167 == x167000_65 && (t168 == x167001_65 && (t169 == x167002_65 && (t170 == x167003_65)))) = true then ((celluloidlaw21_awake.f kj65).bind fun t171 => (some t171)) else (some false)) = some r := H
                            have A71 := Aside0.mk A710
                            clear A710
                            by_cases c72 : (t167 == x167000_65 && (t168 == x167001_65 && (t169 == x167002_65 && (t170 == x167003_65)))) = true
                            · rw [if_pos c72] at H
                              have c72b0 : (t167 == x167000_65 && (t168 == x167001_65 && (t169 == x167002_65 && (t170 == x167003_65)))) = true := c72
                              (try (have c72b1 : decide (t167 = x167000_65 && (t168 == x167001_65 && (t169 == x167002_65 && (t170 == x167003_65)))) = true := by simpa using c72))
                              (try (have c72b2 : (t167 == x167000_65 && (t168 == x167001_65 && (t169 == x167002_65 && (t170 == x167003_65)))) = true := by simpa using c72))
                              clear c72
                              replace H := Option.bind_eq_some_iff.mp H
                              obtain ⟨t171, A730, H⟩ := H
                              replace H : (some t171) = some r := H
                              have A73 := Aside0.mk A730
                              clear A730
                              first
                              | exact absurd (Option.some.inj H) (by rw [hr_.out]; decide)
                              | obtain rfl := Option.some.inj H
                                try go_wp2
                                have n0_ := Aside0.mk (Kd.R_drew HO_162002.out)
                                have n1_ := Aside0.mk (blk_drew BK154.out)
                                have n2_ := Aside0.mk (blk_drew BK161.out)
                                have n3_ := Aside0.mk (blk_drew BK166.out)
                                have n4_ := Aside0.mk (below_drew1 HB.out)
                                clear HO_162002
                                clear BK154
                                clear BK161
                                clear BK166
                                clear HB
                                have HO_162002 := n0_
                                have BK154 := n1_
                                have BK161 := n2_
                                have BK166 := n3_
                                have HB := n4_
                                clear n0_ n1_ n2_ n3_ n4_
                                refine start_ (n := 10) (S := fun w' => w'.cell? ⟨gb161, 0, none⟩ = some (.int .i64 t155) ∧ w'.cell? ⟨gb161, 1, none⟩ = some (.int .i64 t156) ∧ w'.cell? ⟨gb161, 2, none⟩ = some (.slice Ao14 t157.length co14) ∧ w'.cell? ⟨gb166, 0, none⟩ = some (.int .i64 x167000_65) ∧ w'.cell? ⟨gb166, 1, none⟩ = some (.int .i64 x167001_65) ∧ w'.cell? ⟨gb166, 2, none⟩ = some (.int .i64 x167002_65) ∧ w'.cell? ⟨gb166, 3, none⟩ = some (.int .i64 x167003_65)) (ds := []) #[false, false, false, false, false, false, false, false, false, false] (by kernel_rfl) rfl rfl ⟨(blk_cell BK161.out 0).trans rfl, (blk_cell BK161.out 1).trans rfl, (blk_cell BK161.out 2).trans rfl, (blk_cell BK166.out 0).trans rfl, (blk_cell BK166.out 1).trans rfl, (blk_cell BK166.out 2).trans rfl, (blk_cell BK166.out 3).trans rfl⟩ (fun hHeld => ?_); refine with_tabW celluloidlaw21_CanvasNews.tab15 celluloidlaw21_CanvasNews.bits15 (fun HT_ HW_ => ?_)
                                generalize wc.drew = w74 at HO_162002 BK154 BK161 BK166 HB hHeld ⊢
                                refine pure_ (i := 1) (N := some 113) (v := ?_) (a' := ?_) #[false, true, false, false, false, false, false, false, false, false] rfl rfl (any_of HT_.out (by kernel_rfl)) (fun _ _ _ h => h) (Or.inl ⟨by rfl, ?_⟩) ?_ ?_
                                rotate_left
                                · intro w'
                                  go_simp
                                  first | with_reducible rfl | (have hne_ := c72b0; simp only [Bool.and_eq_true, beq_iff_eq] at hne_; obtain ⟨en0_, en1_, en2_, en3_⟩ := hne_; rw [if_pos en0_, if_pos en1_, if_pos en2_, if_pos en3_])
                                rotate_left
                                · simp only [Act.put, List.setIfInBounds_toArray, List.set_cons_zero, List.set_cons_succ, i64_w, i32_w]
                                  rfl
                                refine pure_ (i := 2) (N := some 114) (v := ?_) (a' := ?_) #[false, true, true, false, false, false, false, false, false, false] rfl rfl (any_of HT_.out (by kernel_rfl)) (fun _ _ _ h => h) (Or.inl ⟨by rfl, ?_⟩) ?_ ?_
                                rotate_left
                                · intro w'
                                  go_simp
                                  first | with_reducible rfl | (have hne_ := c72b0; simp only [Bool.and_eq_true, beq_iff_eq] at hne_; obtain ⟨en0_, en1_, en2_, en3_⟩ := hne_; rw [if_pos en0_, if_pos en1_, if_pos en2_, if_pos en3_])
                                rotate_left
                                · simp only [Act.put, List.setIfInBounds_toArray, List.set_cons_zero, List.set_cons_succ, i64_w, i32_w]
                                  rfl
                                refine take_ (i := 0) (N := some 112) (v := ?_) (a' := ?_) #[true, true, true, false, false, false, false, false, false, false] rfl rfl (take_ofW HT_.out HW_.out (by kernel_rfl)) (fun _ _ _ h => h) (Or.inl ⟨by rfl, ?_⟩) hHeld ?_ ?_
                                rotate_left
                                · rintro w' ⟨s0, s1, s2, s3, s4, s5, s6⟩
                                  go_simp
                                  first | with_reducible rfl | (have hne_ := c72b0; simp only [Bool.and_eq_true, beq_iff_eq] at hne_; obtain ⟨en0_, en1_, en2_, en3_⟩ := hne_; rw [if_pos en0_, if_pos en1_, if_pos en2_, if_pos en3_])
                                rotate_left
                                · simp only [Act.put, List.setIfInBounds_toArray, List.set_cons_zero, List.set_cons_succ, i64_w, i32_w]
                                  rfl
                                refine take_ (i := 4) (N := some 116) (v := ?_) (a' := ?_) #[true, true, true, false, true, false, false, false, false, false] rfl rfl (take_ofW HT_.out HW_.out (by kernel_rfl)) (fun _ _ _ h => h) (Or.inl ⟨by rfl, ?_⟩) hHeld ?_ ?_
                                rotate_left
                                · rintro w' ⟨s0, s1, s2, s3, s4, s5, s6⟩
                                  go_simp
                                  first | with_reducible rfl | (have hne_ := c72b0; simp only [Bool.and_eq_true, beq_iff_eq] at hne_; obtain ⟨en0_, en1_, en2_, en3_⟩ := hne_; rw [if_pos en0_, if_pos en1_, if_pos en2_, if_pos en3_])
                                rotate_left
                                · simp only [Act.put, List.setIfInBounds_toArray, List.set_cons_zero, List.set_cons_succ, i64_w, i32_w]
                                  rfl
                                refine one_ (i := 3) (N := some 115) #[true, true, true, true, true, false, false, false, false, false] rfl rfl (one_of HT_.out (by kernel_rfl)) (by decide) (fun K hK => ?_)
                                refine goes_ Try.func13 (by kernel_rfl) rfl #[.agg #[.int .i64 t155, .int .i64 t156, .slice Ao14 t157.length co14], .int .i64 a3, .int .i64 a4] (by rfl) rfl rfl (by (try simp only [List.map_toArray, List.map_cons, List.map_nil]); first | done | rfl | (simp only [List.length_drop, List.length_take]; rfl)) ?_
                                with_reducible refine (canvas_At.calls kj65 t155 t156 _ _ t157 a3 a4 t167 t168 t169 t170 _ ?side1 ?side2 A71.out).mono ?_
                                (case side1 => repeat (first | exact (Kd.R_reads' HO_162002.out).2.2 | (with_reducible refine Kd.C_alloc ?_ _) | (with_reducible refine Kd.C_drewN ?_ _) | (with_reducible refine Kd.C_drew ?_)))
                                (case side2 => exact (Kd.R_reads' HO_162002.out).2.1)
                                rintro e w75 ⟨rfl, hb⟩
                                refine ⟨_, rfl, ?_⟩
                                have n0_ := Aside0.mk (Kd.R_below (by (with_reducible repeat (first | apply Kd.R_alloc | apply Kd.R_drewN | apply Kd.R_drew)); exact HO_162002.out) hb)
                                have n1_ := Aside0.mk (blk_below (g := gb154) (o := .cells #[.int .i64 a2_0, .int .i64 a2_1, .int .i64 a2_2, .int .i64 a2_3] 23 (0, 0)) (by (with_reducible repeat (first | refine blk_drewN ?_ _ | refine blk_drew ?_ | refine blk_alloc ?_ _)); exact BK154.out) hb)
                                have n2_ := Aside0.mk (blk_below (g := gb161) (o := .cells #[.int .i64 t155, .int .i64 t156, .slice Ao14 t157.length co14] 26 (0, 0)) (by (with_reducible repeat (first | refine blk_drewN ?_ _ | refine blk_drew ?_ | refine blk_alloc ?_ _)); exact BK161.out) hb)
                                have n3_ := Aside0.mk (blk_below (g := gb166) (o := .cells #[.int .i64 x167000_65, .int .i64 x167001_65, .int .i64 x167002_65, .int .i64 x167003_65] 23 (0, 0)) (by (with_reducible repeat (first | refine blk_drewN ?_ _ | refine blk_drew ?_ | refine blk_alloc ?_ _)); exact BK166.out) hb)
                                have n4_ := Aside0.mk (below_step (by repeat (first | (with_reducible first | exact HB.out | apply below_alloc | apply pw_below_drewN | apply below_drew1 | refine below_set ?_ GE154.out | refine below_set ?_ GE161.out | refine below_set ?_ GE166.out) | exact HB.out)) hb)
                                clear HO_162002
                                clear BK154
                                clear BK161
                                clear BK166
                                clear HB
                                have HO_162002 := n0_
                                have BK154 := n1_
                                have BK161 := n2_
                                have BK166 := n3_
                                have HB := n4_
                                clear n0_ n1_ n2_ n3_ n4_
                                (try clear hb)
                                (try clear hb2)
                                (try clear hk)
                                (try clear hi)
                                refine hK.out _ _ ⟨(blk_cell BK161.out 0).trans rfl, (blk_cell BK161.out 1).trans rfl, (blk_cell BK161.out 2).trans rfl, (blk_cell BK166.out 0).trans rfl, (blk_cell BK166.out 1).trans rfl, (blk_cell BK166.out 2).trans rfl, (blk_cell BK166.out 3).trans rfl⟩ (fun hHeld => ?_)
                                clear hK K
                                refine norm_ (a' := ?_) ?_ ?_
                                rotate_left
                                · show Act.put _ (some 115) _ = _
                                  simp only [Act.put, List.setIfInBounds_toArray, List.set_cons_zero, List.set_cons_succ, i64_w, i32_w]
                                  rfl
                                refine pure_ (i := 5) (N := some 117) (v := ?_) (a' := ?_) #[true, true, true, true, true, true, false, false, false, false] rfl rfl (any_of HT_.out (by kernel_rfl)) (fun _ _ _ h => h) (Or.inl ⟨by rfl, ?_⟩) ?_ ?_
                                rotate_left
                                · intro w'
                                  go_simp
                                  first | with_reducible rfl | (have hne_ := c72b0; simp only [Bool.and_eq_true, beq_iff_eq] at hne_; obtain ⟨en0_, en1_, en2_, en3_⟩ := hne_; rw [if_pos en0_, if_pos en1_, if_pos en2_, if_pos en3_])
                                rotate_left
                                · simp only [Act.put, List.setIfInBounds_toArray, List.set_cons_zero, List.set_cons_succ, i64_w, i32_w]
                                  rfl
                                refine pure_ (i := 6) (N := some 118) (v := ?_) (a' := ?_) #[true, true, true, true, true, true, true, false, false, false] rfl rfl (any_of HT_.out (by kernel_rfl)) (fun _ _ _ h => h) (Or.inl ⟨by rfl, ?_⟩) ?_ ?_
                                rotate_left
                                · intro w'
                                  go_simp
                                  first | with_reducible rfl | (have hne_ := c72b0; simp only [Bool.and_eq_true, beq_iff_eq] at hne_; obtain ⟨en0_, en1_, en2_, en3_⟩ := hne_; rw [if_pos en0_, if_pos en1_, if_pos en2_, if_pos en3_])
                                rotate_left
                                · simp only [Act.put, List.setIfInBounds_toArray, List.set_cons_zero, List.set_cons_succ, i64_w, i32_w]
                                  rfl
                                refine one_ (i := 7) (N := some 119) #[true, true, true, true, true, true, true, true, false, false] rfl rfl (one_of HT_.out (by kernel_rfl)) (by decide) (fun K hK => ?_)
                                refine goes_ Try.func11 (by kernel_rfl) rfl #[] (by rfl) rfl rfl (by (try simp only [List.map_toArray, List.map_cons, List.map_nil]); first | done | rfl | (simp only [List.length_drop, List.length_take]; rfl)) ?_
                                with_reducible refine (celluloidlaw21_awake.calls kj65  t171 _ A73.out).mono ?_
                                rintro e w76 ⟨rfl, hb⟩
                                refine ⟨_, rfl, ?_⟩
                                have n0_ := Aside0.mk (Kd.R_below (by (with_reducible repeat (first | apply Kd.R_alloc | apply Kd.R_drewN | apply Kd.R_drew)); exact HO_162002.out) hb)
                                have n1_ := Aside0.mk (blk_below (g := gb154) (o := .cells #[.int .i64 a2_0, .int .i64 a2_1, .int .i64 a2_2, .int .i64 a2_3] 23 (0, 0)) (by (with_reducible repeat (first | refine blk_drewN ?_ _ | refine blk_drew ?_ | refine blk_alloc ?_ _)); exact BK154.out) hb)
                                have n2_ := Aside0.mk (blk_below (g := gb161) (o := .cells #[.int .i64 t155, .int .i64 t156, .slice Ao14 t157.length co14] 26 (0, 0)) (by (with_reducible repeat (first | refine blk_drewN ?_ _ | refine blk_drew ?_ | refine blk_alloc ?_ _)); exact BK161.out) hb)
                                have n3_ := Aside0.mk (blk_below (g := gb166) (o := .cells #[.int .i64 x167000_65, .int .i64 x167001_65, .int .i64 x167002_65, .int .i64 x167003_65] 23 (0, 0)) (by (with_reducible repeat (first | refine blk_drewN ?_ _ | refine blk_drew ?_ | refine blk_alloc ?_ _)); exact BK166.out) hb)
                                have n4_ := Aside0.mk (below_step (by repeat (first | (with_reducible first | exact HB.out | apply below_alloc | apply pw_below_drewN | apply below_drew1 | refine below_set ?_ GE154.out | refine below_set ?_ GE161.out | refine below_set ?_ GE166.out) | exact HB.out)) hb)
                                clear HO_162002
                                clear BK154
                                clear BK161
                                clear BK166
                                clear HB
                                have HO_162002 := n0_
                                have BK154 := n1_
                                have BK161 := n2_
                                have BK166 := n3_
                                have HB := n4_
                                clear n0_ n1_ n2_ n3_ n4_
                                (try clear hb)
                                (try clear hb2)
                                (try clear hk)
                                (try clear hi)
                                refine hK.out _ _ ⟨(blk_cell BK161.out 0).trans rfl, (blk_cell BK161.out 1).trans rfl, (blk_cell BK161.out 2).trans rfl, (blk_cell BK166.out 0).trans rfl, (blk_cell BK166.out 1).trans rfl, (blk_cell BK166.out 2).trans rfl, (blk_cell BK166.out 3).trans rfl⟩ (fun hHeld => ?_)
                                clear hK K
                                refine norm_ (a' := ?_) ?_ ?_
                                rotate_left
                                · show Act.put _ (some 119) _ = _
                                  simp only [Act.put, List.setIfInBounds_toArray, List.set_cons_zero, List.set_cons_succ, i64_w, i32_w]
                                  rfl
                                refine pure_ (i := 8) (N := some 120) (v := ?_) (a' := ?_) #[true, true, true, true, true, true, true, true, true, false] rfl rfl (any_of HT_.out (by kernel_rfl)) (fun _ _ _ h => h) (Or.inl ⟨by rfl, ?_⟩) ?_ ?_
                                rotate_left
                                · intro w'
                                  go_simp
                                  first | with_reducible rfl | (have hne_ := c72b0; simp only [Bool.and_eq_true, beq_iff_eq] at hne_; obtain ⟨en0_, en1_, en2_, en3_⟩ := hne_; rw [if_pos en0_, if_pos en1_, if_pos en2_, if_pos en3_])
                                rotate_left
                                · simp only [Act.put, List.setIfInBounds_toArray, List.set_cons_zero, List.set_cons_succ, i64_w, i32_w]
                                  rfl
                                refine pure_ (i := 9) (N := some 10) (v := ?_) (a' := ?_) #[true, true, true, true, true, true, true, true, true, true] rfl rfl (any_of HT_.out (by kernel_rfl)) (fun _ _ _ h => h) (Or.inl ⟨by rfl, ?_⟩) ?_ ?_
                                rotate_left
                                · intro w'
                                  go_simp
                                  first | with_reducible rfl | (have hne_ := c72b0; simp only [Bool.and_eq_true, beq_iff_eq] at hne_; obtain ⟨en0_, en1_, en2_, en3_⟩ := hne_; rw [if_pos en0_, if_pos en1_, if_pos en2_, if_pos en3_])
                                rotate_left
                                · simp only [Act.put, List.setIfInBounds_toArray, List.set_cons_zero, List.set_cons_succ, i64_w, i32_w]
                                  rfl
                                refine done_ (done_of HT_.out (by kernel_rfl)) ?_
                                try go_wp2
                                go_ret
                                exact ⟨by first | rfl | (simp [errW_none, errW_some] <;> rfl) | (simp [*, errW_none, errW_some] <;> rfl), by repeat (first | (with_reducible first | exact HB.out | apply below_alloc | apply pw_below_drewN | apply below_drew1 | refine below_set ?_ GE154.out | refine below_set ?_ GE161.out | refine below_set ?_ GE166.out) | exact HB.out)⟩
                            · rw [if_neg c72] at H
                              have c72b0 : (t167 == x167000_65 && (t168 == x167001_65 && (t169 == x167002_65 && (t170 == x167003_65)))) = false := by simpa using c72
                              (try (have c72b1 : decide (t167 = x167000_65 && (t168 == x167001_65 && (t169 == x167002_65 && (t170 == x167003_65)))) = false := by simpa using c72))
                              (try (have c72b2 : (t167 == x167000_65 && (t168 == x167001_65 && (t169 == x167002_65 && (t170 == x167003_65)))) = false := by simpa using c72))
                              (try (have c72b3 : ¬ (t167 = x167000_65 && (t168 == x167001_65 && (t169 == x167002_65 && (t170 == x167003_65)))) := by simpa using c72))
                              clear c72
                              exact absurd (Option.some.inj H) (by rw [hr_.out]; decide)
end Go.Proofs.Ytdkiglaidbahmaa.GCan
