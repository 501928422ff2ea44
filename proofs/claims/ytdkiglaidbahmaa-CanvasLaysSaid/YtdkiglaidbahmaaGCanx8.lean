-- Written by a program of this session (wip/tools/print2.py) for this claim.
import Derived.Test.YtdkiglaidbahmaaGCanx0
import Derived.Test.YtdkiglaidbahmaaExtF
import Derived.Test.YtdkiglaidbahmaaGCanx1
import Derived.Test.YtdkiglaidbahmaaGCanx2
import Derived.Test.YtdkiglaidbahmaaGCanx3
import Derived.Test.YtdkiglaidbahmaaGCanx5
import Derived.Test.YtdkiglaidbahmaaGCanx6
namespace Go.Proofs.Ytdkiglaidbahmaa.GCan
open Go.RowKit Go.Proofs.YtdkiglaidbahmaaW.PrintWords Go.Proofs.YtdkiglaidbahmaaW.PrintLast Go.Proofs.YtdkiglaidbahmaaW.PrintMore Go.Proofs.Ytdkiglaidbahmaa.PCanvasLays Go.Proofs.Ytdkiglaidbahmaa.Ext
attribute [local go_sem] max2_int min2_int max_two min_two max_three min_three max_four min_four   -- for this text's walks alone
set_option linter.unusedVariables false
set_option linter.unusedSimpArgs false

attribute [local go_sem high] eqA23
/-! ### celluloidlaw21_CanvasLays: function 5 -/
mutual
def celluloidlaw21_CanvasLays.j0 : Nat → Int → Int → List (S50) → Int → Bool → Int → Int → List (S23) → Option (Bool)
 |0, _, _, _, _, _, _, _, _ => none
 |k + 1, x1, x2, x3, x4, x24, x233000, x233001, x233002 => if x24 = true then ((celluloidlaw21_awake.f k).bind fun t233 => (some t233)) else ((canvas_Lay.f k x233000 x233001 x233002 x1 x2 x3 x4).bind fun bt234 => ((celluloidlaw21_ref.f x233000 x233001 x233002).bind fun bt241 => ((celluloidref21_Right.f k bt241.1 bt241.2.1 bt241.2.2).bind fun t246 => ((canvas_Right.f k x233000 x233001 x233002).bind fun t247 => (if (t247 != t246) = true then (some false) else (if t246 = true then (if x1 < 0 then (celluloidlaw21_CanvasLays.j1 k x1 x2 x3 x4 bt234.2.2.2 true x233000 x233001 x233002 bt234.1 bt234.2.1 bt234.2.2.1) else (if x1 ≥ x233000 then (celluloidlaw21_CanvasLays.j1 k x1 x2 x3 x4 bt234.2.2.2 true x233000 x233001 x233002 bt234.1 bt234.2.1 bt234.2.2.1) else (if x2 < 0 then (celluloidlaw21_CanvasLays.j1 k x1 x2 x3 x4 bt234.2.2.2 true x233000 x233001 x233002 bt234.1 bt234.2.1 bt234.2.2.1) else (if x2 ≥ x233001 then (celluloidlaw21_CanvasLays.j1 k x1 x2 x3 x4 bt234.2.2.2 true x233000 x233001 x233002 bt234.1 bt234.2.1 bt234.2.2.1) else ((celluloidlaw21_refs.f k x3).bind fun t248 => ((celluloidref21_Parts.f k t248).bind fun t251 => (if t251 = true then (if x4 < 0 then (celluloidlaw21_CanvasLays.j1 k x1 x2 x3 x4 bt234.2.2.2 true x233000 x233001 x233002 bt234.1 bt234.2.1 bt234.2.2.1) else (celluloidlaw21_CanvasLays.j1 k x1 x2 x3 x4 bt234.2.2.2 (decide (x4 > 16)) x233000 x233001 x233002 bt234.1 bt234.2.1 bt234.2.2.1)) else (celluloidlaw21_CanvasLays.j1 k x1 x2 x3 x4 bt234.2.2.2 true x233000 x233001 x233002 bt234.1 bt234.2.1 bt234.2.2.1)))))))) else (celluloidlaw21_CanvasLays.j1 k x1 x2 x3 x4 bt234.2.2.2 true x233000 x233001 x233002 bt234.1 bt234.2.1 bt234.2.2.1)))))))
def celluloidlaw21_CanvasLays.j1 : Nat → Int → Int → List (S50) → Int → Int → Bool → Int → Int → List (S23) → Int → Int → List (S23) → Option (Bool)
 |0, _, _, _, _, _, _, _, _, _, _, _, _ => none
 |k + 1, x1, x2, x3, x4, x12, x77, x233000, x233001, x233002, x241000, x241001, x241002 => if x77 = true then (if x12 = 1 then (if (x241002.length : Int) = 0 then ((celluloidlaw21_awake.f k).bind fun t252 => (some t252)) else (some false)) else (some false)) else (if x12 = 0 then (if x241000 = x233000 then (if x241001 = x233001 then (celluloidlaw21_CanvasLays.j2 k x1 x2 x3 x4 ((x241002.length : Int) != (x233002.length : Int)) x233000 x233001 x233002 x241000 x241001 x241002) else (celluloidlaw21_CanvasLays.j2 k x1 x2 x3 x4 true x233000 x233001 x233002 x241000 x241001 x241002)) else (celluloidlaw21_CanvasLays.j2 k x1 x2 x3 x4 true x233000 x233001 x233002 x241000 x241001 x241002)) else (celluloidlaw21_CanvasLays.j2 k x1 x2 x3 x4 true x233000 x233001 x233002 x241000 x241001 x241002))
def celluloidlaw21_CanvasLays.j2 : Nat → Int → Int → List (S50) → Int → Bool → Int → Int → List (S23) → Int → Int → List (S23) → Option (Bool)
 |0, _, _, _, _, _, _, _, _, _, _, _ => none
 |k + 1, x1, x2, x3, x4, x113, x233000, x233001, x233002, x241000, x241001, x241002 => if x113 = true then (some false) else (celluloidlaw21_CanvasLays.l0 k x1 x2 x3 x4 (x241002.length : Int) 0 x233000 x233001 x233002 x241000 x241001 x241002)
def celluloidlaw21_CanvasLays.l0 : Nat → Int → Int → List (S50) → Int → Int → Int → Int → Int → List (S23) → Int → Int → List (S23) → Option (Bool)
 |0, _, _, _, _, _, _, _, _, _, _, _, _ => none
 |k + 1, x1, x2, x3, x4, x116, x117, x233000, x233001, x233002, x241000, x241001, x241002 => if x117 < x116 then (if 0 ≤ x117 then (if x117 < (x233002.length : Int) then (if x117 = (wrap64 ((wrap64 (x2 * x233000)) + x1)) then ((celluloidlaw21_refs.f k x3).bind fun t256 => ((celluloidref21_Over.f k ((rd_T23 x233002 x117).f0) ((rd_T23 x233002 x117).f1) ((rd_T23 x233002 x117).f2) ((rd_T23 x233002 x117).f3) t256 x4).bind fun bt259 => (celluloidlaw21_CanvasLays.j4 k x1 x2 x3 x4 x117 x116 x117 x233000 x233001 x233002 x241000 x241001 x241002 bt259.1 bt259.2.1 bt259.2.2.1 bt259.2.2.2))) else (celluloidlaw21_CanvasLays.j4 k x1 x2 x3 x4 x117 x116 x117 x233000 x233001 x233002 x241000 x241001 x241002 ((rd_T23 x233002 x117).f0) ((rd_T23 x233002 x117).f1) ((rd_T23 x233002 x117).f2) ((rd_T23 x233002 x117).f3))) else (none)) else (none)) else ((celluloidlaw21_awake.f k).bind fun t253 => (some t253))
def celluloidlaw21_CanvasLays.j4 : Nat → Int → Int → List (S50) → Int → Int → Int → Int → Int → Int → List (S23) → Int → Int → List (S23) → Int → Int → Int → Int → Option (Bool)
 |0, _, _, _, _, _, _, _, _, _, _, _, _, _, _, _, _, _ => none
 |k + 1, x1, x2, x3, x4, x14, x116, x117, x233000, x233001, x233002, x241000, x241001, x241002, x256000, x256001, x256002, x256003 => if 0 ≤ x14 then (if x14 < (x241002.length : Int) then (if (!(((rd_T23 x241002 x14).f0) == x256000) || (!(((rd_T23 x241002 x14).f1) == x256001) || (!(((rd_T23 x241002 x14).f2) == x256002) || (!(((rd_T23 x241002 x14).f3) == x256003))))) = true then (some false) else (if x233000 = 0 then (none) else ((canvas_At.f k x241000 x241001 x241002 (Int.tmod x14 x233000) (wrap64 (Int.tdiv x14 x233000))).bind fun bt264 => (if (!(bt264.1 == x256000) || (!(bt264.2.1 == x256001) || (!(bt264.2.2.1 == x256002) || (!(bt264.2.2.2 == x256003))))) = true then (some false) else (celluloidlaw21_CanvasLays.l0 k x1 x2 x3 x4 x116 (wrap64 (x117 + 1)) x233000 x233001 x233002 x241000 x241001 x241002))))) else (none)) else (none)
end
def celluloidlaw21_CanvasLays.f (k : Nat) (a0_0 : Int) (a0_1 : Int) (l0_2 : List (S23)) (a1 : Int) (a2 : Int) (l3 : List (S50)) (a4 : Int) : Option (Bool) := if (l0_2.length : Int) > 500 then (celluloidlaw21_CanvasLays.j0 k a1 a2 l3 a4 true a0_0 a0_1 l0_2) else (celluloidlaw21_CanvasLays.j0 k a1 a2 l3 a4 (decide ((l3.length : Int) > 40)) a0_0 a0_1 l0_2)
theorem celluloidlaw21_CanvasLays.mono_l : ∀ k, (∀ y0 y1 y2 y3 y4 y5 y6 y7, LeO (celluloidlaw21_CanvasLays.j0 k y0 y1 y2 y3 y4 y5 y6 y7) (celluloidlaw21_CanvasLays.j0 (k + 1) y0 y1 y2 y3 y4 y5 y6 y7)) ∧ (∀ y0 y1 y2 y3 y4 y5 y6 y7 y8 y9 y10 y11, LeO (celluloidlaw21_CanvasLays.j1 k y0 y1 y2 y3 y4 y5 y6 y7 y8 y9 y10 y11) (celluloidlaw21_CanvasLays.j1 (k + 1) y0 y1 y2 y3 y4 y5 y6 y7 y8 y9 y10 y11)) ∧ (∀ y0 y1 y2 y3 y4 y5 y6 y7 y8 y9 y10, LeO (celluloidlaw21_CanvasLays.j2 k y0 y1 y2 y3 y4 y5 y6 y7 y8 y9 y10) (celluloidlaw21_CanvasLays.j2 (k + 1) y0 y1 y2 y3 y4 y5 y6 y7 y8 y9 y10)) ∧ (∀ y0 y1 y2 y3 y4 y5 y6 y7 y8 y9 y10 y11, LeO (celluloidlaw21_CanvasLays.l0 k y0 y1 y2 y3 y4 y5 y6 y7 y8 y9 y10 y11) (celluloidlaw21_CanvasLays.l0 (k + 1) y0 y1 y2 y3 y4 y5 y6 y7 y8 y9 y10 y11)) ∧ (∀ y0 y1 y2 y3 y4 y5 y6 y7 y8 y9 y10 y11 y12 y13 y14 y15 y16, LeO (celluloidlaw21_CanvasLays.j4 k y0 y1 y2 y3 y4 y5 y6 y7 y8 y9 y10 y11 y12 y13 y14 y15 y16) (celluloidlaw21_CanvasLays.j4 (k + 1) y0 y1 y2 y3 y4 y5 y6 y7 y8 y9 y10 y11 y12 y13 y14 y15 y16))
 |0 => ⟨fun _ _ _ _ _ _ _ _ r h => by simp [celluloidlaw21_CanvasLays.j0] at h, fun _ _ _ _ _ _ _ _ _ _ _ _ r h => by simp [celluloidlaw21_CanvasLays.j1] at h, fun _ _ _ _ _ _ _ _ _ _ _ r h => by simp [celluloidlaw21_CanvasLays.j2] at h, fun _ _ _ _ _ _ _ _ _ _ _ _ r h => by simp [celluloidlaw21_CanvasLays.l0] at h, fun _ _ _ _ _ _ _ _ _ _ _ _ _ _ _ _ _ r h => by simp [celluloidlaw21_CanvasLays.j4] at h⟩
 |k + 1 => by
  obtain ⟨ih0, ih1, ih2, ih3, ih4⟩ := celluloidlaw21_CanvasLays.mono_l k
  refine ⟨?_, ?_, ?_, ?_, ?_⟩
  ·intro y0 y1 y2 y3 y4 y5 y6 y7
   unfold celluloidlaw21_CanvasLays.j0
   repeat' first
   |(with_reducible exact ih0 _ _ _ _ _ _ _ _)
   |(with_reducible exact ih1 _ _ _ _ _ _ _ _ _ _ _ _)
   |(with_reducible exact ih2 _ _ _ _ _ _ _ _ _ _ _)
   |(with_reducible exact ih3 _ _ _ _ _ _ _ _ _ _ _ _)
   |(with_reducible exact ih4 _ _ _ _ _ _ _ _ _ _ _ _ _ _ _ _ _)
   |(with_reducible exact canvas_At.mono _ _ _ _ _ _)
   |(with_reducible exact canvas_Lay.mono _ _ _ _ _ _ _ _)
   |(with_reducible exact canvas_Right.mono _ _ _ _)
   |(with_reducible exact celluloidlaw21_awake.mono _)
   |(with_reducible exact celluloidlaw21_refs.mono _ _)
   |(with_reducible exact celluloidref21_Over.mono _ _ _ _ _ _ _)
   |(with_reducible exact celluloidref21_Parts.mono _ _)
   |(with_reducible exact celluloidref21_Right.mono _ _ _ _)
   |(with_reducible exact LeO.refl _)
   |(with_reducible exact LeO.none _)
   |(with_reducible refine LeO.ite ?_ ?_)
   |(with_reducible refine LeO.bind ?_ (fun _ => ?_))
   |exact ih0 _ _ _ _ _ _ _ _
   |exact ih1 _ _ _ _ _ _ _ _ _ _ _ _
   |exact ih2 _ _ _ _ _ _ _ _ _ _ _
   |exact ih3 _ _ _ _ _ _ _ _ _ _ _ _
   |exact ih4 _ _ _ _ _ _ _ _ _ _ _ _ _ _ _ _ _
   |exact canvas_At.mono _ _ _ _ _ _
   |exact canvas_Lay.mono _ _ _ _ _ _ _ _
   |exact canvas_Right.mono _ _ _ _
   |exact celluloidlaw21_awake.mono _
   |exact celluloidlaw21_refs.mono _ _
   |exact celluloidref21_Over.mono _ _ _ _ _ _ _
   |exact celluloidref21_Parts.mono _ _
   |exact celluloidref21_Right.mono _ _ _ _
   |exact LeO.none _
   |refine LeO.ite ?_ ?_
   |refine LeO.bind ?_ (fun _ => ?_)
  ·intro y0 y1 y2 y3 y4 y5 y6 y7 y8 y9 y10 y11
   unfold celluloidlaw21_CanvasLays.j1
   repeat' first
   |(with_reducible exact ih0 _ _ _ _ _ _ _ _)
   |(with_reducible exact ih1 _ _ _ _ _ _ _ _ _ _ _ _)
   |(with_reducible exact ih2 _ _ _ _ _ _ _ _ _ _ _)
   |(with_reducible exact ih3 _ _ _ _ _ _ _ _ _ _ _ _)
   |(with_reducible exact ih4 _ _ _ _ _ _ _ _ _ _ _ _ _ _ _ _ _)
   |(with_reducible exact canvas_At.mono _ _ _ _ _ _)
   |(with_reducible exact canvas_Lay.mono _ _ _ _ _ _ _ _)
   |(with_reducible exact canvas_Right.mono _ _ _ _)
   |(with_reducible exact celluloidlaw21_awake.mono _)
   |(with_reducible exact celluloidlaw21_refs.mono _ _)
   |(with_reducible exact celluloidref21_Over.mono _ _ _ _ _ _ _)
   |(with_reducible exact celluloidref21_Parts.mono _ _)
   |(with_reducible exact celluloidref21_Right.mono _ _ _ _)
   |(with_reducible exact LeO.refl _)
   |(with_reducible exact LeO.none _)
   |(with_reducible refine LeO.ite ?_ ?_)
   |(with_reducible refine LeO.bind ?_ (fun _ => ?_))
   |exact ih0 _ _ _ _ _ _ _ _
   |exact ih1 _ _ _ _ _ _ _ _ _ _ _ _
   |exact ih2 _ _ _ _ _ _ _ _ _ _ _
   |exact ih3 _ _ _ _ _ _ _ _ _ _ _ _
   |exact ih4 _ _ _ _ _ _ _ _ _ _ _ _ _ _ _ _ _
   |exact canvas_At.mono _ _ _ _ _ _
   |exact canvas_Lay.mono _ _ _ _ _ _ _ _
   |exact canvas_Right.mono _ _ _ _
   |exact celluloidlaw21_awake.mono _
   |exact celluloidlaw21_refs.mono _ _
   |exact celluloidref21_Over.mono _ _ _ _ _ _ _
   |exact celluloidref21_Parts.mono _ _
   |exact celluloidref21_Right.mono _ _ _ _
   |exact LeO.none _
   |refine LeO.ite ?_ ?_
   |refine LeO.bind ?_ (fun _ => ?_)
  ·intro y0 y1 y2 y3 y4 y5 y6 y7 y8 y9 y10
   unfold celluloidlaw21_CanvasLays.j2
   repeat' first
   |(with_reducible exact ih0 _ _ _ _ _ _ _ _)
   |(with_reducible exact ih1 _ _ _ _ _ _ _ _ _ _ _ _)
   |(with_reducible exact ih2 _ _ _ _ _ _ _ _ _ _ _)
   |(with_reducible exact ih3 _ _ _ _ _ _ _ _ _ _ _ _)
   |(with_reducible exact ih4 _ _ _ _ _ _ _ _ _ _ _ _ _ _ _ _ _)
   |(with_reducible exact canvas_At.mono _ _ _ _ _ _)
   |(with_reducible exact canvas_Lay.mono _ _ _ _ _ _ _ _)
   |(with_reducible exact canvas_Right.mono _ _ _ _)
   |(with_reducible exact celluloidlaw21_awake.mono _)
   |(with_reducible exact celluloidlaw21_refs.mono _ _)
   |(with_reducible exact celluloidref21_Over.mono _ _ _ _ _ _ _)
   |(with_reducible exact celluloidref21_Parts.mono _ _)
   |(with_reducible exact celluloidref21_Right.mono _ _ _ _)
   |(with_reducible exact LeO.refl _)
   |(with_reducible exact LeO.none _)
   |(with_reducible refine LeO.ite ?_ ?_)
   |(with_reducible refine LeO.bind ?_ (fun _ => ?_))
   |exact ih0 _ _ _ _ _ _ _ _
   |exact ih1 _ _ _ _ _ _ _ _ _ _ _ _
   |exact ih2 _ _ _ _ _ _ _ _ _ _ _
   |exact ih3 _ _ _ _ _ _ _ _ _ _ _ _
   |exact ih4 _ _ _ _ _ _ _ _ _ _ _ _ _ _ _ _ _
   |exact canvas_At.mono _ _ _ _ _ _
   |exact canvas_Lay.mono _ _ _ _ _ _ _ _
   |exact canvas_Right.mono _ _ _ _
   |exact celluloidlaw21_awake.mono _
   |exact celluloidlaw21_refs.mono _ _
   |exact celluloidref21_Over.mono _ _ _ _ _ _ _
   |exact celluloidref21_Parts.mono _ _
   |exact celluloidref21_Right.mono _ _ _ _
   |exact LeO.none _
   |refine LeO.ite ?_ ?_
   |refine LeO.bind ?_ (fun _ => ?_)
  ·intro y0 y1 y2 y3 y4 y5 y6 y7 y8 y9 y10 y11
   unfold celluloidlaw21_CanvasLays.l0
   repeat' first
   |(with_reducible exact ih0 _ _ _ _ _ _ _ _)
   |(with_reducible exact ih1 _ _ _ _ _ _ _ _ _ _ _ _)
   |(with_reducible exact ih2 _ _ _ _ _ _ _ _ _ _ _)
   |(with_reducible exact ih3 _ _ _ _ _ _ _ _ _ _ _ _)
   |(with_reducible exact ih4 _ _ _ _ _ _ _ _ _ _ _ _ _ _ _ _ _)
   |(with_reducible exact canvas_At.mono _ _ _ _ _ _)
   |(with_reducible exact canvas_Lay.mono _ _ _ _ _ _ _ _)
   |(with_reducible exact canvas_Right.mono _ _ _ _)
   |(with_reducible exact celluloidlaw21_awake.mono _)
   |(with_reducible exact celluloidlaw21_refs.mono _ _)
   |(with_reducible exact celluloidref21_Over.mono _ _ _ _ _ _ _)
   |(with_reducible exact celluloidref21_Parts.mono _ _)
   |(with_reducible exact celluloidref21_Right.mono _ _ _ _)
   |(with_reducible exact LeO.refl _)
   |(with_reducible exact LeO.none _)
   |(with_reducible refine LeO.ite ?_ ?_)
   |(with_reducible refine LeO.bind ?_ (fun _ => ?_))
   |exact ih0 _ _ _ _ _ _ _ _
   |exact ih1 _ _ _ _ _ _ _ _ _ _ _ _
   |exact ih2 _ _ _ _ _ _ _ _ _ _ _
   |exact ih3 _ _ _ _ _ _ _ _ _ _ _ _
   |exact ih4 _ _ _ _ _ _ _ _ _ _ _ _ _ _ _ _ _
   |exact canvas_At.mono _ _ _ _ _ _
   |exact canvas_Lay.mono _ _ _ _ _ _ _ _
   |exact canvas_Right.mono _ _ _ _
   |exact celluloidlaw21_awake.mono _
   |exact celluloidlaw21_refs.mono _ _
   |exact celluloidref21_Over.mono _ _ _ _ _ _ _
   |exact celluloidref21_Parts.mono _ _
   |exact celluloidref21_Right.mono _ _ _ _
   |exact LeO.none _
   |refine LeO.ite ?_ ?_
   |refine LeO.bind ?_ (fun _ => ?_)
  ·intro y0 y1 y2 y3 y4 y5 y6 y7 y8 y9 y10 y11 y12 y13 y14 y15 y16
   unfold celluloidlaw21_CanvasLays.j4
   repeat' first
   |(with_reducible exact ih0 _ _ _ _ _ _ _ _)
   |(with_reducible exact ih1 _ _ _ _ _ _ _ _ _ _ _ _)
   |(with_reducible exact ih2 _ _ _ _ _ _ _ _ _ _ _)
   |(with_reducible exact ih3 _ _ _ _ _ _ _ _ _ _ _ _)
   |(with_reducible exact ih4 _ _ _ _ _ _ _ _ _ _ _ _ _ _ _ _ _)
   |(with_reducible exact canvas_At.mono _ _ _ _ _ _)
   |(with_reducible exact canvas_Lay.mono _ _ _ _ _ _ _ _)
   |(with_reducible exact canvas_Right.mono _ _ _ _)
   |(with_reducible exact celluloidlaw21_awake.mono _)
   |(with_reducible exact celluloidlaw21_refs.mono _ _)
   |(with_reducible exact celluloidref21_Over.mono _ _ _ _ _ _ _)
   |(with_reducible exact celluloidref21_Parts.mono _ _)
   |(with_reducible exact celluloidref21_Right.mono _ _ _ _)
   |(with_reducible exact LeO.refl _)
   |(with_reducible exact LeO.none _)
   |(with_reducible refine LeO.ite ?_ ?_)
   |(with_reducible refine LeO.bind ?_ (fun _ => ?_))
   |exact ih0 _ _ _ _ _ _ _ _
   |exact ih1 _ _ _ _ _ _ _ _ _ _ _ _
   |exact ih2 _ _ _ _ _ _ _ _ _ _ _
   |exact ih3 _ _ _ _ _ _ _ _ _ _ _ _
   |exact ih4 _ _ _ _ _ _ _ _ _ _ _ _ _ _ _ _ _
   |exact canvas_At.mono _ _ _ _ _ _
   |exact canvas_Lay.mono _ _ _ _ _ _ _ _
   |exact canvas_Right.mono _ _ _ _
   |exact celluloidlaw21_awake.mono _
   |exact celluloidlaw21_refs.mono _ _
   |exact celluloidref21_Over.mono _ _ _ _ _ _ _
   |exact celluloidref21_Parts.mono _ _
   |exact celluloidref21_Right.mono _ _ _ _
   |exact LeO.none _
   |refine LeO.ite ?_ ?_
   |refine LeO.bind ?_ (fun _ => ?_)
theorem celluloidlaw21_CanvasLays.mono : ∀ a0 a1 a2 a3 a4 a5 a6 k, LeO (celluloidlaw21_CanvasLays.f k a0 a1 a2 a3 a4 a5 a6) (celluloidlaw21_CanvasLays.f (k + 1) a0 a1 a2 a3 a4 a5 a6) := by
 intro a0 a1 a2 a3 a4 a5 a6 k
 obtain ⟨ih0, ih1, ih2, ih3, ih4⟩ := celluloidlaw21_CanvasLays.mono_l k
 unfold celluloidlaw21_CanvasLays.f
 repeat' first
   |(with_reducible exact ih0 _ _ _ _ _ _ _ _)
   |(with_reducible exact ih1 _ _ _ _ _ _ _ _ _ _ _ _)
   |(with_reducible exact ih2 _ _ _ _ _ _ _ _ _ _ _)
   |(with_reducible exact ih3 _ _ _ _ _ _ _ _ _ _ _ _)
   |(with_reducible exact ih4 _ _ _ _ _ _ _ _ _ _ _ _ _ _ _ _ _)
   |(with_reducible exact canvas_At.mono _ _ _ _ _ _)
   |(with_reducible exact canvas_Lay.mono _ _ _ _ _ _ _ _)
   |(with_reducible exact canvas_Right.mono _ _ _ _)
   |(with_reducible exact celluloidlaw21_awake.mono _)
   |(with_reducible exact celluloidlaw21_refs.mono _ _)
   |(with_reducible exact celluloidref21_Over.mono _ _ _ _ _ _ _)
   |(with_reducible exact celluloidref21_Parts.mono _ _)
   |(with_reducible exact celluloidref21_Right.mono _ _ _ _)
   |(with_reducible exact LeO.refl _)
   |(with_reducible exact LeO.none _)
   |(with_reducible refine LeO.ite ?_ ?_)
   |(with_reducible refine LeO.bind ?_ (fun _ => ?_))
   |exact ih0 _ _ _ _ _ _ _ _
   |exact ih1 _ _ _ _ _ _ _ _ _ _ _ _
   |exact ih2 _ _ _ _ _ _ _ _ _ _ _
   |exact ih3 _ _ _ _ _ _ _ _ _ _ _ _
   |exact ih4 _ _ _ _ _ _ _ _ _ _ _ _ _ _ _ _ _
   |exact canvas_At.mono _ _ _ _ _ _
   |exact canvas_Lay.mono _ _ _ _ _ _ _ _
   |exact canvas_Right.mono _ _ _ _
   |exact celluloidlaw21_awake.mono _
   |exact celluloidlaw21_refs.mono _ _
   |exact celluloidref21_Over.mono _ _ _ _ _ _ _
   |exact celluloidref21_Parts.mono _ _
   |exact celluloidref21_Right.mono _ _ _ _
   |exact LeO.none _
   |refine LeO.ite ?_ ?_
   |refine LeO.bind ?_ (fun _ => ?_)
def celluloidlaw21_CanvasLays.T17 : Bool × List (List Nat × List Nat) := (true, [([], []), ([0], [0]), ([], []), ([1, 2], [1, 2]), ([3], [3]), ([], []), ([4, 5], [4, 5]), ([6], [6]), ([7], [7]), ([7], [7]), ([7], [7]), ([10, 7], [7, 10]), ([9, 11, 7], [7, 9, 11]), ([7], [7]), ([7], [7]), ([14, 7], [7, 14]), ([13, 15, 7], [7, 13, 15]), ([8, 12, 16, 7, 7], [7, 8, 12, 16]), ([7], [7]), ([17, 18, 7], [7, 17, 18]), ([7, 19], [7, 19])])
def celluloidlaw21_CanvasLays.B17 : List Nat := [0, 1, 0, 7, 15, 0, 63, 127, 255, 255, 255, 1279, 3839, 255, 255, 16639, 57599, 131071, 255, 524287, 1048575]
theorem celluloidlaw21_CanvasLays.tab17 : rtab .any (opsOf Try.f5 17) = celluloidlaw21_CanvasLays.T17 := by kernel_rfl
theorem celluloidlaw21_CanvasLays.bits17 : waitsOk celluloidlaw21_CanvasLays.T17.2 celluloidlaw21_CanvasLays.B17 = true := by kernel_rfl
theorem celluloidlaw21_CanvasLays.j2_dead (k : Nat) : ∀ y0 y1 y2 y3 y5 y6 y7 y8 y9 y10, celluloidlaw21_CanvasLays.j2 k y0 y1 y2 y3 true y5 y6 y7 y8 y9 y10 ≠ some true := by
 cases k <;> intros <;> simp [celluloidlaw21_CanvasLays.j2]
set_option maxHeartbeats 8000000 in
set_option maxRecDepth 100000 in
theorem celluloidlaw21_CanvasLays.calls (k : Nat) (a0_0 : Int) (a0_1 : Int) (A0_2 : Option Addr) (c0_2 : Nat) (l0_2 : List (S23)) (a1 : Int) (a2 : Int) (A3 : Option Addr) (c3 : Nat) (l3 : List (S50)) (a4 : Int) (r : Bool) (w : World) (hr0_2 : Kd.C k23 w A0_2 l0_2.length l0_2) (hc0_2 : l0_2.length ≤ c0_2) (hr3 : Kd.C k50 w A3 l3.length l3) (hc3 : l3.length ≤ c3) (h : celluloidlaw21_CanvasLays.f k a0_0 a0_1 l0_2 a1 a2 l3 a4 = some r) (hr_ : Aside0 (r = true)) :
  Calls Try.prog 5 #[.agg #[.int .i64 a0_0, .int .i64 a0_1, .slice A0_2 l0_2.length c0_2], .int .i64 a1, .int .i64 a2, .slice A3 l3.length c3, .int .i64 a4] w fun e w' => e = .returned (.bool r) ∧ Below w.heap.size w w' := by
 have hu26 := Try.underlying26
 have hu23 := Try.underlying23
 have HR0_2 := Aside0.mk hr0_2
 have HC0_2 := Aside0.mk hc0_2
 clear hr0_2 hc0_2
 have HR3 := Aside0.mk hr3
 have HC3 := Aside0.mk hc3
 clear hr3 hc3
 have HB := Aside0.mk (Below.refl w.heap.size w)
 have H : (if (l0_2.length : Int) > 500 then (celluloidlaw21_CanvasLays.j0 k a1 a2 l3 a4 true a0_0 a0_1 l0_2) else (celluloidlaw21_CanvasLays.j0 k a1 a2 l3 a4 (decide ((l3.length : Int) > 40)) a0_0 a0_1 l0_2)) = some r := h
 clear h
 have HC6 := Aside0.mk H
 clear H
 go_enter Try.func5, Try.ntmps5
 go_upto_region 1 with (first | ((with_reducible refine gate_dst (N := 5) rfl ?_); (try (refine gate_guard (by rfl) ?_; dsimp only)); refine box_event ?hg (N := 5) ?hd (cs := #[.int .i64 a0_0, .int .i64 a0_1, .slice A0_2 l0_2.length c0_2]) (t := 26) ?hr ?_; (case hd => rfl); (case hg => rfl); (case hr => first | (go_simp; done) | (go_simp; rfl)); intro gb232 hg w7 hbox hb; have n0_ := Aside0.mk (below_step (by repeat (first | (with_reducible first | exact HB.out | apply below_alloc | apply pw_below_drewN | apply below_drew1) | exact HB.out)) hb); have n1_ := Aside0.mk (hbox); have n2_ := Aside0.mk ((by rw [hg]; exact (below_size (by repeat (first | (with_reducible first | exact HB.out | apply below_alloc | apply pw_below_drewN | apply below_drew1) | exact HB.out))) : w.heap.size ≤ gb232)); have n3_ := Aside0.mk ((by rw [hg]; exact (below_size (by repeat (first | (with_reducible first | exact HB.out | apply below_alloc | apply pw_below_drewN | apply below_drew1) | exact HB.out))) : w.heap.size ≤ gb232)); clear HB; have HB := n0_; have BK232 := n1_; have GW232 := n2_; have GE232 := n3_; clear n0_ n1_ n2_ n3_; clear hb hbox hg))
 (try simp only [Act.put, List.setIfInBounds_toArray, List.set_cons_zero, List.set_cons_succ])
 go_cut [24] (fun v24 wc => ∃ (kq : Nat) (x24_5 : Bool), v24 = .bool x24_5 ∧ Aside0 (celluloidlaw21_CanvasLays.j0 kq a1 a2 l3 a4 x24_5 a0_0 a0_1 l0_2 = some r) ∧ Aside0 (kq ≤ k) ∧ Aside0 (wc.heap[gb232]? = some (.cells #[.int .i64 a0_0, .int .i64 a0_1, (.slice A0_2 l0_2.length c0_2)] 26 (0, 0))) ∧ Aside0 (Below w.heap.size w wc))
 case first =>
  have H := HC6.out
  clear HC6
  by_cases c8 : (l0_2.length : Int) > 500
  ·rw [if_pos c8] at H
   have c8b0 : decide (500 < (l0_2.length : Int)) = true := decide_eq_true c8
   have c8b1 : decide (500 < l0_2.length) = true := decide_eq_true (by omega)
   clear c8
   (first | rw [c8b0] | (simp only [i64_w, i32_w]; rw [c8b0]) | skip)
   have H' := Aside0.mk H
   clear H
   have hcz9_0 : w7.cell? ⟨gb232, 0, none⟩ = some (.int .i64 a0_0) := (blk_cell BK232.out 0).trans rfl
   have hcz9_1 : w7.cell? ⟨gb232, 1, none⟩ = some (.int .i64 a0_1) := (blk_cell BK232.out 1).trans rfl
   have hcz9_2 : w7.cell? ⟨gb232, 2, none⟩ = some (.slice A0_2 l0_2.length c0_2) := (blk_cell BK232.out 2).trans rfl
   have hfz9_0 := blk_frozen BK232.out 0
   have hfz9_1 := blk_frozen BK232.out 1
   have hfz9_2 := blk_frozen BK232.out 2
   go_wp2
   go_meet
   case rel => exact ⟨_, (true), (by first | rfl | (simp; done) | (simp [*]; done)), H', ⟨by first | omega | exact Nat.le_refl _⟩, ⟨by (with_reducible repeat (first | apply bN | apply bD | apply bA)); exact BK232.out⟩, ⟨by repeat (first | (with_reducible first | exact HB.out | apply below_alloc | apply pw_below_drewN | apply below_drew1 | refine below_set ?_ GE232.out) | exact HB.out)⟩⟩
  ·rw [if_neg c8] at H
   have c8b0 : decide (500 < (l0_2.length : Int)) = false := decide_eq_false c8
   have c8b1 : decide (500 < l0_2.length) = false := decide_eq_false (by omega)
   clear c8
   (first | rw [c8b0] | (simp only [i64_w, i32_w]; rw [c8b0]) | skip)
   have H' := Aside0.mk H
   clear H
   have hcz10_0 : w7.cell? ⟨gb232, 0, none⟩ = some (.int .i64 a0_0) := (blk_cell BK232.out 0).trans rfl
   have hcz10_1 : w7.cell? ⟨gb232, 1, none⟩ = some (.int .i64 a0_1) := (blk_cell BK232.out 1).trans rfl
   have hcz10_2 : w7.cell? ⟨gb232, 2, none⟩ = some (.slice A0_2 l0_2.length c0_2) := (blk_cell BK232.out 2).trans rfl
   have hfz10_0 := blk_frozen BK232.out 0
   have hfz10_1 := blk_frozen BK232.out 1
   have hfz10_2 := blk_frozen BK232.out 2
   go_wp2
   go_meet
   case rel => exact ⟨_, (decide ((l3.length : Int) > 40)), (by first | rfl | (simp; done) | (simp [*]; done)), H', ⟨by first | omega | exact Nat.le_refl _⟩, ⟨by (with_reducible repeat (first | apply bN | apply bD | apply bA)); exact BK232.out⟩, ⟨by repeat (first | (with_reducible first | exact HB.out | apply below_alloc | apply pw_below_drewN | apply below_drew1 | refine below_set ?_ GE232.out) | exact HB.out)⟩⟩
 case rest =>
  clear HC6
  try clear p2
  try clear c3
  try clear c5
  try clear c8
  try clear c8b0
  try clear c8b1
  try clear hcz10_0
  try clear hcz10_1
  try clear hcz10_2
  try clear hcz9_0
  try clear hcz9_1
  try clear hcz9_2
  try clear hfz10_0
  try clear hfz10_1
  try clear hfz10_2
  try clear hfz9_0
  try clear hfz9_1
  try clear hfz9_2
  obtain ⟨kq, x24_5, rfl, HA, HJ5, BK232, HB⟩ := hcut
  cases kq with
  |zero => exact absurd HA.out (by simp [celluloidlaw21_CanvasLays.j0])
  |succ kj5 =>
   have H := HA.out
   clear HA
   simp only [celluloidlaw21_CanvasLays.j0] at H
   by_cases c11 : x24_5 = true
   ·subst c11
    have H1 : ((celluloidlaw21_awake.f kj5).bind fun t233 => (some t233)) = some r := by rw [if_pos rfl] at H; exact H
    clear H
    have H := H1
    clear H1
    replace H := Option.bind_eq_some_iff.mp H
    obtain ⟨t233, A120, H⟩ := H
    replace H : (some t233) = some r := H
    have A12 := Aside0.mk A120
    clear A120
    first
    |exact absurd (Option.some.inj H) (by rw [hr_.out]; decide)
    |obtain rfl := Option.some.inj H
     go_wp2_with (first | ((with_reducible refine gate_callee (f := 11) rfl ?_); refine goesL_ (some 25) rfl rfl Try.func11 (by kernel_rfl) rfl #[] rfl (by (try simp only [List.map_toArray, List.map_cons, List.map_nil]); first | done | rfl | (simp only [List.length_drop, List.length_take]; rfl)) ?_; (with_reducible refine (celluloidlaw21_awake.calls kj5  t233 _ A12.out).mono ?_); rintro e w13 ⟨rfl, hb⟩; refine ⟨_, rfl, ?_⟩; have n0_ := Aside0.mk (blk_below (g := gb232) (o := .cells #[.int .i64 a0_0, .int .i64 a0_1, .slice A0_2 l0_2.length c0_2] 26 (0, 0)) (by (with_reducible repeat (first | apply bN | apply bD | apply bA)); exact BK232.out) hb); have n1_ := Aside0.mk (below_step (by repeat (first | (with_reducible first | exact HB.out | apply below_alloc | apply pw_below_drewN | apply below_drew1 | refine below_set ?_ GE232.out) | exact HB.out)) hb); clear BK232; clear HB; have BK232 := n0_; have HB := n1_; clear n0_ n1_; (try clear hb); (try clear hb2); (try clear hk); (try clear hi)))
     go_ret
     exact ⟨by first | rfl | (simp [errW_none, errW_some] <;> rfl) | (simp [*, errW_none, errW_some] <;> rfl), by repeat (first | (with_reducible first | exact HB.out | apply below_alloc | apply pw_below_drewN | apply below_drew1 | refine below_set ?_ GE232.out) | exact HB.out)⟩
   ·replace c11 := Bool.eq_false_iff.mpr c11
    subst c11
    have H1 : ((canvas_Lay.f kj5 a0_0 a0_1 l0_2 a1 a2 l3 a4).bind fun bt234 => ((celluloidlaw21_ref.f a0_0 a0_1 l0_2).bind fun bt241 => ((celluloidref21_Right.f kj5 bt241.1 bt241.2.1 bt241.2.2).bind fun t246 => ((canvas_Right.f kj5 a0_0 a0_1 l0_2).bind fun t247 => (if (t247 != t246) = true then (some false) else (if t246 = true then (if a1 < 0 then (celluloidlaw21_CanvasLays.j1 kj5 a1 a2 l3 a4 bt234.2.2.2 true a0_0 a0_1 l0_2 bt234.1 bt234.2.1 bt234.2.2.1) else (if a1 ≥ a0_0 then (celluloidlaw21_CanvasLays.j1 kj5 a1 a2 l3 a4 bt234.2.2.2 true a0_0 a0_1 l0_2 bt234.1 bt234.2.1 bt234.2.2.1) else (if a2 < 0 then (celluloidlaw21_CanvasLays.j1 kj5 a1 a2 l3 a4 bt234.2.2.2 true a0_0 a0_1 l0_2 bt234.1 bt234.2.1 bt234.2.2.1) else (if a2 ≥ a0_1 then (celluloidlaw21_CanvasLays.j1 kj5 a1 a2 l3 a4 bt234.2.2.2 true a0_0 a0_1 l0_2 bt234.1 bt234.2.1 bt234.2.2.1) else ((celluloidlaw21_refs.f kj5 l3).bind fun t248 => ((celluloidref21_Parts.f kj5 t248).bind fun t251 => (if t251 = true then (if a4 < 0 then (celluloidlaw21_CanvasLays.j1 kj5 a1 a2 l3 a4 bt234.2.2.2 true a0_0 a0_1 l0_2 bt234.1 bt234.2.1 bt234.2.2.1) else (celluloidlaw21_CanvasLays.j1 kj5 a1 a2 l3 a4 bt234.2.2.2 (decide (a4 > 16)) a0_0 a0_1 l0_2 bt234.1 bt234.2.1 bt234.2.2.1)) else (celluloidlaw21_CanvasLays.j1 kj5 a1 a2 l3 a4 bt234.2.2.2 true a0_0 a0_1 l0_2 bt234.1 bt234.2.1 bt234.2.2.1)))))))) else (celluloidlaw21_CanvasLays.j1 kj5 a1 a2 l3 a4 bt234.2.2.2 true a0_0 a0_1 l0_2 bt234.1 bt234.2.1 bt234.2.2.1))))))) = some r := by rw [if_neg (show ¬ (false = true) by decide)] at H; exact H
    clear H
    have H := H1
    clear H1
    replace H := Option.bind_eq_some_iff.mp H
    obtain ⟨⟨t234, t235, t236, t239⟩, A140, H⟩ := H
    replace H : ((celluloidlaw21_ref.f a0_0 a0_1 l0_2).bind fun bt241 => ((celluloidref21_Right.f kj5 bt241.1 bt241.2.1 bt241.2.2).bind fun t246 => ((canvas_Right.f kj5 a0_0 a0_1 l0_2).bind fun t247 => (if (t247 != t246) = true then (some false) else (if t246 = true then (if a1 < 0 then (celluloidlaw21_CanvasLays.j1 kj5 a1 a2 l3 a4 t239 true a0_0 a0_1 l0_2 t234 t235 t236) else (if a1 ≥ a0_0 then (celluloidlaw21_CanvasLays.j1 kj5 a1 a2 l3 a4 t239 true a0_0 a0_1 l0_2 t234 t235 t236) else (if a2 < 0 then (celluloidlaw21_CanvasLays.j1 kj5 a1 a2 l3 a4 t239 true a0_0 a0_1 l0_2 t234 t235 t236) else (if a2 ≥ a0_1 then (celluloidlaw21_CanvasLays.j1 kj5 a1 a2 l3 a4 t239 true a0_0 a0_1 l0_2 t234 t235 t236) else ((celluloidlaw21_refs.f kj5 l3).bind fun t248 => ((celluloidref21_Parts.f kj5 t248).bind fun t251 => (if t251 = true then (if a4 < 0 then (celluloidlaw21_CanvasLays.j1 kj5 a1 a2 l3 a4 t239 true a0_0 a0_1 l0_2 t234 t235 t236) else (celluloidlaw21_CanvasLays.j1 kj5 a1 a2 l3 a4 t239 (decide (a4 > 16)) a0_0 a0_1 l0_2 t234 t235 t236)) else (celluloidlaw21_CanvasLays.j1 kj5 a1 a2 l3 a4 t239 true a0_0 a0_1 l0_2 t234 t235 t236)))))))) else (celluloidlaw21_CanvasLays.j1 kj5 a1 a2 l3 a4 t239 true a0_0 a0_1 l0_2 t234 t235 t236)))))) = some r := H
    have A14 := Aside0.mk A140
    clear A140
    replace H := Option.bind_eq_some_iff.mp H
    obtain ⟨⟨t241, t242, t243⟩, A150, H⟩ := H
    simp only [celluloidlaw21_ref.f, Option.some.injEq, Prod.mk.injEq] at A150
    obtain ⟨rfl, rfl, rfl⟩ := A150
    replace H : ((celluloidref21_Right.f kj5 a0_0 a0_1 l0_2).bind fun t246 => ((canvas_Right.f kj5 a0_0 a0_1 l0_2).bind fun t247 => (if (t247 != t246) = true then (some false) else (if t246 = true then (if a1 < 0 then (celluloidlaw21_CanvasLays.j1 kj5 a1 a2 l3 a4 t239 true a0_0 a0_1 l0_2 t234 t235 t236) else (if a1 ≥ a0_0 then (celluloidlaw21_CanvasLays.j1 kj5 a1 a2 l3 a4 t239 true a0_0 a0_1 l0_2 t234 t235 t236) else (if a2 < 0 then (celluloidlaw21_CanvasLays.j1 kj5 a1 a2 l3 a4 t239 true a0_0 a0_1 l0_2 t234 t235 t236) else (if a2 ≥ a0_1 then (celluloidlaw21_CanvasLays.j1 kj5 a1 a2 l3 a4 t239 true a0_0 a0_1 l0_2 t234 t235 t236) else ((celluloidlaw21_refs.f kj5 l3).bind fun t248 => ((celluloidref21_Parts.f kj5 t248).bind fun t251 => (if t251 = true then (if a4 < 0 then (celluloidlaw21_CanvasLays.j1 kj5 a1 a2 l3 a4 t239 true a0_0 a0_1 l0_2 t234 t235 t236) else (celluloidlaw21_CanvasLays.j1 kj5 a1 a2 l3 a4 t239 (decide (a4 > 16)) a0_0 a0_1 l0_2 t234 t235 t236)) else (celluloidlaw21_CanvasLays.j1 kj5 a1 a2 l3 a4 t239 true a0_0 a0_1 l0_2 t234 t235 t236)))))))) else (celluloidlaw21_CanvasLays.j1 kj5 a1 a2 l3 a4 t239 true a0_0 a0_1 l0_2 t234 t235 t236))))) = some r := H
    replace H := Option.bind_eq_some_iff.mp H
    obtain ⟨t246, A160, H⟩ := H
    replace H : ((canvas_Right.f kj5 a0_0 a0_1 l0_2).bind fun t247 => (if (t247 != t246) = true then (some false) else (if t246 = true then (if a1 < 0 then (celluloidlaw21_CanvasLays.j1 kj5 a1 a2 l3 a4 t239 true a0_0 a0_1 l0_2 t234 t235 t236) else (if a1 ≥ a0_0 then (celluloidlaw21_CanvasLays.j1 kj5 a1 a2 l3 a4 t239 true a0_0 a0_1 l0_2 t234 t235 t236) else (if a2 < 0 then (celluloidlaw21_CanvasLays.j1 kj5 a1 a2 l3 a4 t239 true a0_0 a0_1 l0_2 t234 t235 t236) else (if a2 ≥ a0_1 then (celluloidlaw21_CanvasLays.j1 kj5 a1 a2 l3 a4 t239 true a0_0 a0_1 l0_2 t234 t235 t236) else ((celluloidlaw21_refs.f kj5 l3).bind fun t248 => ((celluloidref21_Parts.f kj5 t248).bind fun t251 => (if t251 = true then (if a4 < 0 then (celluloidlaw21_CanvasLays.j1 kj5 a1 a2 l3 a4 t239 true a0_0 a0_1 l0_2 t234 t235 t236) else (celluloidlaw21_CanvasLays.j1 kj5 a1 a2 l3 a4 t239 (decide (a4 > 16)) a0_0 a0_1 l0_2 t234 t235 t236)) else (celluloidlaw21_CanvasLays.j1 kj5 a1 a2 l3 a4 t239 true a0_0 a0_1 l0_2 t234 t235 t236)))))))) else (celluloidlaw21_CanvasLays.j1 kj5 a1 a2 l3 a4 t239 true a0_0 a0_1 l0_2 t234 t235 t236)))) = some r := H
    have A16 := Aside0.mk A160
    clear A160
    replace H := Option.bind_eq_some_iff.mp H
    obtain ⟨t247, A170, H⟩ := H
    replace H : (if (t247 != t246) = true then (some false) else (if t246 = true then (if a1 < 0 then (celluloidlaw21_CanvasLays.j1 kj5 a1 a2 l3 a4 t239 true a0_0 a0_1 l0_2 t234 t235 t236) else (if a1 ≥ a0_0 then (celluloidlaw21_CanvasLays.j1 kj5 a1 a2 l3 a4 t239 true a0_0 a0_1 l0_2 t234 t235 t236) else (if a2 < 0 then (celluloidlaw21_CanvasLays.j1 kj5 a1 a2 l3 a4 t239 true a0_0 a0_1 l0_2 t234 t235 t236) else (if a2 ≥ a0_1 then (celluloidlaw21_CanvasLays.j1 kj5 a1 a2 l3 a4 t239 true a0_0 a0_1 l0_2 t234 t235 t236) else ((celluloidlaw21_refs.f kj5 l3).bind fun t248 => ((celluloidref21_Parts.f kj5 t248).bind fun t251 => (if t251 = true then (if a4 < 0 then (celluloidlaw21_CanvasLays.j1 kj5 a1 a2 l3 a4 t239 true a0_0 a0_1 l0_2 t234 t235 t236) else (celluloidlaw21_CanvasLays.j1 kj5 a1 a2 l3 a4 t239 (decide (a4 > 16)) a0_0 a0_1 l0_2 t234 t235 t236)) else (celluloidlaw21_CanvasLays.j1 kj5 a1 a2 l3 a4 t239 true a0_0 a0_1 l0_2 t234 t235 t236)))))))) else (celluloidlaw21_CanvasLays.j1 kj5 a1 a2 l3 a4 t239 true a0_0 a0_1 l0_2 t234 t235 t236))) = some r := H
    have A17 := Aside0.mk A170
    clear A170
    by_cases c18 : (t247 != t246) = true
    ·rw [if_pos c18] at H
     have c18b0 : (t247 != t246) = true := c18
     (try (have c18b1 : decide (t247 = t246) = false := by simpa using c18))
     (try (have c18b2 : (t247 == t246) = false := by simpa using c18))
     (try (have c18b3 : ¬ (t247 = t246) := by simpa using c18))
     clear c18
     exact absurd (Option.some.inj H) (by rw [hr_.out]; decide)
    ·rw [if_neg c18] at H
     have c18b0 : (t247 != t246) = false := by simpa using c18
     (try (have c18b1 : decide (t247 = t246) = true := by simpa using c18))
     (try (have c18b2 : (t247 == t246) = true := by simpa using c18))
     clear c18
     have HC31 := Aside0.mk H
     clear H
     have hcz32_0 : wc.cell? ⟨gb232, 0, none⟩ = some (.int .i64 a0_0) := (blk_cell BK232.out 0).trans rfl
     have hcz32_1 : wc.cell? ⟨gb232, 1, none⟩ = some (.int .i64 a0_1) := (blk_cell BK232.out 1).trans rfl
     have hcz32_2 : wc.cell? ⟨gb232, 2, none⟩ = some (.slice A0_2 l0_2.length c0_2) := (blk_cell BK232.out 2).trans rfl
     have hfz32_0 := blk_frozen BK232.out 0
     have hfz32_1 := blk_frozen BK232.out 1
     have hfz32_2 := blk_frozen BK232.out 2
     go_upto_region 7 with (first | ((with_reducible refine gate_callee (f := 19) rfl ?_); refine goesL_ (some 32) rfl rfl Try.func19 (by kernel_rfl) rfl #[.agg #[.int .i64 a0_0, .int .i64 a0_1, .slice A0_2 l0_2.length c0_2], .int .i64 a1, .int .i64 a2, .slice A3 l3.length c3, .int .i64 a4] rfl (by (try simp only [List.map_toArray, List.map_cons, List.map_nil]); first | done | rfl | (simp only [List.length_drop, List.length_take]; rfl)) ?_; (with_reducible refine (canvas_Lay.calls kj5 a0_0 a0_1 _ _ l0_2 a1 a2 _ _ l3 a4 t234 t235 t236 t239 _ ?side1 ?side2 ?side3 ?side4 A14.out).mono ?_); (case side1 => repeat (first | exact (Kd.C_below HR0_2.out HB.out) | (with_reducible refine Kd.C_alloc ?_ _) | (with_reducible refine Kd.C_drewN ?_ _) | (with_reducible refine Kd.C_drew ?_))); (case side2 => exact HC0_2.out); (case side3 => repeat (first | exact (Kd.C_below HR3.out HB.out) | (with_reducible refine Kd.C_alloc ?_ _) | (with_reducible refine Kd.C_drewN ?_ _) | (with_reducible refine Kd.C_drew ?_))); (case side4 => exact HC3.out); rintro e w33 ⟨v237, rfl, ho0, hb⟩; refine ⟨_, rfl, ?_⟩; have n0_ := Aside0.mk (Kd.R_lower ho0 (below_size (by repeat (first | (with_reducible first | exact HB.out | apply below_alloc | apply pw_below_drewN | apply below_drew1 | refine below_set ?_ GE232.out) | exact HB.out)))); have n1_ := Aside0.mk (blk_below (g := gb232) (o := .cells #[.int .i64 a0_0, .int .i64 a0_1, .slice A0_2 l0_2.length c0_2] 26 (0, 0)) (by (with_reducible repeat (first | apply bN | apply bD | apply bA)); exact BK232.out) hb); have n2_ := Aside0.mk (below_step (by repeat (first | (with_reducible first | exact HB.out | apply below_alloc | apply pw_below_drewN | apply below_drew1 | refine below_set ?_ GE232.out) | exact HB.out)) hb); clear BK232; clear HB; have HO238 := n0_; have BK232 := n1_; have HB := n2_; clear n0_ n1_ n2_; (try clear hb); (try clear hb2); (try clear hk); (try clear hi); (try clear ho0)) | ((with_reducible refine gate_dst (N := 11) rfl ?_); (try (refine gate_guard (by rfl) ?_; dsimp only)); refine box_event ?hg (N := 11) ?hd (cs := #[.int .i64 0, .int .i64 0, .slice none 0 0]) (t := 26) ?hr ?_; (case hd => rfl); (case hg => rfl); (case hr => first | (go_simp; done) | (go_simp; rfl)); intro gb240 hg w34 hbox hb; have n0_ := Aside0.mk (Kd.R_below (by (with_reducible repeat (first | apply Kd.R_alloc | apply Kd.R_drewN | apply Kd.R_drew)); exact HO238.out) hb); have n1_ := Aside0.mk (blk_below (g := gb232) (o := .cells #[.int .i64 a0_0, .int .i64 a0_1, .slice A0_2 l0_2.length c0_2] 26 (0, 0)) (by (with_reducible repeat (first | apply bN | apply bD | apply bA)); exact BK232.out) hb); have n2_ := Aside0.mk (below_step (by repeat (first | (with_reducible first | exact HB.out | apply below_alloc | apply pw_below_drewN | apply below_drew1 | refine below_set ?_ GE232.out) | exact HB.out)) hb); have n3_ := Aside0.mk (hbox); have n4_ := Aside0.mk ((by rw [hg]; exact (below_size (by repeat (first | (with_reducible first | exact HB.out | apply below_alloc | apply pw_below_drewN | apply below_drew1 | refine below_set ?_ GE232.out) | exact HB.out))) : w.heap.size ≤ gb240)); have n5_ := Aside0.mk ((by rw [hg]; exact (below_size (by repeat (first | (with_reducible first | exact HB.out | apply below_alloc | apply pw_below_drewN | apply below_drew1 | refine below_set ?_ GE232.out) | exact HB.out))) : w.heap.size ≤ gb240)); have n6_ := Aside0.mk ((by rw [hg]; exact Nat.ne_of_lt (blk_lt (g := gb232) (o := .cells #[.int .i64 a0_0, .int .i64 a0_1, .slice A0_2 l0_2.length c0_2] 26 (0, 0)) (by (with_reducible repeat (first | apply bN | apply bD | apply bA)); exact BK232.out)) : gb232 ≠ gb240)); have n7_ := Aside0.mk ((by rw [hg]; exact Nat.ne_of_gt (blk_lt (g := gb232) (o := .cells #[.int .i64 a0_0, .int .i64 a0_1, .slice A0_2 l0_2.length c0_2] 26 (0, 0)) (by (with_reducible repeat (first | apply bN | apply bD | apply bA)); exact BK232.out)) : gb240 ≠ gb232)); clear HO238; clear BK232; clear HB; have HO238 := n0_; have BK232 := n1_; have HB := n2_; have BK240 := n3_; have GW240 := n4_; have GE240 := n5_; have NB232_240 := n6_; have NB240_232 := n7_; clear n0_ n1_ n2_ n3_ n4_ n5_ n6_ n7_; clear hb hbox hg; have hnb35 := NB240_232.out; have hnc35 := NB232_240.out; have hcz36_0 : w34.cell? ⟨gb240, 0, none⟩ = some (.int .i64 0) := (blk_cell BK240.out 0).trans rfl; have hcz36_1 : w34.cell? ⟨gb240, 1, none⟩ = some (.int .i64 0) := (blk_cell BK240.out 1).trans rfl; have hcz36_2 : w34.cell? ⟨gb240, 2, none⟩ = some (.slice none 0 0) := (blk_cell BK240.out 2).trans rfl; have hfz36_0 := blk_frozen BK240.out 0; have hfz36_1 := blk_frozen BK240.out 1; have hfz36_2 := blk_frozen BK240.out 2; obtain ⟨Ao37, co37, eo37⟩ := Kd.R_slice HO238.out; subst eo37; have hcz38_0 : w34.cell? ⟨gb232, 0, none⟩ = some (.int .i64 a0_0) := (blk_cell BK232.out 0).trans rfl; have hcz38_1 : w34.cell? ⟨gb232, 1, none⟩ = some (.int .i64 a0_1) := (blk_cell BK232.out 1).trans rfl; have hcz38_2 : w34.cell? ⟨gb232, 2, none⟩ = some (.slice A0_2 l0_2.length c0_2) := (blk_cell BK232.out 2).trans rfl; have hfz38_0 := blk_frozen BK232.out 0; have hfz38_1 := blk_frozen BK232.out 1; have hfz38_2 := blk_frozen BK232.out 2) | ((with_reducible refine gate_callee (f := 21) rfl ?_); refine goesL_ (some 36) rfl rfl Try.func21 (by kernel_rfl) rfl #[.agg #[.int .i64 a0_0, .int .i64 a0_1, .slice A0_2 l0_2.length c0_2]] rfl (by (try simp only [List.map_toArray, List.map_cons, List.map_nil]); first | done | rfl | (simp only [List.length_drop, List.length_take]; rfl)) ?_; (with_reducible refine (ref_same a0_0 a0_1 A0_2 l0_2.length c0_2 _).mono ?_); rintro e w39 ⟨rfl, hb⟩; refine ⟨_, rfl, ?_⟩; have n0_ := Aside0.mk (Kd.R_below (by (with_reducible repeat (first | apply Kd.R_alloc | apply Kd.R_drewN | apply Kd.R_drew)); exact (Kd.R_mono (Kd.R_far (p := ⟨gb240, 2, none⟩) (Kd.R_far (p := ⟨gb240, 1, none⟩) (Kd.R_far (p := ⟨gb240, 0, none⟩) (Kd.R_types HO238.out BK240.out (by decide)) (fun _ hk => hk.2) (.int .i64 t234)) (fun _ hk => hk.2) (.int .i64 t235)) (fun _ hk => hk.2) (.slice Ao37 t236.length co37)) (fun _ h_ => h_.1))) hb); have n1_ := Aside0.mk (Kd.R_nil k23 23 w39 w.heap.size (fun _ => True)); have n2_ := Aside0.mk (blk_below (g := gb232) (o := .cells #[.int .i64 a0_0, .int .i64 a0_1, .slice A0_2 l0_2.length c0_2] 26 (0, 0)) (by (with_reducible repeat (first | apply bN | apply bD | apply bA)); refine blk_far ?_ NB232_240.out _; (with_reducible repeat (first | apply bN | apply bD | apply bA)); refine blk_far ?_ NB232_240.out _; (with_reducible repeat (first | apply bN | apply bD | apply bA)); refine blk_far ?_ NB232_240.out _; (with_reducible repeat (first | apply bN | apply bD | apply bA)); exact BK232.out) hb); have n3_ := Aside0.mk (blk_below (g := gb240) (o := .cells #[.int .i64 t234, .int .i64 t235, .slice Ao37 t236.length co37] 26 (0, 0)) (by (with_reducible repeat (first | apply bN | apply bD | apply bA)); refine blk_put (cs := #[.int .i64 t234, .int .i64 t235, .slice none 0 0]) ?_ 2 _ rfl; (with_reducible repeat (first | apply bN | apply bD | apply bA)); refine blk_put (cs := #[.int .i64 t234, .int .i64 0, .slice none 0 0]) ?_ 1 _ rfl; (with_reducible repeat (first | apply bN | apply bD | apply bA)); refine blk_put (cs := #[.int .i64 0, .int .i64 0, .slice none 0 0]) ?_ 0 _ rfl; (with_reducible repeat (first | apply bN | apply bD | apply bA)); exact BK240.out) hb); have n4_ := Aside0.mk (below_step (by repeat (first | (with_reducible first | exact HB.out | apply below_alloc | apply pw_below_drewN | apply below_drew1 | refine below_set ?_ GE232.out | refine below_set ?_ GE240.out) | exact HB.out)) hb); clear HO238; clear BK232; clear BK240; clear HB; have HO238 := n0_; have HO245 := n1_; have BK232 := n2_; have BK240 := n3_; have HB := n4_; clear n0_ n1_ n2_ n3_ n4_; (try clear hb); (try clear hb2); (try clear hk); (try clear hi); (try clear ho0)) | ((with_reducible refine gate_callee (f := 20) rfl ?_); refine goesL_ (some 37) rfl rfl Try.func20 (by kernel_rfl) rfl #[.agg #[.int .i64 a0_0, .int .i64 a0_1, .slice A0_2 l0_2.length c0_2]] rfl (by (try simp only [List.map_toArray, List.map_cons, List.map_nil]); first | done | rfl | (simp only [List.length_drop, List.length_take]; rfl)) ?_; (with_reducible refine (celluloidref21_Right.calls kj5 a0_0 a0_1 _ _ l0_2 t246 _ ?side1 ?side2 A16.out).mono ?_); (case side1 => exact Kd.C_below HR0_2.out HB.out); (case side2 => exact HC0_2.out); rintro e w41 ⟨rfl, hb⟩; refine ⟨_, rfl, ?_⟩; have n0_ := Aside0.mk (Kd.R_below (by (with_reducible repeat (first | apply Kd.R_alloc | apply Kd.R_drewN | apply Kd.R_drew)); exact HO238.out) hb); have n1_ := Aside0.mk (Kd.R_below (by (with_reducible repeat (first | apply Kd.R_alloc | apply Kd.R_drewN | apply Kd.R_drew)); exact HO245.out) hb); have n2_ := Aside0.mk (blk_below (g := gb232) (o := .cells #[.int .i64 a0_0, .int .i64 a0_1, .slice A0_2 l0_2.length c0_2] 26 (0, 0)) (by (with_reducible repeat (first | apply bN | apply bD | apply bA)); exact BK232.out) hb); have n3_ := Aside0.mk (blk_below (g := gb240) (o := .cells #[.int .i64 t234, .int .i64 t235, .slice Ao37 t236.length co37] 26 (0, 0)) (by (with_reducible repeat (first | apply bN | apply bD | apply bA)); exact BK240.out) hb); have n4_ := Aside0.mk (below_step (by repeat (first | (with_reducible first | exact HB.out | apply below_alloc | apply pw_below_drewN | apply below_drew1 | refine below_set ?_ GE232.out | refine below_set ?_ GE240.out) | exact HB.out)) hb); clear HO238; clear HO245; clear BK232; clear BK240; clear HB; have HO238 := n0_; have HO245 := n1_; have BK232 := n2_; have BK240 := n3_; have HB := n4_; clear n0_ n1_ n2_ n3_ n4_; (try clear hb); (try clear hb2); (try clear hk); (try clear hi); have hcz42_0 : w41.cell? ⟨gb232, 0, none⟩ = some (.int .i64 a0_0) := (blk_cell BK232.out 0).trans rfl; have hcz42_1 : w41.cell? ⟨gb232, 1, none⟩ = some (.int .i64 a0_1) := (blk_cell BK232.out 1).trans rfl; have hcz42_2 : w41.cell? ⟨gb232, 2, none⟩ = some (.slice A0_2 l0_2.length c0_2) := (blk_cell BK232.out 2).trans rfl; have hfz42_0 := blk_frozen BK232.out 0; have hfz42_1 := blk_frozen BK232.out 1; have hfz42_2 := blk_frozen BK232.out 2) | ((with_reducible refine gate_callee (f := 12) rfl ?_); refine goesL_ (some 39) rfl rfl Try.func12 (by kernel_rfl) rfl #[.agg #[.int .i64 a0_0, .int .i64 a0_1, .slice A0_2 l0_2.length c0_2]] rfl (by (try simp only [List.map_toArray, List.map_cons, List.map_nil]); first | done | rfl | (simp only [List.length_drop, List.length_take]; rfl)) ?_; (with_reducible refine (canvas_Right.calls kj5 a0_0 a0_1 _ _ l0_2 t247 _ ?side1 ?side2 A17.out).mono ?_); (case side1 => repeat (first | exact (Kd.C_below HR0_2.out HB.out) | (with_reducible refine Kd.C_alloc ?_ _) | (with_reducible refine Kd.C_drewN ?_ _) | (with_reducible refine Kd.C_drew ?_))); (case side2 => exact HC0_2.out); rintro e w43 ⟨rfl, hb⟩; refine ⟨_, rfl, ?_⟩; have n0_ := Aside0.mk (Kd.R_below (by (with_reducible repeat (first | apply Kd.R_alloc | apply Kd.R_drewN | apply Kd.R_drew)); exact HO238.out) hb); have n1_ := Aside0.mk (Kd.R_below (by (with_reducible repeat (first | apply Kd.R_alloc | apply Kd.R_drewN | apply Kd.R_drew)); exact HO245.out) hb); have n2_ := Aside0.mk (blk_below (g := gb232) (o := .cells #[.int .i64 a0_0, .int .i64 a0_1, .slice A0_2 l0_2.length c0_2] 26 (0, 0)) (by (with_reducible repeat (first | apply bN | apply bD | apply bA)); exact BK232.out) hb); have n3_ := Aside0.mk (blk_below (g := gb240) (o := .cells #[.int .i64 t234, .int .i64 t235, .slice Ao37 t236.length co37] 26 (0, 0)) (by (with_reducible repeat (first | apply bN | apply bD | apply bA)); exact BK240.out) hb); have n4_ := Aside0.mk (below_step (by repeat (first | (with_reducible first | exact HB.out | apply below_alloc | apply pw_below_drewN | apply below_drew1 | refine below_set ?_ GE232.out | refine below_set ?_ GE240.out) | exact HB.out)) hb); clear HO238; clear HO245; clear BK232; clear BK240; clear HB; have HO238 := n0_; have HO245 := n1_; have BK232 := n2_; have BK240 := n3_; have HB := n4_; clear n0_ n1_ n2_ n3_ n4_; (try clear hb); (try clear hb2); (try clear hk); (try clear hi)))
     (try simp only [Act.put, List.setIfInBounds_toArray, List.set_cons_zero, List.set_cons_succ])
     go_cut [77] (fun v77 wc => ∃ (kq : Nat) (x77_30 : Bool), v77 = .bool x77_30 ∧ Aside0 (celluloidlaw21_CanvasLays.j1 kq a1 a2 l3 a4 t239 x77_30 a0_0 a0_1 l0_2 t234 t235 t236 = some r) ∧ Aside0 (kq ≤ kj5) ∧ Aside0 (Kd.R k23 23 wc w.heap.size (fun _ => True) (.slice Ao37 t236.length co37) t236) ∧ Aside0 (wc.heap[gb232]? = some (.cells #[.int .i64 a0_0, .int .i64 a0_1, (.slice A0_2 l0_2.length c0_2)] 26 (0, 0))) ∧ Aside0 (wc.heap[gb240]? = some (.cells #[.int .i64 t234, .int .i64 t235, (.slice Ao37 t236.length co37)] 26 (0, 0))) ∧ Aside0 (Below w.heap.size w wc))
     case first =>
      have H := HC31.out
      clear HC31
      by_cases c44 : t246 = true
      ·subst c44
       have H1 : (if a1 < 0 then (celluloidlaw21_CanvasLays.j1 kj5 a1 a2 l3 a4 t239 true a0_0 a0_1 l0_2 t234 t235 t236) else (if a1 ≥ a0_0 then (celluloidlaw21_CanvasLays.j1 kj5 a1 a2 l3 a4 t239 true a0_0 a0_1 l0_2 t234 t235 t236) else (if a2 < 0 then (celluloidlaw21_CanvasLays.j1 kj5 a1 a2 l3 a4 t239 true a0_0 a0_1 l0_2 t234 t235 t236) else (if a2 ≥ a0_1 then (celluloidlaw21_CanvasLays.j1 kj5 a1 a2 l3 a4 t239 true a0_0 a0_1 l0_2 t234 t235 t236) else ((celluloidlaw21_refs.f kj5 l3).bind fun t248 => ((celluloidref21_Parts.f kj5 t248).bind fun t251 => (if t251 = true then (if a4 < 0 then (celluloidlaw21_CanvasLays.j1 kj5 a1 a2 l3 a4 t239 true a0_0 a0_1 l0_2 t234 t235 t236) else (celluloidlaw21_CanvasLays.j1 kj5 a1 a2 l3 a4 t239 (decide (a4 > 16)) a0_0 a0_1 l0_2 t234 t235 t236)) else (celluloidlaw21_CanvasLays.j1 kj5 a1 a2 l3 a4 t239 true a0_0 a0_1 l0_2 t234 t235 t236)))))))) = some r := by rw [if_pos rfl] at H; exact H
       clear H
       have H := H1
       clear H1
       by_cases c45 : a1 < 0
       ·rw [if_pos c45] at H
        have c45b0 : decide (a1 < 0) = true := decide_eq_true c45
        clear c45
        (first | rw [c45b0] | (simp only [i64_w, i32_w]; rw [c45b0]) | skip)
        have H' := Aside0.mk H
        clear H
        go_wp2
        go_meet
        case rel => exact ⟨_, (true), (by first | rfl | (simp; done) | (simp [*]; done)), H', ⟨by have := HJ5.out; first | omega | exact Nat.le_refl _⟩, ⟨by (with_reducible repeat (first | apply Kd.R_alloc | apply Kd.R_drewN | apply Kd.R_drew)); exact Kd.R_mono HO238.out (fun _ hk => trivial)⟩, ⟨by (with_reducible repeat (first | apply bN | apply bD | apply bA)); exact BK232.out⟩, ⟨by (with_reducible repeat (first | apply bN | apply bD | apply bA)); exact BK240.out⟩, ⟨by repeat (first | (with_reducible first | exact HB.out | apply below_alloc | apply pw_below_drewN | apply below_drew1 | refine below_set ?_ GE232.out | refine below_set ?_ GE240.out) | exact HB.out)⟩⟩
       ·rw [if_neg c45] at H
        have c45b0 : decide (a1 < 0) = false := decide_eq_false c45
        clear c45
        (first | rw [c45b0] | (simp only [i64_w, i32_w]; rw [c45b0]) | skip)
        by_cases c46 : a1 ≥ a0_0
        ·rw [if_pos c46] at H
         have c46b0 : decide (a0_0 ≤ a1) = true := decide_eq_true c46
         clear c46
         have H' := Aside0.mk H
         clear H
         have hnb47 := NB232_240.out
         have hnc47 := NB240_232.out
         have hcz48_0 : w43.cell? ⟨gb232, 0, none⟩ = some (.int .i64 a0_0) := (blk_cell BK232.out 0).trans rfl
         have hcz48_1 : w43.cell? ⟨gb232, 1, none⟩ = some (.int .i64 a0_1) := (blk_cell BK232.out 1).trans rfl
         have hcz48_2 : w43.cell? ⟨gb232, 2, none⟩ = some (.slice A0_2 l0_2.length c0_2) := (blk_cell BK232.out 2).trans rfl
         have hfz48_0 := blk_frozen BK232.out 0
         have hfz48_1 := blk_frozen BK232.out 1
         have hfz48_2 := blk_frozen BK232.out 2
         go_wp2
         go_meet
         case rel => exact ⟨_, (true), (by first | rfl | (simp; done) | (simp [*]; done)), H', ⟨by have := HJ5.out; first | omega | exact Nat.le_refl _⟩, ⟨by (with_reducible repeat (first | apply Kd.R_alloc | apply Kd.R_drewN | apply Kd.R_drew)); exact Kd.R_mono HO238.out (fun _ hk => trivial)⟩, ⟨by (with_reducible repeat (first | apply bN | apply bD | apply bA)); exact BK232.out⟩, ⟨by (with_reducible repeat (first | apply bN | apply bD | apply bA)); exact BK240.out⟩, ⟨by repeat (first | (with_reducible first | exact HB.out | apply below_alloc | apply pw_below_drewN | apply below_drew1 | refine below_set ?_ GE232.out | refine below_set ?_ GE240.out) | exact HB.out)⟩⟩
        ·rw [if_neg c46] at H
         have c46b0 : decide (a0_0 ≤ a1) = false := decide_eq_false c46
         clear c46
         by_cases c49 : a2 < 0
         ·rw [if_pos c49] at H
          have c49b0 : decide (a2 < 0) = true := decide_eq_true c49
          clear c49
          have H' := Aside0.mk H
          clear H
          have hnb50 := NB232_240.out
          have hnc50 := NB240_232.out
          have hcz51_0 : w43.cell? ⟨gb232, 0, none⟩ = some (.int .i64 a0_0) := (blk_cell BK232.out 0).trans rfl
          have hcz51_1 : w43.cell? ⟨gb232, 1, none⟩ = some (.int .i64 a0_1) := (blk_cell BK232.out 1).trans rfl
          have hcz51_2 : w43.cell? ⟨gb232, 2, none⟩ = some (.slice A0_2 l0_2.length c0_2) := (blk_cell BK232.out 2).trans rfl
          have hfz51_0 := blk_frozen BK232.out 0
          have hfz51_1 := blk_frozen BK232.out 1
          have hfz51_2 := blk_frozen BK232.out 2
          go_wp2
          go_meet
          case rel => exact ⟨_, (true), (by first | rfl | (simp; done) | (simp [*]; done)), H', ⟨by have := HJ5.out; first | omega | exact Nat.le_refl _⟩, ⟨by (with_reducible repeat (first | apply Kd.R_alloc | apply Kd.R_drewN | apply Kd.R_drew)); exact Kd.R_mono HO238.out (fun _ hk => trivial)⟩, ⟨by (with_reducible repeat (first | apply bN | apply bD | apply bA)); exact BK232.out⟩, ⟨by (with_reducible repeat (first | apply bN | apply bD | apply bA)); exact BK240.out⟩, ⟨by repeat (first | (with_reducible first | exact HB.out | apply below_alloc | apply pw_below_drewN | apply below_drew1 | refine below_set ?_ GE232.out | refine below_set ?_ GE240.out) | exact HB.out)⟩⟩
         ·rw [if_neg c49] at H
          have c49b0 : decide (a2 < 0) = false := decide_eq_false c49
          clear c49
          by_cases c52 : a2 ≥ a0_1
          ·rw [if_pos c52] at H
           have c52b0 : decide (a0_1 ≤ a2) = true := decide_eq_true c52
           clear c52
           have H' := Aside0.mk H
           clear H
           have hnb53 := NB232_240.out
           have hnc53 := NB240_232.out
           have hcz54_0 : w43.cell? ⟨gb232, 0, none⟩ = some (.int .i64 a0_0) := (blk_cell BK232.out 0).trans rfl
           have hcz54_1 : w43.cell? ⟨gb232, 1, none⟩ = some (.int .i64 a0_1) := (blk_cell BK232.out 1).trans rfl
           have hcz54_2 : w43.cell? ⟨gb232, 2, none⟩ = some (.slice A0_2 l0_2.length c0_2) := (blk_cell BK232.out 2).trans rfl
           have hfz54_0 := blk_frozen BK232.out 0
           have hfz54_1 := blk_frozen BK232.out 1
           have hfz54_2 := blk_frozen BK232.out 2
           go_wp2
           go_meet
           case rel => exact ⟨_, (true), (by first | rfl | (simp; done) | (simp [*]; done)), H', ⟨by have := HJ5.out; first | omega | exact Nat.le_refl _⟩, ⟨by (with_reducible repeat (first | apply Kd.R_alloc | apply Kd.R_drewN | apply Kd.R_drew)); exact Kd.R_mono HO238.out (fun _ hk => trivial)⟩, ⟨by (with_reducible repeat (first | apply bN | apply bD | apply bA)); exact BK232.out⟩, ⟨by (with_reducible repeat (first | apply bN | apply bD | apply bA)); exact BK240.out⟩, ⟨by repeat (first | (with_reducible first | exact HB.out | apply below_alloc | apply pw_below_drewN | apply below_drew1 | refine below_set ?_ GE232.out | refine below_set ?_ GE240.out) | exact HB.out)⟩⟩
          ·rw [if_neg c52] at H
           have c52b0 : decide (a0_1 ≤ a2) = false := decide_eq_false c52
           clear c52
           replace H := Option.bind_eq_some_iff.mp H
           obtain ⟨t248, A550, H⟩ := H
           replace H : ((celluloidref21_Parts.f kj5 t248).bind fun t251 => (if t251 = true then (if a4 < 0 then (celluloidlaw21_CanvasLays.j1 kj5 a1 a2 l3 a4 t239 true a0_0 a0_1 l0_2 t234 t235 t236) else (celluloidlaw21_CanvasLays.j1 kj5 a1 a2 l3 a4 t239 (decide (a4 > 16)) a0_0 a0_1 l0_2 t234 t235 t236)) else (celluloidlaw21_CanvasLays.j1 kj5 a1 a2 l3 a4 t239 true a0_0 a0_1 l0_2 t234 t235 t236))) = some r := H
           have A55 := Aside0.mk A550
           clear A550
           replace H := Option.bind_eq_some_iff.mp H
           obtain ⟨t251, A560, H⟩ := H
           replace H : (if t251 = true then (if a4 < 0 then (celluloidlaw21_CanvasLays.j1 kj5 a1 a2 l3 a4 t239 true a0_0 a0_1 l0_2 t234 t235 t236) else (celluloidlaw21_CanvasLays.j1 kj5 a1 a2 l3 a4 t239 (decide (a4 > 16)) a0_0 a0_1 l0_2 t234 t235 t236)) else (celluloidlaw21_CanvasLays.j1 kj5 a1 a2 l3 a4 t239 true a0_0 a0_1 l0_2 t234 t235 t236)) = some r := H
           have A56 := Aside0.mk A560
           clear A560
           by_cases c57 : t251 = true
           ·subst c57
            have H1 : (if a4 < 0 then (celluloidlaw21_CanvasLays.j1 kj5 a1 a2 l3 a4 t239 true a0_0 a0_1 l0_2 t234 t235 t236) else (celluloidlaw21_CanvasLays.j1 kj5 a1 a2 l3 a4 t239 (decide (a4 > 16)) a0_0 a0_1 l0_2 t234 t235 t236)) = some r := by rw [if_pos rfl] at H; exact H
            clear H
            have H := H1
            clear H1
            by_cases c58 : a4 < 0
            ·rw [if_pos c58] at H
             have c58b0 : decide (a4 < 0) = true := decide_eq_true c58
             clear c58
             have H' := Aside0.mk H
             clear H
             have hnb59 := NB232_240.out
             have hnc59 := NB240_232.out
             have hcz60_0 : w43.cell? ⟨gb232, 0, none⟩ = some (.int .i64 a0_0) := (blk_cell BK232.out 0).trans rfl
             have hcz60_1 : w43.cell? ⟨gb232, 1, none⟩ = some (.int .i64 a0_1) := (blk_cell BK232.out 1).trans rfl
             have hcz60_2 : w43.cell? ⟨gb232, 2, none⟩ = some (.slice A0_2 l0_2.length c0_2) := (blk_cell BK232.out 2).trans rfl
             have hfz60_0 := blk_frozen BK232.out 0
             have hfz60_1 := blk_frozen BK232.out 1
             have hfz60_2 := blk_frozen BK232.out 2
             go_wp2_with (first | (go_at_call 16; (with_reducible refine (celluloidlaw21_refs.calls kj5 _ _ l3 t248 _ ?side1 ?side2 A55.out).mono ?_); (case side1 => repeat (first | exact (Kd.C_below HR3.out HB.out) | (with_reducible refine Kd.C_alloc ?_ _) | (with_reducible refine Kd.C_drewN ?_ _) | (with_reducible refine Kd.C_drew ?_))); (case side2 => exact HC3.out); rintro e w61 ⟨v249, rfl, ho0, hb⟩; have n0_ := Aside0.mk (Kd.R_below (by (with_reducible repeat (first | apply Kd.R_alloc | apply Kd.R_drewN | apply Kd.R_drew)); exact HO238.out) hb); have n1_ := Aside0.mk (Kd.R_below (by (with_reducible repeat (first | apply Kd.R_alloc | apply Kd.R_drewN | apply Kd.R_drew)); exact HO245.out) hb); have n2_ := Aside0.mk (Kd.R_lower ho0 (below_size (by repeat (first | (with_reducible first | exact HB.out | apply below_alloc | apply pw_below_drewN | apply below_drew1 | refine below_set ?_ GE232.out | refine below_set ?_ GE240.out) | exact HB.out)))); have n3_ := Aside0.mk (blk_below (g := gb232) (o := .cells #[.int .i64 a0_0, .int .i64 a0_1, .slice A0_2 l0_2.length c0_2] 26 (0, 0)) (by (with_reducible repeat (first | apply bN | apply bD | apply bA)); exact BK232.out) hb); have n4_ := Aside0.mk (blk_below (g := gb240) (o := .cells #[.int .i64 t234, .int .i64 t235, .slice Ao37 t236.length co37] 26 (0, 0)) (by (with_reducible repeat (first | apply bN | apply bD | apply bA)); exact BK240.out) hb); have n5_ := Aside0.mk (below_step (by repeat (first | (with_reducible first | exact HB.out | apply below_alloc | apply pw_below_drewN | apply below_drew1 | refine below_set ?_ GE232.out | refine below_set ?_ GE240.out) | exact HB.out)) hb); clear HO238; clear HO245; clear BK232; clear BK240; clear HB; have HO238 := n0_; have HO245 := n1_; have HO250 := n2_; have BK232 := n3_; have BK240 := n4_; have HB := n5_; clear n0_ n1_ n2_ n3_ n4_ n5_; (try clear hb); (try clear hb2); (try clear hk); (try clear hi); (try clear ho0); obtain ⟨Ao62, co62, eo62⟩ := Kd.R_slice HO250.out; subst eo62) | (go_at_call 15; (with_reducible refine (celluloidref21_Parts.calls kj5 _ _ t248 true _ ?side1 ?side2 A56.out).mono ?_); (case side1 => repeat (first | exact (Kd.R_reads' HO250.out).2.2 | (with_reducible refine Kd.C_alloc ?_ _) | (with_reducible refine Kd.C_drewN ?_ _) | (with_reducible refine Kd.C_drew ?_))); (case side2 => exact (Kd.R_reads' HO250.out).2.1); rintro e w63 ⟨rfl, hb⟩; have n0_ := Aside0.mk (Kd.R_below (by (with_reducible repeat (first | apply Kd.R_alloc | apply Kd.R_drewN | apply Kd.R_drew)); exact HO238.out) hb); have n1_ := Aside0.mk (Kd.R_below (by (with_reducible repeat (first | apply Kd.R_alloc | apply Kd.R_drewN | apply Kd.R_drew)); exact HO245.out) hb); have n2_ := Aside0.mk (Kd.R_below (by (with_reducible repeat (first | apply Kd.R_alloc | apply Kd.R_drewN | apply Kd.R_drew)); exact HO250.out) hb); have n3_ := Aside0.mk (blk_below (g := gb232) (o := .cells #[.int .i64 a0_0, .int .i64 a0_1, .slice A0_2 l0_2.length c0_2] 26 (0, 0)) (by (with_reducible repeat (first | apply bN | apply bD | apply bA)); exact BK232.out) hb); have n4_ := Aside0.mk (blk_below (g := gb240) (o := .cells #[.int .i64 t234, .int .i64 t235, .slice Ao37 t236.length co37] 26 (0, 0)) (by (with_reducible repeat (first | apply bN | apply bD | apply bA)); exact BK240.out) hb); have n5_ := Aside0.mk (below_step (by repeat (first | (with_reducible first | exact HB.out | apply below_alloc | apply pw_below_drewN | apply below_drew1 | refine below_set ?_ GE232.out | refine below_set ?_ GE240.out) | exact HB.out)) hb); clear HO238; clear HO245; clear HO250; clear BK232; clear BK240; clear HB; have HO238 := n0_; have HO245 := n1_; have HO250 := n2_; have BK232 := n3_; have BK240 := n4_; have HB := n5_; clear n0_ n1_ n2_ n3_ n4_ n5_; (try clear hb); (try clear hb2); (try clear hk); (try clear hi)))
             go_meet
             case rel => exact ⟨_, (true), (by first | rfl | (simp; done) | (simp [*]; done)), H', ⟨by have := HJ5.out; first | omega | exact Nat.le_refl _⟩, ⟨by (with_reducible repeat (first | apply Kd.R_alloc | apply Kd.R_drewN | apply Kd.R_drew)); exact Kd.R_mono HO238.out (fun _ hk => trivial)⟩, ⟨by (with_reducible repeat (first | apply bN | apply bD | apply bA)); exact BK232.out⟩, ⟨by (with_reducible repeat (first | apply bN | apply bD | apply bA)); exact BK240.out⟩, ⟨by repeat (first | (with_reducible first | exact HB.out | apply below_alloc | apply pw_below_drewN | apply below_drew1 | refine below_set ?_ GE232.out | refine below_set ?_ GE240.out) | exact HB.out)⟩⟩
            ·rw [if_neg c58] at H
             have c58b0 : decide (a4 < 0) = false := decide_eq_false c58
             clear c58
             have H' := Aside0.mk H
             clear H
             have hnb64 := NB232_240.out
             have hnc64 := NB240_232.out
             have hcz65_0 : w43.cell? ⟨gb232, 0, none⟩ = some (.int .i64 a0_0) := (blk_cell BK232.out 0).trans rfl
             have hcz65_1 : w43.cell? ⟨gb232, 1, none⟩ = some (.int .i64 a0_1) := (blk_cell BK232.out 1).trans rfl
             have hcz65_2 : w43.cell? ⟨gb232, 2, none⟩ = some (.slice A0_2 l0_2.length c0_2) := (blk_cell BK232.out 2).trans rfl
             have hfz65_0 := blk_frozen BK232.out 0
             have hfz65_1 := blk_frozen BK232.out 1
             have hfz65_2 := blk_frozen BK232.out 2
             go_wp2_with (first | (go_at_call 16; (with_reducible refine (celluloidlaw21_refs.calls kj5 _ _ l3 t248 _ ?side1 ?side2 A55.out).mono ?_); (case side1 => repeat (first | exact (Kd.C_below HR3.out HB.out) | (with_reducible refine Kd.C_alloc ?_ _) | (with_reducible refine Kd.C_drewN ?_ _) | (with_reducible refine Kd.C_drew ?_))); (case side2 => exact HC3.out); rintro e w66 ⟨v249, rfl, ho0, hb⟩; have n0_ := Aside0.mk (Kd.R_below (by (with_reducible repeat (first | apply Kd.R_alloc | apply Kd.R_drewN | apply Kd.R_drew)); exact HO238.out) hb); have n1_ := Aside0.mk (Kd.R_below (by (with_reducible repeat (first | apply Kd.R_alloc | apply Kd.R_drewN | apply Kd.R_drew)); exact HO245.out) hb); have n2_ := Aside0.mk (Kd.R_lower ho0 (below_size (by repeat (first | (with_reducible first | exact HB.out | apply below_alloc | apply pw_below_drewN | apply below_drew1 | refine below_set ?_ GE232.out | refine below_set ?_ GE240.out) | exact HB.out)))); have n3_ := Aside0.mk (blk_below (g := gb232) (o := .cells #[.int .i64 a0_0, .int .i64 a0_1, .slice A0_2 l0_2.length c0_2] 26 (0, 0)) (by (with_reducible repeat (first | apply bN | apply bD | apply bA)); exact BK232.out) hb); have n4_ := Aside0.mk (blk_below (g := gb240) (o := .cells #[.int .i64 t234, .int .i64 t235, .slice Ao37 t236.length co37] 26 (0, 0)) (by (with_reducible repeat (first | apply bN | apply bD | apply bA)); exact BK240.out) hb); have n5_ := Aside0.mk (below_step (by repeat (first | (with_reducible first | exact HB.out | apply below_alloc | apply pw_below_drewN | apply below_drew1 | refine below_set ?_ GE232.out | refine below_set ?_ GE240.out) | exact HB.out)) hb); clear HO238; clear HO245; clear BK232; clear BK240; clear HB; have HO238 := n0_; have HO245 := n1_; have HO250 := n2_; have BK232 := n3_; have BK240 := n4_; have HB := n5_; clear n0_ n1_ n2_ n3_ n4_ n5_; (try clear hb); (try clear hb2); (try clear hk); (try clear hi); (try clear ho0); obtain ⟨Ao67, co67, eo67⟩ := Kd.R_slice HO250.out; subst eo67) | (go_at_call 15; (with_reducible refine (celluloidref21_Parts.calls kj5 _ _ t248 true _ ?side1 ?side2 A56.out).mono ?_); (case side1 => repeat (first | exact (Kd.R_reads' HO250.out).2.2 | (with_reducible refine Kd.C_alloc ?_ _) | (with_reducible refine Kd.C_drewN ?_ _) | (with_reducible refine Kd.C_drew ?_))); (case side2 => exact (Kd.R_reads' HO250.out).2.1); rintro e w68 ⟨rfl, hb⟩; have n0_ := Aside0.mk (Kd.R_below (by (with_reducible repeat (first | apply Kd.R_alloc | apply Kd.R_drewN | apply Kd.R_drew)); exact HO238.out) hb); have n1_ := Aside0.mk (Kd.R_below (by (with_reducible repeat (first | apply Kd.R_alloc | apply Kd.R_drewN | apply Kd.R_drew)); exact HO245.out) hb); have n2_ := Aside0.mk (Kd.R_below (by (with_reducible repeat (first | apply Kd.R_alloc | apply Kd.R_drewN | apply Kd.R_drew)); exact HO250.out) hb); have n3_ := Aside0.mk (blk_below (g := gb232) (o := .cells #[.int .i64 a0_0, .int .i64 a0_1, .slice A0_2 l0_2.length c0_2] 26 (0, 0)) (by (with_reducible repeat (first | apply bN | apply bD | apply bA)); exact BK232.out) hb); have n4_ := Aside0.mk (blk_below (g := gb240) (o := .cells #[.int .i64 t234, .int .i64 t235, .slice Ao37 t236.length co37] 26 (0, 0)) (by (with_reducible repeat (first | apply bN | apply bD | apply bA)); exact BK240.out) hb); have n5_ := Aside0.mk (below_step (by repeat (first | (with_reducible first | exact HB.out | apply below_alloc | apply pw_below_drewN | apply below_drew1 | refine below_set ?_ GE232.out | refine below_set ?_ GE240.out) | exact HB.out)) hb); clear HO238; clear HO245; clear HO250; clear BK232; clear BK240; clear HB; have HO238 := n0_; have HO245 := n1_; have HO250 := n2_; have BK232 := n3_; have BK240 := n4_; have HB := n5_; clear n0_ n1_ n2_ n3_ n4_ n5_; (try clear hb); (try clear hb2); (try clear hk); (try clear hi)))
             go_meet
             case rel => exact ⟨_, (decide (a4 > 16)), (by first | rfl | (simp; done) | (simp [*]; done)), H', ⟨by have := HJ5.out; first | omega | exact Nat.le_refl _⟩, ⟨by (with_reducible repeat (first | apply Kd.R_alloc | apply Kd.R_drewN | apply Kd.R_drew)); exact Kd.R_mono HO238.out (fun _ hk => trivial)⟩, ⟨by (with_reducible repeat (first | apply bN | apply bD | apply bA)); exact BK232.out⟩, ⟨by (with_reducible repeat (first | apply bN | apply bD | apply bA)); exact BK240.out⟩, ⟨by repeat (first | (with_reducible first | exact HB.out | apply below_alloc | apply pw_below_drewN | apply below_drew1 | refine below_set ?_ GE232.out | refine below_set ?_ GE240.out) | exact HB.out)⟩⟩
           ·replace c57 := Bool.eq_false_iff.mpr c57
            subst c57
            have H1 : (celluloidlaw21_CanvasLays.j1 kj5 a1 a2 l3 a4 t239 true a0_0 a0_1 l0_2 t234 t235 t236) = some r := by rw [if_neg (show ¬ (false = true) by decide)] at H; exact H
            clear H
            have H := H1
            clear H1
            have H' := Aside0.mk H
            clear H
            have hnb69 := NB232_240.out
            have hnc69 := NB240_232.out
            have hcz70_0 : w43.cell? ⟨gb232, 0, none⟩ = some (.int .i64 a0_0) := (blk_cell BK232.out 0).trans rfl
            have hcz70_1 : w43.cell? ⟨gb232, 1, none⟩ = some (.int .i64 a0_1) := (blk_cell BK232.out 1).trans rfl
            have hcz70_2 : w43.cell? ⟨gb232, 2, none⟩ = some (.slice A0_2 l0_2.length c0_2) := (blk_cell BK232.out 2).trans rfl
            have hfz70_0 := blk_frozen BK232.out 0
            have hfz70_1 := blk_frozen BK232.out 1
            have hfz70_2 := blk_frozen BK232.out 2
            go_wp2_with (first | (go_at_call 16; (with_reducible refine (celluloidlaw21_refs.calls kj5 _ _ l3 t248 _ ?side1 ?side2 A55.out).mono ?_); (case side1 => repeat (first | exact (Kd.C_below HR3.out HB.out) | (with_reducible refine Kd.C_alloc ?_ _) | (with_reducible refine Kd.C_drewN ?_ _) | (with_reducible refine Kd.C_drew ?_))); (case side2 => exact HC3.out); rintro e w71 ⟨v249, rfl, ho0, hb⟩; have n0_ := Aside0.mk (Kd.R_below (by (with_reducible repeat (first | apply Kd.R_alloc | apply Kd.R_drewN | apply Kd.R_drew)); exact HO238.out) hb); have n1_ := Aside0.mk (Kd.R_below (by (with_reducible repeat (first | apply Kd.R_alloc | apply Kd.R_drewN | apply Kd.R_drew)); exact HO245.out) hb); have n2_ := Aside0.mk (Kd.R_lower ho0 (below_size (by repeat (first | (with_reducible first | exact HB.out | apply below_alloc | apply pw_below_drewN | apply below_drew1 | refine below_set ?_ GE232.out | refine below_set ?_ GE240.out) | exact HB.out)))); have n3_ := Aside0.mk (blk_below (g := gb232) (o := .cells #[.int .i64 a0_0, .int .i64 a0_1, .slice A0_2 l0_2.length c0_2] 26 (0, 0)) (by (with_reducible repeat (first | apply bN | apply bD | apply bA)); exact BK232.out) hb); have n4_ := Aside0.mk (blk_below (g := gb240) (o := .cells #[.int .i64 t234, .int .i64 t235, .slice Ao37 t236.length co37] 26 (0, 0)) (by (with_reducible repeat (first | apply bN | apply bD | apply bA)); exact BK240.out) hb); have n5_ := Aside0.mk (below_step (by repeat (first | (with_reducible first | exact HB.out | apply below_alloc | apply pw_below_drewN | apply below_drew1 | refine below_set ?_ GE232.out | refine below_set ?_ GE240.out) | exact HB.out)) hb); clear HO238; clear HO245; clear BK232; clear BK240; clear HB; have HO238 := n0_; have HO245 := n1_; have HO250 := n2_; have BK232 := n3_; have BK240 := n4_; have HB := n5_; clear n0_ n1_ n2_ n3_ n4_ n5_; (try clear hb); (try clear hb2); (try clear hk); (try clear hi); (try clear ho0); obtain ⟨Ao72, co72, eo72⟩ := Kd.R_slice HO250.out; subst eo72) | (go_at_call 15; (with_reducible refine (celluloidref21_Parts.calls kj5 _ _ t248 false _ ?side1 ?side2 A56.out).mono ?_); (case side1 => repeat (first | exact (Kd.R_reads' HO250.out).2.2 | (with_reducible refine Kd.C_alloc ?_ _) | (with_reducible refine Kd.C_drewN ?_ _) | (with_reducible refine Kd.C_drew ?_))); (case side2 => exact (Kd.R_reads' HO250.out).2.1); rintro e w73 ⟨rfl, hb⟩; have n0_ := Aside0.mk (Kd.R_below (by (with_reducible repeat (first | apply Kd.R_alloc | apply Kd.R_drewN | apply Kd.R_drew)); exact HO238.out) hb); have n1_ := Aside0.mk (Kd.R_below (by (with_reducible repeat (first | apply Kd.R_alloc | apply Kd.R_drewN | apply Kd.R_drew)); exact HO245.out) hb); have n2_ := Aside0.mk (Kd.R_below (by (with_reducible repeat (first | apply Kd.R_alloc | apply Kd.R_drewN | apply Kd.R_drew)); exact HO250.out) hb); have n3_ := Aside0.mk (blk_below (g := gb232) (o := .cells #[.int .i64 a0_0, .int .i64 a0_1, .slice A0_2 l0_2.length c0_2] 26 (0, 0)) (by (with_reducible repeat (first | apply bN | apply bD | apply bA)); exact BK232.out) hb); have n4_ := Aside0.mk (blk_below (g := gb240) (o := .cells #[.int .i64 t234, .int .i64 t235, .slice Ao37 t236.length co37] 26 (0, 0)) (by (with_reducible repeat (first | apply bN | apply bD | apply bA)); exact BK240.out) hb); have n5_ := Aside0.mk (below_step (by repeat (first | (with_reducible first | exact HB.out | apply below_alloc | apply pw_below_drewN | apply below_drew1 | refine below_set ?_ GE232.out | refine below_set ?_ GE240.out) | exact HB.out)) hb); clear HO238; clear HO245; clear HO250; clear BK232; clear BK240; clear HB; have HO238 := n0_; have HO245 := n1_; have HO250 := n2_; have BK232 := n3_; have BK240 := n4_; have HB := n5_; clear n0_ n1_ n2_ n3_ n4_ n5_; (try clear hb); (try clear hb2); (try clear hk); (try clear hi)))
            go_meet
            case rel => exact ⟨_, (true), (by first | rfl | (simp; done) | (simp [*]; done)), H', ⟨by have := HJ5.out; first | omega | exact Nat.le_refl _⟩, ⟨by (with_reducible repeat (first | apply Kd.R_alloc | apply Kd.R_drewN | apply Kd.R_drew)); exact Kd.R_mono HO238.out (fun _ hk => trivial)⟩, ⟨by (with_reducible repeat (first | apply bN | apply bD | apply bA)); exact BK232.out⟩, ⟨by (with_reducible repeat (first | apply bN | apply bD | apply bA)); exact BK240.out⟩, ⟨by repeat (first | (with_reducible first | exact HB.out | apply below_alloc | apply pw_below_drewN | apply below_drew1 | refine below_set ?_ GE232.out | refine below_set ?_ GE240.out) | exact HB.out)⟩⟩
      ·replace c44 := Bool.eq_false_iff.mpr c44
       subst c44
       have H1 : (celluloidlaw21_CanvasLays.j1 kj5 a1 a2 l3 a4 t239 true a0_0 a0_1 l0_2 t234 t235 t236) = some r := by rw [if_neg (show ¬ (false = true) by decide)] at H; exact H
       clear H
       have H := H1
       clear H1
       have H' := Aside0.mk H
       clear H
       go_wp2
       go_meet
       case rel => exact ⟨_, (true), (by first | rfl | (simp; done) | (simp [*]; done)), H', ⟨by have := HJ5.out; first | omega | exact Nat.le_refl _⟩, ⟨by (with_reducible repeat (first | apply Kd.R_alloc | apply Kd.R_drewN | apply Kd.R_drew)); exact Kd.R_mono HO238.out (fun _ hk => trivial)⟩, ⟨by (with_reducible repeat (first | apply bN | apply bD | apply bA)); exact BK232.out⟩, ⟨by (with_reducible repeat (first | apply bN | apply bD | apply bA)); exact BK240.out⟩, ⟨by repeat (first | (with_reducible first | exact HB.out | apply below_alloc | apply pw_below_drewN | apply below_drew1 | refine below_set ?_ GE232.out | refine below_set ?_ GE240.out) | exact HB.out)⟩⟩
     case rest =>
      clear HC31
      try clear c1
      try clear c2
      try clear p2
      try clear c3
      try clear c4
      try clear c5
      try clear c6
      try clear c8
      try clear c8b0
      try clear c8b1
      try clear c11
      try clear c12
      try clear c18
      try clear c18b0
      try clear c18b1
      try clear c18b2
      try clear c19
      try clear c20
      try clear c21
      try clear c22
      try clear c35
      try clear c44
      try clear c45
      try clear c45b0
      try clear c46
      try clear c46b0
      try clear c47
      try clear c49
      try clear c49b0
      try clear c50
      try clear c52
      try clear c52b0
      try clear c53
      try clear c57
      try clear c58
      try clear c58b0
      try clear c59
      try clear c64
      try clear c69
      try clear hcz10_0
      try clear hcz10_1
      try clear hcz10_2
      try clear hcz19_0
      try clear hcz19_1
      try clear hcz19_2
      try clear hcz23_0
      try clear hcz23_1
      try clear hcz23_2
      try clear hcz25_0
      try clear hcz25_1
      try clear hcz25_2
      try clear hcz29_0
      try clear hcz29_1
      try clear hcz29_2
      try clear hcz32_0
      try clear hcz32_1
      try clear hcz32_2
      try clear hcz36_0
      try clear hcz36_1
      try clear hcz36_2
      try clear hcz38_0
      try clear hcz38_1
      try clear hcz38_2
      try clear hcz42_0
      try clear hcz42_1
      try clear hcz42_2
      try clear hcz48_0
      try clear hcz48_1
      try clear hcz48_2
      try clear hcz51_0
      try clear hcz51_1
      try clear hcz51_2
      try clear hcz54_0
      try clear hcz54_1
      try clear hcz54_2
      try clear hcz60_0
      try clear hcz60_1
      try clear hcz60_2
      try clear hcz65_0
      try clear hcz65_1
      try clear hcz65_2
      try clear hcz70_0
      try clear hcz70_1
      try clear hcz70_2
      try clear hcz9_0
      try clear hcz9_1
      try clear hcz9_2
      try clear hfz10_0
      try clear hfz10_1
      try clear hfz10_2
      try clear hfz19_0
      try clear hfz19_1
      try clear hfz19_2
      try clear hfz23_0
      try clear hfz23_1
      try clear hfz23_2
      try clear hfz25_0
      try clear hfz25_1
      try clear hfz25_2
      try clear hfz29_0
      try clear hfz29_1
      try clear hfz29_2
      try clear hfz32_0
      try clear hfz32_1
      try clear hfz32_2
      try clear hfz36_0
      try clear hfz36_1
      try clear hfz36_2
      try clear hfz38_0
      try clear hfz38_1
      try clear hfz38_2
      try clear hfz42_0
      try clear hfz42_1
      try clear hfz42_2
      try clear hfz48_0
      try clear hfz48_1
      try clear hfz48_2
      try clear hfz51_0
      try clear hfz51_1
      try clear hfz51_2
      try clear hfz54_0
      try clear hfz54_1
      try clear hfz54_2
      try clear hfz60_0
      try clear hfz60_1
      try clear hfz60_2
      try clear hfz65_0
      try clear hfz65_1
      try clear hfz65_2
      try clear hfz70_0
      try clear hfz70_1
      try clear hfz70_2
      try clear hfz9_0
      try clear hfz9_1
      try clear hfz9_2
      try clear p2
      obtain ⟨kq, x77_30, rfl, HA, HJ30, HO_241002, BK232, BK240, HB⟩ := hcut
      cases kq with
      |zero => exact absurd HA.out (by simp [celluloidlaw21_CanvasLays.j1])
      |succ kj30 =>
       have H := HA.out
       clear HA
       simp only [celluloidlaw21_CanvasLays.j1] at H
       by_cases c74 : x77_30 = true
       ·subst c74
        have H1 : (if t239 = 1 then (if (t236.length : Int) = 0 then ((celluloidlaw21_awake.f kj30).bind fun t252 => (some t252)) else (some false)) else (some false)) = some r := by rw [if_pos rfl] at H; exact H
        clear H
        have H := H1
        clear H1
        by_cases c75 : t239 = 1
        ·rw [if_pos c75] at H
         have c75b0 : (t239 == 1) = true := beq_iff_eq.mpr c75
         have c75b1 : (t239 != 1) = false := bne_eq_false_iff_eq.mpr c75
         clear c75
         by_cases c76 : (t236.length : Int) = 0
         ·rw [if_pos c76] at H
          have c76b0 : ((t236.length : Int) == 0) = true := beq_iff_eq.mpr c76
          have c76b1 : ((t236.length : Int) != 0) = false := bne_eq_false_iff_eq.mpr c76
          clear c76
          replace H := Option.bind_eq_some_iff.mp H
          obtain ⟨t252, A770, H⟩ := H
          replace H : (some t252) = some r := H
          have A77 := Aside0.mk A770
          clear A770
          first
          |exact absurd (Option.some.inj H) (by rw [hr_.out]; decide)
          |obtain rfl := Option.some.inj H
           have hnb78 := NB240_232.out
           have hnc78 := NB232_240.out
           have hcz79_0 : wc.cell? ⟨gb240, 0, none⟩ = some (.int .i64 t234) := (blk_cell BK240.out 0).trans rfl
           have hcz79_1 : wc.cell? ⟨gb240, 1, none⟩ = some (.int .i64 t235) := (blk_cell BK240.out 1).trans rfl
           have hcz79_2 : wc.cell? ⟨gb240, 2, none⟩ = some (.slice Ao37 t236.length co37) := (blk_cell BK240.out 2).trans rfl
           have hfz79_0 := blk_frozen BK240.out 0
           have hfz79_1 := blk_frozen BK240.out 1
           have hfz79_2 := blk_frozen BK240.out 2
           go_wp2_with (first | (go_at_call 11; (with_reducible refine (celluloidlaw21_awake.calls kj30  t252 _ A77.out).mono ?_); rintro e w80 ⟨rfl, hb⟩; have n0_ := Aside0.mk (Kd.R_below (by (with_reducible repeat (first | apply Kd.R_alloc | apply Kd.R_drewN | apply Kd.R_drew)); exact HO_241002.out) hb); have n1_ := Aside0.mk (blk_below (g := gb232) (o := .cells #[.int .i64 a0_0, .int .i64 a0_1, .slice A0_2 l0_2.length c0_2] 26 (0, 0)) (by (with_reducible repeat (first | apply bN | apply bD | apply bA)); exact BK232.out) hb); have n2_ := Aside0.mk (blk_below (g := gb240) (o := .cells #[.int .i64 t234, .int .i64 t235, .slice Ao37 t236.length co37] 26 (0, 0)) (by (with_reducible repeat (first | apply bN | apply bD | apply bA)); exact BK240.out) hb); have n3_ := Aside0.mk (below_step (by repeat (first | (with_reducible first | exact HB.out | apply below_alloc | apply pw_below_drewN | apply below_drew1 | refine below_set ?_ GE232.out | refine below_set ?_ GE240.out) | exact HB.out)) hb); clear HO_241002; clear BK232; clear BK240; clear HB; have HO_241002 := n0_; have BK232 := n1_; have BK240 := n2_; have HB := n3_; clear n0_ n1_ n2_ n3_; (try clear hb); (try clear hb2); (try clear hk); (try clear hi)))
           go_ret
           exact ⟨by first | rfl | (simp [errW_none, errW_some] <;> rfl) | (simp [*, errW_none, errW_some] <;> rfl), by repeat (first | (with_reducible first | exact HB.out | apply below_alloc | apply pw_below_drewN | apply below_drew1 | refine below_set ?_ GE232.out | refine below_set ?_ GE240.out) | exact HB.out)⟩
         ·rw [if_neg c76] at H
          have c76b0 : ((t236.length : Int) == 0) = false := beq_eq_false_iff_ne.mpr c76
          have c76b1 : ((t236.length : Int) != 0) = true := bne_iff_ne.mpr c76
          have c76b2 : ¬ (t236 = []) := fun h_ => c76 (by rw [h_]; rfl)
          exact absurd (Option.some.inj H) (by rw [hr_.out]; decide)
        ·rw [if_neg c75] at H
         have c75b0 : (t239 == 1) = false := beq_eq_false_iff_ne.mpr c75
         have c75b1 : (t239 != 1) = true := bne_iff_ne.mpr c75
         exact absurd (Option.some.inj H) (by rw [hr_.out]; decide)
       ·replace c74 := Bool.eq_false_iff.mpr c74
        subst c74
        have H1 : (if t239 = 0 then (if t234 = a0_0 then (if t235 = a0_1 then (celluloidlaw21_CanvasLays.j2 kj30 a1 a2 l3 a4 ((t236.length : Int) != (l0_2.length : Int)) a0_0 a0_1 l0_2 t234 t235 t236) else (celluloidlaw21_CanvasLays.j2 kj30 a1 a2 l3 a4 true a0_0 a0_1 l0_2 t234 t235 t236)) else (celluloidlaw21_CanvasLays.j2 kj30 a1 a2 l3 a4 true a0_0 a0_1 l0_2 t234 t235 t236)) else (celluloidlaw21_CanvasLays.j2 kj30 a1 a2 l3 a4 true a0_0 a0_1 l0_2 t234 t235 t236)) = some r := by rw [if_neg (show ¬ (false = true) by decide)] at H; exact H
        clear H
        have H := H1
        clear H1
        have HC83 := Aside0.mk H
        clear H
        go_upto_region 9 with (fail)
        go_cut [113] (fun v113 wc => ∃ (kq : Nat) (x113_82 : Bool), v113 = .bool x113_82 ∧ Aside0 (celluloidlaw21_CanvasLays.j2 kq a1 a2 l3 a4 x113_82 a0_0 a0_1 l0_2 t234 t235 t236 = some r) ∧ Aside0 (kq ≤ kj30) ∧ Aside0 (Kd.R k23 23 wc w.heap.size (fun _ => True) (.slice Ao37 t236.length co37) t236) ∧ Aside0 (wc.heap[gb232]? = some (.cells #[.int .i64 a0_0, .int .i64 a0_1, (.slice A0_2 l0_2.length c0_2)] 26 (0, 0))) ∧ Aside0 (wc.heap[gb240]? = some (.cells #[.int .i64 t234, .int .i64 t235, (.slice Ao37 t236.length co37)] 26 (0, 0))) ∧ Aside0 (Below w.heap.size w wc))
        case first =>
         have H := HC83.out
         clear HC83
         by_cases c84 : t239 = 0
         ·rw [if_pos c84] at H
          have c84b0 : (t239 == 0) = true := beq_iff_eq.mpr c84
          have c84b1 : (t239 != 0) = false := bne_eq_false_iff_eq.mpr c84
          clear c84
          (first | rw [c84b0] | (simp only [i64_w, i32_w]; rw [c84b0]) | skip)
          by_cases c85 : t234 = a0_0
          ·rw [if_pos c85] at H
           have c85b0 : (t234 == a0_0) = true := beq_iff_eq.mpr c85
           have c85b1 : (t234 != a0_0) = false := bne_eq_false_iff_eq.mpr c85
           clear c85
           by_cases c86 : t235 = a0_1
           ·rw [if_pos c86] at H
            have c86b0 : (t235 == a0_1) = true := beq_iff_eq.mpr c86
            have c86b1 : (t235 != a0_1) = false := bne_eq_false_iff_eq.mpr c86
            clear c86
            have H' := Aside0.mk H
            clear H
            have hnb87 := NB240_232.out
            have hnc87 := NB232_240.out
            have hcz88_0 : wc.cell? ⟨gb240, 0, none⟩ = some (.int .i64 t234) := (blk_cell BK240.out 0).trans rfl
            have hcz88_1 : wc.cell? ⟨gb240, 1, none⟩ = some (.int .i64 t235) := (blk_cell BK240.out 1).trans rfl
            have hcz88_2 : wc.cell? ⟨gb240, 2, none⟩ = some (.slice Ao37 t236.length co37) := (blk_cell BK240.out 2).trans rfl
            have hfz88_0 := blk_frozen BK240.out 0
            have hfz88_1 := blk_frozen BK240.out 1
            have hfz88_2 := blk_frozen BK240.out 2
            have hcz89_0 : wc.cell? ⟨gb232, 0, none⟩ = some (.int .i64 a0_0) := (blk_cell BK232.out 0).trans rfl
            have hcz89_1 : wc.cell? ⟨gb232, 1, none⟩ = some (.int .i64 a0_1) := (blk_cell BK232.out 1).trans rfl
            have hcz89_2 : wc.cell? ⟨gb232, 2, none⟩ = some (.slice A0_2 l0_2.length c0_2) := (blk_cell BK232.out 2).trans rfl
            have hfz89_0 := blk_frozen BK232.out 0
            have hfz89_1 := blk_frozen BK232.out 1
            have hfz89_2 := blk_frozen BK232.out 2
            go_wp2
            go_meet
            case rel => exact ⟨_, (((t236.length : Int) != (l0_2.length : Int))), (by first | rfl | (simp; done) | (simp [*]; done)), H', ⟨by have := HJ5.out; have := HJ30.out; first | omega | exact Nat.le_refl _⟩, ⟨by (with_reducible repeat (first | apply Kd.R_alloc | apply Kd.R_drewN | apply Kd.R_drew)); exact HO_241002.out⟩, ⟨by (with_reducible repeat (first | apply bN | apply bD | apply bA)); exact BK232.out⟩, ⟨by (with_reducible repeat (first | apply bN | apply bD | apply bA)); exact BK240.out⟩, ⟨by repeat (first | (with_reducible first | exact HB.out | apply below_alloc | apply pw_below_drewN | apply below_drew1 | refine below_set ?_ GE232.out | refine below_set ?_ GE240.out) | exact HB.out)⟩⟩
           ·rw [if_neg c86] at H
            have c86b0 : (t235 == a0_1) = false := beq_eq_false_iff_ne.mpr c86
            have c86b1 : (t235 != a0_1) = true := bne_iff_ne.mpr c86
            exact absurd (H.trans (congrArg some hr_.out)) (celluloidlaw21_CanvasLays.j2_dead _ _ _ _ _ _ _ _ _ _ _)
          ·rw [if_neg c85] at H
           have c85b0 : (t234 == a0_0) = false := beq_eq_false_iff_ne.mpr c85
           have c85b1 : (t234 != a0_0) = true := bne_iff_ne.mpr c85
           exact absurd (H.trans (congrArg some hr_.out)) (celluloidlaw21_CanvasLays.j2_dead _ _ _ _ _ _ _ _ _ _ _)
         ·rw [if_neg c84] at H
          have c84b0 : (t239 == 0) = false := beq_eq_false_iff_ne.mpr c84
          have c84b1 : (t239 != 0) = true := bne_iff_ne.mpr c84
          (first | rw [c84b0] | (simp only [i64_w, i32_w]; rw [c84b0]) | skip)
          exact absurd (H.trans (congrArg some hr_.out)) (celluloidlaw21_CanvasLays.j2_dead _ _ _ _ _ _ _ _ _ _ _)
        case rest =>
         clear HC83
         try clear c1
         try clear c2
         try clear p2
         try clear c3
         try clear c4
         try clear c5
         try clear c6
         try clear c7
         try clear c8
         try clear c8b0
         try clear c8b1
         try clear c9
         try clear c11
         try clear c12
         try clear c18
         try clear c18b0
         try clear c18b1
         try clear c18b2
         try clear c19
         try clear c20
         try clear c21
         try clear c22
         try clear c35
         try clear c44
         try clear c45
         try clear c45b0
         try clear c46
         try clear c46b0
         try clear c47
         try clear c49
         try clear c49b0
         try clear c50
         try clear c52
         try clear c52b0
         try clear c53
         try clear c57
         try clear c58
         try clear c58b0
         try clear c59
         try clear c64
         try clear c69
         try clear c74
         try clear c75
         try clear c75b0
         try clear c75b1
         try clear c76
         try clear c76b0
         try clear c76b1
         try clear c76b2
         try clear c78
         try clear c81
         try clear c84
         try clear c84b0
         try clear c84b1
         try clear c85
         try clear c85b0
         try clear c85b1
         try clear c86
         try clear c86b0
         try clear c86b1
         try clear c87
         try clear c90
         try clear c93
         try clear hcz10_0
         try clear hcz10_1
         try clear hcz10_2
         try clear hcz19_0
         try clear hcz19_1
         try clear hcz19_2
         try clear hcz23_0
         try clear hcz23_1
         try clear hcz23_2
         try clear hcz25_0
         try clear hcz25_1
         try clear hcz25_2
         try clear hcz29_0
         try clear hcz29_1
         try clear hcz29_2
         try clear hcz32_0
         try clear hcz32_1
         try clear hcz32_2
         try clear hcz36_0
         try clear hcz36_1
         try clear hcz36_2
         try clear hcz38_0
         try clear hcz38_1
         try clear hcz38_2
         try clear hcz42_0
         try clear hcz42_1
         try clear hcz42_2
         try clear hcz48_0
         try clear hcz48_1
         try clear hcz48_2
         try clear hcz51_0
         try clear hcz51_1
         try clear hcz51_2
         try clear hcz54_0
         try clear hcz54_1
         try clear hcz54_2
         try clear hcz60_0
         try clear hcz60_1
         try clear hcz60_2
         try clear hcz65_0
         try clear hcz65_1
         try clear hcz65_2
         try clear hcz70_0
         try clear hcz70_1
         try clear hcz70_2
         try clear hcz79_0
         try clear hcz79_1
         try clear hcz79_2
         try clear hcz82_0
         try clear hcz82_1
         try clear hcz82_2
         try clear hcz88_0
         try clear hcz88_1
         try clear hcz88_2
         try clear hcz89_0
         try clear hcz89_1
         try clear hcz89_2
         try clear hcz91_0
         try clear hcz91_1
         try clear hcz91_2
         try clear hcz92_0
         try clear hcz92_1
         try clear hcz92_2
         try clear hcz94_0
         try clear hcz94_1
         try clear hcz94_2
         try clear hcz95_0
         try clear hcz95_1
         try clear hcz95_2
         try clear hcz9_0
         try clear hcz9_1
         try clear hcz9_2
         try clear hfz10_0
         try clear hfz10_1
         try clear hfz10_2
         try clear hfz19_0
         try clear hfz19_1
         try clear hfz19_2
         try clear hfz23_0
         try clear hfz23_1
         try clear hfz23_2
         try clear hfz25_0
         try clear hfz25_1
         try clear hfz25_2
         try clear hfz29_0
         try clear hfz29_1
         try clear hfz29_2
         try clear hfz32_0
         try clear hfz32_1
         try clear hfz32_2
         try clear hfz36_0
         try clear hfz36_1
         try clear hfz36_2
         try clear hfz38_0
         try clear hfz38_1
         try clear hfz38_2
         try clear hfz42_0
         try clear hfz42_1
         try clear hfz42_2
         try clear hfz48_0
         try clear hfz48_1
         try clear hfz48_2
         try clear hfz51_0
         try clear hfz51_1
         try clear hfz51_2
         try clear hfz54_0
         try clear hfz54_1
         try clear hfz54_2
         try clear hfz60_0
         try clear hfz60_1
         try clear hfz60_2
         try clear hfz65_0
         try clear hfz65_1
         try clear hfz65_2
         try clear hfz70_0
         try clear hfz70_1
         try clear hfz70_2
         try clear hfz79_0
         try clear hfz79_1
         try clear hfz79_2
         try clear hfz82_0
         try clear hfz82_1
         try clear hfz82_2
         try clear hfz88_0
         try clear hfz88_1
         try clear hfz88_2
         try clear hfz89_0
         try clear hfz89_1
         try clear hfz89_2
         try clear hfz91_0
         try clear hfz91_1
         try clear hfz91_2
         try clear hfz92_0
         try clear hfz92_1
         try clear hfz92_2
         try clear hfz94_0
         try clear hfz94_1
         try clear hfz94_2
         try clear hfz95_0
         try clear hfz95_1
         try clear hfz95_2
         try clear hfz9_0
         try clear hfz9_1
         try clear hfz9_2
         try clear p2
         obtain ⟨kq, x113_82, rfl, HA, HJ82, HO_241002, BK232, BK240, HB⟩ := hcut
         cases kq with
         |zero => exact absurd HA.out (by simp [celluloidlaw21_CanvasLays.j2])
         |succ kj82 =>
          have H := HA.out
          clear HA
          simp only [celluloidlaw21_CanvasLays.j2] at H
          by_cases c96 : x113_82 = true
          ·subst c96
           have H1 : (some false) = some r := by rw [if_pos rfl] at H; exact H
           clear H
           have H := H1
           clear H1
           exact absurd (Option.some.inj H) (by rw [hr_.out]; decide)
          ·replace c96 := Bool.eq_false_iff.mpr c96
           subst c96
           have H1 : (celluloidlaw21_CanvasLays.l0 kj82 a1 a2 l3 a4 (t236.length : Int) 0 a0_0 a0_1 l0_2 t234 t235 t236) = some r := by rw [if_neg (show ¬ (false = true) by decide)] at H; exact H
           clear H
           have H := H1
           clear H1
           have H' := Aside0.mk H
           clear H
           have hnb97 := NB240_232.out
           have hnc97 := NB232_240.out
           have hcz98_0 : wc.cell? ⟨gb240, 0, none⟩ = some (.int .i64 t234) := (blk_cell BK240.out 0).trans rfl
           have hcz98_1 : wc.cell? ⟨gb240, 1, none⟩ = some (.int .i64 t235) := (blk_cell BK240.out 1).trans rfl
           have hcz98_2 : wc.cell? ⟨gb240, 2, none⟩ = some (.slice Ao37 t236.length co37) := (blk_cell BK240.out 2).trans rfl
           have hfz98_0 := blk_frozen BK240.out 0
           have hfz98_1 := blk_frozen BK240.out 1
           have hfz98_2 := blk_frozen BK240.out 2
           go_wp2
           go_loopg [117] kj82 (fun kq v117 w' => ∃ (x117_4 : Int), v117 = .int .i64 x117_4 ∧ Aside0 (celluloidlaw21_CanvasLays.l0 kq a1 a2 l3 a4 (t236.length : Int) x117_4 a0_0 a0_1 l0_2 t234 t235 t236 = some r) ∧ Aside0 (kq ≤ kj82) ∧ Aside0 (Kd.R k23 23 w' w.heap.size (fun _ => True) (.slice Ao37 t236.length co37) t236) ∧ Aside0 (w'.heap[gb232]? = some (.cells #[.int .i64 a0_0, .int .i64 a0_1, (.slice A0_2 l0_2.length c0_2)] 26 (0, 0))) ∧ Aside0 (w'.heap[gb240]? = some (.cells #[.int .i64 t234, .int .i64 t235, (.slice Ao37 t236.length co37)] 26 (0, 0))) ∧ Aside0 (Below w.heap.size w w'))
           case atStart => exact ⟨(0), (by first | rfl | (simp; done) | (simp [*]; done)), H', ⟨Nat.le_refl _⟩, ⟨by (with_reducible repeat (first | apply Kd.R_alloc | apply Kd.R_drewN | apply Kd.R_drew)); exact HO_241002.out⟩, ⟨by (with_reducible repeat (first | apply bN | apply bD | apply bA)); exact BK232.out⟩, ⟨by (with_reducible repeat (first | apply bN | apply bD | apply bA)); exact BK240.out⟩, ⟨by repeat (first | (with_reducible first | exact HB.out | apply below_alloc | apply pw_below_drewN | apply below_drew1 | refine below_set ?_ GE232.out | refine below_set ?_ GE240.out) | exact HB.out)⟩⟩
           case round =>
            clear H'
            try clear c1
            try clear c2
            try clear p2
            try clear c3
            try clear c4
            try clear c5
            try clear c6
            try clear c7
            try clear c8
            try clear c8b0
            try clear c8b1
            try clear c9
            try clear c11
            try clear c12
            try clear c18
            try clear c18b0
            try clear c18b1
            try clear c18b2
            try clear c19
            try clear c20
            try clear c21
            try clear c22
            try clear c35
            try clear c44
            try clear c45
            try clear c45b0
            try clear c46
            try clear c46b0
            try clear c47
            try clear c49
            try clear c49b0
            try clear c50
            try clear c52
            try clear c52b0
            try clear c53
            try clear c57
            try clear c58
            try clear c58b0
            try clear c59
            try clear c64
            try clear c69
            try clear c74
            try clear c75
            try clear c75b0
            try clear c75b1
            try clear c76
            try clear c76b0
            try clear c76b1
            try clear c76b2
            try clear c78
            try clear c81
            try clear c84
            try clear c84b0
            try clear c84b1
            try clear c85
            try clear c85b0
            try clear c85b1
            try clear c86
            try clear c86b0
            try clear c86b1
            try clear c87
            try clear c90
            try clear c93
            try clear c96
            try clear c97
            try clear hcz10_0
            try clear hcz10_1
            try clear hcz10_2
            try clear hcz19_0
            try clear hcz19_1
            try clear hcz19_2
            try clear hcz23_0
            try clear hcz23_1
            try clear hcz23_2
            try clear hcz25_0
            try clear hcz25_1
            try clear hcz25_2
            try clear hcz29_0
            try clear hcz29_1
            try clear hcz29_2
            try clear hcz32_0
            try clear hcz32_1
            try clear hcz32_2
            try clear hcz36_0
            try clear hcz36_1
            try clear hcz36_2
            try clear hcz38_0
            try clear hcz38_1
            try clear hcz38_2
            try clear hcz42_0
            try clear hcz42_1
            try clear hcz42_2
            try clear hcz48_0
            try clear hcz48_1
            try clear hcz48_2
            try clear hcz51_0
            try clear hcz51_1
            try clear hcz51_2
            try clear hcz54_0
            try clear hcz54_1
            try clear hcz54_2
            try clear hcz60_0
            try clear hcz60_1
            try clear hcz60_2
            try clear hcz65_0
            try clear hcz65_1
            try clear hcz65_2
            try clear hcz70_0
            try clear hcz70_1
            try clear hcz70_2
            try clear hcz79_0
            try clear hcz79_1
            try clear hcz79_2
            try clear hcz82_0
            try clear hcz82_1
            try clear hcz82_2
            try clear hcz88_0
            try clear hcz88_1
            try clear hcz88_2
            try clear hcz89_0
            try clear hcz89_1
            try clear hcz89_2
            try clear hcz91_0
            try clear hcz91_1
            try clear hcz91_2
            try clear hcz92_0
            try clear hcz92_1
            try clear hcz92_2
            try clear hcz94_0
            try clear hcz94_1
            try clear hcz94_2
            try clear hcz95_0
            try clear hcz95_1
            try clear hcz95_2
            try clear hcz98_0
            try clear hcz98_1
            try clear hcz98_2
            try clear hcz9_0
            try clear hcz9_1
            try clear hcz9_2
            try clear hfz10_0
            try clear hfz10_1
            try clear hfz10_2
            try clear hfz19_0
            try clear hfz19_1
            try clear hfz19_2
            try clear hfz23_0
            try clear hfz23_1
            try clear hfz23_2
            try clear hfz25_0
            try clear hfz25_1
            try clear hfz25_2
            try clear hfz29_0
            try clear hfz29_1
            try clear hfz29_2
            try clear hfz32_0
            try clear hfz32_1
            try clear hfz32_2
            try clear hfz36_0
            try clear hfz36_1
            try clear hfz36_2
            try clear hfz38_0
            try clear hfz38_1
            try clear hfz38_2
            try clear hfz42_0
            try clear hfz42_1
            try clear hfz42_2
            try clear hfz48_0
            try clear hfz48_1
            try clear hfz48_2
            try clear hfz51_0
            try clear hfz51_1
            try clear hfz51_2
            try clear hfz54_0
            try clear hfz54_1
            try clear hfz54_2
            try clear hfz60_0
            try clear hfz60_1
            try clear hfz60_2
            try clear hfz65_0
            try clear hfz65_1
            try clear hfz65_2
            try clear hfz70_0
            try clear hfz70_1
            try clear hfz70_2
            try clear hfz79_0
            try clear hfz79_1
            try clear hfz79_2
            try clear hfz82_0
            try clear hfz82_1
            try clear hfz82_2
            try clear hfz88_0
            try clear hfz88_1
            try clear hfz88_2
            try clear hfz89_0
            try clear hfz89_1
            try clear hfz89_2
            try clear hfz91_0
            try clear hfz91_1
            try clear hfz91_2
            try clear hfz92_0
            try clear hfz92_1
            try clear hfz92_2
            try clear hfz94_0
            try clear hfz94_1
            try clear hfz94_2
            try clear hfz95_0
            try clear hfz95_1
            try clear hfz95_2
            try clear hfz98_0
            try clear hfz98_1
            try clear hfz98_2
            try clear hfz9_0
            try clear hfz9_1
            try clear hfz9_2
            try clear p2
            obtain ⟨x117_4, rfl, HA, HK4, HO_241002, BK232, BK240, HB⟩ := hrel
            cases gk with
            |zero => exact absurd HA.out (by simp [celluloidlaw21_CanvasLays.l0])
            |succ k4 =>
             have H := HA.out
             clear HA
             simp only [celluloidlaw21_CanvasLays.l0] at H
             by_cases c99 : x117_4 < (t236.length : Int)
             ·rw [if_pos c99] at H
              have c99b0 : decide (x117_4 < (t236.length : Int)) = true := decide_eq_true c99
              clear c99
              by_cases c100 : 0 ≤ x117_4
              ·rw [if_pos c100] at H
               have c100b0 : decide (0 ≤ x117_4) = true := decide_eq_true c100
               clear c100
               by_cases c101 : x117_4 < (l0_2.length : Int)
               ·rw [if_pos c101] at H
                have c101b0 : decide (x117_4 < (l0_2.length : Int)) = true := decide_eq_true c101
                clear c101
                have HC102 := Aside0.mk H
                clear H
                have hnb103 := NB232_240.out
                have hnc103 := NB240_232.out
                have hcz104_0 : wr.cell? ⟨gb232, 0, none⟩ = some (.int .i64 a0_0) := (blk_cell BK232.out 0).trans rfl
                have hcz104_1 : wr.cell? ⟨gb232, 1, none⟩ = some (.int .i64 a0_1) := (blk_cell BK232.out 1).trans rfl
                have hcz104_2 : wr.cell? ⟨gb232, 2, none⟩ = some (.slice A0_2 l0_2.length c0_2) := (blk_cell BK232.out 2).trans rfl
                have hfz104_0 := blk_frozen BK232.out 0
                have hfz104_1 := blk_frozen BK232.out 1
                have hfz104_2 := blk_frozen BK232.out 2
                have p254 : 0 ≤ (x117_4 : Int) := of_decide_eq_true (by first | (with_reducible assumption) | assumption)
                have q254 : x117_4 < (l0_2.length : Int) := of_decide_eq_true (by first | (with_reducible assumption) | assumption)
                obtain ⟨ad254, e254, hx254_0, hx254_1, hx254_2, hx254_3⟩ := at_T23 HR0_2.out x117_4 p254 q254
                cases e254
                replace hx254_0 := (HB.out.cell (World.block_lt_of_cell? w _ hx254_0)).trans hx254_0
                replace hx254_1 := (HB.out.cell (World.block_lt_of_cell? w _ hx254_1)).trans hx254_1
                replace hx254_2 := (HB.out.cell (World.block_lt_of_cell? w _ hx254_2)).trans hx254_2
                replace hx254_3 := (HB.out.cell (World.block_lt_of_cell? w _ hx254_3)).trans hx254_3
                replace p254 := eq_true p254
                replace q254 := eq_true q254
                go_upto_if 132 with (first | ((with_reducible refine gate_dst (N := 15) rfl ?_); (try (refine gate_guard (by rfl) ?_; dsimp only)); refine box_event ?hg (N := 15) ?hd (cs := #[.int .i64 0, .int .i64 0, .int .i64 0, .int .i64 0]) (t := 23) ?hr ?_; (case hd => rfl); (case hg => rfl); (case hr => first | (go_simp; done) | (go_simp; rfl)); intro gb255 hg w105 hbox hb; have n0_ := Aside0.mk (Kd.R_below (Kd.R_elderB (by (with_reducible repeat (first | apply Kd.R_alloc | apply Kd.R_drewN | apply Kd.R_drew)); exact HO_241002.out) gb255 (Nat.le_of_eq hg.symm)) hb); have n1_ := Aside0.mk (blk_below (g := gb232) (o := .cells #[.int .i64 a0_0, .int .i64 a0_1, .slice (some ad254) l0_2.length c0_2] 26 (0, 0)) (by (with_reducible repeat (first | apply bN | apply bD | apply bA)); exact BK232.out) hb); have n2_ := Aside0.mk (blk_below (g := gb240) (o := .cells #[.int .i64 t234, .int .i64 t235, .slice Ao37 t236.length co37] 26 (0, 0)) (by (with_reducible repeat (first | apply bN | apply bD | apply bA)); exact BK240.out) hb); have n3_ := Aside0.mk (below_step (by repeat (first | (with_reducible first | exact HB.out | apply below_alloc | apply pw_below_drewN | apply below_drew1 | refine below_set ?_ GE232.out | refine below_set ?_ GE240.out) | exact HB.out)) hb); have n4_ := Aside0.mk (hbox); have n5_ := Aside0.mk ((by rw [hg]; exact (below_size (by repeat (first | (with_reducible first | exact HB.out | apply below_alloc | apply pw_below_drewN | apply below_drew1 | refine below_set ?_ GE232.out | refine below_set ?_ GE240.out) | exact HB.out))) : w.heap.size ≤ gb255)); have n6_ := Aside0.mk ((by rw [hg]; exact (below_size (by repeat (first | (with_reducible first | exact HB.out | apply below_alloc | apply pw_below_drewN | apply below_drew1 | refine below_set ?_ GE232.out | refine below_set ?_ GE240.out) | exact HB.out))) : w.heap.size ≤ gb255)); have n7_ := Aside0.mk ((by rw [hg]; exact Nat.ne_of_lt (blk_lt (g := gb232) (o := .cells #[.int .i64 a0_0, .int .i64 a0_1, .slice (some ad254) l0_2.length c0_2] 26 (0, 0)) (by (with_reducible repeat (first | apply bN | apply bD | apply bA)); exact BK232.out)) : gb232 ≠ gb255)); have n8_ := Aside0.mk ((by rw [hg]; exact Nat.ne_of_gt (blk_lt (g := gb232) (o := .cells #[.int .i64 a0_0, .int .i64 a0_1, .slice (some ad254) l0_2.length c0_2] 26 (0, 0)) (by (with_reducible repeat (first | apply bN | apply bD | apply bA)); exact BK232.out)) : gb255 ≠ gb232)); have n9_ := Aside0.mk ((by rw [hg]; exact Nat.ne_of_lt (blk_lt (g := gb240) (o := .cells #[.int .i64 t234, .int .i64 t235, .slice Ao37 t236.length co37] 26 (0, 0)) (by (with_reducible repeat (first | apply bN | apply bD | apply bA)); exact BK240.out)) : gb240 ≠ gb255)); have n10_ := Aside0.mk ((by rw [hg]; exact Nat.ne_of_gt (blk_lt (g := gb240) (o := .cells #[.int .i64 t234, .int .i64 t235, .slice Ao37 t236.length co37] 26 (0, 0)) (by (with_reducible repeat (first | apply bN | apply bD | apply bA)); exact BK240.out)) : gb255 ≠ gb240)); clear HO_241002; clear BK232; clear BK240; clear HB; have HO_241002 := n0_; have BK232 := n1_; have BK240 := n2_; have HB := n3_; have BK255 := n4_; have GW255 := n5_; have GE255 := n6_; have NB232_255 := n7_; have NB255_232 := n8_; have NB240_255 := n9_; have NB255_240 := n10_; clear n0_ n1_ n2_ n3_ n4_ n5_ n6_ n7_ n8_ n9_ n10_; clear hb hbox hg; have hnb106 := NB255_232.out; have hnc106 := NB232_255.out; have hnb107 := NB255_240.out; have hnc107 := NB240_255.out; have hcz108_0 : w105.cell? ⟨gb255, 0, none⟩ = some (.int .i64 0) := (blk_cell BK255.out 0).trans rfl; have hcz108_1 : w105.cell? ⟨gb255, 1, none⟩ = some (.int .i64 0) := (blk_cell BK255.out 1).trans rfl; have hcz108_2 : w105.cell? ⟨gb255, 2, none⟩ = some (.int .i64 0) := (blk_cell BK255.out 2).trans rfl; have hcz108_3 : w105.cell? ⟨gb255, 3, none⟩ = some (.int .i64 0) := (blk_cell BK255.out 3).trans rfl; have hfz108_0 := blk_frozen BK255.out 0; have hfz108_1 := blk_frozen BK255.out 1; have hfz108_2 := blk_frozen BK255.out 2; have hfz108_3 := blk_frozen BK255.out 3; have hcz109_0 : w105.cell? ⟨gb232, 0, none⟩ = some (.int .i64 a0_0) := (blk_cell BK232.out 0).trans rfl; have hcz109_1 : w105.cell? ⟨gb232, 1, none⟩ = some (.int .i64 a0_1) := (blk_cell BK232.out 1).trans rfl; have hcz109_2 : w105.cell? ⟨gb232, 2, none⟩ = some (.slice (some ad254) l0_2.length c0_2) := (blk_cell BK232.out 2).trans rfl; have hfz109_0 := blk_frozen BK232.out 0; have hfz109_1 := blk_frozen BK232.out 1; have hfz109_2 := blk_frozen BK232.out 2))
                (try simp only [Act.put, List.setIfInBounds_toArray, List.set_cons_zero, List.set_cons_succ])
                go_cut [] (fun wc => ∃ (kq : Nat) (x256000_101 : Int) (x256001_101 : Int) (x256002_101 : Int) (x256003_101 : Int), Aside0 (celluloidlaw21_CanvasLays.j4 kq a1 a2 l3 a4 x117_4 (t236.length : Int) x117_4 a0_0 a0_1 l0_2 t234 t235 t236 x256000_101 x256001_101 x256002_101 x256003_101 = some r) ∧ Aside0 (kq ≤ k4) ∧ Aside0 (Kd.R k23 23 wc w.heap.size (fun k_ => k_ ≠ gb255) (.slice Ao37 t236.length co37) t236) ∧ Aside0 (wc.heap[gb232]? = some (.cells #[.int .i64 a0_0, .int .i64 a0_1, (.slice (some ad254) l0_2.length c0_2)] 26 (0, 0))) ∧ Aside0 (wc.heap[gb240]? = some (.cells #[.int .i64 t234, .int .i64 t235, (.slice Ao37 t236.length co37)] 26 (0, 0))) ∧ Aside0 (wc.heap[gb255]? = some (.cells #[.int .i64 x256000_101, .int .i64 x256001_101, .int .i64 x256002_101, .int .i64 x256003_101] 23 (0, 0))) ∧ Aside0 (Below w.heap.size w wc))
                case first =>
                 have H := HC102.out
                 clear HC102
                 by_cases c110 : x117_4 = (wrap64 ((wrap64 (a2 * a0_0)) + a1))
                 ·rw [if_pos c110] at H
                  have c110b0 : (x117_4 == (wrap64 ((wrap64 (a2 * a0_0)) + a1))) = true := beq_iff_eq.mpr c110
                  have c110b1 : (x117_4 != (wrap64 ((wrap64 (a2 * a0_0)) + a1))) = false := bne_eq_false_iff_eq.mpr c110
                  clear c110
                  (first | rw [c110b0] | (simp only [i64_w, i32_w]; rw [c110b0]) | skip)
                  replace H := Option.bind_eq_some_iff.mp H
                  obtain ⟨t256, A1110, H⟩ := H
                  replace H : ((celluloidref21_Over.f k4 ((rd_T23 l0_2 x117_4).f0) ((rd_T23 l0_2 x117_4).f1) ((rd_T23 l0_2 x117_4).f2) ((rd_T23 l0_2 x117_4).f3) t256 a4).bind fun bt259 => (celluloidlaw21_CanvasLays.j4 k4 a1 a2 l3 a4 x117_4 (t236.length : Int) x117_4 a0_0 a0_1 l0_2 t234 t235 t236 bt259.1 bt259.2.1 bt259.2.2.1 bt259.2.2.2)) = some r := H
                  have A111 := Aside0.mk A1110
                  clear A1110
                  replace H := Option.bind_eq_some_iff.mp H
                  obtain ⟨⟨t259, t260, t261, t262⟩, A1120, H⟩ := H
                  replace H : (celluloidlaw21_CanvasLays.j4 k4 a1 a2 l3 a4 x117_4 (t236.length : Int) x117_4 a0_0 a0_1 l0_2 t234 t235 t236 t259 t260 t261 t262) = some r := H
                  have A112 := Aside0.mk A1120
                  clear A1120
                  have H' := Aside0.mk H
                  clear H
                  try go_wp2
                  have n0_ : Aside0 (Kd.R k23 23 ((((w105.setCell ⟨gb255, 0, none⟩ (.int .i64 ((rd_T23 l0_2 x117_4).f0))).setCell ⟨gb255, 1, none⟩ (.int .i64 ((rd_T23 l0_2 x117_4).f1))).setCell ⟨gb255, 2, none⟩ (.int .i64 ((rd_T23 l0_2 x117_4).f2))).setCell ⟨gb255, 3, none⟩ (.int .i64 ((rd_T23 l0_2 x117_4).f3))) w.heap.size (fun k_ => k_ ≠ gb255) (.slice Ao37 t236.length co37) t236) := ⟨by (with_reducible repeat (first | apply Kd.R_alloc | apply Kd.R_drewN | apply Kd.R_drew)); exact Kd.R_mono (Kd.R_far (p := ⟨gb255, 3, none⟩) (Kd.R_far (p := ⟨gb255, 2, none⟩) (Kd.R_far (p := ⟨gb255, 1, none⟩) (Kd.R_far (p := ⟨gb255, 0, none⟩) (Kd.R_mono HO_241002.out (fun k_ hk => (⟨hk, hk.2⟩ : _ ∧ k_ ≠ gb255))) (fun _ hk => hk.2) (.int .i64 ((rd_T23 l0_2 x117_4).f0))) (fun _ hk => hk.2) (.int .i64 ((rd_T23 l0_2 x117_4).f1))) (fun _ hk => hk.2) (.int .i64 ((rd_T23 l0_2 x117_4).f2))) (fun _ hk => hk.2) (.int .i64 ((rd_T23 l0_2 x117_4).f3))) (fun _ hk => hk.1.2)⟩
                  have n1_ : Aside0 (((((w105.setCell ⟨gb255, 0, none⟩ (.int .i64 ((rd_T23 l0_2 x117_4).f0))).setCell ⟨gb255, 1, none⟩ (.int .i64 ((rd_T23 l0_2 x117_4).f1))).setCell ⟨gb255, 2, none⟩ (.int .i64 ((rd_T23 l0_2 x117_4).f2))).setCell ⟨gb255, 3, none⟩ (.int .i64 ((rd_T23 l0_2 x117_4).f3))).heap[gb232]? = some (.cells #[.int .i64 a0_0, .int .i64 a0_1, .slice (some ad254) l0_2.length c0_2] 26 (0, 0))) := ⟨by (with_reducible repeat (first | apply bN | apply bD | apply bA)); refine blk_far ?_ NB232_255.out _; (with_reducible repeat (first | apply bN | apply bD | apply bA)); refine blk_far ?_ NB232_255.out _; (with_reducible repeat (first | apply bN | apply bD | apply bA)); refine blk_far ?_ NB232_255.out _; (with_reducible repeat (first | apply bN | apply bD | apply bA)); refine blk_far ?_ NB232_255.out _; (with_reducible repeat (first | apply bN | apply bD | apply bA)); exact BK232.out⟩
                  have n2_ : Aside0 (((((w105.setCell ⟨gb255, 0, none⟩ (.int .i64 ((rd_T23 l0_2 x117_4).f0))).setCell ⟨gb255, 1, none⟩ (.int .i64 ((rd_T23 l0_2 x117_4).f1))).setCell ⟨gb255, 2, none⟩ (.int .i64 ((rd_T23 l0_2 x117_4).f2))).setCell ⟨gb255, 3, none⟩ (.int .i64 ((rd_T23 l0_2 x117_4).f3))).heap[gb240]? = some (.cells #[.int .i64 t234, .int .i64 t235, .slice Ao37 t236.length co37] 26 (0, 0))) := ⟨by (with_reducible repeat (first | apply bN | apply bD | apply bA)); refine blk_far ?_ NB240_255.out _; (with_reducible repeat (first | apply bN | apply bD | apply bA)); refine blk_far ?_ NB240_255.out _; (with_reducible repeat (first | apply bN | apply bD | apply bA)); refine blk_far ?_ NB240_255.out _; (with_reducible repeat (first | apply bN | apply bD | apply bA)); refine blk_far ?_ NB240_255.out _; (with_reducible repeat (first | apply bN | apply bD | apply bA)); exact BK240.out⟩
                  have n3_ : Aside0 (((((w105.setCell ⟨gb255, 0, none⟩ (.int .i64 ((rd_T23 l0_2 x117_4).f0))).setCell ⟨gb255, 1, none⟩ (.int .i64 ((rd_T23 l0_2 x117_4).f1))).setCell ⟨gb255, 2, none⟩ (.int .i64 ((rd_T23 l0_2 x117_4).f2))).setCell ⟨gb255, 3, none⟩ (.int .i64 ((rd_T23 l0_2 x117_4).f3))).heap[gb255]? = some (.cells #[.int .i64 ((rd_T23 l0_2 x117_4).f0), .int .i64 ((rd_T23 l0_2 x117_4).f1), .int .i64 ((rd_T23 l0_2 x117_4).f2), .int .i64 ((rd_T23 l0_2 x117_4).f3)] 23 (0, 0))) := ⟨by (with_reducible repeat (first | apply bN | apply bD | apply bA)); refine blk_put (cs := #[.int .i64 ((rd_T23 l0_2 x117_4).f0), .int .i64 ((rd_T23 l0_2 x117_4).f1), .int .i64 ((rd_T23 l0_2 x117_4).f2), .int .i64 0]) ?_ 3 _ rfl; (with_reducible repeat (first | apply bN | apply bD | apply bA)); refine blk_put (cs := #[.int .i64 ((rd_T23 l0_2 x117_4).f0), .int .i64 ((rd_T23 l0_2 x117_4).f1), .int .i64 0, .int .i64 0]) ?_ 2 _ rfl; (with_reducible repeat (first | apply bN | apply bD | apply bA)); refine blk_put (cs := #[.int .i64 ((rd_T23 l0_2 x117_4).f0), .int .i64 0, .int .i64 0, .int .i64 0]) ?_ 1 _ rfl; (with_reducible repeat (first | apply bN | apply bD | apply bA)); refine blk_put (cs := #[.int .i64 0, .int .i64 0, .int .i64 0, .int .i64 0]) ?_ 0 _ rfl; (with_reducible repeat (first | apply bN | apply bD | apply bA)); exact BK255.out⟩
                  have n4_ : Aside0 (Below w.heap.size w ((((w105.setCell ⟨gb255, 0, none⟩ (.int .i64 ((rd_T23 l0_2 x117_4).f0))).setCell ⟨gb255, 1, none⟩ (.int .i64 ((rd_T23 l0_2 x117_4).f1))).setCell ⟨gb255, 2, none⟩ (.int .i64 ((rd_T23 l0_2 x117_4).f2))).setCell ⟨gb255, 3, none⟩ (.int .i64 ((rd_T23 l0_2 x117_4).f3)))) := ⟨by repeat (first | (with_reducible first | exact HB.out | apply below_alloc | apply pw_below_drewN | apply below_drew1 | refine below_set ?_ GE232.out | refine below_set ?_ GE240.out | refine below_set ?_ GE255.out) | exact HB.out)⟩
                  (try clear HO_241002)
                  (try clear BK232)
                  (try clear BK240)
                  (try clear BK255)
                  (try clear HB)
                  generalize ((((w105.setCell ⟨gb255, 0, none⟩ (.int .i64 ((rd_T23 l0_2 x117_4).f0))).setCell ⟨gb255, 1, none⟩ (.int .i64 ((rd_T23 l0_2 x117_4).f1))).setCell ⟨gb255, 2, none⟩ (.int .i64 ((rd_T23 l0_2 x117_4).f2))).setCell ⟨gb255, 3, none⟩ (.int .i64 ((rd_T23 l0_2 x117_4).f3))) = w113 at n0_ n1_ n2_ n3_ n4_ ⊢
                  have HO_241002 := n0_
                  have BK232 := n1_
                  have BK240 := n2_
                  have BK255 := n3_
                  have HB := n4_
                  clear n0_ n1_ n2_ n3_ n4_
                  have n0_ := Aside0.mk (Kd.R_drew HO_241002.out)
                  have n1_ := Aside0.mk (blk_drew BK232.out)
                  have n2_ := Aside0.mk (blk_drew BK240.out)
                  have n3_ := Aside0.mk (blk_drew BK255.out)
                  have n4_ := Aside0.mk (below_drew1 HB.out)
                  clear HO_241002
                  clear BK232
                  clear BK240
                  clear BK255
                  clear HB
                  have HO_241002 := n0_
                  have BK232 := n1_
                  have BK240 := n2_
                  have BK255 := n3_
                  have HB := n4_
                  clear n0_ n1_ n2_ n3_ n4_
                  refine start_ (n := 6) (S := fun w' => w'.cell? ⟨gb255, 0, none⟩ = some (.int .i64 ((rd_T23 l0_2 x117_4).f0)) ∧ w'.cell? ⟨gb255, 1, none⟩ = some (.int .i64 ((rd_T23 l0_2 x117_4).f1)) ∧ w'.cell? ⟨gb255, 2, none⟩ = some (.int .i64 ((rd_T23 l0_2 x117_4).f2)) ∧ w'.cell? ⟨gb255, 3, none⟩ = some (.int .i64 ((rd_T23 l0_2 x117_4).f3))) (ds := [5]) #[false, false, false, false, false, false] (by kernel_rfl) rfl rfl ⟨(blk_cell BK255.out 0).trans rfl, (blk_cell BK255.out 1).trans rfl, (blk_cell BK255.out 2).trans rfl, (blk_cell BK255.out 3).trans rfl⟩ (fun hHeld => ?_)
                  generalize w113.drew = w114 at HO_241002 BK232 BK240 BK255 HB hHeld ⊢
                  refine pure_ (i := 1) (N := some 134) (v := ?_) (a' := ?_) #[false, true, false, false, false, false] rfl rfl (by kernel_rfl) (fun _ _ _ h => h) (Or.inl ⟨by rfl, ?_⟩) ?_ ?_
                  rotate_left
                  ·intro w'
                   go_simp
                   with_reducible rfl
                  rotate_left
                  ·simp only [Act.put, List.setIfInBounds_toArray, List.set_cons_zero, List.set_cons_succ, i64_w, i32_w]
                   rfl
                  refine pure_ (i := 3) (N := some 136) (v := ?_) (a' := ?_) #[false, true, false, true, false, false] rfl rfl (by kernel_rfl) (fun _ _ _ h => h) (Or.inl ⟨by rfl, ?_⟩) ?_ ?_
                  rotate_left
                  ·intro w'
                   go_simp
                   with_reducible rfl
                  rotate_left
                  ·simp only [Act.put, List.setIfInBounds_toArray, List.set_cons_zero, List.set_cons_succ, i64_w, i32_w]
                   rfl
                  refine take_ (i := 0) (N := some 133) (v := ?_) (a' := ?_) #[true, true, false, true, false, false] rfl rfl (by kernel_rfl) (fun _ _ _ h => h) (Or.inl ⟨by rfl, ?_⟩) hHeld ?_ ?_
                  rotate_left
                  ·rintro w' ⟨s0, s1, s2, s3⟩
                   go_simp
                   with_reducible rfl
                  rotate_left
                  ·simp only [Act.put, List.setIfInBounds_toArray, List.set_cons_zero, List.set_cons_succ, i64_w, i32_w]
                   rfl
                  refine one_ (i := 2) (N := some 135) #[true, true, true, true, false, false] rfl rfl (by kernel_rfl) (by decide) (fun K hK => ?_)
                  refine goes_ Try.func16 (by kernel_rfl) rfl #[.slice A3 l3.length c3] (by rfl) rfl rfl (by (try simp only [List.map_toArray, List.map_cons, List.map_nil]); first | done | rfl | (simp only [List.length_drop, List.length_take]; rfl)) ?_
                  with_reducible refine (celluloidlaw21_refs.calls k4 _ _ l3 t256 _ ?side1 ?side2 A111.out).mono ?_
                  (case side1 => repeat (first | exact (Kd.C_below HR3.out HB.out) | (with_reducible refine Kd.C_alloc ?_ _) | (with_reducible refine Kd.C_drewN ?_ _) | (with_reducible refine Kd.C_drew ?_)))
                  (case side2 => exact HC3.out)
                  rintro e w115 ⟨v257, rfl, ho0, hb⟩
                  refine ⟨_, rfl, ?_⟩
                  have n0_ := Aside0.mk (Kd.R_below (by (with_reducible repeat (first | apply Kd.R_alloc | apply Kd.R_drewN | apply Kd.R_drew)); exact HO_241002.out) hb)
                  have n1_ := Aside0.mk (Kd.R_lower ho0 (below_size (by repeat (first | (with_reducible first | exact HB.out | apply below_alloc | apply pw_below_drewN | apply below_drew1 | refine below_set ?_ GE232.out | refine below_set ?_ GE240.out | refine below_set ?_ GE255.out) | exact HB.out))))
                  have n2_ := Aside0.mk (blk_below (g := gb232) (o := .cells #[.int .i64 a0_0, .int .i64 a0_1, .slice (some ad254) l0_2.length c0_2] 26 (0, 0)) (by (with_reducible repeat (first | apply bN | apply bD | apply bA)); exact BK232.out) hb)
                  have n3_ := Aside0.mk (blk_below (g := gb240) (o := .cells #[.int .i64 t234, .int .i64 t235, .slice Ao37 t236.length co37] 26 (0, 0)) (by (with_reducible repeat (first | apply bN | apply bD | apply bA)); exact BK240.out) hb)
                  have n4_ := Aside0.mk (blk_below (g := gb255) (o := .cells #[.int .i64 ((rd_T23 l0_2 x117_4).f0), .int .i64 ((rd_T23 l0_2 x117_4).f1), .int .i64 ((rd_T23 l0_2 x117_4).f2), .int .i64 ((rd_T23 l0_2 x117_4).f3)] 23 (0, 0)) (by (with_reducible repeat (first | apply bN | apply bD | apply bA)); exact BK255.out) hb)
                  have n5_ := Aside0.mk (below_step (by repeat (first | (with_reducible first | exact HB.out | apply below_alloc | apply pw_below_drewN | apply below_drew1 | refine below_set ?_ GE232.out | refine below_set ?_ GE240.out | refine below_set ?_ GE255.out) | exact HB.out)) hb)
                  clear HO_241002
                  clear BK232
                  clear BK240
                  clear BK255
                  clear HB
                  have HO_241002 := n0_
                  have HO258 := n1_
                  have BK232 := n2_
                  have BK240 := n3_
                  have BK255 := n4_
                  have HB := n5_
                  clear n0_ n1_ n2_ n3_ n4_ n5_
                  (try clear hb)
                  (try clear hb2)
                  (try clear hk)
                  (try clear hi)
                  (try clear ho0)
                  obtain ⟨Ao116, co116, eo116⟩ := Kd.R_slice HO258.out
                  (first | subst eo116 | (injection eo116 with f1_ f2_ f3_; have f4_ := f1_.symm; have f5_ := f3_.symm; clear f1_ f2_ f3_; subst f4_; subst f5_))
                  refine hK.out _ _ ⟨(blk_cell BK255.out 0).trans rfl, (blk_cell BK255.out 1).trans rfl, (blk_cell BK255.out 2).trans rfl, (blk_cell BK255.out 3).trans rfl⟩ (fun hHeld => ?_)
                  clear hK K
                  refine norm_ (a' := ?_) ?_ ?_
                  rotate_left
                  ·show Act.put _ (some 135) _ = _
                   simp only [Act.put, List.setIfInBounds_toArray, List.set_cons_zero, List.set_cons_succ, i64_w, i32_w]
                   rfl
                  refine one_ (i := 4) (N := some 137) #[true, true, true, true, true, false] rfl rfl (by kernel_rfl) (by decide) (fun K hK => ?_)
                  refine goes_ Try.func18 (by kernel_rfl) rfl #[.agg #[.int .i64 ((rd_T23 l0_2 x117_4).f0), .int .i64 ((rd_T23 l0_2 x117_4).f1), .int .i64 ((rd_T23 l0_2 x117_4).f2), .int .i64 ((rd_T23 l0_2 x117_4).f3)], .slice Ao116 t256.length co116, .int .i64 a4] (by rfl) rfl rfl (by (try simp only [List.map_toArray, List.map_cons, List.map_nil]); first | done | rfl | (simp only [List.length_drop, List.length_take]; rfl)) ?_
                  with_reducible refine (celluloidref21_Over.calls k4 ((rd_T23 l0_2 x117_4).f0) ((rd_T23 l0_2 x117_4).f1) ((rd_T23 l0_2 x117_4).f2) ((rd_T23 l0_2 x117_4).f3) _ _ t256 a4 t259 t260 t261 t262 _ ?side1 ?side2 A112.out).mono ?_
                  (case side1 => repeat (first | exact (Kd.R_reads' HO258.out).2.2 | (with_reducible refine Kd.C_alloc ?_ _) | (with_reducible refine Kd.C_drewN ?_ _) | (with_reducible refine Kd.C_drew ?_)))
                  (case side2 => exact (Kd.R_reads' HO258.out).2.1)
                  rintro e w117 ⟨rfl, hb⟩
                  refine ⟨_, rfl, ?_⟩
                  have n0_ := Aside0.mk (Kd.R_below (by (with_reducible repeat (first | apply Kd.R_alloc | apply Kd.R_drewN | apply Kd.R_drew)); exact HO_241002.out) hb)
                  have n1_ := Aside0.mk (Kd.R_below (by (with_reducible repeat (first | apply Kd.R_alloc | apply Kd.R_drewN | apply Kd.R_drew)); exact HO258.out) hb)
                  have n2_ := Aside0.mk (blk_below (g := gb232) (o := .cells #[.int .i64 a0_0, .int .i64 a0_1, .slice (some ad254) l0_2.length c0_2] 26 (0, 0)) (by (with_reducible repeat (first | apply bN | apply bD | apply bA)); exact BK232.out) hb)
                  have n3_ := Aside0.mk (blk_below (g := gb240) (o := .cells #[.int .i64 t234, .int .i64 t235, .slice Ao37 t236.length co37] 26 (0, 0)) (by (with_reducible repeat (first | apply bN | apply bD | apply bA)); exact BK240.out) hb)
                  have n4_ := Aside0.mk (blk_below (g := gb255) (o := .cells #[.int .i64 ((rd_T23 l0_2 x117_4).f0), .int .i64 ((rd_T23 l0_2 x117_4).f1), .int .i64 ((rd_T23 l0_2 x117_4).f2), .int .i64 ((rd_T23 l0_2 x117_4).f3)] 23 (0, 0)) (by (with_reducible repeat (first | apply bN | apply bD | apply bA)); exact BK255.out) hb)
                  have n5_ := Aside0.mk (below_step (by repeat (first | (with_reducible first | exact HB.out | apply below_alloc | apply pw_below_drewN | apply below_drew1 | refine below_set ?_ GE232.out | refine below_set ?_ GE240.out | refine below_set ?_ GE255.out) | exact HB.out)) hb)
                  clear HO_241002
                  clear HO258
                  clear BK232
                  clear BK240
                  clear BK255
                  clear HB
                  have HO_241002 := n0_
                  have HO258 := n1_
                  have BK232 := n2_
                  have BK240 := n3_
                  have BK255 := n4_
                  have HB := n5_
                  clear n0_ n1_ n2_ n3_ n4_ n5_
                  (try clear hb)
                  (try clear hb2)
                  (try clear hk)
                  (try clear hi)
                  refine hK.out _ _ ⟨(blk_cell BK255.out 0).trans rfl, (blk_cell BK255.out 1).trans rfl, (blk_cell BK255.out 2).trans rfl, (blk_cell BK255.out 3).trans rfl⟩ (fun hHeld => ?_)
                  clear hK K
                  refine norm_ (a' := ?_) ?_ ?_
                  rotate_left
                  ·show Act.put _ (some 137) _ = _
                   simp only [Act.put, List.setIfInBounds_toArray, List.set_cons_zero, List.set_cons_succ, i64_w, i32_w]
                   rfl
                  refine last_ (i := 5) (N := none) #[true, true, true, true, true, true] rfl rfl (by kernel_rfl) (by decide) (fun K hK => ?_)
                  have hs118 : w117.cell? ⟨gb255, 0, none⟩ = some (.int .i64 ((rd_T23 l0_2 x117_4).f0)) := (blk_cell BK255.out 0).trans rfl
                  have hfs118 := blk_frozen BK255.out 0
                  have hns118_0 := NB232_255.out
                  have hns118_1 := NB240_255.out
                  have hms118_0 := NB255_232.out
                  have hms118_1 := NB255_240.out
                  have hs119 : w117.cell? ⟨gb255, 1, none⟩ = some (.int .i64 ((rd_T23 l0_2 x117_4).f1)) := (blk_cell BK255.out 1).trans rfl
                  have hfs119 := blk_frozen BK255.out 1
                  have hns119_0 := NB232_255.out
                  have hns119_1 := NB240_255.out
                  have hms119_0 := NB255_232.out
                  have hms119_1 := NB255_240.out
                  have hs120 : w117.cell? ⟨gb255, 2, none⟩ = some (.int .i64 ((rd_T23 l0_2 x117_4).f2)) := (blk_cell BK255.out 2).trans rfl
                  have hfs120 := blk_frozen BK255.out 2
                  have hns120_0 := NB232_255.out
                  have hns120_1 := NB240_255.out
                  have hms120_0 := NB255_232.out
                  have hms120_1 := NB255_240.out
                  have hs121 : w117.cell? ⟨gb255, 3, none⟩ = some (.int .i64 ((rd_T23 l0_2 x117_4).f3)) := (blk_cell BK255.out 3).trans rfl
                  have hfs121 := blk_frozen BK255.out 3
                  have hns121_0 := NB232_255.out
                  have hns121_1 := NB240_255.out
                  have hms121_0 := NB255_232.out
                  have hms121_1 := NB255_240.out
                  refine skip_ (w1 := ?_) (by rfl) rfl ?_ ?_
                  rotate_left
                  ·go_simp
                   rfl
                  refine hK.out _ _ ?_
                  clear hK K
                  refine done_ (by kernel_rfl) ?_
                  try go_wp2
                  go_meet
                  case rel => exact ⟨_, (t259), (t260), (t261), (t262), H', ⟨by have := HJ5.out; have := HJ30.out; have := HJ82.out; have := HK4.out; first | omega | exact Nat.le_refl _⟩, ⟨by (with_reducible repeat (first | apply Kd.R_alloc | apply Kd.R_drewN | apply Kd.R_drew)); exact Kd.R_mono (Kd.R_far (p := ⟨gb255, 3, none⟩) (Kd.R_far (p := ⟨gb255, 2, none⟩) (Kd.R_far (p := ⟨gb255, 1, none⟩) (Kd.R_far (p := ⟨gb255, 0, none⟩) (Kd.R_mono HO_241002.out (fun k_ hk => (⟨hk, hk⟩ : _ ∧ k_ ≠ gb255))) (fun _ hk => hk.2) (.int .i64 t259)) (fun _ hk => hk.2) (.int .i64 t260)) (fun _ hk => hk.2) (.int .i64 t261)) (fun _ hk => hk.2) (.int .i64 t262)) (fun _ hk => hk.1)⟩, ⟨by (with_reducible repeat (first | apply bN | apply bD | apply bA)); refine blk_far ?_ NB232_255.out _; (with_reducible repeat (first | apply bN | apply bD | apply bA)); refine blk_far ?_ NB232_255.out _; (with_reducible repeat (first | apply bN | apply bD | apply bA)); refine blk_far ?_ NB232_255.out _; (with_reducible repeat (first | apply bN | apply bD | apply bA)); refine blk_far ?_ NB232_255.out _; (with_reducible repeat (first | apply bN | apply bD | apply bA)); exact BK232.out⟩, ⟨by (with_reducible repeat (first | apply bN | apply bD | apply bA)); refine blk_far ?_ NB240_255.out _; (with_reducible repeat (first | apply bN | apply bD | apply bA)); refine blk_far ?_ NB240_255.out _; (with_reducible repeat (first | apply bN | apply bD | apply bA)); refine blk_far ?_ NB240_255.out _; (with_reducible repeat (first | apply bN | apply bD | apply bA)); refine blk_far ?_ NB240_255.out _; (with_reducible repeat (first | apply bN | apply bD | apply bA)); exact BK240.out⟩, ⟨by (with_reducible repeat (first | apply bN | apply bD | apply bA)); refine blk_put (cs := #[.int .i64 t259, .int .i64 t260, .int .i64 t261, .int .i64 ((rd_T23 l0_2 x117_4).f3)]) ?_ 3 _ rfl; (with_reducible repeat (first | apply bN | apply bD | apply bA)); refine blk_put (cs := #[.int .i64 t259, .int .i64 t260, .int .i64 ((rd_T23 l0_2 x117_4).f2), .int .i64 ((rd_T23 l0_2 x117_4).f3)]) ?_ 2 _ rfl; (with_reducible repeat (first | apply bN | apply bD | apply bA)); refine blk_put (cs := #[.int .i64 t259, .int .i64 ((rd_T23 l0_2 x117_4).f1), .int .i64 ((rd_T23 l0_2 x117_4).f2), .int .i64 ((rd_T23 l0_2 x117_4).f3)]) ?_ 1 _ rfl; (with_reducible repeat (first | apply bN | apply bD | apply bA)); refine blk_put (cs := #[.int .i64 ((rd_T23 l0_2 x117_4).f0), .int .i64 ((rd_T23 l0_2 x117_4).f1), .int .i64 ((rd_T23 l0_2 x117_4).f2), .int .i64 ((rd_T23 l0_2 x117_4).f3)]) ?_ 0 _ rfl; (with_reducible repeat (first | apply bN | apply bD | apply bA)); exact BK255.out⟩, ⟨by repeat (first | (with_reducible first | exact HB.out | apply below_alloc | apply pw_below_drewN | apply below_drew1 | refine below_set ?_ GE232.out | refine below_set ?_ GE240.out | refine below_set ?_ GE255.out) | exact HB.out)⟩⟩
                 ·rw [if_neg c110] at H
                  have c110b0 : (x117_4 == (wrap64 ((wrap64 (a2 * a0_0)) + a1))) = false := beq_eq_false_iff_ne.mpr c110
                  have c110b1 : (x117_4 != (wrap64 ((wrap64 (a2 * a0_0)) + a1))) = true := bne_iff_ne.mpr c110
                  (first | rw [c110b0] | (simp only [i64_w, i32_w]; rw [c110b0]) | skip)
                  have H' := Aside0.mk H
                  clear H
                  go_wp2
                  go_meet
                  case rel => exact ⟨_, ((rd_T23 l0_2 x117_4).f0), ((rd_T23 l0_2 x117_4).f1), ((rd_T23 l0_2 x117_4).f2), ((rd_T23 l0_2 x117_4).f3), H', ⟨by have := HJ5.out; have := HJ30.out; have := HJ82.out; have := HK4.out; first | omega | exact Nat.le_refl _⟩, ⟨by (with_reducible repeat (first | apply Kd.R_alloc | apply Kd.R_drewN | apply Kd.R_drew)); exact Kd.R_mono (Kd.R_far (p := ⟨gb255, 3, none⟩) (Kd.R_far (p := ⟨gb255, 2, none⟩) (Kd.R_far (p := ⟨gb255, 1, none⟩) (Kd.R_far (p := ⟨gb255, 0, none⟩) (Kd.R_mono HO_241002.out (fun k_ hk => (⟨hk, hk.2⟩ : _ ∧ k_ ≠ gb255))) (fun _ hk => hk.2) (.int .i64 ((rd_T23 l0_2 x117_4).f0))) (fun _ hk => hk.2) (.int .i64 ((rd_T23 l0_2 x117_4).f1))) (fun _ hk => hk.2) (.int .i64 ((rd_T23 l0_2 x117_4).f2))) (fun _ hk => hk.2) (.int .i64 ((rd_T23 l0_2 x117_4).f3))) (fun _ hk => hk.1.2)⟩, ⟨by (with_reducible repeat (first | apply bN | apply bD | apply bA)); refine blk_far ?_ NB232_255.out _; (with_reducible repeat (first | apply bN | apply bD | apply bA)); refine blk_far ?_ NB232_255.out _; (with_reducible repeat (first | apply bN | apply bD | apply bA)); refine blk_far ?_ NB232_255.out _; (with_reducible repeat (first | apply bN | apply bD | apply bA)); refine blk_far ?_ NB232_255.out _; (with_reducible repeat (first | apply bN | apply bD | apply bA)); exact BK232.out⟩, ⟨by (with_reducible repeat (first | apply bN | apply bD | apply bA)); refine blk_far ?_ NB240_255.out _; (with_reducible repeat (first | apply bN | apply bD | apply bA)); refine blk_far ?_ NB240_255.out _; (with_reducible repeat (first | apply bN | apply bD | apply bA)); refine blk_far ?_ NB240_255.out _; (with_reducible repeat (first | apply bN | apply bD | apply bA)); refine blk_far ?_ NB240_255.out _; (with_reducible repeat (first | apply bN | apply bD | apply bA)); exact BK240.out⟩, ⟨by (with_reducible repeat (first | apply bN | apply bD | apply bA)); refine blk_put (cs := #[.int .i64 ((rd_T23 l0_2 x117_4).f0), .int .i64 ((rd_T23 l0_2 x117_4).f1), .int .i64 ((rd_T23 l0_2 x117_4).f2), .int .i64 0]) ?_ 3 _ rfl; (with_reducible repeat (first | apply bN | apply bD | apply bA)); refine blk_put (cs := #[.int .i64 ((rd_T23 l0_2 x117_4).f0), .int .i64 ((rd_T23 l0_2 x117_4).f1), .int .i64 0, .int .i64 0]) ?_ 2 _ rfl; (with_reducible repeat (first | apply bN | apply bD | apply bA)); refine blk_put (cs := #[.int .i64 ((rd_T23 l0_2 x117_4).f0), .int .i64 0, .int .i64 0, .int .i64 0]) ?_ 1 _ rfl; (with_reducible repeat (first | apply bN | apply bD | apply bA)); refine blk_put (cs := #[.int .i64 0, .int .i64 0, .int .i64 0, .int .i64 0]) ?_ 0 _ rfl; (with_reducible repeat (first | apply bN | apply bD | apply bA)); exact BK255.out⟩, ⟨by repeat (first | (with_reducible first | exact HB.out | apply below_alloc | apply pw_below_drewN | apply below_drew1 | refine below_set ?_ GE232.out | refine below_set ?_ GE240.out | refine below_set ?_ GE255.out) | exact HB.out)⟩⟩
                case rest =>
                 clear HC102
                 try clear c1
                 try clear c2
                 try clear p2
                 try clear q2
                 try clear hx2
                 try clear c3
                 try clear c4
                 try clear c5
                 try clear c6
                 try clear p6
                 try clear c7
                 try clear c8
                 try clear c8b0
                 try clear c8b1
                 try clear c9
                 try clear c10
                 try clear c11
                 try clear c12
                 try clear c16
                 try clear c18
                 try clear c18b0
                 try clear c18b1
                 try clear c18b2
                 try clear c19
                 try clear c20
                 try clear c21
                 try clear c22
                 try clear p25
                 try clear q25
                 try clear hx25
                 try clear c35
                 try clear c44
                 try clear c45
                 try clear c45b0
                 try clear c46
                 try clear c46b0
                 try clear c47
                 try clear c49
                 try clear c49b0
                 try clear c50
                 try clear c52
                 try clear c52b0
                 try clear c53
                 try clear c57
                 try clear c58
                 try clear c58b0
                 try clear c59
                 try clear c64
                 try clear p64
                 try clear c69
                 try clear c74
                 try clear c75
                 try clear c75b0
                 try clear c75b1
                 try clear c76
                 try clear c76b0
                 try clear c76b1
                 try clear c76b2
                 try clear c78
                 try clear c81
                 try clear c84
                 try clear c84b0
                 try clear c84b1
                 try clear c85
                 try clear c85b0
                 try clear c85b1
                 try clear c86
                 try clear c86b0
                 try clear c86b1
                 try clear c87
                 try clear c90
                 try clear c93
                 try clear c96
                 try clear c97
                 try clear c99
                 try clear c99b0
                 try clear c100
                 try clear c100b0
                 try clear c101
                 try clear c101b0
                 try clear c103
                 try clear c106
                 try clear c107
                 try clear c110
                 try clear c110b0
                 try clear c110b1
                 try clear hcz104_0
                 try clear hcz104_1
                 try clear hcz104_2
                 try clear hcz108_0
                 try clear hcz108_1
                 try clear hcz108_2
                 try clear hcz108_3
                 try clear hcz109_0
                 try clear hcz109_1
                 try clear hcz109_2
                 try clear hcz10_0
                 try clear hcz10_1
                 try clear hcz10_2
                 try clear hcz19_0
                 try clear hcz19_1
                 try clear hcz19_2
                 try clear hcz23_0
                 try clear hcz23_1
                 try clear hcz23_2
                 try clear hcz25_0
                 try clear hcz25_1
                 try clear hcz25_2
                 try clear hcz29_0
                 try clear hcz29_1
                 try clear hcz29_2
                 try clear hcz32_0
                 try clear hcz32_1
                 try clear hcz32_2
                 try clear hcz36_0
                 try clear hcz36_1
                 try clear hcz36_2
                 try clear hcz38_0
                 try clear hcz38_1
                 try clear hcz38_2
                 try clear hcz42_0
                 try clear hcz42_1
                 try clear hcz42_2
                 try clear hcz48_0
                 try clear hcz48_1
                 try clear hcz48_2
                 try clear hcz51_0
                 try clear hcz51_1
                 try clear hcz51_2
                 try clear hcz54_0
                 try clear hcz54_1
                 try clear hcz54_2
                 try clear hcz60_0
                 try clear hcz60_1
                 try clear hcz60_2
                 try clear hcz65_0
                 try clear hcz65_1
                 try clear hcz65_2
                 try clear hcz70_0
                 try clear hcz70_1
                 try clear hcz70_2
                 try clear hcz79_0
                 try clear hcz79_1
                 try clear hcz79_2
                 try clear hcz82_0
                 try clear hcz82_1
                 try clear hcz82_2
                 try clear hcz88_0
                 try clear hcz88_1
                 try clear hcz88_2
                 try clear hcz89_0
                 try clear hcz89_1
                 try clear hcz89_2
                 try clear hcz91_0
                 try clear hcz91_1
                 try clear hcz91_2
                 try clear hcz92_0
                 try clear hcz92_1
                 try clear hcz92_2
                 try clear hcz94_0
                 try clear hcz94_1
                 try clear hcz94_2
                 try clear hcz95_0
                 try clear hcz95_1
                 try clear hcz95_2
                 try clear hcz98_0
                 try clear hcz98_1
                 try clear hcz98_2
                 try clear hcz9_0
                 try clear hcz9_1
                 try clear hcz9_2
                 try clear hfz104_0
                 try clear hfz104_1
                 try clear hfz104_2
                 try clear hfz108_0
                 try clear hfz108_1
                 try clear hfz108_2
                 try clear hfz108_3
                 try clear hfz109_0
                 try clear hfz109_1
                 try clear hfz109_2
                 try clear hfz10_0
                 try clear hfz10_1
                 try clear hfz10_2
                 try clear hfz19_0
                 try clear hfz19_1
                 try clear hfz19_2
                 try clear hfz23_0
                 try clear hfz23_1
                 try clear hfz23_2
                 try clear hfz25_0
                 try clear hfz25_1
                 try clear hfz25_2
                 try clear hfz29_0
                 try clear hfz29_1
                 try clear hfz29_2
                 try clear hfz32_0
                 try clear hfz32_1
                 try clear hfz32_2
                 try clear hfz36_0
                 try clear hfz36_1
                 try clear hfz36_2
                 try clear hfz38_0
                 try clear hfz38_1
                 try clear hfz38_2
                 try clear hfz42_0
                 try clear hfz42_1
                 try clear hfz42_2
                 try clear hfz48_0
                 try clear hfz48_1
                 try clear hfz48_2
                 try clear hfz51_0
                 try clear hfz51_1
                 try clear hfz51_2
                 try clear hfz54_0
                 try clear hfz54_1
                 try clear hfz54_2
                 try clear hfz60_0
                 try clear hfz60_1
                 try clear hfz60_2
                 try clear hfz65_0
                 try clear hfz65_1
                 try clear hfz65_2
                 try clear hfz70_0
                 try clear hfz70_1
                 try clear hfz70_2
                 try clear hfz79_0
                 try clear hfz79_1
                 try clear hfz79_2
                 try clear hfz82_0
                 try clear hfz82_1
                 try clear hfz82_2
                 try clear hfz88_0
                 try clear hfz88_1
                 try clear hfz88_2
                 try clear hfz89_0
                 try clear hfz89_1
                 try clear hfz89_2
                 try clear hfz91_0
                 try clear hfz91_1
                 try clear hfz91_2
                 try clear hfz92_0
                 try clear hfz92_1
                 try clear hfz92_2
                 try clear hfz94_0
                 try clear hfz94_1
                 try clear hfz94_2
                 try clear hfz95_0
                 try clear hfz95_1
                 try clear hfz95_2
                 try clear hfz98_0
                 try clear hfz98_1
                 try clear hfz98_2
                 try clear hfz9_0
                 try clear hfz9_1
                 try clear hfz9_2
                 try clear hx254_0
                 try clear hx254_1
                 try clear hx254_2
                 try clear hx254_3
                 try clear p2
                 try clear p254
                 try clear q254
                 obtain ⟨kq, x256000_101, x256001_101, x256002_101, x256003_101, HA, HJ101, HO_241002, BK232, BK240, BK255, HB⟩ := hcut
                 cases kq with
                 |zero => exact absurd HA.out (by simp [celluloidlaw21_CanvasLays.j4])
                 |succ kj101 =>
                  have H := HA.out
                  clear HA
                  simp only [celluloidlaw21_CanvasLays.j4] at H
                  by_cases c122 : 0 ≤ x117_4
                  ·rw [if_pos c122] at H
                   have c122b0 : decide (0 ≤ x117_4) = true := decide_eq_true c122
                   clear c122
                   by_cases c123 : x117_4 < (t236.length : Int)
                   ·rw [if_pos c123] at H
                    have c123b0 : decide (x117_4 < (t236.length : Int)) = true := decide_eq_true c123
                    clear c123
                    by_cases c124 : (!(((rd_T23 t236 x117_4).f0) == x256000_101) || (!(((rd_T23 t236 x117_4).f1) == x256001_101) || (!(((rd_T23 t236 x117_4).f2) == x256002_101) || (!(((rd_T23 t236 x117_4).f3) == x256003_101))))) = true
                    ·rw [if_pos c124] at H
                     have c124b0 : (!(((rd_T23 t236 x117_4).f0) == x256000_101) || (!(((rd_T23 t236 x117_4).f1) == x256001_101) || (!(((rd_T23 t236 x117_4).f2) == x256002_101) || (!(((rd_T23 t236 x117_4).f3) == x256003_101))))) = true := c124
                     clear c124
                     first
                     |exact absurd (Option.some.inj H) (by rw [hr_.out]; decide)
                     |obtain rfl := Option.some.inj H
                      try go_wp2
                      have n0_ := Aside0.mk (Kd.R_drew HO_241002.out)
                      have n1_ := Aside0.mk (blk_drew BK232.out)
                      have n2_ := Aside0.mk (blk_drew BK240.out)
                      have n3_ := Aside0.mk (blk_drew BK255.out)
                      have n4_ := Aside0.mk (below_drew1 HB.out)
                      clear HO_241002
                      clear BK232
                      clear BK240
                      clear BK255
                      clear HB
                      have HO_241002 := n0_
                      have BK232 := n1_
                      have BK240 := n2_
                      have BK255 := n3_
                      have HB := n4_
                      clear n0_ n1_ n2_ n3_ n4_
                      have p263 : 0 ≤ (x117_4 : Int) := of_decide_eq_true (by first | (with_reducible assumption) | assumption)
                      have q263 : x117_4 < (t236.length : Int) := of_decide_eq_true (by first | (with_reducible assumption) | assumption)
                      obtain ⟨ad263, e263, hx263_0, hx263_1, hx263_2, hx263_3⟩ := at_T23 (Kd.R_reads' HO_241002.out).2.2 x117_4 p263 q263
                      cases e263
                      replace p263 := eq_true p263
                      replace q263 := eq_true q263
                      refine start_ (n := 21) (S := fun w' => w'.cell? ⟨gb240, 0, none⟩ = some (.int .i64 t234) ∧ w'.cell? ⟨gb240, 1, none⟩ = some (.int .i64 t235) ∧ w'.cell? ⟨gb240, 2, none⟩ = some (.slice (some ad263) t236.length co37) ∧ w'.cell? ⟨gb255, 0, none⟩ = some (.int .i64 x256000_101) ∧ w'.cell? ⟨gb255, 1, none⟩ = some (.int .i64 x256001_101) ∧ w'.cell? ⟨gb255, 2, none⟩ = some (.int .i64 x256002_101) ∧ w'.cell? ⟨gb255, 3, none⟩ = some (.int .i64 x256003_101) ∧ w'.cell? (ad263.add ((x117_4).toNat * 4)) = some (.int .i64 ((rd_T23 t236 x117_4).f0)) ∧ w'.cell? ⟨(ad263.add ((x117_4).toNat * 4)).block, (ad263.add ((x117_4).toNat * 4)).off + 1, none⟩ = some (.int .i64 ((rd_T23 t236 x117_4).f1)) ∧ w'.cell? ⟨(ad263.add ((x117_4).toNat * 4)).block, (ad263.add ((x117_4).toNat * 4)).off + 2, none⟩ = some (.int .i64 ((rd_T23 t236 x117_4).f2)) ∧ w'.cell? ⟨(ad263.add ((x117_4).toNat * 4)).block, (ad263.add ((x117_4).toNat * 4)).off + 3, none⟩ = some (.int .i64 ((rd_T23 t236 x117_4).f3))) (ds := []) #[false, false, false, false, false, false, false, false, false, false, false, false, false, false, false, false, false, false, false, false, false] (by kernel_rfl) rfl rfl ⟨(blk_cell BK240.out 0).trans rfl, (blk_cell BK240.out 1).trans rfl, (blk_cell BK240.out 2).trans rfl, (blk_cell BK255.out 0).trans rfl, (blk_cell BK255.out 1).trans rfl, (blk_cell BK255.out 2).trans rfl, (blk_cell BK255.out 3).trans rfl, hx263_0, hx263_1, hx263_2, hx263_3⟩ (fun hHeld => ?_); refine with_tabW celluloidlaw21_CanvasLays.tab17 celluloidlaw21_CanvasLays.bits17 (fun HT_ HW_ => ?_)
                      generalize wc.drew = w125 at HO_241002 BK232 BK240 BK255 HB hx263_0 hx263_1 hx263_2 hx263_3 hHeld ⊢
                      refine pure_ (i := 0) (N := some 138) (v := ?_) (a' := ?_) #[true, false, false, false, false, false, false, false, false, false, false, false, false, false, false, false, false, false, false, false, false] rfl rfl (any_of HT_.out (by kernel_rfl)) (fun _ _ _ h => h) (Or.inl ⟨by rfl, ?_⟩) ?_ ?_
                      rotate_left
                      ·intro w'
                       go_simp
                       with_reducible rfl
                      rotate_left
                      ·simp only [Act.put, List.setIfInBounds_toArray, List.set_cons_zero, List.set_cons_succ, i64_w, i32_w]
                       rfl
                      refine pure_ (i := 2) (N := some 140) (v := ?_) (a' := ?_) #[true, false, true, false, false, false, false, false, false, false, false, false, false, false, false, false, false, false, false, false, false] rfl rfl (any_of HT_.out (by kernel_rfl)) (fun _ _ _ h => h) (Or.inl ⟨by rfl, ?_⟩) ?_ ?_
                      rotate_left
                      ·intro w'
                       go_simp
                       with_reducible rfl
                      rotate_left
                      ·simp only [Act.put, List.setIfInBounds_toArray, List.set_cons_zero, List.set_cons_succ, i64_w, i32_w]
                       rfl
                      refine take_ (i := 1) (N := some 139) (v := ?_) (a' := ?_) #[true, true, true, false, false, false, false, false, false, false, false, false, false, false, false, false, false, false, false, false, false] rfl rfl (take_ofW HT_.out HW_.out (by kernel_rfl)) (fun _ _ _ h => h) (Or.inl ⟨by rfl, ?_⟩) hHeld ?_ ?_
                      rotate_left
                      ·rintro w' ⟨s0, s1, s2, s3, s4, s5, s6, s7, s8, s9, s10⟩
                       go_simp
                       with_reducible rfl
                      rotate_left
                      ·simp only [Act.put, List.setIfInBounds_toArray, List.set_cons_zero, List.set_cons_succ, i64_w, i32_w]
                       rfl
                      refine pure_ (i := 3) (N := some 141) (v := ?_) (a' := ?_) #[true, true, true, true, false, false, false, false, false, false, false, false, false, false, false, false, false, false, false, false, false] rfl rfl (any_of HT_.out (by kernel_rfl)) (fun _ _ _ h => h) (Or.inl ⟨by rfl, ?_⟩) ?_ ?_
                      rotate_left
                      ·intro w'
                       go_simp
                       with_reducible rfl
                      rotate_left
                      ·simp only [Act.put, List.setIfInBounds_toArray, List.set_cons_zero, List.set_cons_succ, i64_w, i32_w]
                       rfl
                      refine take_ (i := 4) (N := some 142) (v := ?_) (a' := ?_) #[true, true, true, true, true, false, false, false, false, false, false, false, false, false, false, false, false, false, false, false, false] rfl rfl (take_ofW HT_.out HW_.out (by kernel_rfl)) (fun _ _ _ h => h) (Or.inl ⟨by rfl, ?_⟩) hHeld ?_ ?_
                      rotate_left
                      ·rintro w' ⟨s0, s1, s2, s3, s4, s5, s6, s7, s8, s9, s10⟩
                       go_simp
                       with_reducible rfl
                      rotate_left
                      ·simp only [Act.put, List.setIfInBounds_toArray, List.set_cons_zero, List.set_cons_succ, i64_w, i32_w]
                       rfl
                      refine take_ (i := 5) (N := some 143) (v := ?_) (a' := ?_) #[true, true, true, true, true, true, false, false, false, false, false, false, false, false, false, false, false, false, false, false, false] rfl rfl (take_ofW HT_.out HW_.out (by kernel_rfl)) (fun _ _ _ h => h) (Or.inl ⟨by rfl, ?_⟩) hHeld ?_ ?_
                      rotate_left
                      ·rintro w' ⟨s0, s1, s2, s3, s4, s5, s6, s7, s8, s9, s10⟩
                       go_simp
                       with_reducible rfl
                      rotate_left
                      ·simp only [Act.put, List.setIfInBounds_toArray, List.set_cons_zero, List.set_cons_succ, i64_w, i32_w]
                       rfl
                      refine pure_ (i := 6) (N := some 144) (v := ?_) (a' := ?_) #[true, true, true, true, true, true, true, false, false, false, false, false, false, false, false, false, false, false, false, false, false] rfl rfl (any_of HT_.out (by kernel_rfl)) (fun _ _ _ h => h) (Or.inl ⟨by rfl, ?_⟩) ?_ ?_
                      rotate_left
                      ·intro w'
                       go_simp
                       with_reducible rfl
                      rotate_left
                      ·simp only [Act.put, List.setIfInBounds_toArray, List.set_cons_zero, List.set_cons_succ, i64_w, i32_w]
                       rfl
                      refine pure_ (i := 7) (N := some 145) (v := ?_) (a' := ?_) #[true, true, true, true, true, true, true, true, false, false, false, false, false, false, false, false, false, false, false, false, false] rfl rfl (any_of HT_.out (by kernel_rfl)) (fun _ _ _ h => h) (Or.inl ⟨by rfl, ?_⟩) ?_ ?_
                      rotate_left
                      ·intro w'
                       go_simp
                       with_reducible rfl
                      rotate_left
                      ·simp only [Act.put, List.setIfInBounds_toArray, List.set_cons_zero, List.set_cons_succ, i64_w, i32_w]
                       rfl
                      refine pure_ (i := 8) (N := some 146) (v := undef) (a' := ?_) #[true, true, true, true, true, true, true, true, true, false, false, false, false, false, false, false, false, false, false, false, false] rfl rfl (any_of HT_.out (by kernel_rfl)) (fun _ _ _ h => h) (Or.inr ⟨by rfl, rfl⟩) ?_ ?_
                      rotate_left
                      ·simp only [Act.put, List.setIfInBounds_toArray, List.set_cons_zero, List.set_cons_succ, i64_w, i32_w]
                       rfl
                      refine pure_ (i := 9) (N := some 147) (v := undef) (a' := ?_) #[true, true, true, true, true, true, true, true, true, true, false, false, false, false, false, false, false, false, false, false, false] rfl rfl (any_of HT_.out (by kernel_rfl)) (fun _ _ _ h => h) (Or.inr ⟨by rfl, rfl⟩) ?_ ?_
                      rotate_left
                      ·simp only [Act.put, List.setIfInBounds_toArray, List.set_cons_zero, List.set_cons_succ, i64_w, i32_w]
                       rfl
                      refine pure_ (i := 10) (N := some 148) (v := undef) (a' := ?_) #[true, true, true, true, true, true, true, true, true, true, true, false, false, false, false, false, false, false, false, false, false] rfl rfl (any_of HT_.out (by kernel_rfl)) (fun _ _ _ h => h) (Or.inr ⟨by rfl, rfl⟩) ?_ ?_
                      rotate_left
                      ·simp only [Act.put, List.setIfInBounds_toArray, List.set_cons_zero, List.set_cons_succ, i64_w, i32_w]
                       rfl
                      refine pure_ (i := 11) (N := some 149) (v := undef) (a' := ?_) #[true, true, true, true, true, true, true, true, true, true, true, true, false, false, false, false, false, false, false, false, false] rfl rfl (any_of HT_.out (by kernel_rfl)) (fun _ _ _ h => h) (Or.inr ⟨by rfl, rfl⟩) ?_ ?_
                      rotate_left
                      ·simp only [Act.put, List.setIfInBounds_toArray, List.set_cons_zero, List.set_cons_succ, i64_w, i32_w]
                       rfl
                      refine pure_ (i := 12) (N := some 150) (v := undef) (a' := ?_) #[true, true, true, true, true, true, true, true, true, true, true, true, true, false, false, false, false, false, false, false, false] rfl rfl (any_of HT_.out (by kernel_rfl)) (fun _ _ _ h => h) (Or.inr ⟨by rfl, rfl⟩) ?_ ?_
                      rotate_left
                      ·simp only [Act.put, List.setIfInBounds_toArray, List.set_cons_zero, List.set_cons_succ, i64_w, i32_w]
                       rfl
                      refine pure_ (i := 13) (N := some 151) (v := undef) (a' := ?_) #[true, true, true, true, true, true, true, true, true, true, true, true, true, true, false, false, false, false, false, false, false] rfl rfl (any_of HT_.out (by kernel_rfl)) (fun _ _ _ h => h) (Or.inr ⟨by rfl, rfl⟩) ?_ ?_
                      rotate_left
                      ·simp only [Act.put, List.setIfInBounds_toArray, List.set_cons_zero, List.set_cons_succ, i64_w, i32_w]
                       rfl
                      refine pure_ (i := 14) (N := some 152) (v := undef) (a' := ?_) #[true, true, true, true, true, true, true, true, true, true, true, true, true, true, true, false, false, false, false, false, false] rfl rfl (any_of HT_.out (by kernel_rfl)) (fun _ _ _ h => h) (Or.inr ⟨by rfl, rfl⟩) ?_ ?_
                      rotate_left
                      ·simp only [Act.put, List.setIfInBounds_toArray, List.set_cons_zero, List.set_cons_succ, i64_w, i32_w]
                       rfl
                      refine pure_ (i := 15) (N := some 153) (v := undef) (a' := ?_) #[true, true, true, true, true, true, true, true, true, true, true, true, true, true, true, true, false, false, false, false, false] rfl rfl (any_of HT_.out (by kernel_rfl)) (fun _ _ _ h => h) (Or.inr ⟨by rfl, rfl⟩) ?_ ?_
                      rotate_left
                      ·simp only [Act.put, List.setIfInBounds_toArray, List.set_cons_zero, List.set_cons_succ, i64_w, i32_w]
                       rfl
                      refine pure_ (i := 16) (N := some 154) (v := undef) (a' := ?_) #[true, true, true, true, true, true, true, true, true, true, true, true, true, true, true, true, true, false, false, false, false] rfl rfl (any_of HT_.out (by kernel_rfl)) (fun _ _ _ h => h) (Or.inr ⟨by rfl, rfl⟩) ?_ ?_
                      rotate_left
                      ·simp only [Act.put, List.setIfInBounds_toArray, List.set_cons_zero, List.set_cons_succ, i64_w, i32_w]
                       rfl
                      refine pure_ (i := 17) (N := some 155) (v := undef) (a' := ?_) #[true, true, true, true, true, true, true, true, true, true, true, true, true, true, true, true, true, true, false, false, false] rfl rfl (any_of HT_.out (by kernel_rfl)) (fun _ _ _ h => h) (Or.inr ⟨by rfl, rfl⟩) ?_ ?_
                      rotate_left
                      ·simp only [Act.put, List.setIfInBounds_toArray, List.set_cons_zero, List.set_cons_succ, i64_w, i32_w]
                       rfl
                      refine pure_ (i := 18) (N := some 156) (v := undef) (a' := ?_) #[true, true, true, true, true, true, true, true, true, true, true, true, true, true, true, true, true, true, true, false, false] rfl rfl (any_of HT_.out (by kernel_rfl)) (fun _ _ _ h => h) (Or.inr ⟨by rfl, rfl⟩) ?_ ?_
                      rotate_left
                      ·simp only [Act.put, List.setIfInBounds_toArray, List.set_cons_zero, List.set_cons_succ, i64_w, i32_w]
                       rfl
                      refine pure_ (i := 19) (N := some 157) (v := undef) (a' := ?_) #[true, true, true, true, true, true, true, true, true, true, true, true, true, true, true, true, true, true, true, true, false] rfl rfl (any_of HT_.out (by kernel_rfl)) (fun _ _ _ h => h) (Or.inr ⟨by rfl, rfl⟩) ?_ ?_
                      rotate_left
                      ·simp only [Act.put, List.setIfInBounds_toArray, List.set_cons_zero, List.set_cons_succ, i64_w, i32_w]
                       rfl
                      refine pure_ (i := 20) (N := some 158) (v := ?_) (a' := ?_) #[true, true, true, true, true, true, true, true, true, true, true, true, true, true, true, true, true, true, true, true, true] rfl rfl (any_of HT_.out (by kernel_rfl)) (fun _ _ _ h => h) (Or.inl ⟨by rfl, ?_⟩) ?_ ?_
                      rotate_left
                      ·intro w'
                       go_simp
                       with_reducible rfl
                      rotate_left
                      ·simp only [Act.put, List.setIfInBounds_toArray, List.set_cons_zero, List.set_cons_succ, i64_w, i32_w]
                       rfl
                      refine done_ (done_of HT_.out (by kernel_rfl)) ?_
                      try go_wp2
                      go_ret
                      exact ⟨by first | rfl | (simp [errW_none, errW_some] <;> rfl) | (simp [*, errW_none, errW_some] <;> rfl), by repeat (first | (with_reducible first | exact HB.out | apply below_alloc | apply pw_below_drewN | apply below_drew1 | refine below_set ?_ GE232.out | refine below_set ?_ GE240.out | refine below_set ?_ GE255.out) | exact HB.out)⟩
                    ·rw [if_neg c124] at H
                     have c124b0 : (!(((rd_T23 t236 x117_4).f0) == x256000_101) || (!(((rd_T23 t236 x117_4).f1) == x256001_101) || (!(((rd_T23 t236 x117_4).f2) == x256002_101) || (!(((rd_T23 t236 x117_4).f3) == x256003_101))))) = false := by simpa using c124
                     clear c124
                     by_cases c126 : a0_0 = 0
                     ·rw [if_pos c126] at H
                      exact absurd H (by simp)
                     ·rw [if_neg c126] at H
                      have c126b0 : (a0_0 == 0) = false := beq_eq_false_iff_ne.mpr c126
                      have c126b1 : (a0_0 != 0) = true := bne_iff_ne.mpr c126
                      replace H := Option.bind_eq_some_iff.mp H
                      obtain ⟨⟨t264, t265, t266, t267⟩, A1270, H⟩ := H
                      replace H : (if (!(t264 == x256000_101) || (!(t265 == x256001_101) || (!(t266 == x256002_101) || (!(t267 == x256003_101))))) = true then (some false) else (celluloidlaw21_CanvasLays.l0 kj101 a1 a2 l3 a4 (t236.length : Int) (wrap64 (x117_4 + 1)) a0_0 a0_1 l0_2 t234 t235 t236)) = some r := H
                      have A127 := Aside0.mk A1270
                      clear A1270
                      by_cases c128 : (!(t264 == x256000_101) || (!(t265 == x256001_101) || (!(t266 == x256002_101) || (!(t267 == x256003_101))))) = true
                      ·rw [if_pos c128] at H
                       have c128b0 : (!(t264 == x256000_101) || (!(t265 == x256001_101) || (!(t266 == x256002_101) || (!(t267 == x256003_101))))) = true := c128
                       clear c128
                       exact absurd (Option.some.inj H) (by rw [hr_.out]; decide)
                      ·rw [if_neg c128] at H
                       have c128b0 : (!(t264 == x256000_101) || (!(t265 == x256001_101) || (!(t266 == x256002_101) || (!(t267 == x256003_101))))) = false := by simpa using c128
                       clear c128
                       have H' := Aside0.mk H
                       clear H
                       try go_wp2
                       have n0_ := Aside0.mk (Kd.R_drew HO_241002.out)
                       have n1_ := Aside0.mk (blk_drew BK232.out)
                       have n2_ := Aside0.mk (blk_drew BK240.out)
                       have n3_ := Aside0.mk (blk_drew BK255.out)
                       have n4_ := Aside0.mk (below_drew1 HB.out)
                       clear HO_241002
                       clear BK232
                       clear BK240
                       clear BK255
                       clear HB
                       have HO_241002 := n0_
                       have BK232 := n1_
                       have BK240 := n2_
                       have BK255 := n3_
                       have HB := n4_
                       clear n0_ n1_ n2_ n3_ n4_
                       have p263 : 0 ≤ (x117_4 : Int) := of_decide_eq_true (by first | (with_reducible assumption) | assumption)
                       have q263 : x117_4 < (t236.length : Int) := of_decide_eq_true (by first | (with_reducible assumption) | assumption)
                       obtain ⟨ad263, e263, hx263_0, hx263_1, hx263_2, hx263_3⟩ := at_T23 (Kd.R_reads' HO_241002.out).2.2 x117_4 p263 q263
                       cases e263
                       replace p263 := eq_true p263
                       replace q263 := eq_true q263
                       refine start_ (n := 21) (S := fun w' => w'.cell? ⟨gb240, 0, none⟩ = some (.int .i64 t234) ∧ w'.cell? ⟨gb240, 1, none⟩ = some (.int .i64 t235) ∧ w'.cell? ⟨gb240, 2, none⟩ = some (.slice (some ad263) t236.length co37) ∧ w'.cell? ⟨gb255, 0, none⟩ = some (.int .i64 x256000_101) ∧ w'.cell? ⟨gb255, 1, none⟩ = some (.int .i64 x256001_101) ∧ w'.cell? ⟨gb255, 2, none⟩ = some (.int .i64 x256002_101) ∧ w'.cell? ⟨gb255, 3, none⟩ = some (.int .i64 x256003_101) ∧ w'.cell? ⟨gb232, 0, none⟩ = some (.int .i64 a0_0) ∧ w'.cell? ⟨gb232, 1, none⟩ = some (.int .i64 a0_1) ∧ w'.cell? ⟨gb232, 2, none⟩ = some (.slice (some ad254) l0_2.length c0_2) ∧ w'.cell? (ad263.add ((x117_4).toNat * 4)) = some (.int .i64 ((rd_T23 t236 x117_4).f0)) ∧ w'.cell? ⟨(ad263.add ((x117_4).toNat * 4)).block, (ad263.add ((x117_4).toNat * 4)).off + 1, none⟩ = some (.int .i64 ((rd_T23 t236 x117_4).f1)) ∧ w'.cell? ⟨(ad263.add ((x117_4).toNat * 4)).block, (ad263.add ((x117_4).toNat * 4)).off + 2, none⟩ = some (.int .i64 ((rd_T23 t236 x117_4).f2)) ∧ w'.cell? ⟨(ad263.add ((x117_4).toNat * 4)).block, (ad263.add ((x117_4).toNat * 4)).off + 3, none⟩ = some (.int .i64 ((rd_T23 t236 x117_4).f3))) (ds := []) #[false, false, false, false, false, false, false, false, false, false, false, false, false, false, false, false, false, false, false, false, false] (by kernel_rfl) rfl rfl ⟨(blk_cell BK240.out 0).trans rfl, (blk_cell BK240.out 1).trans rfl, (blk_cell BK240.out 2).trans rfl, (blk_cell BK255.out 0).trans rfl, (blk_cell BK255.out 1).trans rfl, (blk_cell BK255.out 2).trans rfl, (blk_cell BK255.out 3).trans rfl, (blk_cell BK232.out 0).trans rfl, (blk_cell BK232.out 1).trans rfl, (blk_cell BK232.out 2).trans rfl, hx263_0, hx263_1, hx263_2, hx263_3⟩ (fun hHeld => ?_); refine with_tabW celluloidlaw21_CanvasLays.tab17 celluloidlaw21_CanvasLays.bits17 (fun HT_ HW_ => ?_)
                       generalize wc.drew = w131 at HO_241002 BK232 BK240 BK255 HB hx263_0 hx263_1 hx263_2 hx263_3 hHeld ⊢
                       refine pure_ (i := 0) (N := some 138) (v := ?_) (a' := ?_) #[true, false, false, false, false, false, false, false, false, false, false, false, false, false, false, false, false, false, false, false, false] rfl rfl (any_of HT_.out (by kernel_rfl)) (fun _ _ _ h => h) (Or.inl ⟨by rfl, ?_⟩) ?_ ?_
                       rotate_left
                       ·intro w'
                        go_simp
                        with_reducible rfl
                       rotate_left
                       ·simp only [Act.put, List.setIfInBounds_toArray, List.set_cons_zero, List.set_cons_succ, i64_w, i32_w]
                        rfl
                       refine pure_ (i := 2) (N := some 140) (v := ?_) (a' := ?_) #[true, false, true, false, false, false, false, false, false, false, false, false, false, false, false, false, false, false, false, false, false] rfl rfl (any_of HT_.out (by kernel_rfl)) (fun _ _ _ h => h) (Or.inl ⟨by rfl, ?_⟩) ?_ ?_
                       rotate_left
                       ·intro w'
                        go_simp
                        with_reducible rfl
                       rotate_left
                       ·simp only [Act.put, List.setIfInBounds_toArray, List.set_cons_zero, List.set_cons_succ, i64_w, i32_w]
                        rfl
                       refine take_ (i := 1) (N := some 139) (v := ?_) (a' := ?_) #[true, true, true, false, false, false, false, false, false, false, false, false, false, false, false, false, false, false, false, false, false] rfl rfl (take_ofW HT_.out HW_.out (by kernel_rfl)) (fun _ _ _ h => h) (Or.inl ⟨by rfl, ?_⟩) hHeld ?_ ?_
                       rotate_left
                       ·rintro w' ⟨s0, s1, s2, s3, s4, s5, s6, s7, s8, s9, s10, s11, s12, s13⟩
                        go_simp
                        with_reducible rfl
                       rotate_left
                       ·simp only [Act.put, List.setIfInBounds_toArray, List.set_cons_zero, List.set_cons_succ, i64_w, i32_w]
                        rfl
                       refine pure_ (i := 3) (N := some 141) (v := ?_) (a' := ?_) #[true, true, true, true, false, false, false, false, false, false, false, false, false, false, false, false, false, false, false, false, false] rfl rfl (any_of HT_.out (by kernel_rfl)) (fun _ _ _ h => h) (Or.inl ⟨by rfl, ?_⟩) ?_ ?_
                       rotate_left
                       ·intro w'
                        go_simp
                        with_reducible rfl
                       rotate_left
                       ·simp only [Act.put, List.setIfInBounds_toArray, List.set_cons_zero, List.set_cons_succ, i64_w, i32_w]
                        rfl
                       refine take_ (i := 4) (N := some 142) (v := ?_) (a' := ?_) #[true, true, true, true, true, false, false, false, false, false, false, false, false, false, false, false, false, false, false, false, false] rfl rfl (take_ofW HT_.out HW_.out (by kernel_rfl)) (fun _ _ _ h => h) (Or.inl ⟨by rfl, ?_⟩) hHeld ?_ ?_
                       rotate_left
                       ·rintro w' ⟨s0, s1, s2, s3, s4, s5, s6, s7, s8, s9, s10, s11, s12, s13⟩
                        go_simp
                        with_reducible rfl
                       rotate_left
                       ·simp only [Act.put, List.setIfInBounds_toArray, List.set_cons_zero, List.set_cons_succ, i64_w, i32_w]
                        rfl
                       refine take_ (i := 5) (N := some 143) (v := ?_) (a' := ?_) #[true, true, true, true, true, true, false, false, false, false, false, false, false, false, false, false, false, false, false, false, false] rfl rfl (take_ofW HT_.out HW_.out (by kernel_rfl)) (fun _ _ _ h => h) (Or.inl ⟨by rfl, ?_⟩) hHeld ?_ ?_
                       rotate_left
                       ·rintro w' ⟨s0, s1, s2, s3, s4, s5, s6, s7, s8, s9, s10, s11, s12, s13⟩
                        go_simp
                        with_reducible rfl
                       rotate_left
                       ·simp only [Act.put, List.setIfInBounds_toArray, List.set_cons_zero, List.set_cons_succ, i64_w, i32_w]
                        rfl
                       refine pure_ (i := 6) (N := some 144) (v := ?_) (a' := ?_) #[true, true, true, true, true, true, true, false, false, false, false, false, false, false, false, false, false, false, false, false, false] rfl rfl (any_of HT_.out (by kernel_rfl)) (fun _ _ _ h => h) (Or.inl ⟨by rfl, ?_⟩) ?_ ?_
                       rotate_left
                       ·intro w'
                        go_simp
                        with_reducible rfl
                       rotate_left
                       ·simp only [Act.put, List.setIfInBounds_toArray, List.set_cons_zero, List.set_cons_succ, i64_w, i32_w]
                        rfl
                       refine pure_ (i := 7) (N := some 145) (v := ?_) (a' := ?_) #[true, true, true, true, true, true, true, true, false, false, false, false, false, false, false, false, false, false, false, false, false] rfl rfl (any_of HT_.out (by kernel_rfl)) (fun _ _ _ h => h) (Or.inl ⟨by rfl, ?_⟩) ?_ ?_
                       rotate_left
                       ·intro w'
                        go_simp
                        with_reducible rfl
                       rotate_left
                       ·simp only [Act.put, List.setIfInBounds_toArray, List.set_cons_zero, List.set_cons_succ, i64_w, i32_w]
                        rfl
                       refine pure_ (i := 9) (N := some 147) (v := ?_) (a' := ?_) #[true, true, true, true, true, true, true, true, false, true, false, false, false, false, false, false, false, false, false, false, false] rfl rfl (any_of HT_.out (by kernel_rfl)) (fun _ _ _ h => h) (Or.inl ⟨by rfl, ?_⟩) ?_ ?_
                       rotate_left
                       ·intro w'
                        go_simp
                        with_reducible rfl
                       rotate_left
                       ·simp only [Act.put, List.setIfInBounds_toArray, List.set_cons_zero, List.set_cons_succ, i64_w, i32_w]
                        rfl
                       refine pure_ (i := 10) (N := some 148) (v := ?_) (a' := ?_) #[true, true, true, true, true, true, true, true, false, true, true, false, false, false, false, false, false, false, false, false, false] rfl rfl (any_of HT_.out (by kernel_rfl)) (fun _ _ _ h => h) (Or.inl ⟨by rfl, ?_⟩) ?_ ?_
                       rotate_left
                       ·intro w'
                        go_simp
                        with_reducible rfl
                       rotate_left
                       ·simp only [Act.put, List.setIfInBounds_toArray, List.set_cons_zero, List.set_cons_succ, i64_w, i32_w]
                        rfl
                       refine pure_ (i := 13) (N := some 151) (v := ?_) (a' := ?_) #[true, true, true, true, true, true, true, true, false, true, true, false, false, true, false, false, false, false, false, false, false] rfl rfl (any_of HT_.out (by kernel_rfl)) (fun _ _ _ h => h) (Or.inl ⟨by rfl, ?_⟩) ?_ ?_
                       rotate_left
                       ·intro w'
                        go_simp
                        with_reducible rfl
                       rotate_left
                       ·simp only [Act.put, List.setIfInBounds_toArray, List.set_cons_zero, List.set_cons_succ, i64_w, i32_w]
                        rfl
                       refine pure_ (i := 14) (N := some 152) (v := ?_) (a' := ?_) #[true, true, true, true, true, true, true, true, false, true, true, false, false, true, true, false, false, false, false, false, false] rfl rfl (any_of HT_.out (by kernel_rfl)) (fun _ _ _ h => h) (Or.inl ⟨by rfl, ?_⟩) ?_ ?_
                       rotate_left
                       ·intro w'
                        go_simp
                        with_reducible rfl
                       rotate_left
                       ·simp only [Act.put, List.setIfInBounds_toArray, List.set_cons_zero, List.set_cons_succ, i64_w, i32_w]
                        rfl
                       refine take_ (i := 8) (N := some 146) (v := ?_) (a' := ?_) #[true, true, true, true, true, true, true, true, true, true, true, false, false, true, true, false, false, false, false, false, false] rfl rfl (take_ofW HT_.out HW_.out (by kernel_rfl)) (fun _ _ _ h => h) (Or.inl ⟨by rfl, ?_⟩) hHeld ?_ ?_
                       rotate_left
                       ·rintro w' ⟨s0, s1, s2, s3, s4, s5, s6, s7, s8, s9, s10, s11, s12, s13⟩
                        go_simp
                        with_reducible rfl
                       rotate_left
                       ·simp only [Act.put, List.setIfInBounds_toArray, List.set_cons_zero, List.set_cons_succ, i64_w, i32_w]
                        rfl
                       refine take_ (i := 11) (N := some 149) (v := ?_) (a' := ?_) #[true, true, true, true, true, true, true, true, true, true, true, true, false, true, true, false, false, false, false, false, false] rfl rfl (take_ofW HT_.out HW_.out (by kernel_rfl)) (fun _ _ _ h => h) (Or.inl ⟨by rfl, ?_⟩) hHeld ?_ ?_
                       rotate_left
                       ·rintro w' ⟨s0, s1, s2, s3, s4, s5, s6, s7, s8, s9, s10, s11, s12, s13⟩
                        go_simp
                        with_reducible rfl
                       rotate_left
                       ·simp only [Act.put, List.setIfInBounds_toArray, List.set_cons_zero, List.set_cons_succ, i64_w, i32_w]
                        rfl
                       refine pure_ (i := 12) (N := some 150) (v := ?_) (a' := ?_) #[true, true, true, true, true, true, true, true, true, true, true, true, true, true, true, false, false, false, false, false, false] rfl rfl (any_of HT_.out (by kernel_rfl)) (fun _ _ _ h => h) (Or.inl ⟨by rfl, ?_⟩) ?_ ?_
                       rotate_left
                       ·intro w'
                        go_simp
                        with_reducible rfl
                       rotate_left
                       ·simp only [Act.put, List.setIfInBounds_toArray, List.set_cons_zero, List.set_cons_succ, i64_w, i32_w]
                        rfl
                       refine take_ (i := 15) (N := some 153) (v := ?_) (a' := ?_) #[true, true, true, true, true, true, true, true, true, true, true, true, true, true, true, true, false, false, false, false, false] rfl rfl (take_ofW HT_.out HW_.out (by kernel_rfl)) (fun _ _ _ h => h) (Or.inl ⟨by rfl, ?_⟩) hHeld ?_ ?_
                       rotate_left
                       ·rintro w' ⟨s0, s1, s2, s3, s4, s5, s6, s7, s8, s9, s10, s11, s12, s13⟩
                        go_simp
                        with_reducible rfl
                       rotate_left
                       ·simp only [Act.put, List.setIfInBounds_toArray, List.set_cons_zero, List.set_cons_succ, i64_w, i32_w]
                        rfl
                       refine pure_ (i := 16) (N := some 154) (v := ?_) (a' := ?_) #[true, true, true, true, true, true, true, true, true, true, true, true, true, true, true, true, true, false, false, false, false] rfl rfl (any_of HT_.out (by kernel_rfl)) (fun _ _ _ h => h) (Or.inl ⟨by rfl, ?_⟩) ?_ ?_
                       rotate_left
                       ·intro w'
                        go_simp
                        with_reducible rfl
                       rotate_left
                       ·simp only [Act.put, List.setIfInBounds_toArray, List.set_cons_zero, List.set_cons_succ, i64_w, i32_w]
                        rfl
                       refine take_ (i := 18) (N := some 156) (v := ?_) (a' := ?_) #[true, true, true, true, true, true, true, true, true, true, true, true, true, true, true, true, true, false, true, false, false] rfl rfl (take_ofW HT_.out HW_.out (by kernel_rfl)) (fun _ _ _ h => h) (Or.inl ⟨by rfl, ?_⟩) hHeld ?_ ?_
                       rotate_left
                       ·rintro w' ⟨s0, s1, s2, s3, s4, s5, s6, s7, s8, s9, s10, s11, s12, s13⟩
                        go_simp
                        with_reducible rfl
                       rotate_left
                       ·simp only [Act.put, List.setIfInBounds_toArray, List.set_cons_zero, List.set_cons_succ, i64_w, i32_w]
                        rfl
                       refine one_ (i := 17) (N := some 155) #[true, true, true, true, true, true, true, true, true, true, true, true, true, true, true, true, true, true, true, false, false] rfl rfl (one_of HT_.out (by kernel_rfl)) (by decide) (fun K hK => ?_)
                       refine goes_ Try.func13 (by kernel_rfl) rfl #[.agg #[.int .i64 t234, .int .i64 t235, .slice (some ad263) t236.length co37], .int .i64 (Int.tmod x117_4 a0_0), .int .i64 (wrap64 (Int.tdiv x117_4 a0_0))] (by rfl) rfl rfl (by (try simp only [List.map_toArray, List.map_cons, List.map_nil]); first | done | rfl | (simp only [List.length_drop, List.length_take]; rfl)) ?_
                       with_reducible refine (canvas_At.calls kj101 t234 t235 _ _ t236 (Int.tmod x117_4 a0_0) (wrap64 (Int.tdiv x117_4 a0_0)) t264 t265 t266 t267 _ ?side1 ?side2 A127.out).mono ?_
                       (case side1 => repeat (first | exact (Kd.R_reads' HO_241002.out).2.2 | (with_reducible refine Kd.C_alloc ?_ _) | (with_reducible refine Kd.C_drewN ?_ _) | (with_reducible refine Kd.C_drew ?_)))
                       (case side2 => exact (Kd.R_reads' HO_241002.out).2.1)
                       rintro e w132 ⟨rfl, hb⟩
                       have HS10_ := (hb.cell (World.block_lt_of_cell? _ _ (hHeld.2.2.2.2.2.2.2.2.2.2.1))).trans (hHeld.2.2.2.2.2.2.2.2.2.2.1)
                       have HS11_ := (hb.cell (World.block_lt_of_cell? _ _ (hHeld.2.2.2.2.2.2.2.2.2.2.2.1))).trans (hHeld.2.2.2.2.2.2.2.2.2.2.2.1)
                       have HS12_ := (hb.cell (World.block_lt_of_cell? _ _ (hHeld.2.2.2.2.2.2.2.2.2.2.2.2.1))).trans (hHeld.2.2.2.2.2.2.2.2.2.2.2.2.1)
                       have HS13_ := (hb.cell (World.block_lt_of_cell? _ _ (hHeld.2.2.2.2.2.2.2.2.2.2.2.2.2))).trans (hHeld.2.2.2.2.2.2.2.2.2.2.2.2.2)
                       refine ⟨_, rfl, ?_⟩
                       have n0_ := Aside0.mk (Kd.R_below (by (with_reducible repeat (first | apply Kd.R_alloc | apply Kd.R_drewN | apply Kd.R_drew)); exact HO_241002.out) hb)
                       have n1_ := Aside0.mk (blk_below (g := gb232) (o := .cells #[.int .i64 a0_0, .int .i64 a0_1, .slice (some ad254) l0_2.length c0_2] 26 (0, 0)) (by (with_reducible repeat (first | apply bN | apply bD | apply bA)); exact BK232.out) hb)
                       have n2_ := Aside0.mk (blk_below (g := gb240) (o := .cells #[.int .i64 t234, .int .i64 t235, .slice (some ad263) t236.length co37] 26 (0, 0)) (by (with_reducible repeat (first | apply bN | apply bD | apply bA)); exact BK240.out) hb)
                       have n3_ := Aside0.mk (blk_below (g := gb255) (o := .cells #[.int .i64 x256000_101, .int .i64 x256001_101, .int .i64 x256002_101, .int .i64 x256003_101] 23 (0, 0)) (by (with_reducible repeat (first | apply bN | apply bD | apply bA)); exact BK255.out) hb)
                       have n4_ := Aside0.mk (below_step (by repeat (first | (with_reducible first | exact HB.out | apply below_alloc | apply pw_below_drewN | apply below_drew1 | refine below_set ?_ GE232.out | refine below_set ?_ GE240.out | refine below_set ?_ GE255.out) | exact HB.out)) hb)
                       clear HO_241002
                       clear BK232
                       clear BK240
                       clear BK255
                       clear HB
                       have HO_241002 := n0_
                       have BK232 := n1_
                       have BK240 := n2_
                       have BK255 := n3_
                       have HB := n4_
                       clear n0_ n1_ n2_ n3_ n4_
                       (try clear hb)
                       (try clear hb2)
                       (try clear hk)
                       (try clear hi)
                       refine hK.out _ _ ⟨(blk_cell BK240.out 0).trans rfl, (blk_cell BK240.out 1).trans rfl, (blk_cell BK240.out 2).trans rfl, (blk_cell BK255.out 0).trans rfl, (blk_cell BK255.out 1).trans rfl, (blk_cell BK255.out 2).trans rfl, (blk_cell BK255.out 3).trans rfl, (blk_cell BK232.out 0).trans rfl, (blk_cell BK232.out 1).trans rfl, (blk_cell BK232.out 2).trans rfl, HS10_, HS11_, HS12_, HS13_⟩ (fun hHeld => ?_)
                       clear hK K
                       refine norm_ (a' := ?_) ?_ ?_
                       rotate_left
                       ·show Act.put _ (some 155) _ = _
                        simp only [Act.put, List.setIfInBounds_toArray, List.set_cons_zero, List.set_cons_succ, i64_w, i32_w]
                        rfl
                       refine pure_ (i := 19) (N := some 157) (v := ?_) (a' := ?_) #[true, true, true, true, true, true, true, true, true, true, true, true, true, true, true, true, true, true, true, true, false] rfl rfl (any_of HT_.out (by kernel_rfl)) (fun _ _ _ h => h) (Or.inl ⟨by rfl, ?_⟩) ?_ ?_
                       rotate_left
                       ·intro w'
                        go_simp
                        with_reducible rfl
                       rotate_left
                       ·simp only [Act.put, List.setIfInBounds_toArray, List.set_cons_zero, List.set_cons_succ, i64_w, i32_w]
                        rfl
                       refine pure_ (i := 20) (N := some 158) (v := ?_) (a' := ?_) #[true, true, true, true, true, true, true, true, true, true, true, true, true, true, true, true, true, true, true, true, true] rfl rfl (any_of HT_.out (by kernel_rfl)) (fun _ _ _ h => h) (Or.inl ⟨by rfl, ?_⟩) ?_ ?_
                       rotate_left
                       ·intro w'
                        go_simp
                        with_reducible rfl
                       rotate_left
                       ·simp only [Act.put, List.setIfInBounds_toArray, List.set_cons_zero, List.set_cons_succ, i64_w, i32_w]
                        rfl
                       refine done_ (done_of HT_.out (by kernel_rfl)) ?_
                       try go_wp2
                       go_roundg kj101
                       case measure => have := HJ5.out; have := HJ30.out; have := HJ82.out; have := HK4.out; have := HJ101.out; omega
                       case rel => exact ⟨(wrap64 (x117_4 + 1)), (by first | rfl | (simp; done) | (simp [*]; done)), H', ⟨by have := HJ5.out; have := HJ30.out; have := HJ82.out; have := HK4.out; have := HJ101.out; omega⟩, ⟨by (with_reducible repeat (first | apply Kd.R_alloc | apply Kd.R_drewN | apply Kd.R_drew)); exact Kd.R_mono HO_241002.out (fun _ hk => trivial)⟩, ⟨by (with_reducible repeat (first | apply bN | apply bD | apply bA)); exact BK232.out⟩, ⟨by (with_reducible repeat (first | apply bN | apply bD | apply bA)); exact BK240.out⟩, ⟨by repeat (first | (with_reducible first | exact HB.out | apply below_alloc | apply pw_below_drewN | apply below_drew1 | refine below_set ?_ GE232.out | refine below_set ?_ GE240.out | refine below_set ?_ GE255.out) | exact HB.out)⟩⟩
                   ·rw [if_neg c123] at H
                    exact absurd H (by simp)
                  ·rw [if_neg c122] at H
                   exact absurd H (by simp)
               ·rw [if_neg c101] at H
                exact absurd H (by simp)
              ·rw [if_neg c100] at H
               exact absurd H (by simp)
             ·rw [if_neg c99] at H
              have c99b0 : decide (x117_4 < (t236.length : Int)) = false := decide_eq_false c99
              clear c99
              replace H := Option.bind_eq_some_iff.mp H
              obtain ⟨t253, A1330, H⟩ := H
              replace H : (some t253) = some r := H
              have A133 := Aside0.mk A1330
              clear A1330
              first
              |exact absurd (Option.some.inj H) (by rw [hr_.out]; decide)
              |obtain rfl := Option.some.inj H
               go_wp2_with (first | ((with_reducible refine gate_callee (f := 11) rfl ?_); refine goesL_ (some 160) rfl rfl Try.func11 (by kernel_rfl) rfl #[] rfl (by (try simp only [List.map_toArray, List.map_cons, List.map_nil]); first | done | rfl | (simp only [List.length_drop, List.length_take]; rfl)) ?_; (with_reducible refine (celluloidlaw21_awake.calls k4  t253 _ A133.out).mono ?_); rintro e w134 ⟨rfl, hb⟩; refine ⟨_, rfl, ?_⟩; have n0_ := Aside0.mk (Kd.R_below (by (with_reducible repeat (first | apply Kd.R_alloc | apply Kd.R_drewN | apply Kd.R_drew)); exact HO_241002.out) hb); have n1_ := Aside0.mk (blk_below (g := gb232) (o := .cells #[.int .i64 a0_0, .int .i64 a0_1, .slice A0_2 l0_2.length c0_2] 26 (0, 0)) (by (with_reducible repeat (first | apply bN | apply bD | apply bA)); exact BK232.out) hb); have n2_ := Aside0.mk (blk_below (g := gb240) (o := .cells #[.int .i64 t234, .int .i64 t235, .slice Ao37 t236.length co37] 26 (0, 0)) (by (with_reducible repeat (first | apply bN | apply bD | apply bA)); exact BK240.out) hb); have n3_ := Aside0.mk (below_step (by repeat (first | (with_reducible first | exact HB.out | apply below_alloc | apply pw_below_drewN | apply below_drew1 | refine below_set ?_ GE232.out | refine below_set ?_ GE240.out) | exact HB.out)) hb); clear HO_241002; clear BK232; clear BK240; clear HB; have HO_241002 := n0_; have BK232 := n1_; have BK240 := n2_; have HB := n3_; clear n0_ n1_ n2_ n3_; (try clear hb); (try clear hb2); (try clear hk); (try clear hi)))
               go_ret
               exact ⟨by first | rfl | (simp [errW_none, errW_some] <;> rfl) | (simp [*, errW_none, errW_some] <;> rfl), by repeat (first | (with_reducible first | exact HB.out | apply below_alloc | apply pw_below_drewN | apply below_drew1 | refine below_set ?_ GE232.out | refine below_set ?_ GE240.out) | exact HB.out)⟩
  
end Go.Proofs.Ytdkiglaidbahmaa.GCan
