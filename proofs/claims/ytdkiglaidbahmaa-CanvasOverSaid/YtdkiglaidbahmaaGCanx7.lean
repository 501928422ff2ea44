-- Written by a program of this session (wip/tools/print2.py) for this claim.
import Derived.Test.YtdkiglaidbahmaaGCanx0
import Derived.Test.YtdkiglaidbahmaaGCanx1
import Derived.Test.YtdkiglaidbahmaaGCanx3
import Derived.Test.YtdkiglaidbahmaaGCanx5
import Derived.Test.YtdkiglaidbahmaaGCanx6
namespace Go.Proofs.Ytdkiglaidbahmaa.GCan
open Go.RowKit Go.Proofs.YtdkiglaidbahmaaW.PrintWords Go.Proofs.YtdkiglaidbahmaaW.PrintLast Go.Proofs.YtdkiglaidbahmaaW.PrintMore Go.Proofs.Ytdkiglaidbahmaa.PCanvasLays Go.Proofs.Ytdkiglaidbahmaa.Ext
attribute [local go_sem] max2_int min2_int max_two min_two max_three min_three max_four min_four   -- for this text's walks alone
set_option linter.unusedVariables false
set_option linter.unusedSimpArgs false

attribute [local go_sem high] eqA23
/-! ### celluloidlaw21_CanvasOver: function 4 -/
def celluloidlaw21_CanvasOver.j0 : Nat → List (S50) → Int → Int → Bool → Int → Int → Int → Int → Int → Int → Int → Int → Option (Bool)
  | 0, _, _, _, _, _, _, _, _, _, _, _, _ => none
  | k + 1, x1, x2, x8, x42, x210000, x210001, x210002, x210003, x217000, x217001, x217002, x217003 => if x42 = true then (if (x217000 == 0 && (x217001 == 0 && (x217002 == 0 && (x217003 == 0)))) = true then (if x8 = 1 then ((celluloidlaw21_awake.f k).bind fun t223 => (some t223)) else (some false)) else (some false)) else ((celluloidlaw21_refs.f k x1).bind fun t224 => ((celluloidref21_Over.f k x210000 x210001 x210002 x210003 t224 x2).bind fun bt227 => (if (x217000 == bt227.1 && (x217001 == bt227.2.1 && (x217002 == bt227.2.2.1 && (x217003 == bt227.2.2.2)))) = true then (if x8 = 0 then ((celluloidlaw21_awake.f k).bind fun t231 => (some t231)) else (some false)) else (some false))))
def celluloidlaw21_CanvasOver.f (k : Nat) (a0_0 : Int) (a0_1 : Int) (a0_2 : Int) (a0_3 : Int) (l1 : List (S50)) (a2 : Int) : Option (Bool) := if (l1.length : Int) > 40 then ((celluloidlaw21_awake.f k).bind fun t210 => (some t210)) else ((canvas_Over.f k a0_0 a0_1 a0_2 a0_3 l1 a2).bind fun bt211 => ((celluloidlaw21_refs.f k l1).bind fun t217 => ((celluloidref21_Parts.f k t217).bind fun t220 => ((canvas_RightParts.f k l1).bind fun t221 => (if (t221 != t220) = true then (some false) else (if t220 = true then ((celluloidref21_Faint.f k a0_0 a0_1 a0_2 a0_3).bind fun t222 => (if t222 = true then (if a2 < 0 then (celluloidlaw21_CanvasOver.j0 k l1 a2 bt211.2.2.2.2 true a0_0 a0_1 a0_2 a0_3 bt211.1 bt211.2.1 bt211.2.2.1 bt211.2.2.2.1) else (celluloidlaw21_CanvasOver.j0 k l1 a2 bt211.2.2.2.2 (decide (a2 > 16)) a0_0 a0_1 a0_2 a0_3 bt211.1 bt211.2.1 bt211.2.2.1 bt211.2.2.2.1)) else (celluloidlaw21_CanvasOver.j0 k l1 a2 bt211.2.2.2.2 true a0_0 a0_1 a0_2 a0_3 bt211.1 bt211.2.1 bt211.2.2.1 bt211.2.2.2.1))) else (celluloidlaw21_CanvasOver.j0 k l1 a2 bt211.2.2.2.2 true a0_0 a0_1 a0_2 a0_3 bt211.1 bt211.2.1 bt211.2.2.1 bt211.2.2.2.1)))))))
theorem celluloidlaw21_CanvasOver.mono_l : ∀ k, (∀ y0 y1 y2 y3 y4 y5 y6 y7 y8 y9 y10 y11, LeO (celluloidlaw21_CanvasOver.j0 k y0 y1 y2 y3 y4 y5 y6 y7 y8 y9 y10 y11) (celluloidlaw21_CanvasOver.j0 (k + 1) y0 y1 y2 y3 y4 y5 y6 y7 y8 y9 y10 y11))
  | 0 => fun _ _ _ _ _ _ _ _ _ _ _ _ r h => by simp [celluloidlaw21_CanvasOver.j0] at h
  | k + 1 => by
    have ih0 := celluloidlaw21_CanvasOver.mono_l k
    · intro y0 y1 y2 y3 y4 y5 y6 y7 y8 y9 y10 y11
      unfold celluloidlaw21_CanvasOver.j0
      repeat' first
      | (with_reducible exact ih0 _ _ _ _ _ _ _ _ _ _ _ _)
      | (with_reducible exact canvas_Over.mono _ _ _ _ _ _ _)
      | (with_reducible exact canvas_RightParts.mono _ _)
      | (with_reducible exact celluloidlaw21_awake.mono _)
      | (with_reducible exact celluloidlaw21_refs.mono _ _)
      | (with_reducible exact celluloidref21_Faint.mono _ _ _ _ _)
      | (with_reducible exact celluloidref21_Over.mono _ _ _ _ _ _ _)
      | (with_reducible exact celluloidref21_Parts.mono _ _)
      | (with_reducible exact LeO.refl _)
      | (with_reducible exact LeO.none _)
      | (with_reducible refine LeO.ite ?_ ?_)
      | (with_reducible refine LeO.bind ?_ (fun _ => ?_))
      | exact ih0 _ _ _ _ _ _ _ _ _ _ _ _
      | exact canvas_Over.mono _ _ _ _ _ _ _
      | exact canvas_RightParts.mono _ _
      | exact celluloidlaw21_awake.mono _
      | exact celluloidlaw21_refs.mono _ _
      | exact celluloidref21_Faint.mono _ _ _ _ _
      | exact celluloidref21_Over.mono _ _ _ _ _ _ _
      | exact celluloidref21_Parts.mono _ _
      | exact LeO.none _
      | refine LeO.ite ?_ ?_
      | refine LeO.bind ?_ (fun _ => ?_)
theorem celluloidlaw21_CanvasOver.mono : ∀ a0 a1 a2 a3 a4 a5 k, LeO (celluloidlaw21_CanvasOver.f k a0 a1 a2 a3 a4 a5) (celluloidlaw21_CanvasOver.f (k + 1) a0 a1 a2 a3 a4 a5) := by
  intro a0 a1 a2 a3 a4 a5 k
  have ih0 := celluloidlaw21_CanvasOver.mono_l k
  unfold celluloidlaw21_CanvasOver.f
  repeat' first
      | (with_reducible exact ih0 _ _ _ _ _ _ _ _ _ _ _ _)
      | (with_reducible exact canvas_Over.mono _ _ _ _ _ _ _)
      | (with_reducible exact canvas_RightParts.mono _ _)
      | (with_reducible exact celluloidlaw21_awake.mono _)
      | (with_reducible exact celluloidlaw21_refs.mono _ _)
      | (with_reducible exact celluloidref21_Faint.mono _ _ _ _ _)
      | (with_reducible exact celluloidref21_Over.mono _ _ _ _ _ _ _)
      | (with_reducible exact celluloidref21_Parts.mono _ _)
      | (with_reducible exact LeO.refl _)
      | (with_reducible exact LeO.none _)
      | (with_reducible refine LeO.ite ?_ ?_)
      | (with_reducible refine LeO.bind ?_ (fun _ => ?_))
      | exact ih0 _ _ _ _ _ _ _ _ _ _ _ _
      | exact canvas_Over.mono _ _ _ _ _ _ _
      | exact canvas_RightParts.mono _ _
      | exact celluloidlaw21_awake.mono _
      | exact celluloidlaw21_refs.mono _ _
      | exact celluloidref21_Faint.mono _ _ _ _ _
      | exact celluloidref21_Over.mono _ _ _ _ _ _ _
      | exact celluloidref21_Parts.mono _ _
      | exact LeO.none _
      | refine LeO.ite ?_ ?_
      | refine LeO.bind ?_ (fun _ => ?_)
def celluloidlaw21_CanvasOver.T9 : Bool × List (List Nat × List Nat) := (true, [([], []), ([], []), ([], []), ([2], [2]), ([], []), ([1, 3, 4, 3], [1, 3, 4]), ([0, 5], [0, 5]), ([6, 5], [6]), ([7], [7]), ([8, 7], [7, 8]), ([7, 9], [7, 9]), ([10, 7], [10]), ([11, 11], [11]), ([11, 12], [11, 12]), ([13, 12, 0, 1, 2, 3, 4, 5, 6, 7, 8, 9, 10, 11, 12, 13], [13])])
def celluloidlaw21_CanvasOver.B9 : List Nat := [0, 0, 0, 4, 0, 30, 63, 127, 255, 511, 1023, 2047, 4095, 8191, 16383]
theorem celluloidlaw21_CanvasOver.tab9 : rtab .any (opsOf Try.f4 9) = celluloidlaw21_CanvasOver.T9 := by kernel_rfl
theorem celluloidlaw21_CanvasOver.bits9 : waitsOk celluloidlaw21_CanvasOver.T9.2 celluloidlaw21_CanvasOver.B9 = true := by kernel_rfl
set_option maxHeartbeats 8000000 in
set_option maxRecDepth 100000 in
theorem celluloidlaw21_CanvasOver.calls (k : Nat) (a0_0 : Int) (a0_1 : Int) (a0_2 : Int) (a0_3 : Int) (A1 : Option Addr) (c1 : Nat) (l1 : List (S50)) (a2 : Int) (r : Bool) (w : World) (hr1 : Kd.C k50 w A1 l1.length l1) (hc1 : l1.length ≤ c1) (h : celluloidlaw21_CanvasOver.f k a0_0 a0_1 a0_2 a0_3 l1 a2 = some r) (hr_ : Aside0 (r = true)) :
    Calls Try.prog 4 #[.agg #[.int .i64 a0_0, .int .i64 a0_1, .int .i64 a0_2, .int .i64 a0_3], .slice A1 l1.length c1, .int .i64 a2] w fun e w' => e = .returned (.bool r) ∧ Below w.heap.size w w' := by
  have hu23 := Try.underlying23
  have HR1 := Aside0.mk hr1
  have HC1 := Aside0.mk hc1
  clear hr1 hc1
  have HB := Aside0.mk (Below.refl w.heap.size w)
  have H : (if (l1.length : Int) > 40 then ((celluloidlaw21_awake.f k).bind fun t210 => (some t210)) else ((canvas_Over.f k a0_0 a0_1 a0_2 a0_3 l1 a2).bind fun bt211 => ((celluloidlaw21_refs.f k l1).bind fun t217 => ((celluloidref21_Parts.f k t217).bind fun t220 => ((canvas_RightParts.f k l1).bind fun t221 => (if (t221 != t220) = true then (some false) else (if t220 = true then ((celluloidref21_Faint.f k a0_0 a0_1 a0_2 a0_3).bind fun t222 => (if t222 = true then (if a2 < 0 then (celluloidlaw21_CanvasOver.j0 k l1 a2 bt211.2.2.2.2 true a0_0 a0_1 a0_2 a0_3 bt211.1 bt211.2.1 bt211.2.2.1 bt211.2.2.2.1) else (celluloidlaw21_CanvasOver.j0 k l1 a2 bt211.2.2.2.2 (decide (a2 > 16)) a0_0 a0_1 a0_2 a0_3 bt211.1 bt211.2.1 bt211.2.2.1 bt211.2.2.2.1)) else (celluloidlaw21_CanvasOver.j0 k l1 a2 bt211.2.2.2.2 true a0_0 a0_1 a0_2 a0_3 bt211.1 bt211.2.1 bt211.2.2.1 bt211.2.2.2.1))) else (celluloidlaw21_CanvasOver.j0 k l1 a2 bt211.2.2.2.2 true a0_0 a0_1 a0_2 a0_3 bt211.1 bt211.2.1 bt211.2.2.1 bt211.2.2.2.1)))))))) = some r := h
  clear h
  by_cases c4 : (l1.length : Int) > 40
  · rw [if_pos c4] at H
    have c4b0 : decide (40 < (l1.length : Int)) = true := decide_eq_true c4
    have c4b1 : decide (40 < l1.length) = true := decide_eq_true (by omega)
    clear c4
    replace H := Option.bind_eq_some_iff.mp H
    obtain ⟨t210, A50, H⟩ := H
    replace H : (some t210) = some r := H
    have A5 := Aside0.mk A50
    clear A50
    first
    | exact absurd (Option.some.inj H) (by rw [hr_.out]; decide)
    | obtain rfl := Option.some.inj H
      go_enter Try.func4, Try.ntmps4
      go_wp2_with (first | ((with_reducible refine gate_dst (N := 3) rfl ?_); refine box_event ?hg (N := 3) ?hd (cs := #[.int .i64 a0_0, .int .i64 a0_1, .int .i64 a0_2, .int .i64 a0_3]) (t := 23) ?hr ?_; (case hd => rfl); (case hg => rfl); (case hr => first | (go_simp; done) | (go_simp; rfl)); intro gb209 hg w6 hbox hb; have n0_ := Aside0.mk (below_step (by repeat (first | (with_reducible first | exact HB.out | apply below_alloc | apply pw_below_drewN | apply below_drew1) | exact HB.out)) hb); have n1_ := Aside0.mk (hbox); have n2_ := Aside0.mk ((by rw [hg]; exact (below_size (by repeat (first | (with_reducible first | exact HB.out | apply below_alloc | apply pw_below_drewN | apply below_drew1) | exact HB.out))) : w.heap.size ≤ gb209)); have n3_ := Aside0.mk ((by rw [hg]; exact (below_size (by repeat (first | (with_reducible first | exact HB.out | apply below_alloc | apply pw_below_drewN | apply below_drew1) | exact HB.out))) : w.heap.size ≤ gb209)); clear HB; have HB := n0_; have BK209 := n1_; have GW209 := n2_; have GE209 := n3_; clear n0_ n1_ n2_ n3_; clear hb hbox hg) | ((with_reducible refine gate_callee (f := 11) rfl ?_); refine goesL_ (some 13) rfl rfl Try.func11 (by kernel_rfl) rfl #[] rfl (by (try simp only [List.map_toArray, List.map_cons, List.map_nil]); first | done | rfl | (simp only [List.length_drop, List.length_take]; rfl)) ?_; (with_reducible refine (celluloidlaw21_awake.calls k  t210 _ A5.out).mono ?_); rintro e w7 ⟨rfl, hb⟩; refine ⟨_, rfl, ?_⟩; have n0_ := Aside0.mk (blk_below (g := gb209) (o := .cells #[.int .i64 a0_0, .int .i64 a0_1, .int .i64 a0_2, .int .i64 a0_3] 23 (0, 0)) (by (with_reducible repeat (first | refine blk_drewN ?_ _ | refine blk_drew ?_ | refine blk_alloc ?_ _)); exact BK209.out) hb); have n1_ := Aside0.mk (below_step (by repeat (first | (with_reducible first | exact HB.out | apply below_alloc | apply pw_below_drewN | apply below_drew1 | refine below_set ?_ GE209.out) | exact HB.out)) hb); clear BK209; clear HB; have BK209 := n0_; have HB := n1_; clear n0_ n1_; (try clear hb); (try clear hb2); (try clear hk); (try clear hi)))
      go_ret
      exact ⟨by first | rfl | (simp [errW_none, errW_some] <;> rfl) | (simp [*, errW_none, errW_some] <;> rfl), by repeat (first | (with_reducible first | exact HB.out | apply below_alloc | apply pw_below_drewN | apply below_drew1 | refine below_set ?_ GE209.out) | exact HB.out)⟩
  · rw [if_neg c4] at H
    have c4b0 : decide (40 < (l1.length : Int)) = false := decide_eq_false c4
    have c4b1 : decide (40 < l1.length) = false := decide_eq_false (by omega)
    clear c4
    replace H := Option.bind_eq_some_iff.mp H
    obtain ⟨⟨t211, t212, t213, t214, t215⟩, A80, H⟩ := H
    replace H : ((celluloidlaw21_refs.f k l1).bind fun t217 => ((celluloidref21_Parts.f k t217).bind fun t220 => ((canvas_RightParts.f k l1).bind fun t221 => (if (t221 != t220) = true then (some false) else (if t220 = true then ((celluloidref21_Faint.f k a0_0 a0_1 a0_2 a0_3).bind fun t222 => (if t222 = true then (if a2 < 0 then (celluloidlaw21_CanvasOver.j0 k l1 a2 t215 true a0_0 a0_1 a0_2 a0_3 t211 t212 t213 t214) else (celluloidlaw21_CanvasOver.j0 k l1 a2 t215 (decide (a2 > 16)) a0_0 a0_1 a0_2 a0_3 t211 t212 t213 t214)) else (celluloidlaw21_CanvasOver.j0 k l1 a2 t215 true a0_0 a0_1 a0_2 a0_3 t211 t212 t213 t214))) else (celluloidlaw21_CanvasOver.j0 k l1 a2 t215 true a0_0 a0_1 a0_2 a0_3 t211 t212 t213 t214)))))) = some r := H
    have A8 := Aside0.mk A80
    clear A80
    replace H := Option.bind_eq_some_iff.mp H
    obtain ⟨t217, A90, H⟩ := H
    replace H : ((celluloidref21_Parts.f k t217).bind fun t220 => ((canvas_RightParts.f k l1).bind fun t221 => (if (t221 != t220) = true then (some false) else (if t220 = true then ((celluloidref21_Faint.f k a0_0 a0_1 a0_2 a0_3).bind fun t222 => (if t222 = true then (if a2 < 0 then (celluloidlaw21_CanvasOver.j0 k l1 a2 t215 true a0_0 a0_1 a0_2 a0_3 t211 t212 t213 t214) else (celluloidlaw21_CanvasOver.j0 k l1 a2 t215 (decide (a2 > 16)) a0_0 a0_1 a0_2 a0_3 t211 t212 t213 t214)) else (celluloidlaw21_CanvasOver.j0 k l1 a2 t215 true a0_0 a0_1 a0_2 a0_3 t211 t212 t213 t214))) else (celluloidlaw21_CanvasOver.j0 k l1 a2 t215 true a0_0 a0_1 a0_2 a0_3 t211 t212 t213 t214))))) = some r := H
    have A9 := Aside0.mk A90
    clear A90
    replace H := Option.bind_eq_some_iff.mp H
    obtain ⟨t220, A100, H⟩ := H
    replace H : ((canvas_RightParts.f k l1).bind fun t221 => (if (t221 != t220) = true then (some false) else (if t220 = true then ((celluloidref21_Faint.f k a0_0 a0_1 a0_2 a0_3).bind fun t222 => (if t222 = true then (if a2 < 0 then (celluloidlaw21_CanvasOver.j0 k l1 a2 t215 true a0_0 a0_1 a0_2 a0_3 t211 t212 t213 t214) else (celluloidlaw21_CanvasOver.j0 k l1 a2 t215 (decide (a2 > 16)) a0_0 a0_1 a0_2 a0_3 t211 t212 t213 t214)) else (celluloidlaw21_CanvasOver.j0 k l1 a2 t215 true a0_0 a0_1 a0_2 a0_3 t211 t212 t213 t214))) else (celluloidlaw21_CanvasOver.j0 k l1 a2 t215 true a0_0 a0_1 a0_2 a0_3 t211 t212 t213 t214)))) = some r := H
    have A10 := Aside0.mk A100
    clear A100
    replace H := Option.bind_eq_some_iff.mp H
    obtain ⟨t221, A110, H⟩ := H
    replace H : (if (t221 != t220) = true then (some false) else (if t220 = true then ((celluloidref21_Faint.f k a0_0 a0_1 a0_2 a0_3).bind fun t222 => (if t222 = true then (if a2 < 0 then (celluloidlaw21_CanvasOver.j0 k l1 a2 t215 true a0_0 a0_1 a0_2 a0_3 t211 t212 t213 t214) else (celluloidlaw21_CanvasOver.j0 k l1 a2 t215 (decide (a2 > 16)) a0_0 a0_1 a0_2 a0_3 t211 t212 t213 t214)) else (celluloidlaw21_CanvasOver.j0 k l1 a2 t215 true a0_0 a0_1 a0_2 a0_3 t211 t212 t213 t214))) else (celluloidlaw21_CanvasOver.j0 k l1 a2 t215 true a0_0 a0_1 a0_2 a0_3 t211 t212 t213 t214))) = some r := H
    have A11 := Aside0.mk A110
    clear A110
    by_cases c12 : (t221 != t220) = true
    · rw [if_pos c12] at H
      have c12b0 : (t221 != t220) = true := c12
      (try (have c12b1 : decide (t221 = t220) = false := by simpa using c12))
      (try (have c12b2 : (t221 == t220) = false := by simpa using c12))
      (try (have c12b3 : ¬ (t221 = t220) := by simpa using c12))
      clear c12
      exact absurd (Option.some.inj H) (by rw [hr_.out]; decide)
    · rw [if_neg c12] at H
      have c12b0 : (t221 != t220) = false := by simpa using c12
      (try (have c12b1 : decide (t221 = t220) = true := by simpa using c12))
      (try (have c12b2 : (t221 == t220) = true := by simpa using c12))
      clear c12
      have HC23 := Aside0.mk H
      clear H
      go_enter Try.func4, Try.ntmps4
      go_upto_region 7 with (first | ((with_reducible refine gate_dst (N := 3) rfl ?_); refine box_event ?hg (N := 3) ?hd (cs := #[.int .i64 a0_0, .int .i64 a0_1, .int .i64 a0_2, .int .i64 a0_3]) (t := 23) ?hr ?_; (case hd => rfl); (case hg => rfl); (case hr => first | (go_simp; done) | (go_simp; rfl)); intro gb209 hg w24 hbox hb; have n0_ := Aside0.mk (below_step (by repeat (first | (with_reducible first | exact HB.out | apply below_alloc | apply pw_below_drewN | apply below_drew1) | exact HB.out)) hb); have n1_ := Aside0.mk (hbox); have n2_ := Aside0.mk ((by rw [hg]; exact (below_size (by repeat (first | (with_reducible first | exact HB.out | apply below_alloc | apply pw_below_drewN | apply below_drew1) | exact HB.out))) : w.heap.size ≤ gb209)); have n3_ := Aside0.mk ((by rw [hg]; exact (below_size (by repeat (first | (with_reducible first | exact HB.out | apply below_alloc | apply pw_below_drewN | apply below_drew1) | exact HB.out))) : w.heap.size ≤ gb209)); clear HB; have HB := n0_; have BK209 := n1_; have GW209 := n2_; have GE209 := n3_; clear n0_ n1_ n2_ n3_; clear hb hbox hg; have hcz25_0 : w24.cell? ⟨gb209, 0, none⟩ = some (.int .i64 a0_0) := (blk_cell BK209.out 0).trans rfl; have hcz25_1 : w24.cell? ⟨gb209, 1, none⟩ = some (.int .i64 a0_1) := (blk_cell BK209.out 1).trans rfl; have hcz25_2 : w24.cell? ⟨gb209, 2, none⟩ = some (.int .i64 a0_2) := (blk_cell BK209.out 2).trans rfl; have hcz25_3 : w24.cell? ⟨gb209, 3, none⟩ = some (.int .i64 a0_3) := (blk_cell BK209.out 3).trans rfl; have hfz25_0 := blk_frozen BK209.out 0; have hfz25_1 := blk_frozen BK209.out 1; have hfz25_2 := blk_frozen BK209.out 2; have hfz25_3 := blk_frozen BK209.out 3) | ((with_reducible refine gate_callee (f := 14) rfl ?_); refine goesL_ (some 18) rfl rfl Try.func14 (by kernel_rfl) rfl #[.agg #[.int .i64 a0_0, .int .i64 a0_1, .int .i64 a0_2, .int .i64 a0_3], .slice A1 l1.length c1, .int .i64 a2] rfl (by (try simp only [List.map_toArray, List.map_cons, List.map_nil]); first | done | rfl | (simp only [List.length_drop, List.length_take]; rfl)) ?_; (with_reducible refine (canvas_Over.calls k a0_0 a0_1 a0_2 a0_3 _ _ l1 a2 t211 t212 t213 t214 t215 _ ?side1 ?side2 A8.out).mono ?_); (case side1 => repeat (first | exact (Kd.C_below HR1.out HB.out) | (with_reducible refine Kd.C_alloc ?_ _) | (with_reducible refine Kd.C_drewN ?_ _) | (with_reducible refine Kd.C_drew ?_))); (case side2 => exact HC1.out); rintro e w26 ⟨rfl, hb⟩; refine ⟨_, rfl, ?_⟩; have n0_ := Aside0.mk (blk_below (g := gb209) (o := .cells #[.int .i64 a0_0, .int .i64 a0_1, .int .i64 a0_2, .int .i64 a0_3] 23 (0, 0)) (by (with_reducible repeat (first | refine blk_drewN ?_ _ | refine blk_drew ?_ | refine blk_alloc ?_ _)); exact BK209.out) hb); have n1_ := Aside0.mk (below_step (by repeat (first | (with_reducible first | exact HB.out | apply below_alloc | apply pw_below_drewN | apply below_drew1 | refine below_set ?_ GE209.out) | exact HB.out)) hb); clear BK209; clear HB; have BK209 := n0_; have HB := n1_; clear n0_ n1_; (try clear hb); (try clear hb2); (try clear hk); (try clear hi)) | ((with_reducible refine gate_dst (N := 7) rfl ?_); refine box_event ?hg (N := 7) ?hd (cs := #[.int .i64 0, .int .i64 0, .int .i64 0, .int .i64 0]) (t := 23) ?hr ?_; (case hd => rfl); (case hg => rfl); (case hr => first | (go_simp; done) | (go_simp; rfl)); intro gb216 hg w27 hbox hb; have n0_ := Aside0.mk (blk_below (g := gb209) (o := .cells #[.int .i64 a0_0, .int .i64 a0_1, .int .i64 a0_2, .int .i64 a0_3] 23 (0, 0)) (by (with_reducible repeat (first | refine blk_drewN ?_ _ | refine blk_drew ?_ | refine blk_alloc ?_ _)); exact BK209.out) hb); have n1_ := Aside0.mk (below_step (by repeat (first | (with_reducible first | exact HB.out | apply below_alloc | apply pw_below_drewN | apply below_drew1 | refine below_set ?_ GE209.out) | exact HB.out)) hb); have n2_ := Aside0.mk (hbox); have n3_ := Aside0.mk ((by rw [hg]; exact (below_size (by repeat (first | (with_reducible first | exact HB.out | apply below_alloc | apply pw_below_drewN | apply below_drew1 | refine below_set ?_ GE209.out) | exact HB.out))) : w.heap.size ≤ gb216)); have n4_ := Aside0.mk ((by rw [hg]; exact (below_size (by repeat (first | (with_reducible first | exact HB.out | apply below_alloc | apply pw_below_drewN | apply below_drew1 | refine below_set ?_ GE209.out) | exact HB.out))) : w.heap.size ≤ gb216)); have n5_ := Aside0.mk ((by rw [hg]; exact Nat.ne_of_lt (blk_lt (g := gb209) (o := .cells #[.int .i64 a0_0, .int .i64 a0_1, .int .i64 a0_2, .int .i64 a0_3] 23 (0, 0)) (by (with_reducible repeat (first | refine blk_drewN ?_ _ | refine blk_drew ?_ | refine blk_alloc ?_ _)); exact BK209.out)) : gb209 ≠ gb216)); have n6_ := Aside0.mk ((by rw [hg]; exact Nat.ne_of_gt (blk_lt (g := gb209) (o := .cells #[.int .i64 a0_0, .int .i64 a0_1, .int .i64 a0_2, .int .i64 a0_3] 23 (0, 0)) (by (with_reducible repeat (first | refine blk_drewN ?_ _ | refine blk_drew ?_ | refine blk_alloc ?_ _)); exact BK209.out)) : gb216 ≠ gb209)); clear BK209; clear HB; have BK209 := n0_; have HB := n1_; have BK216 := n2_; have GW216 := n3_; have GE216 := n4_; have NB209_216 := n5_; have NB216_209 := n6_; clear n0_ n1_ n2_ n3_ n4_ n5_ n6_; clear hb hbox hg; have hnb28 := NB216_209.out; have hnc28 := NB209_216.out; have hcz29_0 : w27.cell? ⟨gb216, 0, none⟩ = some (.int .i64 0) := (blk_cell BK216.out 0).trans rfl; have hcz29_1 : w27.cell? ⟨gb216, 1, none⟩ = some (.int .i64 0) := (blk_cell BK216.out 1).trans rfl; have hcz29_2 : w27.cell? ⟨gb216, 2, none⟩ = some (.int .i64 0) := (blk_cell BK216.out 2).trans rfl; have hcz29_3 : w27.cell? ⟨gb216, 3, none⟩ = some (.int .i64 0) := (blk_cell BK216.out 3).trans rfl; have hfz29_0 := blk_frozen BK216.out 0; have hfz29_1 := blk_frozen BK216.out 1; have hfz29_2 := blk_frozen BK216.out 2; have hfz29_3 := blk_frozen BK216.out 3) | ((with_reducible refine gate_callee (f := 16) rfl ?_); refine goesL_ (some 22) rfl rfl Try.func16 (by kernel_rfl) rfl #[.slice A1 l1.length c1] rfl (by (try simp only [List.map_toArray, List.map_cons, List.map_nil]); first | done | rfl | (simp only [List.length_drop, List.length_take]; rfl)) ?_; (with_reducible refine (celluloidlaw21_refs.calls k _ _ l1 t217 _ ?side1 ?side2 A9.out).mono ?_); (case side1 => exact Kd.C_below HR1.out (by repeat (first | (with_reducible first | exact HB.out | apply below_alloc | apply pw_below_drewN | apply below_drew1 | refine below_set ?_ GE209.out | refine below_set ?_ GE216.out) | exact HB.out))); (case side2 => exact HC1.out); rintro e w30 ⟨v218, rfl, ho0, hb⟩; refine ⟨_, rfl, ?_⟩; have n0_ := Aside0.mk (Kd.R_lower ho0 (below_size (by repeat (first | (with_reducible first | exact HB.out | apply below_alloc | apply pw_below_drewN | apply below_drew1 | refine below_set ?_ GE209.out | refine below_set ?_ GE216.out) | exact HB.out)))); have n1_ := Aside0.mk (blk_below (g := gb209) (o := .cells #[.int .i64 a0_0, .int .i64 a0_1, .int .i64 a0_2, .int .i64 a0_3] 23 (0, 0)) (by (with_reducible repeat (first | refine blk_drewN ?_ _ | refine blk_drew ?_ | refine blk_alloc ?_ _)); refine blk_far ?_ NB209_216.out _; (with_reducible repeat (first | refine blk_drewN ?_ _ | refine blk_drew ?_ | refine blk_alloc ?_ _)); refine blk_far ?_ NB209_216.out _; (with_reducible repeat (first | refine blk_drewN ?_ _ | refine blk_drew ?_ | refine blk_alloc ?_ _)); refine blk_far ?_ NB209_216.out _; (with_reducible repeat (first | refine blk_drewN ?_ _ | refine blk_drew ?_ | refine blk_alloc ?_ _)); refine blk_far ?_ NB209_216.out _; (with_reducible repeat (first | refine blk_drewN ?_ _ | refine blk_drew ?_ | refine blk_alloc ?_ _)); exact BK209.out) hb); have n2_ := Aside0.mk (blk_below (g := gb216) (o := .cells #[.int .i64 t211, .int .i64 t212, .int .i64 t213, .int .i64 t214] 23 (0, 0)) (by (with_reducible repeat (first | refine blk_drewN ?_ _ | refine blk_drew ?_ | refine blk_alloc ?_ _)); refine blk_put (cs := #[.int .i64 t211, .int .i64 t212, .int .i64 t213, .int .i64 0]) ?_ 3 _ rfl; (with_reducible repeat (first | refine blk_drewN ?_ _ | refine blk_drew ?_ | refine blk_alloc ?_ _)); refine blk_put (cs := #[.int .i64 t211, .int .i64 t212, .int .i64 0, .int .i64 0]) ?_ 2 _ rfl; (with_reducible repeat (first | refine blk_drewN ?_ _ | refine blk_drew ?_ | refine blk_alloc ?_ _)); refine blk_put (cs := #[.int .i64 t211, .int .i64 0, .int .i64 0, .int .i64 0]) ?_ 1 _ rfl; (with_reducible repeat (first | refine blk_drewN ?_ _ | refine blk_drew ?_ | refine blk_alloc ?_ _)); refine blk_put (cs := #[.int .i64 0, .int .i64 0, .int .i64 0, .int .i64 0]) ?_ 0 _ rfl; (with_reducible repeat (first | refine blk_drewN ?_ _ | refine blk_drew ?_ | refine blk_alloc ?_ _)); exact BK216.out) hb); have n3_ := Aside0.mk (below_step (by repeat (first | (with_reducible first | exact HB.out | apply below_alloc | apply pw_below_drewN | apply below_drew1 | refine below_set ?_ GE209.out | refine below_set ?_ GE216.out) | exact HB.out)) hb); clear BK209; clear BK216; clear HB; have HO219 := n0_; have BK209 := n1_; have BK216 := n2_; have HB := n3_; clear n0_ n1_ n2_ n3_; (try clear hb); (try clear hb2); (try clear hk); (try clear hi); (try clear ho0); obtain ⟨Ao31, co31, eo31⟩ := Kd.R_slice HO219.out; subst eo31) | ((with_reducible refine gate_callee (f := 15) rfl ?_); refine goesL_ (some 23) rfl rfl Try.func15 (by kernel_rfl) rfl #[.slice Ao31 t217.length co31] rfl (by (try simp only [List.map_toArray, List.map_cons, List.map_nil]); first | done | rfl | (simp only [List.length_drop, List.length_take]; rfl)) ?_; (with_reducible refine (celluloidref21_Parts.calls k _ _ t217 t220 _ ?side1 ?side2 A10.out).mono ?_); (case side1 => repeat (first | exact (Kd.R_reads' HO219.out).2.2 | (with_reducible refine Kd.C_alloc ?_ _) | (with_reducible refine Kd.C_drewN ?_ _) | (with_reducible refine Kd.C_drew ?_))); (case side2 => exact (Kd.R_reads' HO219.out).2.1); rintro e w32 ⟨rfl, hb⟩; refine ⟨_, rfl, ?_⟩; have n0_ := Aside0.mk (Kd.R_below (by (with_reducible repeat (first | apply Kd.R_alloc | apply Kd.R_drewN | apply Kd.R_drew)); exact HO219.out) hb); have n1_ := Aside0.mk (blk_below (g := gb209) (o := .cells #[.int .i64 a0_0, .int .i64 a0_1, .int .i64 a0_2, .int .i64 a0_3] 23 (0, 0)) (by (with_reducible repeat (first | refine blk_drewN ?_ _ | refine blk_drew ?_ | refine blk_alloc ?_ _)); exact BK209.out) hb); have n2_ := Aside0.mk (blk_below (g := gb216) (o := .cells #[.int .i64 t211, .int .i64 t212, .int .i64 t213, .int .i64 t214] 23 (0, 0)) (by (with_reducible repeat (first | refine blk_drewN ?_ _ | refine blk_drew ?_ | refine blk_alloc ?_ _)); exact BK216.out) hb); have n3_ := Aside0.mk (below_step (by repeat (first | (with_reducible first | exact HB.out | apply below_alloc | apply pw_below_drewN | apply below_drew1 | refine below_set ?_ GE209.out | refine below_set ?_ GE216.out) | exact HB.out)) hb); clear HO219; clear BK209; clear BK216; clear HB; have HO219 := n0_; have BK209 := n1_; have BK216 := n2_; have HB := n3_; clear n0_ n1_ n2_ n3_; (try clear hb); (try clear hb2); (try clear hk); (try clear hi)) | ((with_reducible refine gate_callee (f := 17) rfl ?_); refine goesL_ (some 25) rfl rfl Try.func17 (by kernel_rfl) rfl #[.slice A1 l1.length c1] rfl (by (try simp only [List.map_toArray, List.map_cons, List.map_nil]); first | done | rfl | (simp only [List.length_drop, List.length_take]; rfl)) ?_; (with_reducible refine (canvas_RightParts.calls k _ _ l1 t221 _ ?side1 ?side2 A11.out).mono ?_); (case side1 => repeat (first | exact (Kd.C_below HR1.out HB.out) | (with_reducible refine Kd.C_alloc ?_ _) | (with_reducible refine Kd.C_drewN ?_ _) | (with_reducible refine Kd.C_drew ?_))); (case side2 => exact HC1.out); rintro e w33 ⟨rfl, hb⟩; refine ⟨_, rfl, ?_⟩; have n0_ := Aside0.mk (Kd.R_below (by (with_reducible repeat (first | apply Kd.R_alloc | apply Kd.R_drewN | apply Kd.R_drew)); exact HO219.out) hb); have n1_ := Aside0.mk (blk_below (g := gb209) (o := .cells #[.int .i64 a0_0, .int .i64 a0_1, .int .i64 a0_2, .int .i64 a0_3] 23 (0, 0)) (by (with_reducible repeat (first | refine blk_drewN ?_ _ | refine blk_drew ?_ | refine blk_alloc ?_ _)); exact BK209.out) hb); have n2_ := Aside0.mk (blk_below (g := gb216) (o := .cells #[.int .i64 t211, .int .i64 t212, .int .i64 t213, .int .i64 t214] 23 (0, 0)) (by (with_reducible repeat (first | refine blk_drewN ?_ _ | refine blk_drew ?_ | refine blk_alloc ?_ _)); exact BK216.out) hb); have n3_ := Aside0.mk (below_step (by repeat (first | (with_reducible first | exact HB.out | apply below_alloc | apply pw_below_drewN | apply below_drew1 | refine below_set ?_ GE209.out | refine below_set ?_ GE216.out) | exact HB.out)) hb); clear HO219; clear BK209; clear BK216; clear HB; have HO219 := n0_; have BK209 := n1_; have BK216 := n2_; have HB := n3_; clear n0_ n1_ n2_ n3_; (try clear hb); (try clear hb2); (try clear hk); (try clear hi)))
      (try simp only [Act.put, List.setIfInBounds_toArray, List.set_cons_zero, List.set_cons_succ])
      go_cut [42] (fun v42 wc => ∃ (kq : Nat) (x42_22 : Bool), v42 = .bool x42_22 ∧ Aside0 (celluloidlaw21_CanvasOver.j0 kq l1 a2 t215 x42_22 a0_0 a0_1 a0_2 a0_3 t211 t212 t213 t214 = some r) ∧ Aside0 (kq ≤ k) ∧ Aside0 (wc.heap[gb209]? = some (.cells #[.int .i64 a0_0, .int .i64 a0_1, .int .i64 a0_2, .int .i64 a0_3] 23 (0, 0))) ∧ Aside0 (wc.heap[gb216]? = some (.cells #[.int .i64 t211, .int .i64 t212, .int .i64 t213, .int .i64 t214] 23 (0, 0))) ∧ Aside0 (Below w.heap.size w wc))
      case first =>
        have H := HC23.out
        clear HC23
        by_cases c34 : t220 = true
        · subst c34
          have H1 : ((celluloidref21_Faint.f k a0_0 a0_1 a0_2 a0_3).bind fun t222 => (if t222 = true then (if a2 < 0 then (celluloidlaw21_CanvasOver.j0 k l1 a2 t215 true a0_0 a0_1 a0_2 a0_3 t211 t212 t213 t214) else (celluloidlaw21_CanvasOver.j0 k l1 a2 t215 (decide (a2 > 16)) a0_0 a0_1 a0_2 a0_3 t211 t212 t213 t214)) else (celluloidlaw21_CanvasOver.j0 k l1 a2 t215 true a0_0 a0_1 a0_2 a0_3 t211 t212 t213 t214))) = some r := by rw [if_pos rfl] at H; exact H
          clear H
          have H := H1
          clear H1
          replace H := Option.bind_eq_some_iff.mp H
          obtain ⟨t222, A350, H⟩ := H
          replace H : (if t222 = true then (if a2 < 0 then (celluloidlaw21_CanvasOver.j0 k l1 a2 t215 true a0_0 a0_1 a0_2 a0_3 t211 t212 t213 t214) else (celluloidlaw21_CanvasOver.j0 k l1 a2 t215 (decide (a2 > 16)) a0_0 a0_1 a0_2 a0_3 t211 t212 t213 t214)) else (celluloidlaw21_CanvasOver.j0 k l1 a2 t215 true a0_0 a0_1 a0_2 a0_3 t211 t212 t213 t214)) = some r := H
          have A35 := Aside0.mk A350
          clear A350
          by_cases c36 : t222 = true
          · subst c36
            have H1 : (if a2 < 0 then (celluloidlaw21_CanvasOver.j0 k l1 a2 t215 true a0_0 a0_1 a0_2 a0_3 t211 t212 t213 t214) else (celluloidlaw21_CanvasOver.j0 k l1 a2 t215 (decide (a2 > 16)) a0_0 a0_1 a0_2 a0_3 t211 t212 t213 t214)) = some r := by rw [if_pos rfl] at H; exact H
            clear H
            have H := H1
            clear H1
            by_cases c37 : a2 < 0
            · rw [if_pos c37] at H
              have c37b0 : decide (a2 < 0) = true := decide_eq_true c37
              clear c37
              (first | rw [c37b0] | (simp only [i64_w, i32_w]; rw [c37b0]) | skip)
              have H' := Aside0.mk H
              clear H
              have hnb38 := NB209_216.out
              have hnc38 := NB216_209.out
              have hcz39_0 : w33.cell? ⟨gb209, 0, none⟩ = some (.int .i64 a0_0) := (blk_cell BK209.out 0).trans rfl
              have hcz39_1 : w33.cell? ⟨gb209, 1, none⟩ = some (.int .i64 a0_1) := (blk_cell BK209.out 1).trans rfl
              have hcz39_2 : w33.cell? ⟨gb209, 2, none⟩ = some (.int .i64 a0_2) := (blk_cell BK209.out 2).trans rfl
              have hcz39_3 : w33.cell? ⟨gb209, 3, none⟩ = some (.int .i64 a0_3) := (blk_cell BK209.out 3).trans rfl
              have hfz39_0 := blk_frozen BK209.out 0
              have hfz39_1 := blk_frozen BK209.out 1
              have hfz39_2 := blk_frozen BK209.out 2
              have hfz39_3 := blk_frozen BK209.out 3
              go_wp2_with (first | (go_at_call 10; (with_reducible refine (celluloidref21_Faint.calls k a0_0 a0_1 a0_2 a0_3 true _ A35.out).mono ?_); rintro e w40 ⟨rfl, hb⟩; have n0_ := Aside0.mk (Kd.R_below (by (with_reducible repeat (first | apply Kd.R_alloc | apply Kd.R_drewN | apply Kd.R_drew)); exact HO219.out) hb); have n1_ := Aside0.mk (blk_below (g := gb209) (o := .cells #[.int .i64 a0_0, .int .i64 a0_1, .int .i64 a0_2, .int .i64 a0_3] 23 (0, 0)) (by (with_reducible repeat (first | refine blk_drewN ?_ _ | refine blk_drew ?_ | refine blk_alloc ?_ _)); exact BK209.out) hb); have n2_ := Aside0.mk (blk_below (g := gb216) (o := .cells #[.int .i64 t211, .int .i64 t212, .int .i64 t213, .int .i64 t214] 23 (0, 0)) (by (with_reducible repeat (first | refine blk_drewN ?_ _ | refine blk_drew ?_ | refine blk_alloc ?_ _)); exact BK216.out) hb); have n3_ := Aside0.mk (below_step (by repeat (first | (with_reducible first | exact HB.out | apply below_alloc | apply pw_below_drewN | apply below_drew1 | refine below_set ?_ GE209.out | refine below_set ?_ GE216.out) | exact HB.out)) hb); clear HO219; clear BK209; clear BK216; clear HB; have HO219 := n0_; have BK209 := n1_; have BK216 := n2_; have HB := n3_; clear n0_ n1_ n2_ n3_; (try clear hb); (try clear hb2); (try clear hk); (try clear hi)))
              go_meet
              case rel => exact ⟨_, (true), (by first | rfl | (simp; done) | (simp [*]; done)), H', ⟨by first | omega | exact Nat.le_refl _⟩, ⟨by (with_reducible repeat (first | refine blk_drewN ?_ _ | refine blk_drew ?_ | refine blk_alloc ?_ _)); exact BK209.out⟩, ⟨by (with_reducible repeat (first | refine blk_drewN ?_ _ | refine blk_drew ?_ | refine blk_alloc ?_ _)); exact BK216.out⟩, ⟨by repeat (first | (with_reducible first | exact HB.out | apply below_alloc | apply pw_below_drewN | apply below_drew1 | refine below_set ?_ GE209.out | refine below_set ?_ GE216.out) | exact HB.out)⟩⟩
            · rw [if_neg c37] at H
              have c37b0 : decide (a2 < 0) = false := decide_eq_false c37
              clear c37
              (first | rw [c37b0] | (simp only [i64_w, i32_w]; rw [c37b0]) | skip)
              have H' := Aside0.mk H
              clear H
              have hnb41 := NB209_216.out
              have hnc41 := NB216_209.out
              have hcz42_0 : w33.cell? ⟨gb209, 0, none⟩ = some (.int .i64 a0_0) := (blk_cell BK209.out 0).trans rfl
              have hcz42_1 : w33.cell? ⟨gb209, 1, none⟩ = some (.int .i64 a0_1) := (blk_cell BK209.out 1).trans rfl
              have hcz42_2 : w33.cell? ⟨gb209, 2, none⟩ = some (.int .i64 a0_2) := (blk_cell BK209.out 2).trans rfl
              have hcz42_3 : w33.cell? ⟨gb209, 3, none⟩ = some (.int .i64 a0_3) := (blk_cell BK209.out 3).trans rfl
              have hfz42_0 := blk_frozen BK209.out 0
              have hfz42_1 := blk_frozen BK209.out 1
              have hfz42_2 := blk_frozen BK209.out 2
              have hfz42_3 := blk_frozen BK209.out 3
              go_wp2_with (first | (go_at_call 10; (with_reducible refine (celluloidref21_Faint.calls k a0_0 a0_1 a0_2 a0_3 true _ A35.out).mono ?_); rintro e w43 ⟨rfl, hb⟩; have n0_ := Aside0.mk (Kd.R_below (by (with_reducible repeat (first | apply Kd.R_alloc | apply Kd.R_drewN | apply Kd.R_drew)); exact HO219.out) hb); have n1_ := Aside0.mk (blk_below (g := gb209) (o := .cells #[.int .i64 a0_0, .int .i64 a0_1, .int .i64 a0_2, .int .i64 a0_3] 23 (0, 0)) (by (with_reducible repeat (first | refine blk_drewN ?_ _ | refine blk_drew ?_ | refine blk_alloc ?_ _)); exact BK209.out) hb); have n2_ := Aside0.mk (blk_below (g := gb216) (o := .cells #[.int .i64 t211, .int .i64 t212, .int .i64 t213, .int .i64 t214] 23 (0, 0)) (by (with_reducible repeat (first | refine blk_drewN ?_ _ | refine blk_drew ?_ | refine blk_alloc ?_ _)); exact BK216.out) hb); have n3_ := Aside0.mk (below_step (by repeat (first | (with_reducible first | exact HB.out | apply below_alloc | apply pw_below_drewN | apply below_drew1 | refine below_set ?_ GE209.out | refine below_set ?_ GE216.out) | exact HB.out)) hb); clear HO219; clear BK209; clear BK216; clear HB; have HO219 := n0_; have BK209 := n1_; have BK216 := n2_; have HB := n3_; clear n0_ n1_ n2_ n3_; (try clear hb); (try clear hb2); (try clear hk); (try clear hi)))
              go_meet
              case rel => exact ⟨_, (decide (a2 > 16)), (by first | rfl | (simp; done) | (simp [*]; done)), H', ⟨by first | omega | exact Nat.le_refl _⟩, ⟨by (with_reducible repeat (first | refine blk_drewN ?_ _ | refine blk_drew ?_ | refine blk_alloc ?_ _)); exact BK209.out⟩, ⟨by (with_reducible repeat (first | refine blk_drewN ?_ _ | refine blk_drew ?_ | refine blk_alloc ?_ _)); exact BK216.out⟩, ⟨by repeat (first | (with_reducible first | exact HB.out | apply below_alloc | apply pw_below_drewN | apply below_drew1 | refine below_set ?_ GE209.out | refine below_set ?_ GE216.out) | exact HB.out)⟩⟩
          · replace c36 := Bool.eq_false_iff.mpr c36
            subst c36
            have H1 : (celluloidlaw21_CanvasOver.j0 k l1 a2 t215 true a0_0 a0_1 a0_2 a0_3 t211 t212 t213 t214) = some r := by rw [if_neg (show ¬ (false = true) by decide)] at H; exact H
            clear H
            have H := H1
            clear H1
            have H' := Aside0.mk H
            clear H
            have hnb44 := NB209_216.out
            have hnc44 := NB216_209.out
            have hcz45_0 : w33.cell? ⟨gb209, 0, none⟩ = some (.int .i64 a0_0) := (blk_cell BK209.out 0).trans rfl
            have hcz45_1 : w33.cell? ⟨gb209, 1, none⟩ = some (.int .i64 a0_1) := (blk_cell BK209.out 1).trans rfl
            have hcz45_2 : w33.cell? ⟨gb209, 2, none⟩ = some (.int .i64 a0_2) := (blk_cell BK209.out 2).trans rfl
            have hcz45_3 : w33.cell? ⟨gb209, 3, none⟩ = some (.int .i64 a0_3) := (blk_cell BK209.out 3).trans rfl
            have hfz45_0 := blk_frozen BK209.out 0
            have hfz45_1 := blk_frozen BK209.out 1
            have hfz45_2 := blk_frozen BK209.out 2
            have hfz45_3 := blk_frozen BK209.out 3
            go_wp2_with (first | (go_at_call 10; (with_reducible refine (celluloidref21_Faint.calls k a0_0 a0_1 a0_2 a0_3 false _ A35.out).mono ?_); rintro e w46 ⟨rfl, hb⟩; have n0_ := Aside0.mk (Kd.R_below (by (with_reducible repeat (first | apply Kd.R_alloc | apply Kd.R_drewN | apply Kd.R_drew)); exact HO219.out) hb); have n1_ := Aside0.mk (blk_below (g := gb209) (o := .cells #[.int .i64 a0_0, .int .i64 a0_1, .int .i64 a0_2, .int .i64 a0_3] 23 (0, 0)) (by (with_reducible repeat (first | refine blk_drewN ?_ _ | refine blk_drew ?_ | refine blk_alloc ?_ _)); exact BK209.out) hb); have n2_ := Aside0.mk (blk_below (g := gb216) (o := .cells #[.int .i64 t211, .int .i64 t212, .int .i64 t213, .int .i64 t214] 23 (0, 0)) (by (with_reducible repeat (first | refine blk_drewN ?_ _ | refine blk_drew ?_ | refine blk_alloc ?_ _)); exact BK216.out) hb); have n3_ := Aside0.mk (below_step (by repeat (first | (with_reducible first | exact HB.out | apply below_alloc | apply pw_below_drewN | apply below_drew1 | refine below_set ?_ GE209.out | refine below_set ?_ GE216.out) | exact HB.out)) hb); clear HO219; clear BK209; clear BK216; clear HB; have HO219 := n0_; have BK209 := n1_; have BK216 := n2_; have HB := n3_; clear n0_ n1_ n2_ n3_; (try clear hb); (try clear hb2); (try clear hk); (try clear hi)))
            go_meet
            case rel => exact ⟨_, (true), (by first | rfl | (simp; done) | (simp [*]; done)), H', ⟨by first | omega | exact Nat.le_refl _⟩, ⟨by (with_reducible repeat (first | refine blk_drewN ?_ _ | refine blk_drew ?_ | refine blk_alloc ?_ _)); exact BK209.out⟩, ⟨by (with_reducible repeat (first | refine blk_drewN ?_ _ | refine blk_drew ?_ | refine blk_alloc ?_ _)); exact BK216.out⟩, ⟨by repeat (first | (with_reducible first | exact HB.out | apply below_alloc | apply pw_below_drewN | apply below_drew1 | refine below_set ?_ GE209.out | refine below_set ?_ GE216.out) | exact HB.out)⟩⟩
        · replace c34 := Bool.eq_false_iff.mpr c34
          subst c34
          have H1 : (celluloidlaw21_CanvasOver.j0 k l1 a2 t215 true a0_0 a0_1 a0_2 a0_3 t211 t212 t213 t214) = some r := by rw [if_neg (show ¬ (false = true) by decide)] at H; exact H
          clear H
          have H := H1
          clear H1
          have H' := Aside0.mk H
          clear H
          go_wp2
          go_meet
          case rel => exact ⟨_, (true), (by first | rfl | (simp; done) | (simp [*]; done)), H', ⟨by first | omega | exact Nat.le_refl _⟩, ⟨by (with_reducible repeat (first | refine blk_drewN ?_ _ | refine blk_drew ?_ | refine blk_alloc ?_ _)); exact BK209.out⟩, ⟨by (with_reducible repeat (first | refine blk_drewN ?_ _ | refine blk_drew ?_ | refine blk_alloc ?_ _)); exact BK216.out⟩, ⟨by repeat (first | (with_reducible first | exact HB.out | apply below_alloc | apply pw_below_drewN | apply below_drew1 | refine below_set ?_ GE209.out | refine below_set ?_ GE216.out) | exact HB.out)⟩⟩
      case rest =>
        clear HC23
        try clear c1
        try clear c2
        try clear p2
        try clear c3
        try clear c4
        try clear c4b0
        try clear c4b1
        try clear c11
        try clear c12
        try clear c12b0
        try clear c12b1
        try clear c12b2
        try clear c14
        try clear c15
        try clear c16
        try clear c17
        try clear c28
        try clear c34
        try clear c36
        try clear c37
        try clear c37b0
        try clear c38
        try clear c41
        try clear c44
        try clear hcz14_0
        try clear hcz14_1
        try clear hcz14_2
        try clear hcz14_3
        try clear hcz18_0
        try clear hcz18_1
        try clear hcz18_2
        try clear hcz18_3
        try clear hcz25_0
        try clear hcz25_1
        try clear hcz25_2
        try clear hcz25_3
        try clear hcz29_0
        try clear hcz29_1
        try clear hcz29_2
        try clear hcz29_3
        try clear hcz39_0
        try clear hcz39_1
        try clear hcz39_2
        try clear hcz39_3
        try clear hcz42_0
        try clear hcz42_1
        try clear hcz42_2
        try clear hcz42_3
        try clear hcz45_0
        try clear hcz45_1
        try clear hcz45_2
        try clear hcz45_3
        try clear hfz14_0
        try clear hfz14_1
        try clear hfz14_2
        try clear hfz14_3
        try clear hfz18_0
        try clear hfz18_1
        try clear hfz18_2
        try clear hfz18_3
        try clear hfz25_0
        try clear hfz25_1
        try clear hfz25_2
        try clear hfz25_3
        try clear hfz29_0
        try clear hfz29_1
        try clear hfz29_2
        try clear hfz29_3
        try clear hfz39_0
        try clear hfz39_1
        try clear hfz39_2
        try clear hfz39_3
        try clear hfz42_0
        try clear hfz42_1
        try clear hfz42_2
        try clear hfz42_3
        try clear hfz45_0
        try clear hfz45_1
        try clear hfz45_2
        try clear hfz45_3
        obtain ⟨kq, x42_22, rfl, HA, HJ22, BK209, BK216, HB⟩ := hcut
        cases kq with
        | zero => exact absurd HA.out (by simp [celluloidlaw21_CanvasOver.j0])
        | succ kj22 =>
          have H := HA.out
          clear HA
          simp only [celluloidlaw21_CanvasOver.j0] at H
          by_cases c47 : x42_22 = true
          · subst c47
            have H1 : (if (t211 == 0 && (t212 == 0 && (t213 == 0 && (t214 == 0)))) = true then (if t215 = 1 then ((celluloidlaw21_awake.f kj22).bind fun t223 => (some t223)) else (some false)) else (some false)) = some r := by rw [if_pos rfl] at H; exact H
            clear H
            have H := H1
            clear H1
            by_cases c48 : (t211 == 0 && (t212 == 0 && (t213 == 0 && (t214 == 0)))) = true
            · rw [if_pos c48] at H
              have c48b0 : (t211 == 0 && (t212 == 0 && (t213 == 0 && (t214 == 0)))) = true := c48
              (try (have c48b1 : decide (t211 = 0 && (t212 == 0 && (t213 == 0 && (t214 == 0)))) = true := by simpa using c48))
              (try (have c48b2 : (t211 == 0 && (t212 == 0 && (t213 == 0 && (t214 == 0)))) = true := by simpa using c48))
              clear c48
              by_cases c49 : t215 = 1
              · rw [if_pos c49] at H
                have c49b0 : (t215 == 1) = true := beq_iff_eq.mpr c49
                have c49b1 : (t215 != 1) = false := bne_eq_false_iff_eq.mpr c49
                clear c49
                replace H := Option.bind_eq_some_iff.mp H
                obtain ⟨t223, A500, H⟩ := H
                replace H : (some t223) = some r := H
                have A50 := Aside0.mk A500
                clear A500
                first
                | exact absurd (Option.some.inj H) (by rw [hr_.out]; decide)
                | obtain rfl := Option.some.inj H
                  have hnb51 := NB216_209.out
                  have hnc51 := NB209_216.out
                  have hcz52_0 : wc.cell? ⟨gb216, 0, none⟩ = some (.int .i64 t211) := (blk_cell BK216.out 0).trans rfl
                  have hcz52_1 : wc.cell? ⟨gb216, 1, none⟩ = some (.int .i64 t212) := (blk_cell BK216.out 1).trans rfl
                  have hcz52_2 : wc.cell? ⟨gb216, 2, none⟩ = some (.int .i64 t213) := (blk_cell BK216.out 2).trans rfl
                  have hcz52_3 : wc.cell? ⟨gb216, 3, none⟩ = some (.int .i64 t214) := (blk_cell BK216.out 3).trans rfl
                  have hfz52_0 := blk_frozen BK216.out 0
                  have hfz52_1 := blk_frozen BK216.out 1
                  have hfz52_2 := blk_frozen BK216.out 2
                  have hfz52_3 := blk_frozen BK216.out 3
                  go_wp2_with (first | (go_at_call 11; (with_reducible refine (celluloidlaw21_awake.calls kj22  t223 _ A50.out).mono ?_); rintro e w53 ⟨rfl, hb⟩; have n0_ := Aside0.mk (blk_below (g := gb209) (o := .cells #[.int .i64 a0_0, .int .i64 a0_1, .int .i64 a0_2, .int .i64 a0_3] 23 (0, 0)) (by (with_reducible repeat (first | refine blk_drewN ?_ _ | refine blk_drew ?_ | refine blk_alloc ?_ _)); exact BK209.out) hb); have n1_ := Aside0.mk (blk_below (g := gb216) (o := .cells #[.int .i64 t211, .int .i64 t212, .int .i64 t213, .int .i64 t214] 23 (0, 0)) (by (with_reducible repeat (first | refine blk_drewN ?_ _ | refine blk_drew ?_ | refine blk_alloc ?_ _)); exact BK216.out) hb); have n2_ := Aside0.mk (below_step (by repeat (first | (with_reducible first | exact HB.out | apply below_alloc | apply pw_below_drewN | apply below_drew1 | refine below_set ?_ GE209.out | refine below_set ?_ GE216.out) | exact HB.out)) hb); clear BK209; clear BK216; clear HB; have BK209 := n0_; have BK216 := n1_; have HB := n2_; clear n0_ n1_ n2_; (try clear hb); (try clear hb2); (try clear hk); (try clear hi)))
                  go_ret
                  exact ⟨by first | rfl | (simp [errW_none, errW_some] <;> rfl) | (simp [*, errW_none, errW_some] <;> rfl), by repeat (first | (with_reducible first | exact HB.out | apply below_alloc | apply pw_below_drewN | apply below_drew1 | refine below_set ?_ GE209.out | refine below_set ?_ GE216.out) | exact HB.out)⟩
              · rw [if_neg c49] at H
                have c49b0 : (t215 == 1) = false := beq_eq_false_iff_ne.mpr c49
                have c49b1 : (t215 != 1) = true := bne_iff_ne.mpr c49
                exact absurd (Option.some.inj H) (by rw [hr_.out]; decide)
            · rw [if_neg c48] at H
              have c48b0 : (t211 == 0 && (t212 == 0 && (t213 == 0 && (t214 == 0)))) = false := by simpa using c48
              (try (have c48b1 : decide (t211 = 0 && (t212 == 0 && (t213 == 0 && (t214 == 0)))) = false := by simpa using c48))
              (try (have c48b2 : (t211 == 0 && (t212 == 0 && (t213 == 0 && (t214 == 0)))) = false := by simpa using c48))
              (try (have c48b3 : ¬ (t211 = 0 && (t212 == 0 && (t213 == 0 && (t214 == 0)))) := by simpa using c48))
              clear c48
              exact absurd (Option.some.inj H) (by rw [hr_.out]; decide)
          · replace c47 := Bool.eq_false_iff.mpr c47
            subst c47
            have H1 : ((celluloidlaw21_refs.f kj22 l1).bind fun t224 => ((celluloidref21_Over.f kj22 a0_0 a0_1 a0_2 a0_3 t224 a2).bind fun bt227 => (if (t211 == bt227.1 && (t212 == bt227.2.1 && (t213 == bt227.2.2.1 && (t214 == bt227.2.2.2)))) = true then (if t215 = 0 then ((celluloidlaw21_awake.f kj22).bind fun t231 => (some t231)) else (some false)) else (some false)))) = some r := by rw [if_neg (show ¬ (false = true) by decide)] at H; exact H
            clear H
            have H := H1
            clear H1
            replace H := Option.bind_eq_some_iff.mp H
            obtain ⟨t224, A580, H⟩ := H
            replace H : ((celluloidref21_Over.f kj22 a0_0 a0_1 a0_2 a0_3 t224 a2).bind fun bt227 => (if (t211 == bt227.1 && (t212 == bt227.2.1 && (t213 == bt227.2.2.1 && (t214 == bt227.2.2.2)))) = true then (if t215 = 0 then ((celluloidlaw21_awake.f kj22).bind fun t231 => (some t231)) else (some false)) else (some false))) = some r := H
            have A58 := Aside0.mk A580
            clear A580
            replace H := Option.bind_eq_some_iff.mp H
            obtain ⟨⟨t227, t228, t229, t230⟩, A590, H⟩ := H
            replace H : (if (t211 == t227 && (t212 == t228 && (t213 == t229 && (t214 == t230)))) = true then (if t215 = 0 then ((celluloidlaw21_awake.f kj22).bind fun t231 => (some t231)) else (some false)) else (some false)) = some r := H
            have A59 := Aside0.mk A590
            clear A590
            by_cases c60 : (t211 == t227 && (t212 == t228 && (t213 == t229 && (t214 == t230)))) = true
            · rw [if_pos c60] at H
              have c60b0 : (t211 == t227 && (t212 == t228 && (t213 == t229 && (t214 == t230)))) = true := c60
              (try (have c60b1 : decide (t211 = t227 && (t212 == t228 && (t213 == t229 && (t214 == t230)))) = true := by simpa using c60))
              (try (have c60b2 : (t211 == t227 && (t212 == t228 && (t213 == t229 && (t214 == t230)))) = true := by simpa using c60))
              clear c60
              by_cases c61 : t215 = 0
              · rw [if_pos c61] at H
                have c61b0 : (t215 == 0) = true := beq_iff_eq.mpr c61
                have c61b1 : (t215 != 0) = false := bne_eq_false_iff_eq.mpr c61
                clear c61
                replace H := Option.bind_eq_some_iff.mp H
                obtain ⟨t231, A620, H⟩ := H
                replace H : (some t231) = some r := H
                have A62 := Aside0.mk A620
                clear A620
                first
                | exact absurd (Option.some.inj H) (by rw [hr_.out]; decide)
                | obtain rfl := Option.some.inj H
                  try go_wp2
                  have n0_ := Aside0.mk (blk_drew BK209.out)
                  have n1_ := Aside0.mk (blk_drew BK216.out)
                  have n2_ := Aside0.mk (below_drew1 HB.out)
                  clear BK209
                  clear BK216
                  clear HB
                  have BK209 := n0_
                  have BK216 := n1_
                  have HB := n2_
                  clear n0_ n1_ n2_
                  refine start_ (n := 15) (S := fun w' => w'.cell? ⟨gb216, 0, none⟩ = some (.int .i64 t211) ∧ w'.cell? ⟨gb216, 1, none⟩ = some (.int .i64 t212) ∧ w'.cell? ⟨gb216, 2, none⟩ = some (.int .i64 t213) ∧ w'.cell? ⟨gb216, 3, none⟩ = some (.int .i64 t214) ∧ w'.cell? ⟨gb209, 0, none⟩ = some (.int .i64 a0_0) ∧ w'.cell? ⟨gb209, 1, none⟩ = some (.int .i64 a0_1) ∧ w'.cell? ⟨gb209, 2, none⟩ = some (.int .i64 a0_2) ∧ w'.cell? ⟨gb209, 3, none⟩ = some (.int .i64 a0_3)) (ds := []) #[false, false, false, false, false, false, false, false, false, false, false, false, false, false, false] (by kernel_rfl) rfl rfl ⟨(blk_cell BK216.out 0).trans rfl, (blk_cell BK216.out 1).trans rfl, (blk_cell BK216.out 2).trans rfl, (blk_cell BK216.out 3).trans rfl, (blk_cell BK209.out 0).trans rfl, (blk_cell BK209.out 1).trans rfl, (blk_cell BK209.out 2).trans rfl, (blk_cell BK209.out 3).trans rfl⟩ (fun hHeld => ?_); refine with_tabW celluloidlaw21_CanvasOver.tab9 celluloidlaw21_CanvasOver.bits9 (fun HT_ HW_ => ?_)
                  generalize wc.drew = w63 at BK209 BK216 HB hHeld ⊢
                  refine pure_ (i := 2) (N := some 55) (v := ?_) (a' := ?_) #[false, false, true, false, false, false, false, false, false, false, false, false, false, false, false] rfl rfl (any_of HT_.out (by kernel_rfl)) (fun _ _ _ h => h) (Or.inl ⟨by rfl, ?_⟩) ?_ ?_
                  rotate_left
                  · intro w'
                    go_simp
                    first | with_reducible rfl | (have hne_ := c60b0; simp only [Bool.and_eq_true, beq_iff_eq] at hne_; obtain ⟨en0_, en1_, en2_, en3_⟩ := hne_; rw [if_pos en0_, if_pos en1_, if_pos en2_, if_pos en3_])
                  rotate_left
                  · simp only [Act.put, List.setIfInBounds_toArray, List.set_cons_zero, List.set_cons_succ, i64_w, i32_w]
                    rfl
                  refine pure_ (i := 4) (N := some 57) (v := ?_) (a' := ?_) #[false, false, true, false, true, false, false, false, false, false, false, false, false, false, false] rfl rfl (any_of HT_.out (by kernel_rfl)) (fun _ _ _ h => h) (Or.inl ⟨by rfl, ?_⟩) ?_ ?_
                  rotate_left
                  · intro w'
                    go_simp
                    first | with_reducible rfl | (have hne_ := c60b0; simp only [Bool.and_eq_true, beq_iff_eq] at hne_; obtain ⟨en0_, en1_, en2_, en3_⟩ := hne_; rw [if_pos en0_, if_pos en1_, if_pos en2_, if_pos en3_])
                  rotate_left
                  · simp only [Act.put, List.setIfInBounds_toArray, List.set_cons_zero, List.set_cons_succ, i64_w, i32_w]
                    rfl
                  refine take_ (i := 0) (N := some 53) (v := ?_) (a' := ?_) #[true, false, true, false, true, false, false, false, false, false, false, false, false, false, false] rfl rfl (take_ofW HT_.out HW_.out (by kernel_rfl)) (fun _ _ _ h => h) (Or.inl ⟨by rfl, ?_⟩) hHeld ?_ ?_
                  rotate_left
                  · rintro w' ⟨s0, s1, s2, s3, s4, s5, s6, s7⟩
                    go_simp
                    first | with_reducible rfl | (have hne_ := c60b0; simp only [Bool.and_eq_true, beq_iff_eq] at hne_; obtain ⟨en0_, en1_, en2_, en3_⟩ := hne_; rw [if_pos en0_, if_pos en1_, if_pos en2_, if_pos en3_])
                  rotate_left
                  · simp only [Act.put, List.setIfInBounds_toArray, List.set_cons_zero, List.set_cons_succ, i64_w, i32_w]
                    rfl
                  refine take_ (i := 1) (N := some 54) (v := ?_) (a' := ?_) #[true, true, true, false, true, false, false, false, false, false, false, false, false, false, false] rfl rfl (take_ofW HT_.out HW_.out (by kernel_rfl)) (fun _ _ _ h => h) (Or.inl ⟨by rfl, ?_⟩) hHeld ?_ ?_
                  rotate_left
                  · rintro w' ⟨s0, s1, s2, s3, s4, s5, s6, s7⟩
                    go_simp
                    first | with_reducible rfl | (have hne_ := c60b0; simp only [Bool.and_eq_true, beq_iff_eq] at hne_; obtain ⟨en0_, en1_, en2_, en3_⟩ := hne_; rw [if_pos en0_, if_pos en1_, if_pos en2_, if_pos en3_])
                  rotate_left
                  · simp only [Act.put, List.setIfInBounds_toArray, List.set_cons_zero, List.set_cons_succ, i64_w, i32_w]
                    rfl
                  refine one_ (i := 3) (N := some 56) #[true, true, true, true, true, false, false, false, false, false, false, false, false, false, false] rfl rfl (one_of HT_.out (by kernel_rfl)) (by decide) (fun K hK => ?_)
                  refine goes_ Try.func16 (by kernel_rfl) rfl #[.slice A1 l1.length c1] (by rfl) rfl rfl (by (try simp only [List.map_toArray, List.map_cons, List.map_nil]); first | done | rfl | (simp only [List.length_drop, List.length_take]; rfl)) ?_
                  with_reducible refine (celluloidlaw21_refs.calls kj22 _ _ l1 t224 _ ?side1 ?side2 A58.out).mono ?_
                  (case side1 => repeat (first | exact (Kd.C_below HR1.out HB.out) | (with_reducible refine Kd.C_alloc ?_ _) | (with_reducible refine Kd.C_drewN ?_ _) | (with_reducible refine Kd.C_drew ?_)))
                  (case side2 => exact HC1.out)
                  rintro e w64 ⟨v225, rfl, ho0, hb⟩
                  refine ⟨_, rfl, ?_⟩
                  have n0_ := Aside0.mk (Kd.R_lower ho0 (below_size (by repeat (first | (with_reducible first | exact HB.out | apply below_alloc | apply pw_below_drewN | apply below_drew1 | refine below_set ?_ GE209.out | refine below_set ?_ GE216.out) | exact HB.out))))
                  have n1_ := Aside0.mk (blk_below (g := gb209) (o := .cells #[.int .i64 a0_0, .int .i64 a0_1, .int .i64 a0_2, .int .i64 a0_3] 23 (0, 0)) (by (with_reducible repeat (first | refine blk_drewN ?_ _ | refine blk_drew ?_ | refine blk_alloc ?_ _)); exact BK209.out) hb)
                  have n2_ := Aside0.mk (blk_below (g := gb216) (o := .cells #[.int .i64 t211, .int .i64 t212, .int .i64 t213, .int .i64 t214] 23 (0, 0)) (by (with_reducible repeat (first | refine blk_drewN ?_ _ | refine blk_drew ?_ | refine blk_alloc ?_ _)); exact BK216.out) hb)
                  have n3_ := Aside0.mk (below_step (by repeat (first | (with_reducible first | exact HB.out | apply below_alloc | apply pw_below_drewN | apply below_drew1 | refine below_set ?_ GE209.out | refine below_set ?_ GE216.out) | exact HB.out)) hb)
                  clear BK209
                  clear BK216
                  clear HB
                  have HO226 := n0_
                  have BK209 := n1_
                  have BK216 := n2_
                  have HB := n3_
                  clear n0_ n1_ n2_ n3_
                  (try clear hb)
                  (try clear hb2)
                  (try clear hk)
                  (try clear hi)
                  (try clear ho0)
                  obtain ⟨Ao65, co65, eo65⟩ := Kd.R_slice HO226.out
                  (first | subst eo65 | (injection eo65 with f1_ f2_ f3_; have f4_ := f1_.symm; have f5_ := f3_.symm; clear f1_ f2_ f3_; subst f4_; subst f5_))
                  refine hK.out _ _ ⟨(blk_cell BK216.out 0).trans rfl, (blk_cell BK216.out 1).trans rfl, (blk_cell BK216.out 2).trans rfl, (blk_cell BK216.out 3).trans rfl, (blk_cell BK209.out 0).trans rfl, (blk_cell BK209.out 1).trans rfl, (blk_cell BK209.out 2).trans rfl, (blk_cell BK209.out 3).trans rfl⟩ (fun hHeld => ?_)
                  clear hK K
                  refine norm_ (a' := ?_) ?_ ?_
                  rotate_left
                  · show Act.put _ (some 56) _ = _
                    simp only [Act.put, List.setIfInBounds_toArray, List.set_cons_zero, List.set_cons_succ, i64_w, i32_w]
                    rfl
                  refine one_ (i := 5) (N := some 58) #[true, true, true, true, true, true, false, false, false, false, false, false, false, false, false] rfl rfl (one_of HT_.out (by kernel_rfl)) (by decide) (fun K hK => ?_)
                  refine goes_ Try.func18 (by kernel_rfl) rfl #[.agg #[.int .i64 a0_0, .int .i64 a0_1, .int .i64 a0_2, .int .i64 a0_3], .slice Ao65 t224.length co65, .int .i64 a2] (by rfl) rfl rfl (by (try simp only [List.map_toArray, List.map_cons, List.map_nil]); first | done | rfl | (simp only [List.length_drop, List.length_take]; rfl)) ?_
                  with_reducible refine (celluloidref21_Over.calls kj22 a0_0 a0_1 a0_2 a0_3 _ _ t224 a2 t227 t228 t229 t230 _ ?side1 ?side2 A59.out).mono ?_
                  (case side1 => repeat (first | exact (Kd.R_reads' HO226.out).2.2 | (with_reducible refine Kd.C_alloc ?_ _) | (with_reducible refine Kd.C_drewN ?_ _) | (with_reducible refine Kd.C_drew ?_)))
                  (case side2 => exact (Kd.R_reads' HO226.out).2.1)
                  rintro e w66 ⟨rfl, hb⟩
                  refine ⟨_, rfl, ?_⟩
                  have n0_ := Aside0.mk (Kd.R_below (by (with_reducible repeat (first | apply Kd.R_alloc | apply Kd.R_drewN | apply Kd.R_drew)); exact HO226.out) hb)
                  have n1_ := Aside0.mk (blk_below (g := gb209) (o := .cells #[.int .i64 a0_0, .int .i64 a0_1, .int .i64 a0_2, .int .i64 a0_3] 23 (0, 0)) (by (with_reducible repeat (first | refine blk_drewN ?_ _ | refine blk_drew ?_ | refine blk_alloc ?_ _)); exact BK209.out) hb)
                  have n2_ := Aside0.mk (blk_below (g := gb216) (o := .cells #[.int .i64 t211, .int .i64 t212, .int .i64 t213, .int .i64 t214] 23 (0, 0)) (by (with_reducible repeat (first | refine blk_drewN ?_ _ | refine blk_drew ?_ | refine blk_alloc ?_ _)); exact BK216.out) hb)
                  have n3_ := Aside0.mk (below_step (by repeat (first | (with_reducible first | exact HB.out | apply below_alloc | apply pw_below_drewN | apply below_drew1 | refine below_set ?_ GE209.out | refine below_set ?_ GE216.out) | exact HB.out)) hb)
                  clear HO226
                  clear BK209
                  clear BK216
                  clear HB
                  have HO226 := n0_
                  have BK209 := n1_
                  have BK216 := n2_
                  have HB := n3_
                  clear n0_ n1_ n2_ n3_
                  (try clear hb)
                  (try clear hb2)
                  (try clear hk)
                  (try clear hi)
                  refine hK.out _ _ ⟨(blk_cell BK216.out 0).trans rfl, (blk_cell BK216.out 1).trans rfl, (blk_cell BK216.out 2).trans rfl, (blk_cell BK216.out 3).trans rfl, (blk_cell BK209.out 0).trans rfl, (blk_cell BK209.out 1).trans rfl, (blk_cell BK209.out 2).trans rfl, (blk_cell BK209.out 3).trans rfl⟩ (fun hHeld => ?_)
                  clear hK K
                  refine norm_ (a' := ?_) ?_ ?_
                  rotate_left
                  · show Act.put _ (some 58) _ = _
                    simp only [Act.put, List.setIfInBounds_toArray, List.set_cons_zero, List.set_cons_succ, i64_w, i32_w]
                    rfl
                  refine pure_ (i := 6) (N := some 59) (v := ?_) (a' := ?_) #[true, true, true, true, true, true, true, false, false, false, false, false, false, false, false] rfl rfl (any_of HT_.out (by kernel_rfl)) (fun _ _ _ h => h) (Or.inl ⟨by rfl, ?_⟩) ?_ ?_
                  rotate_left
                  · intro w'
                    go_simp
                    first | with_reducible rfl | (have hne_ := c60b0; simp only [Bool.and_eq_true, beq_iff_eq] at hne_; obtain ⟨en0_, en1_, en2_, en3_⟩ := hne_; rw [if_pos en0_, if_pos en1_, if_pos en2_, if_pos en3_])
                  rotate_left
                  · simp only [Act.put, List.setIfInBounds_toArray, List.set_cons_zero, List.set_cons_succ, i64_w, i32_w]
                    rfl
                  refine pure_ (i := 7) (N := some 60) (v := ?_) (a' := ?_) #[true, true, true, true, true, true, true, true, false, false, false, false, false, false, false] rfl rfl (any_of HT_.out (by kernel_rfl)) (fun _ _ _ h => h) (Or.inl ⟨by rfl, ?_⟩) ?_ ?_
                  rotate_left
                  · intro w'
                    go_simp
                    first | with_reducible rfl | (have hne_ := c60b0; simp only [Bool.and_eq_true, beq_iff_eq] at hne_; obtain ⟨en0_, en1_, en2_, en3_⟩ := hne_; rw [if_pos en0_, if_pos en1_, if_pos en2_, if_pos en3_])
                  rotate_left
                  · simp only [Act.put, List.setIfInBounds_toArray, List.set_cons_zero, List.set_cons_succ, i64_w, i32_w]
                    rfl
                  refine pure_ (i := 8) (N := some 61) (v := ?_) (a' := ?_) #[true, true, true, true, true, true, true, true, true, false, false, false, false, false, false] rfl rfl (any_of HT_.out (by kernel_rfl)) (fun _ _ _ h => h) (Or.inl ⟨by rfl, ?_⟩) ?_ ?_
                  rotate_left
                  · intro w'
                    go_simp
                    first | with_reducible rfl | (have hne_ := c60b0; simp only [Bool.and_eq_true, beq_iff_eq] at hne_; obtain ⟨en0_, en1_, en2_, en3_⟩ := hne_; rw [if_pos en0_, if_pos en1_, if_pos en2_, if_pos en3_])
                  rotate_left
                  · simp only [Act.put, List.setIfInBounds_toArray, List.set_cons_zero, List.set_cons_succ, i64_w, i32_w]
                    rfl
                  refine pure_ (i := 9) (N := some 62) (v := ?_) (a' := ?_) #[true, true, true, true, true, true, true, true, true, true, false, false, false, false, false] rfl rfl (any_of HT_.out (by kernel_rfl)) (fun _ _ _ h => h) (Or.inl ⟨by rfl, ?_⟩) ?_ ?_
                  rotate_left
                  · intro w'
                    go_simp
                    first | with_reducible rfl | (have hne_ := c60b0; simp only [Bool.and_eq_true, beq_iff_eq] at hne_; obtain ⟨en0_, en1_, en2_, en3_⟩ := hne_; rw [if_pos en0_, if_pos en1_, if_pos en2_, if_pos en3_])
                  rotate_left
                  · simp only [Act.put, List.setIfInBounds_toArray, List.set_cons_zero, List.set_cons_succ, i64_w, i32_w]
                    rfl
                  refine pure_ (i := 10) (N := some 63) (v := ?_) (a' := ?_) #[true, true, true, true, true, true, true, true, true, true, true, false, false, false, false] rfl rfl (any_of HT_.out (by kernel_rfl)) (fun _ _ _ h => h) (Or.inl ⟨by rfl, ?_⟩) ?_ ?_
                  rotate_left
                  · intro w'
                    go_simp
                    first | with_reducible rfl | (have hne_ := c60b0; simp only [Bool.and_eq_true, beq_iff_eq] at hne_; obtain ⟨en0_, en1_, en2_, en3_⟩ := hne_; rw [if_pos en0_, if_pos en1_, if_pos en2_, if_pos en3_])
                  rotate_left
                  · simp only [Act.put, List.setIfInBounds_toArray, List.set_cons_zero, List.set_cons_succ, i64_w, i32_w]
                    rfl
                  refine pure_ (i := 11) (N := some 64) (v := ?_) (a' := ?_) #[true, true, true, true, true, true, true, true, true, true, true, true, false, false, false] rfl rfl (any_of HT_.out (by kernel_rfl)) (fun _ _ _ h => h) (Or.inl ⟨by rfl, ?_⟩) ?_ ?_
                  rotate_left
                  · intro w'
                    go_simp
                    first | with_reducible rfl | (have hne_ := c60b0; simp only [Bool.and_eq_true, beq_iff_eq] at hne_; obtain ⟨en0_, en1_, en2_, en3_⟩ := hne_; rw [if_pos en0_, if_pos en1_, if_pos en2_, if_pos en3_])
                  rotate_left
                  · simp only [Act.put, List.setIfInBounds_toArray, List.set_cons_zero, List.set_cons_succ, i64_w, i32_w]
                    rfl
                  refine one_ (i := 12) (N := some 65) #[true, true, true, true, true, true, true, true, true, true, true, true, true, false, false] rfl rfl (one_of HT_.out (by kernel_rfl)) (by decide) (fun K hK => ?_)
                  refine goes_ Try.func11 (by kernel_rfl) rfl #[] (by rfl) rfl rfl (by (try simp only [List.map_toArray, List.map_cons, List.map_nil]); first | done | rfl | (simp only [List.length_drop, List.length_take]; rfl)) ?_
                  with_reducible refine (celluloidlaw21_awake.calls kj22  t231 _ A62.out).mono ?_
                  rintro e w67 ⟨rfl, hb⟩
                  refine ⟨_, rfl, ?_⟩
                  have n0_ := Aside0.mk (Kd.R_below (by (with_reducible repeat (first | apply Kd.R_alloc | apply Kd.R_drewN | apply Kd.R_drew)); exact HO226.out) hb)
                  have n1_ := Aside0.mk (blk_below (g := gb209) (o := .cells #[.int .i64 a0_0, .int .i64 a0_1, .int .i64 a0_2, .int .i64 a0_3] 23 (0, 0)) (by (with_reducible repeat (first | refine blk_drewN ?_ _ | refine blk_drew ?_ | refine blk_alloc ?_ _)); exact BK209.out) hb)
                  have n2_ := Aside0.mk (blk_below (g := gb216) (o := .cells #[.int .i64 t211, .int .i64 t212, .int .i64 t213, .int .i64 t214] 23 (0, 0)) (by (with_reducible repeat (first | refine blk_drewN ?_ _ | refine blk_drew ?_ | refine blk_alloc ?_ _)); exact BK216.out) hb)
                  have n3_ := Aside0.mk (below_step (by repeat (first | (with_reducible first | exact HB.out | apply below_alloc | apply pw_below_drewN | apply below_drew1 | refine below_set ?_ GE209.out | refine below_set ?_ GE216.out) | exact HB.out)) hb)
                  clear HO226
                  clear BK209
                  clear BK216
                  clear HB
                  have HO226 := n0_
                  have BK209 := n1_
                  have BK216 := n2_
                  have HB := n3_
                  clear n0_ n1_ n2_ n3_
                  (try clear hb)
                  (try clear hb2)
                  (try clear hk)
                  (try clear hi)
                  refine hK.out _ _ ⟨(blk_cell BK216.out 0).trans rfl, (blk_cell BK216.out 1).trans rfl, (blk_cell BK216.out 2).trans rfl, (blk_cell BK216.out 3).trans rfl, (blk_cell BK209.out 0).trans rfl, (blk_cell BK209.out 1).trans rfl, (blk_cell BK209.out 2).trans rfl, (blk_cell BK209.out 3).trans rfl⟩ (fun hHeld => ?_)
                  clear hK K
                  refine norm_ (a' := ?_) ?_ ?_
                  rotate_left
                  · show Act.put _ (some 65) _ = _
                    simp only [Act.put, List.setIfInBounds_toArray, List.set_cons_zero, List.set_cons_succ, i64_w, i32_w]
                    rfl
                  refine pure_ (i := 13) (N := some 66) (v := ?_) (a' := ?_) #[true, true, true, true, true, true, true, true, true, true, true, true, true, true, false] rfl rfl (any_of HT_.out (by kernel_rfl)) (fun _ _ _ h => h) (Or.inl ⟨by rfl, ?_⟩) ?_ ?_
                  rotate_left
                  · intro w'
                    go_simp
                    first | with_reducible rfl | (have hne_ := c60b0; simp only [Bool.and_eq_true, beq_iff_eq] at hne_; obtain ⟨en0_, en1_, en2_, en3_⟩ := hne_; rw [if_pos en0_, if_pos en1_, if_pos en2_, if_pos en3_])
                  rotate_left
                  · simp only [Act.put, List.setIfInBounds_toArray, List.set_cons_zero, List.set_cons_succ, i64_w, i32_w]
                    rfl
                  refine pure_ (i := 14) (N := some 6) (v := ?_) (a' := ?_) #[true, true, true, true, true, true, true, true, true, true, true, true, true, true, true] rfl rfl (any_of HT_.out (by kernel_rfl)) (fun _ _ _ h => h) (Or.inl ⟨by rfl, ?_⟩) ?_ ?_
                  rotate_left
                  · intro w'
                    go_simp
                    first | with_reducible rfl | (have hne_ := c60b0; simp only [Bool.and_eq_true, beq_iff_eq] at hne_; obtain ⟨en0_, en1_, en2_, en3_⟩ := hne_; rw [if_pos en0_, if_pos en1_, if_pos en2_, if_pos en3_])
                  rotate_left
                  · simp only [Act.put, List.setIfInBounds_toArray, List.set_cons_zero, List.set_cons_succ, i64_w, i32_w]
                    rfl
                  refine done_ (done_of HT_.out (by kernel_rfl)) ?_
                  try go_wp2
                  go_ret
                  exact ⟨by first | rfl | (simp [errW_none, errW_some] <;> rfl) | (simp [*, errW_none, errW_some] <;> rfl), by repeat (first | (with_reducible first | exact HB.out | apply below_alloc | apply pw_below_drewN | apply below_drew1 | refine below_set ?_ GE209.out | refine below_set ?_ GE216.out) | exact HB.out)⟩
              · rw [if_neg c61] at H
                have c61b0 : (t215 == 0) = false := beq_eq_false_iff_ne.mpr c61
                have c61b1 : (t215 != 0) = true := bne_iff_ne.mpr c61
                exact absurd (Option.some.inj H) (by rw [hr_.out]; decide)
            · rw [if_neg c60] at H
              have c60b0 : (t211 == t227 && (t212 == t228 && (t213 == t229 && (t214 == t230)))) = false := by simpa using c60
              (try (have c60b1 : decide (t211 = t227 && (t212 == t228 && (t213 == t229 && (t214 == t230)))) = false := by simpa using c60))
              (try (have c60b2 : (t211 == t227 && (t212 == t228 && (t213 == t229 && (t214 == t230)))) = false := by simpa using c60))
              (try (have c60b3 : ¬ (t211 = t227 && (t212 == t228 && (t213 == t229 && (t214 == t230)))) := by simpa using c60))
              clear c60
              exact absurd (Option.some.inj H) (by rw [hr_.out]; decide)
-- walked by hand: function 20 (celluloidref21_Right)

-- walked by hand: function 21 (celluloidlaw21_ref)

end Go.Proofs.Ytdkiglaidbahmaa.GCan
