-- Written by a program of this session (wip/tools/print2.py) for this claim.
import Derived.Test.YtdkiglaidbahmaaGCanx0
import Derived.Test.YtdkiglaidbahmaaGCanx1
import Derived.Test.YtdkiglaidbahmaaGCanx3
namespace Go.Proofs.Ytdkiglaidbahmaa.GCan
open Go.RowKit Go.Proofs.YtdkiglaidbahmaaW.PrintWords Go.Proofs.YtdkiglaidbahmaaW.PrintLast Go.Proofs.YtdkiglaidbahmaaW.PrintMore Go.Proofs.Ytdkiglaidbahmaa.PCanvasLays Go.Proofs.Ytdkiglaidbahmaa.Ext
attribute [local go_sem] max2_int min2_int max_two min_two max_three min_three max_four min_four   -- for this text's walks alone
set_option linter.unusedVariables false
set_option linter.unusedSimpArgs false

attribute [local go_sem high] eqA23
/-! ### celluloidlaw21_CanvasFaint: function 6 -/
mutual
def celluloidlaw21_CanvasFaint.j0 : Nat → List (S50) → Int → Bool → Int → Int → Int → Int → Option (Bool)
  | 0, _, _, _, _, _, _, _ => none
  | k + 1, x1, x2, x22, x269000, x269001, x269002, x269003 => if x22 = true then ((celluloidlaw21_awake.f k).bind fun t270 => (some t270)) else ((canvas_Over.f k x269000 x269001 x269002 x269003 x1 x2).bind fun bt271 => (if bt271.2.2.2.2 = 0 then ((canvas_Over.f k x269000 x269001 x269002 x269003 ([] : List (S50)) x2).bind fun bt278 => ((canvas_Over.f k x269000 x269001 x269002 x269003 x1 0).bind fun bt284 => ((celluloidref21_Faint.f k bt271.1 bt271.2.1 bt271.2.2.1 bt271.2.2.2.1).bind fun t290 => (if t290 = true then (if bt271.2.2.2.1 < x269003 then (celluloidlaw21_CanvasFaint.j1 k x1 true x269000 x269001 x269002 x269003) else (if (!(bt278.1 == x269000) || (!(bt278.2.1 == x269001) || (!(bt278.2.2.1 == x269002) || (!(bt278.2.2.2.1 == x269003))))) = true then (celluloidlaw21_CanvasFaint.j1 k x1 true x269000 x269001 x269002 x269003) else (if bt278.2.2.2.2 = 0 then (if (!(bt284.1 == x269000) || (!(bt284.2.1 == x269001) || (!(bt284.2.2.1 == x269002) || (!(bt284.2.2.2.1 == x269003))))) = true then (celluloidlaw21_CanvasFaint.j1 k x1 true x269000 x269001 x269002 x269003) else (celluloidlaw21_CanvasFaint.j1 k x1 (bt284.2.2.2.2 != 0) x269000 x269001 x269002 x269003)) else (celluloidlaw21_CanvasFaint.j1 k x1 true x269000 x269001 x269002 x269003)))) else (celluloidlaw21_CanvasFaint.j1 k x1 true x269000 x269001 x269002 x269003))))) else ((celluloidlaw21_awake.f k).bind fun t277 => (some t277))))
def celluloidlaw21_CanvasFaint.j1 : Nat → List (S50) → Bool → Int → Int → Int → Int → Option (Bool)
  | 0, _, _, _, _, _, _ => none
  | k + 1, x1, x73, x269000, x269001, x269002, x269003 => if x73 = true then (some false) else (if (x1.length : Int) > 0 then (if 0 < (x1.length : Int) then (celluloidlaw21_CanvasFaint.j2 k x1 (((rd_T50 x1 0).f0.f3) == 255) x269000 x269001 x269002 x269003) else (none)) else (celluloidlaw21_CanvasFaint.j2 k x1 false x269000 x269001 x269002 x269003))
def celluloidlaw21_CanvasFaint.j2 : Nat → List (S50) → Bool → Int → Int → Int → Int → Option (Bool)
  | 0, _, _, _, _, _, _ => none
  | k + 1, x1, x84, x269000, x269001, x269002, x269003 => if x84 = true then (if 0 < (x1.length : Int) then ((canvas_Over.f k x269000 x269001 x269002 x269003 (([(⟨(⟨(rd_T50 x1 0).f0.f0, (rd_T50 x1 0).f0.f1, (rd_T50 x1 0).f0.f2, (rd_T50 x1 0).f0.f3⟩ : S23), 16⟩ : S50)] : List (S50))) 16).bind fun bt296 => (if (bt296.1 == ((rd_T50 x1 0).f0.f0) && (bt296.2.1 == ((rd_T50 x1 0).f0.f1) && (bt296.2.2.1 == ((rd_T50 x1 0).f0.f2) && (bt296.2.2.2.1 == ((rd_T50 x1 0).f0.f3))))) = true then (if bt296.2.2.2.2 = 0 then ((celluloidlaw21_awake.f k).bind fun t303 => (some t303)) else (some false)) else (some false))) else (none)) else ((celluloidlaw21_awake.f k).bind fun t304 => (some t304))
end
def celluloidlaw21_CanvasFaint.f (k : Nat) (a0_0 : Int) (a0_1 : Int) (a0_2 : Int) (a0_3 : Int) (l1 : List (S50)) (a2 : Int) : Option (Bool) := if (l1.length : Int) > 40 then (celluloidlaw21_CanvasFaint.j0 k l1 a2 true a0_0 a0_1 a0_2 a0_3) else ((celluloidref21_Faint.f k a0_0 a0_1 a0_2 a0_3).bind fun t269 => (celluloidlaw21_CanvasFaint.j0 k l1 a2 (!t269) a0_0 a0_1 a0_2 a0_3))
theorem celluloidlaw21_CanvasFaint.mono_l : ∀ k, (∀ y0 y1 y2 y3 y4 y5 y6, LeO (celluloidlaw21_CanvasFaint.j0 k y0 y1 y2 y3 y4 y5 y6) (celluloidlaw21_CanvasFaint.j0 (k + 1) y0 y1 y2 y3 y4 y5 y6)) ∧ (∀ y0 y1 y2 y3 y4 y5, LeO (celluloidlaw21_CanvasFaint.j1 k y0 y1 y2 y3 y4 y5) (celluloidlaw21_CanvasFaint.j1 (k + 1) y0 y1 y2 y3 y4 y5)) ∧ (∀ y0 y1 y2 y3 y4 y5, LeO (celluloidlaw21_CanvasFaint.j2 k y0 y1 y2 y3 y4 y5) (celluloidlaw21_CanvasFaint.j2 (k + 1) y0 y1 y2 y3 y4 y5))
  | 0 => ⟨fun _ _ _ _ _ _ _ r h => by simp [celluloidlaw21_CanvasFaint.j0] at h, fun _ _ _ _ _ _ r h => by simp [celluloidlaw21_CanvasFaint.j1] at h, fun _ _ _ _ _ _ r h => by simp [celluloidlaw21_CanvasFaint.j2] at h⟩
  | k + 1 => by
    obtain ⟨ih0, ih1, ih2⟩ := celluloidlaw21_CanvasFaint.mono_l k
    refine ⟨?_, ?_, ?_⟩
    · intro y0 y1 y2 y3 y4 y5 y6
      unfold celluloidlaw21_CanvasFaint.j0
      repeat' first
      | (with_reducible exact ih0 _ _ _ _ _ _ _)
      | (with_reducible exact ih1 _ _ _ _ _ _)
      | (with_reducible exact ih2 _ _ _ _ _ _)
      | (with_reducible exact canvas_Over.mono _ _ _ _ _ _ _)
      | (with_reducible exact celluloidlaw21_awake.mono _)
      | (with_reducible exact celluloidref21_Faint.mono _ _ _ _ _)
      | (with_reducible exact LeO.refl _)
      | (with_reducible exact LeO.none _)
      | (with_reducible refine LeO.ite ?_ ?_)
      | (with_reducible refine LeO.bind ?_ (fun _ => ?_))
      | exact ih0 _ _ _ _ _ _ _
      | exact ih1 _ _ _ _ _ _
      | exact ih2 _ _ _ _ _ _
      | exact canvas_Over.mono _ _ _ _ _ _ _
      | exact celluloidlaw21_awake.mono _
      | exact celluloidref21_Faint.mono _ _ _ _ _
      | exact LeO.none _
      | refine LeO.ite ?_ ?_
      | refine LeO.bind ?_ (fun _ => ?_)
    · intro y0 y1 y2 y3 y4 y5
      unfold celluloidlaw21_CanvasFaint.j1
      repeat' first
      | (with_reducible exact ih0 _ _ _ _ _ _ _)
      | (with_reducible exact ih1 _ _ _ _ _ _)
      | (with_reducible exact ih2 _ _ _ _ _ _)
      | (with_reducible exact canvas_Over.mono _ _ _ _ _ _ _)
      | (with_reducible exact celluloidlaw21_awake.mono _)
      | (with_reducible exact celluloidref21_Faint.mono _ _ _ _ _)
      | (with_reducible exact LeO.refl _)
      | (with_reducible exact LeO.none _)
      | (with_reducible refine LeO.ite ?_ ?_)
      | (with_reducible refine LeO.bind ?_ (fun _ => ?_))
      | exact ih0 _ _ _ _ _ _ _
      | exact ih1 _ _ _ _ _ _
      | exact ih2 _ _ _ _ _ _
      | exact canvas_Over.mono _ _ _ _ _ _ _
      | exact celluloidlaw21_awake.mono _
      | exact celluloidref21_Faint.mono _ _ _ _ _
      | exact LeO.none _
      | refine LeO.ite ?_ ?_
      | refine LeO.bind ?_ (fun _ => ?_)
    · intro y0 y1 y2 y3 y4 y5
      unfold celluloidlaw21_CanvasFaint.j2
      repeat' first
      | (with_reducible exact ih0 _ _ _ _ _ _ _)
      | (with_reducible exact ih1 _ _ _ _ _ _)
      | (with_reducible exact ih2 _ _ _ _ _ _)
      | (with_reducible exact canvas_Over.mono _ _ _ _ _ _ _)
      | (with_reducible exact celluloidlaw21_awake.mono _)
      | (with_reducible exact celluloidref21_Faint.mono _ _ _ _ _)
      | (with_reducible exact LeO.refl _)
      | (with_reducible exact LeO.none _)
      | (with_reducible refine LeO.ite ?_ ?_)
      | (with_reducible refine LeO.bind ?_ (fun _ => ?_))
      | exact ih0 _ _ _ _ _ _ _
      | exact ih1 _ _ _ _ _ _
      | exact ih2 _ _ _ _ _ _
      | exact canvas_Over.mono _ _ _ _ _ _ _
      | exact celluloidlaw21_awake.mono _
      | exact celluloidref21_Faint.mono _ _ _ _ _
      | exact LeO.none _
      | refine LeO.ite ?_ ?_
      | refine LeO.bind ?_ (fun _ => ?_)
theorem celluloidlaw21_CanvasFaint.mono : ∀ a0 a1 a2 a3 a4 a5 k, LeO (celluloidlaw21_CanvasFaint.f k a0 a1 a2 a3 a4 a5) (celluloidlaw21_CanvasFaint.f (k + 1) a0 a1 a2 a3 a4 a5) := by
  intro a0 a1 a2 a3 a4 a5 k
  obtain ⟨ih0, ih1, ih2⟩ := celluloidlaw21_CanvasFaint.mono_l k
  unfold celluloidlaw21_CanvasFaint.f
  repeat' first
      | (with_reducible exact ih0 _ _ _ _ _ _ _)
      | (with_reducible exact ih1 _ _ _ _ _ _)
      | (with_reducible exact ih2 _ _ _ _ _ _)
      | (with_reducible exact canvas_Over.mono _ _ _ _ _ _ _)
      | (with_reducible exact celluloidlaw21_awake.mono _)
      | (with_reducible exact celluloidref21_Faint.mono _ _ _ _ _)
      | (with_reducible exact LeO.refl _)
      | (with_reducible exact LeO.none _)
      | (with_reducible refine LeO.ite ?_ ?_)
      | (with_reducible refine LeO.bind ?_ (fun _ => ?_))
      | exact ih0 _ _ _ _ _ _ _
      | exact ih1 _ _ _ _ _ _
      | exact ih2 _ _ _ _ _ _
      | exact canvas_Over.mono _ _ _ _ _ _ _
      | exact celluloidlaw21_awake.mono _
      | exact celluloidref21_Faint.mono _ _ _ _ _
      | exact LeO.none _
      | refine LeO.ite ?_ ?_
      | refine LeO.bind ?_ (fun _ => ?_)
def celluloidlaw21_CanvasFaint.T11 : Bool × List (List Nat × List Nat) := (true, [([], []), ([], []), ([1], [1]), ([2], [2]), ([3], [3]), ([4], [4]), ([5], [5]), ([0, 6], [0, 6]), ([7], [7]), ([8], [8]), ([8], [8]), ([], []), ([11, 9, 7, 0, 1, 2, 3, 4, 5, 6, 7, 8, 9, 11], [9, 11]), ([10, 12, 0, 1, 2, 3, 4, 5, 6, 7, 8, 9, 10, 11, 12], [10])])
def celluloidlaw21_CanvasFaint.B11 : List Nat := [0, 0, 2, 6, 14, 30, 62, 127, 255, 511, 511, 0, 3071, 8191]
theorem celluloidlaw21_CanvasFaint.tab11 : rtab .any (opsOf Try.f6 11) = celluloidlaw21_CanvasFaint.T11 := by kernel_rfl
theorem celluloidlaw21_CanvasFaint.bits11 : waitsOk celluloidlaw21_CanvasFaint.T11.2 celluloidlaw21_CanvasFaint.B11 = true := by kernel_rfl
def celluloidlaw21_CanvasFaint.T12 : Bool × List (List Nat × List Nat) := (true, [([], []), ([], []), ([1], [1]), ([2], [2]), ([3], [3]), ([0, 4], [0, 4]), ([5], [5]), ([6], [6]), ([7, 6], [6, 7]), ([6, 8], [6, 8]), ([9, 6], [9]), ([10, 10], [10]), ([10, 11], [10, 11]), ([12, 11, 0, 1, 2, 3, 4, 5, 6, 7, 8, 9, 10, 11, 12], [12])])
def celluloidlaw21_CanvasFaint.B12 : List Nat := [0, 0, 2, 6, 14, 31, 63, 127, 255, 511, 1023, 2047, 4095, 8191]
theorem celluloidlaw21_CanvasFaint.tab12 : rtab .any (opsOf Try.f6 12) = celluloidlaw21_CanvasFaint.T12 := by kernel_rfl
theorem celluloidlaw21_CanvasFaint.bits12 : waitsOk celluloidlaw21_CanvasFaint.T12.2 celluloidlaw21_CanvasFaint.B12 = true := by kernel_rfl
theorem celluloidlaw21_CanvasFaint.j1_dead (k : Nat) : ∀ y0 y2 y3 y4 y5, celluloidlaw21_CanvasFaint.j1 k y0 true y2 y3 y4 y5 ≠ some true := by
  cases k <;> intros <;> simp [celluloidlaw21_CanvasFaint.j1]
set_option maxHeartbeats 8000000 in
set_option maxRecDepth 100000 in
theorem celluloidlaw21_CanvasFaint.calls (k : Nat) (a0_0 : Int) (a0_1 : Int) (a0_2 : Int) (a0_3 : Int) (A1 : Option Addr) (c1 : Nat) (l1 : List (S50)) (a2 : Int) (r : Bool) (w : World) (hr1 : Kd.C k50 w A1 l1.length l1) (hc1 : l1.length ≤ c1) (h : celluloidlaw21_CanvasFaint.f k a0_0 a0_1 a0_2 a0_3 l1 a2 = some r) (hr_ : Aside0 (r = true)) :
    Calls Try.prog 6 #[.agg #[.int .i64 a0_0, .int .i64 a0_1, .int .i64 a0_2, .int .i64 a0_3], .slice A1 l1.length c1, .int .i64 a2] w fun e w' => e = .returned (.bool r) ∧ Below w.heap.size w w' := by
  have hu23 := Try.underlying23
  have hu50 := Try.underlying50
  have HR1 := Aside0.mk hr1
  have HC1 := Aside0.mk hc1
  clear hr1 hc1
  have HB := Aside0.mk (Below.refl w.heap.size w)
  have H : (if (l1.length : Int) > 40 then (celluloidlaw21_CanvasFaint.j0 k l1 a2 true a0_0 a0_1 a0_2 a0_3) else ((celluloidref21_Faint.f k a0_0 a0_1 a0_2 a0_3).bind fun t269 => (celluloidlaw21_CanvasFaint.j0 k l1 a2 (!t269) a0_0 a0_1 a0_2 a0_3))) = some r := h
  clear h
  have HC4 := Aside0.mk H
  clear H
  go_enter Try.func6, Try.ntmps6
  go_upto_region 1 with (first | ((with_reducible refine gate_dst (N := 3) rfl ?_); refine box_event ?hg (N := 3) ?hd (cs := #[.int .i64 a0_0, .int .i64 a0_1, .int .i64 a0_2, .int .i64 a0_3]) (t := 23) ?hr ?_; (case hd => rfl); (case hg => rfl); (case hr => first | (go_simp; done) | (go_simp; rfl)); intro gb268 hg w5 hbox hb; have n0_ := Aside0.mk (below_step (by repeat (first | (with_reducible first | exact HB.out | apply below_alloc | apply pw_below_drewN | apply below_drew1) | exact HB.out)) hb); have n1_ := Aside0.mk (hbox); have n2_ := Aside0.mk ((by rw [hg]; exact (below_size (by repeat (first | (with_reducible first | exact HB.out | apply below_alloc | apply pw_below_drewN | apply below_drew1) | exact HB.out))) : w.heap.size ≤ gb268)); have n3_ := Aside0.mk ((by rw [hg]; exact (below_size (by repeat (first | (with_reducible first | exact HB.out | apply below_alloc | apply pw_below_drewN | apply below_drew1) | exact HB.out))) : w.heap.size ≤ gb268)); clear HB; have HB := n0_; have BK268 := n1_; have GW268 := n2_; have GE268 := n3_; clear n0_ n1_ n2_ n3_; clear hb hbox hg))
  (try simp only [Act.put, List.setIfInBounds_toArray, List.set_cons_zero, List.set_cons_succ])
  go_cut [22] (fun v22 wc => ∃ (kq : Nat) (x22_3 : Bool), v22 = .bool x22_3 ∧ Aside0 (celluloidlaw21_CanvasFaint.j0 kq l1 a2 x22_3 a0_0 a0_1 a0_2 a0_3 = some r) ∧ Aside0 (kq ≤ k) ∧ Aside0 (wc.heap[gb268]? = some (.cells #[.int .i64 a0_0, .int .i64 a0_1, .int .i64 a0_2, .int .i64 a0_3] 23 (0, 0))) ∧ Aside0 (Below w.heap.size w wc))
  case first =>
    have H := HC4.out
    clear HC4
    by_cases c6 : (l1.length : Int) > 40
    · rw [if_pos c6] at H
      have c6b0 : decide (40 < (l1.length : Int)) = true := decide_eq_true c6
      have c6b1 : decide (40 < l1.length) = true := decide_eq_true (by omega)
      clear c6
      (first | rw [c6b0] | (simp only [i64_w, i32_w]; rw [c6b0]) | skip)
      have H' := Aside0.mk H
      clear H
      go_wp2
      go_meet
      case rel => exact ⟨_, (true), (by first | rfl | (simp; done) | (simp [*]; done)), H', ⟨by first | omega | exact Nat.le_refl _⟩, ⟨by (with_reducible repeat (first | refine blk_drewN ?_ _ | refine blk_drew ?_ | refine blk_alloc ?_ _)); exact BK268.out⟩, ⟨by repeat (first | (with_reducible first | exact HB.out | apply below_alloc | apply pw_below_drewN | apply below_drew1 | refine below_set ?_ GE268.out) | exact HB.out)⟩⟩
    · rw [if_neg c6] at H
      have c6b0 : decide (40 < (l1.length : Int)) = false := decide_eq_false c6
      have c6b1 : decide (40 < l1.length) = false := decide_eq_false (by omega)
      clear c6
      (first | rw [c6b0] | (simp only [i64_w, i32_w]; rw [c6b0]) | skip)
      replace H := Option.bind_eq_some_iff.mp H
      obtain ⟨t269, A70, H⟩ := H
      replace H : (celluloidlaw21_CanvasFaint.j0 k l1 a2 (!t269) a0_0 a0_1 a0_2 a0_3) = some r := H
      have A7 := Aside0.mk A70
      clear A70
      have H' := Aside0.mk H
      clear H
      have hcz8_0 : w5.cell? ⟨gb268, 0, none⟩ = some (.int .i64 a0_0) := (blk_cell BK268.out 0).trans rfl
      have hcz8_1 : w5.cell? ⟨gb268, 1, none⟩ = some (.int .i64 a0_1) := (blk_cell BK268.out 1).trans rfl
      have hcz8_2 : w5.cell? ⟨gb268, 2, none⟩ = some (.int .i64 a0_2) := (blk_cell BK268.out 2).trans rfl
      have hcz8_3 : w5.cell? ⟨gb268, 3, none⟩ = some (.int .i64 a0_3) := (blk_cell BK268.out 3).trans rfl
      have hfz8_0 := blk_frozen BK268.out 0
      have hfz8_1 := blk_frozen BK268.out 1
      have hfz8_2 := blk_frozen BK268.out 2
      have hfz8_3 := blk_frozen BK268.out 3
      go_wp2_with (first | (go_at_call 10; (with_reducible refine (celluloidref21_Faint.calls k a0_0 a0_1 a0_2 a0_3 t269 _ A7.out).mono ?_); rintro e w9 ⟨rfl, hb⟩; have n0_ := Aside0.mk (blk_below (g := gb268) (o := .cells #[.int .i64 a0_0, .int .i64 a0_1, .int .i64 a0_2, .int .i64 a0_3] 23 (0, 0)) (by (with_reducible repeat (first | refine blk_drewN ?_ _ | refine blk_drew ?_ | refine blk_alloc ?_ _)); exact BK268.out) hb); have n1_ := Aside0.mk (below_step (by repeat (first | (with_reducible first | exact HB.out | apply below_alloc | apply pw_below_drewN | apply below_drew1 | refine below_set ?_ GE268.out) | exact HB.out)) hb); clear BK268; clear HB; have BK268 := n0_; have HB := n1_; clear n0_ n1_; (try clear hb); (try clear hb2); (try clear hk); (try clear hi)))
      go_meet
      case rel => exact ⟨_, (!t269), (by first | rfl | (simp; done) | (simp [*]; done)), H', ⟨by first | omega | exact Nat.le_refl _⟩, ⟨by (with_reducible repeat (first | refine blk_drewN ?_ _ | refine blk_drew ?_ | refine blk_alloc ?_ _)); exact BK268.out⟩, ⟨by repeat (first | (with_reducible first | exact HB.out | apply below_alloc | apply pw_below_drewN | apply below_drew1 | refine below_set ?_ GE268.out) | exact HB.out)⟩⟩
  case rest =>
    clear HC4
    try clear c1
    try clear p2
    try clear c6
    try clear c6b0
    try clear c6b1
    try clear hcz8_0
    try clear hcz8_1
    try clear hcz8_2
    try clear hcz8_3
    try clear hfz8_0
    try clear hfz8_1
    try clear hfz8_2
    try clear hfz8_3
    obtain ⟨kq, x22_3, rfl, HA, HJ3, BK268, HB⟩ := hcut
    cases kq with
    | zero => exact absurd HA.out (by simp [celluloidlaw21_CanvasFaint.j0])
    | succ kj3 =>
      have H := HA.out
      clear HA
      simp only [celluloidlaw21_CanvasFaint.j0] at H
      by_cases c10 : x22_3 = true
      · subst c10
        have H1 : ((celluloidlaw21_awake.f kj3).bind fun t270 => (some t270)) = some r := by rw [if_pos rfl] at H; exact H
        clear H
        have H := H1
        clear H1
        replace H := Option.bind_eq_some_iff.mp H
        obtain ⟨t270, A110, H⟩ := H
        replace H : (some t270) = some r := H
        have A11 := Aside0.mk A110
        clear A110
        first
        | exact absurd (Option.some.inj H) (by rw [hr_.out]; decide)
        | obtain rfl := Option.some.inj H
          go_wp2_with (first | ((with_reducible refine gate_callee (f := 11) rfl ?_); refine goesL_ (some 23) rfl rfl Try.func11 (by kernel_rfl) rfl #[] rfl (by (try simp only [List.map_toArray, List.map_cons, List.map_nil]); first | done | rfl | (simp only [List.length_drop, List.length_take]; rfl)) ?_; (with_reducible refine (celluloidlaw21_awake.calls kj3  t270 _ A11.out).mono ?_); rintro e w12 ⟨rfl, hb⟩; refine ⟨_, rfl, ?_⟩; have n0_ := Aside0.mk (blk_below (g := gb268) (o := .cells #[.int .i64 a0_0, .int .i64 a0_1, .int .i64 a0_2, .int .i64 a0_3] 23 (0, 0)) (by (with_reducible repeat (first | refine blk_drewN ?_ _ | refine blk_drew ?_ | refine blk_alloc ?_ _)); exact BK268.out) hb); have n1_ := Aside0.mk (below_step (by repeat (first | (with_reducible first | exact HB.out | apply below_alloc | apply pw_below_drewN | apply below_drew1 | refine below_set ?_ GE268.out) | exact HB.out)) hb); clear BK268; clear HB; have BK268 := n0_; have HB := n1_; clear n0_ n1_; (try clear hb); (try clear hb2); (try clear hk); (try clear hi)))
          go_ret
          exact ⟨by first | rfl | (simp [errW_none, errW_some] <;> rfl) | (simp [*, errW_none, errW_some] <;> rfl), by repeat (first | (with_reducible first | exact HB.out | apply below_alloc | apply pw_below_drewN | apply below_drew1 | refine below_set ?_ GE268.out) | exact HB.out)⟩
      · replace c10 := Bool.eq_false_iff.mpr c10
        subst c10
        have H1 : ((canvas_Over.f kj3 a0_0 a0_1 a0_2 a0_3 l1 a2).bind fun bt271 => (if bt271.2.2.2.2 = 0 then ((canvas_Over.f kj3 a0_0 a0_1 a0_2 a0_3 ([] : List (S50)) a2).bind fun bt278 => ((canvas_Over.f kj3 a0_0 a0_1 a0_2 a0_3 l1 0).bind fun bt284 => ((celluloidref21_Faint.f kj3 bt271.1 bt271.2.1 bt271.2.2.1 bt271.2.2.2.1).bind fun t290 => (if t290 = true then (if bt271.2.2.2.1 < a0_3 then (celluloidlaw21_CanvasFaint.j1 kj3 l1 true a0_0 a0_1 a0_2 a0_3) else (if (!(bt278.1 == a0_0) || (!(bt278.2.1 == a0_1) || (!(bt278.2.2.1 == a0_2) || (!(bt278.2.2.2.1 == a0_3))))) = true then (celluloidlaw21_CanvasFaint.j1 kj3 l1 true a0_0 a0_1 a0_2 a0_3) else (if bt278.2.2.2.2 = 0 then (if (!(bt284.1 == a0_0) || (!(bt284.2.1 == a0_1) || (!(bt284.2.2.1 == a0_2) || (!(bt284.2.2.2.1 == a0_3))))) = true then (celluloidlaw21_CanvasFaint.j1 kj3 l1 true a0_0 a0_1 a0_2 a0_3) else (celluloidlaw21_CanvasFaint.j1 kj3 l1 (bt284.2.2.2.2 != 0) a0_0 a0_1 a0_2 a0_3)) else (celluloidlaw21_CanvasFaint.j1 kj3 l1 true a0_0 a0_1 a0_2 a0_3)))) else (celluloidlaw21_CanvasFaint.j1 kj3 l1 true a0_0 a0_1 a0_2 a0_3))))) else ((celluloidlaw21_awake.f kj3).bind fun t277 => (some t277)))) = some r := by rw [if_neg (show ¬ (false = true) by decide)] at H; exact H
        clear H
        have H := H1
        clear H1
        replace H := Option.bind_eq_some_iff.mp H
        obtain ⟨⟨t271, t272, t273, t274, t275⟩, A130, H⟩ := H
        replace H : (if t275 = 0 then ((canvas_Over.f kj3 a0_0 a0_1 a0_2 a0_3 ([] : List (S50)) a2).bind fun bt278 => ((canvas_Over.f kj3 a0_0 a0_1 a0_2 a0_3 l1 0).bind fun bt284 => ((celluloidref21_Faint.f kj3 t271 t272 t273 t274).bind fun t290 => (if t290 = true then (if t274 < a0_3 then (celluloidlaw21_CanvasFaint.j1 kj3 l1 true a0_0 a0_1 a0_2 a0_3) else (if (!(bt278.1 == a0_0) || (!(bt278.2.1 == a0_1) || (!(bt278.2.2.1 == a0_2) || (!(bt278.2.2.2.1 == a0_3))))) = true then (celluloidlaw21_CanvasFaint.j1 kj3 l1 true a0_0 a0_1 a0_2 a0_3) else (if bt278.2.2.2.2 = 0 then (if (!(bt284.1 == a0_0) || (!(bt284.2.1 == a0_1) || (!(bt284.2.2.1 == a0_2) || (!(bt284.2.2.2.1 == a0_3))))) = true then (celluloidlaw21_CanvasFaint.j1 kj3 l1 true a0_0 a0_1 a0_2 a0_3) else (celluloidlaw21_CanvasFaint.j1 kj3 l1 (bt284.2.2.2.2 != 0) a0_0 a0_1 a0_2 a0_3)) else (celluloidlaw21_CanvasFaint.j1 kj3 l1 true a0_0 a0_1 a0_2 a0_3)))) else (celluloidlaw21_CanvasFaint.j1 kj3 l1 true a0_0 a0_1 a0_2 a0_3))))) else ((celluloidlaw21_awake.f kj3).bind fun t277 => (some t277))) = some r := H
        have A13 := Aside0.mk A130
        clear A130
        by_cases c14 : t275 = 0
        · rw [if_pos c14] at H
          have c14b0 : (t275 == 0) = true := beq_iff_eq.mpr c14
          have c14b1 : (t275 != 0) = false := bne_eq_false_iff_eq.mpr c14
          clear c14
          replace H := Option.bind_eq_some_iff.mp H
          obtain ⟨⟨t278, t279, t280, t281, t282⟩, A150, H⟩ := H
          replace H : ((canvas_Over.f kj3 a0_0 a0_1 a0_2 a0_3 l1 0).bind fun bt284 => ((celluloidref21_Faint.f kj3 t271 t272 t273 t274).bind fun t290 => (if t290 = true then (if t274 < a0_3 then (celluloidlaw21_CanvasFaint.j1 kj3 l1 true a0_0 a0_1 a0_2 a0_3) else (if (!(t278 == a0_0) || (!(t279 == a0_1) || (!(t280 == a0_2) || (!(t281 == a0_3))))) = true then (celluloidlaw21_CanvasFaint.j1 kj3 l1 true a0_0 a0_1 a0_2 a0_3) else (if t282 = 0 then (if (!(bt284.1 == a0_0) || (!(bt284.2.1 == a0_1) || (!(bt284.2.2.1 == a0_2) || (!(bt284.2.2.2.1 == a0_3))))) = true then (celluloidlaw21_CanvasFaint.j1 kj3 l1 true a0_0 a0_1 a0_2 a0_3) else (celluloidlaw21_CanvasFaint.j1 kj3 l1 (bt284.2.2.2.2 != 0) a0_0 a0_1 a0_2 a0_3)) else (celluloidlaw21_CanvasFaint.j1 kj3 l1 true a0_0 a0_1 a0_2 a0_3)))) else (celluloidlaw21_CanvasFaint.j1 kj3 l1 true a0_0 a0_1 a0_2 a0_3)))) = some r := H
          have A15 := Aside0.mk A150
          clear A150
          replace H := Option.bind_eq_some_iff.mp H
          obtain ⟨⟨t284, t285, t286, t287, t288⟩, A160, H⟩ := H
          replace H : ((celluloidref21_Faint.f kj3 t271 t272 t273 t274).bind fun t290 => (if t290 = true then (if t274 < a0_3 then (celluloidlaw21_CanvasFaint.j1 kj3 l1 true a0_0 a0_1 a0_2 a0_3) else (if (!(t278 == a0_0) || (!(t279 == a0_1) || (!(t280 == a0_2) || (!(t281 == a0_3))))) = true then (celluloidlaw21_CanvasFaint.j1 kj3 l1 true a0_0 a0_1 a0_2 a0_3) else (if t282 = 0 then (if (!(t284 == a0_0) || (!(t285 == a0_1) || (!(t286 == a0_2) || (!(t287 == a0_3))))) = true then (celluloidlaw21_CanvasFaint.j1 kj3 l1 true a0_0 a0_1 a0_2 a0_3) else (celluloidlaw21_CanvasFaint.j1 kj3 l1 (t288 != 0) a0_0 a0_1 a0_2 a0_3)) else (celluloidlaw21_CanvasFaint.j1 kj3 l1 true a0_0 a0_1 a0_2 a0_3)))) else (celluloidlaw21_CanvasFaint.j1 kj3 l1 true a0_0 a0_1 a0_2 a0_3))) = some r := H
          have A16 := Aside0.mk A160
          clear A160
          have HC17 := Aside0.mk H
          clear H
          have hcz18_0 : wc.cell? ⟨gb268, 0, none⟩ = some (.int .i64 a0_0) := (blk_cell BK268.out 0).trans rfl
          have hcz18_1 : wc.cell? ⟨gb268, 1, none⟩ = some (.int .i64 a0_1) := (blk_cell BK268.out 1).trans rfl
          have hcz18_2 : wc.cell? ⟨gb268, 2, none⟩ = some (.int .i64 a0_2) := (blk_cell BK268.out 2).trans rfl
          have hcz18_3 : wc.cell? ⟨gb268, 3, none⟩ = some (.int .i64 a0_3) := (blk_cell BK268.out 3).trans rfl
          have hfz18_0 := blk_frozen BK268.out 0
          have hfz18_1 := blk_frozen BK268.out 1
          have hfz18_2 := blk_frozen BK268.out 2
          have hfz18_3 := blk_frozen BK268.out 3
          go_upto_region 8 with (first | ((with_reducible refine gate_callee (f := 14) rfl ?_); refine goesL_ (some 28) rfl rfl Try.func14 (by kernel_rfl) rfl #[.agg #[.int .i64 a0_0, .int .i64 a0_1, .int .i64 a0_2, .int .i64 a0_3], .slice A1 l1.length c1, .int .i64 a2] rfl (by (try simp only [List.map_toArray, List.map_cons, List.map_nil]); first | done | rfl | (simp only [List.length_drop, List.length_take]; rfl)) ?_; (with_reducible refine (canvas_Over.calls kj3 a0_0 a0_1 a0_2 a0_3 _ _ l1 a2 t271 t272 t273 t274 t275 _ ?side1 ?side2 A13.out).mono ?_); (case side1 => repeat (first | exact (Kd.C_below HR1.out HB.out) | (with_reducible refine Kd.C_alloc ?_ _) | (with_reducible refine Kd.C_drewN ?_ _) | (with_reducible refine Kd.C_drew ?_))); (case side2 => exact HC1.out); rintro e w19 ⟨rfl, hb⟩; refine ⟨_, rfl, ?_⟩; have n0_ := Aside0.mk (blk_below (g := gb268) (o := .cells #[.int .i64 a0_0, .int .i64 a0_1, .int .i64 a0_2, .int .i64 a0_3] 23 (0, 0)) (by (with_reducible repeat (first | refine blk_drewN ?_ _ | refine blk_drew ?_ | refine blk_alloc ?_ _)); exact BK268.out) hb); have n1_ := Aside0.mk (below_step (by repeat (first | (with_reducible first | exact HB.out | apply below_alloc | apply pw_below_drewN | apply below_drew1 | refine below_set ?_ GE268.out) | exact HB.out)) hb); clear BK268; clear HB; have BK268 := n0_; have HB := n1_; clear n0_ n1_; (try clear hb); (try clear hb2); (try clear hk); (try clear hi)) | ((with_reducible refine gate_dst (N := 7) rfl ?_); refine box_event ?hg (N := 7) ?hd (cs := #[.int .i64 0, .int .i64 0, .int .i64 0, .int .i64 0]) (t := 23) ?hr ?_; (case hd => rfl); (case hg => rfl); (case hr => first | (go_simp; done) | (go_simp; rfl)); intro gb276 hg w20 hbox hb; have n0_ := Aside0.mk (blk_below (g := gb268) (o := .cells #[.int .i64 a0_0, .int .i64 a0_1, .int .i64 a0_2, .int .i64 a0_3] 23 (0, 0)) (by (with_reducible repeat (first | refine blk_drewN ?_ _ | refine blk_drew ?_ | refine blk_alloc ?_ _)); exact BK268.out) hb); have n1_ := Aside0.mk (below_step (by repeat (first | (with_reducible first | exact HB.out | apply below_alloc | apply pw_below_drewN | apply below_drew1 | refine below_set ?_ GE268.out) | exact HB.out)) hb); have n2_ := Aside0.mk (hbox); have n3_ := Aside0.mk ((by rw [hg]; exact (below_size (by repeat (first | (with_reducible first | exact HB.out | apply below_alloc | apply pw_below_drewN | apply below_drew1 | refine below_set ?_ GE268.out) | exact HB.out))) : w.heap.size ≤ gb276)); have n4_ := Aside0.mk ((by rw [hg]; exact (below_size (by repeat (first | (with_reducible first | exact HB.out | apply below_alloc | apply pw_below_drewN | apply below_drew1 | refine below_set ?_ GE268.out) | exact HB.out))) : w.heap.size ≤ gb276)); have n5_ := Aside0.mk ((by rw [hg]; exact Nat.ne_of_lt (blk_lt (g := gb268) (o := .cells #[.int .i64 a0_0, .int .i64 a0_1, .int .i64 a0_2, .int .i64 a0_3] 23 (0, 0)) (by (with_reducible repeat (first | refine blk_drewN ?_ _ | refine blk_drew ?_ | refine blk_alloc ?_ _)); exact BK268.out)) : gb268 ≠ gb276)); have n6_ := Aside0.mk ((by rw [hg]; exact Nat.ne_of_gt (blk_lt (g := gb268) (o := .cells #[.int .i64 a0_0, .int .i64 a0_1, .int .i64 a0_2, .int .i64 a0_3] 23 (0, 0)) (by (with_reducible repeat (first | refine blk_drewN ?_ _ | refine blk_drew ?_ | refine blk_alloc ?_ _)); exact BK268.out)) : gb276 ≠ gb268)); clear BK268; clear HB; have BK268 := n0_; have HB := n1_; have BK276 := n2_; have GW276 := n3_; have GE276 := n4_; have NB268_276 := n5_; have NB276_268 := n6_; clear n0_ n1_ n2_ n3_ n4_ n5_ n6_; clear hb hbox hg; have hnb21 := NB276_268.out; have hnc21 := NB268_276.out; have hcz22_0 : w20.cell? ⟨gb276, 0, none⟩ = some (.int .i64 0) := (blk_cell BK276.out 0).trans rfl; have hcz22_1 : w20.cell? ⟨gb276, 1, none⟩ = some (.int .i64 0) := (blk_cell BK276.out 1).trans rfl; have hcz22_2 : w20.cell? ⟨gb276, 2, none⟩ = some (.int .i64 0) := (blk_cell BK276.out 2).trans rfl; have hcz22_3 : w20.cell? ⟨gb276, 3, none⟩ = some (.int .i64 0) := (blk_cell BK276.out 3).trans rfl; have hfz22_0 := blk_frozen BK276.out 0; have hfz22_1 := blk_frozen BK276.out 1; have hfz22_2 := blk_frozen BK276.out 2; have hfz22_3 := blk_frozen BK276.out 3; have hcz23_0 : w20.cell? ⟨gb268, 0, none⟩ = some (.int .i64 a0_0) := (blk_cell BK268.out 0).trans rfl; have hcz23_1 : w20.cell? ⟨gb268, 1, none⟩ = some (.int .i64 a0_1) := (blk_cell BK268.out 1).trans rfl; have hcz23_2 : w20.cell? ⟨gb268, 2, none⟩ = some (.int .i64 a0_2) := (blk_cell BK268.out 2).trans rfl; have hcz23_3 : w20.cell? ⟨gb268, 3, none⟩ = some (.int .i64 a0_3) := (blk_cell BK268.out 3).trans rfl; have hfz23_0 := blk_frozen BK268.out 0; have hfz23_1 := blk_frozen BK268.out 1; have hfz23_2 := blk_frozen BK268.out 2; have hfz23_3 := blk_frozen BK268.out 3) | ((with_reducible refine gate_callee (f := 14) rfl ?_); refine goesL_ (some 37) rfl rfl Try.func14 (by kernel_rfl) rfl #[.agg #[.int .i64 a0_0, .int .i64 a0_1, .int .i64 a0_2, .int .i64 a0_3], .slice none 0 0, .int .i64 a2] rfl (by (try simp only [List.map_toArray, List.map_cons, List.map_nil]); first | done | rfl | (simp only [List.length_drop, List.length_take]; rfl)) ?_; (refine (canvas_Over.calls kj3 a0_0 a0_1 a0_2 a0_3 _ _ ([] : List (S50)) a2 t278 t279 t280 t281 t282 _ ?side1 ?side2 A15.out).mono ?_); (case side1 => exact Kd.C_nil _ _); (case side2 => exact Nat.le_refl _); rintro e w24 ⟨rfl, hb⟩; refine ⟨_, rfl, ?_⟩; have n0_ := Aside0.mk (blk_below (g := gb268) (o := .cells #[.int .i64 a0_0, .int .i64 a0_1, .int .i64 a0_2, .int .i64 a0_3] 23 (0, 0)) (by (with_reducible repeat (first | refine blk_drewN ?_ _ | refine blk_drew ?_ | refine blk_alloc ?_ _)); refine blk_far ?_ NB268_276.out _; (with_reducible repeat (first | refine blk_drewN ?_ _ | refine blk_drew ?_ | refine blk_alloc ?_ _)); refine blk_far ?_ NB268_276.out _; (with_reducible repeat (first | refine blk_drewN ?_ _ | refine blk_drew ?_ | refine blk_alloc ?_ _)); refine blk_far ?_ NB268_276.out _; (with_reducible repeat (first | refine blk_drewN ?_ _ | refine blk_drew ?_ | refine blk_alloc ?_ _)); refine blk_far ?_ NB268_276.out _; (with_reducible repeat (first | refine blk_drewN ?_ _ | refine blk_drew ?_ | refine blk_alloc ?_ _)); exact BK268.out) hb); have n1_ := Aside0.mk (blk_below (g := gb276) (o := .cells #[.int .i64 t271, .int .i64 t272, .int .i64 t273, .int .i64 t274] 23 (0, 0)) (by (with_reducible repeat (first | refine blk_drewN ?_ _ | refine blk_drew ?_ | refine blk_alloc ?_ _)); refine blk_put (cs := #[.int .i64 t271, .int .i64 t272, .int .i64 t273, .int .i64 0]) ?_ 3 _ rfl; (with_reducible repeat (first | refine blk_drewN ?_ _ | refine blk_drew ?_ | refine blk_alloc ?_ _)); refine blk_put (cs := #[.int .i64 t271, .int .i64 t272, .int .i64 0, .int .i64 0]) ?_ 2 _ rfl; (with_reducible repeat (first | refine blk_drewN ?_ _ | refine blk_drew ?_ | refine blk_alloc ?_ _)); refine blk_put (cs := #[.int .i64 t271, .int .i64 0, .int .i64 0, .int .i64 0]) ?_ 1 _ rfl; (with_reducible repeat (first | refine blk_drewN ?_ _ | refine blk_drew ?_ | refine blk_alloc ?_ _)); refine blk_put (cs := #[.int .i64 0, .int .i64 0, .int .i64 0, .int .i64 0]) ?_ 0 _ rfl; (with_reducible repeat (first | refine blk_drewN ?_ _ | refine blk_drew ?_ | refine blk_alloc ?_ _)); exact BK276.out) hb); have n2_ := Aside0.mk (below_step (by repeat (first | (with_reducible first | exact HB.out | apply below_alloc | apply pw_below_drewN | apply below_drew1 | refine below_set ?_ GE268.out | refine below_set ?_ GE276.out) | exact HB.out)) hb); clear BK268; clear BK276; clear HB; have BK268 := n0_; have BK276 := n1_; have HB := n2_; clear n0_ n1_ n2_; (try clear hb); (try clear hb2); (try clear hk); (try clear hi)) | ((with_reducible refine gate_dst (N := 9) rfl ?_); refine box_event ?hg (N := 9) ?hd (cs := #[.int .i64 0, .int .i64 0, .int .i64 0, .int .i64 0]) (t := 23) ?hr ?_; (case hd => rfl); (case hg => rfl); (case hr => first | (go_simp; done) | (go_simp; rfl)); intro gb283 hg w25 hbox hb; have n0_ := Aside0.mk (blk_below (g := gb268) (o := .cells #[.int .i64 a0_0, .int .i64 a0_1, .int .i64 a0_2, .int .i64 a0_3] 23 (0, 0)) (by (with_reducible repeat (first | refine blk_drewN ?_ _ | refine blk_drew ?_ | refine blk_alloc ?_ _)); exact BK268.out) hb); have n1_ := Aside0.mk (blk_below (g := gb276) (o := .cells #[.int .i64 t271, .int .i64 t272, .int .i64 t273, .int .i64 t274] 23 (0, 0)) (by (with_reducible repeat (first | refine blk_drewN ?_ _ | refine blk_drew ?_ | refine blk_alloc ?_ _)); exact BK276.out) hb); have n2_ := Aside0.mk (below_step (by repeat (first | (with_reducible first | exact HB.out | apply below_alloc | apply pw_below_drewN | apply below_drew1 | refine below_set ?_ GE268.out | refine below_set ?_ GE276.out) | exact HB.out)) hb); have n3_ := Aside0.mk (hbox); have n4_ := Aside0.mk ((by rw [hg]; exact (below_size (by repeat (first | (with_reducible first | exact HB.out | apply below_alloc | apply pw_below_drewN | apply below_drew1 | refine below_set ?_ GE268.out | refine below_set ?_ GE276.out) | exact HB.out))) : w.heap.size ≤ gb283)); have n5_ := Aside0.mk ((by rw [hg]; exact (below_size (by repeat (first | (with_reducible first | exact HB.out | apply below_alloc | apply pw_below_drewN | apply below_drew1 | refine below_set ?_ GE268.out | refine below_set ?_ GE276.out) | exact HB.out))) : w.heap.size ≤ gb283)); have n6_ := Aside0.mk ((by rw [hg]; exact Nat.ne_of_lt (blk_lt (g := gb268) (o := .cells #[.int .i64 a0_0, .int .i64 a0_1, .int .i64 a0_2, .int .i64 a0_3] 23 (0, 0)) (by (with_reducible repeat (first | refine blk_drewN ?_ _ | refine blk_drew ?_ | refine blk_alloc ?_ _)); exact BK268.out)) : gb268 ≠ gb283)); have n7_ := Aside0.mk ((by rw [hg]; exact Nat.ne_of_gt (blk_lt (g := gb268) (o := .cells #[.int .i64 a0_0, .int .i64 a0_1, .int .i64 a0_2, .int .i64 a0_3] 23 (0, 0)) (by (with_reducible repeat (first | refine blk_drewN ?_ _ | refine blk_drew ?_ | refine blk_alloc ?_ _)); exact BK268.out)) : gb283 ≠ gb268)); have n8_ := Aside0.mk ((by rw [hg]; exact Nat.ne_of_lt (blk_lt (g := gb276) (o := .cells #[.int .i64 t271, .int .i64 t272, .int .i64 t273, .int .i64 t274] 23 (0, 0)) (by (with_reducible repeat (first | refine blk_drewN ?_ _ | refine blk_drew ?_ | refine blk_alloc ?_ _)); exact BK276.out)) : gb276 ≠ gb283)); have n9_ := Aside0.mk ((by rw [hg]; exact Nat.ne_of_gt (blk_lt (g := gb276) (o := .cells #[.int .i64 t271, .int .i64 t272, .int .i64 t273, .int .i64 t274] 23 (0, 0)) (by (with_reducible repeat (first | refine blk_drewN ?_ _ | refine blk_drew ?_ | refine blk_alloc ?_ _)); exact BK276.out)) : gb283 ≠ gb276)); clear BK268; clear BK276; clear HB; have BK268 := n0_; have BK276 := n1_; have HB := n2_; have BK283 := n3_; have GW283 := n4_; have GE283 := n5_; have NB268_283 := n6_; have NB283_268 := n7_; have NB276_283 := n8_; have NB283_276 := n9_; clear n0_ n1_ n2_ n3_ n4_ n5_ n6_ n7_ n8_ n9_; clear hb hbox hg; have hnb26 := NB283_268.out; have hnc26 := NB268_283.out; have hnb27 := NB283_276.out; have hnc27 := NB276_283.out; have hcz28_0 : w25.cell? ⟨gb283, 0, none⟩ = some (.int .i64 0) := (blk_cell BK283.out 0).trans rfl; have hcz28_1 : w25.cell? ⟨gb283, 1, none⟩ = some (.int .i64 0) := (blk_cell BK283.out 1).trans rfl; have hcz28_2 : w25.cell? ⟨gb283, 2, none⟩ = some (.int .i64 0) := (blk_cell BK283.out 2).trans rfl; have hcz28_3 : w25.cell? ⟨gb283, 3, none⟩ = some (.int .i64 0) := (blk_cell BK283.out 3).trans rfl; have hfz28_0 := blk_frozen BK283.out 0; have hfz28_1 := blk_frozen BK283.out 1; have hfz28_2 := blk_frozen BK283.out 2; have hfz28_3 := blk_frozen BK283.out 3; have hcz29_0 : w25.cell? ⟨gb268, 0, none⟩ = some (.int .i64 a0_0) := (blk_cell BK268.out 0).trans rfl; have hcz29_1 : w25.cell? ⟨gb268, 1, none⟩ = some (.int .i64 a0_1) := (blk_cell BK268.out 1).trans rfl; have hcz29_2 : w25.cell? ⟨gb268, 2, none⟩ = some (.int .i64 a0_2) := (blk_cell BK268.out 2).trans rfl; have hcz29_3 : w25.cell? ⟨gb268, 3, none⟩ = some (.int .i64 a0_3) := (blk_cell BK268.out 3).trans rfl; have hfz29_0 := blk_frozen BK268.out 0; have hfz29_1 := blk_frozen BK268.out 1; have hfz29_2 := blk_frozen BK268.out 2; have hfz29_3 := blk_frozen BK268.out 3) | ((with_reducible refine gate_callee (f := 14) rfl ?_); refine goesL_ (some 43) rfl rfl Try.func14 (by kernel_rfl) rfl #[.agg #[.int .i64 a0_0, .int .i64 a0_1, .int .i64 a0_2, .int .i64 a0_3], .slice A1 l1.length c1, .int .i64 0] rfl (by (try simp only [List.map_toArray, List.map_cons, List.map_nil]); first | done | rfl | (simp only [List.length_drop, List.length_take]; rfl)) ?_; (with_reducible refine (canvas_Over.calls kj3 a0_0 a0_1 a0_2 a0_3 _ _ l1 0 t284 t285 t286 t287 t288 _ ?side1 ?side2 A16.out).mono ?_); (case side1 => exact Kd.C_below HR1.out (by repeat (first | (with_reducible first | exact HB.out | apply below_alloc | apply pw_below_drewN | apply below_drew1 | refine below_set ?_ GE268.out | refine below_set ?_ GE276.out | refine below_set ?_ GE283.out) | exact HB.out))); (case side2 => exact HC1.out); rintro e w30 ⟨rfl, hb⟩; refine ⟨_, rfl, ?_⟩; have n0_ := Aside0.mk (blk_below (g := gb268) (o := .cells #[.int .i64 a0_0, .int .i64 a0_1, .int .i64 a0_2, .int .i64 a0_3] 23 (0, 0)) (by (with_reducible repeat (first | refine blk_drewN ?_ _ | refine blk_drew ?_ | refine blk_alloc ?_ _)); refine blk_far ?_ NB268_283.out _; (with_reducible repeat (first | refine blk_drewN ?_ _ | refine blk_drew ?_ | refine blk_alloc ?_ _)); refine blk_far ?_ NB268_283.out _; (with_reducible repeat (first | refine blk_drewN ?_ _ | refine blk_drew ?_ | refine blk_alloc ?_ _)); refine blk_far ?_ NB268_283.out _; (with_reducible repeat (first | refine blk_drewN ?_ _ | refine blk_drew ?_ | refine blk_alloc ?_ _)); refine blk_far ?_ NB268_283.out _; (with_reducible repeat (first | refine blk_drewN ?_ _ | refine blk_drew ?_ | refine blk_alloc ?_ _)); exact BK268.out) hb); have n1_ := Aside0.mk (blk_below (g := gb276) (o := .cells #[.int .i64 t271, .int .i64 t272, .int .i64 t273, .int .i64 t274] 23 (0, 0)) (by (with_reducible repeat (first | refine blk_drewN ?_ _ | refine blk_drew ?_ | refine blk_alloc ?_ _)); refine blk_far ?_ NB276_283.out _; (with_reducible repeat (first | refine blk_drewN ?_ _ | refine blk_drew ?_ | refine blk_alloc ?_ _)); refine blk_far ?_ NB276_283.out _; (with_reducible repeat (first | refine blk_drewN ?_ _ | refine blk_drew ?_ | refine blk_alloc ?_ _)); refine blk_far ?_ NB276_283.out _; (with_reducible repeat (first | refine blk_drewN ?_ _ | refine blk_drew ?_ | refine blk_alloc ?_ _)); refine blk_far ?_ NB276_283.out _; (with_reducible repeat (first | refine blk_drewN ?_ _ | refine blk_drew ?_ | refine blk_alloc ?_ _)); exact BK276.out) hb); have n2_ := Aside0.mk (blk_below (g := gb283) (o := .cells #[.int .i64 t278, .int .i64 t279, .int .i64 t280, .int .i64 t281] 23 (0, 0)) (by (with_reducible repeat (first | refine blk_drewN ?_ _ | refine blk_drew ?_ | refine blk_alloc ?_ _)); refine blk_put (cs := #[.int .i64 t278, .int .i64 t279, .int .i64 t280, .int .i64 0]) ?_ 3 _ rfl; (with_reducible repeat (first | refine blk_drewN ?_ _ | refine blk_drew ?_ | refine blk_alloc ?_ _)); refine blk_put (cs := #[.int .i64 t278, .int .i64 t279, .int .i64 0, .int .i64 0]) ?_ 2 _ rfl; (with_reducible repeat (first | refine blk_drewN ?_ _ | refine blk_drew ?_ | refine blk_alloc ?_ _)); refine blk_put (cs := #[.int .i64 t278, .int .i64 0, .int .i64 0, .int .i64 0]) ?_ 1 _ rfl; (with_reducible repeat (first | refine blk_drewN ?_ _ | refine blk_drew ?_ | refine blk_alloc ?_ _)); refine blk_put (cs := #[.int .i64 0, .int .i64 0, .int .i64 0, .int .i64 0]) ?_ 0 _ rfl; (with_reducible repeat (first | refine blk_drewN ?_ _ | refine blk_drew ?_ | refine blk_alloc ?_ _)); exact BK283.out) hb); have n3_ := Aside0.mk (below_step (by repeat (first | (with_reducible first | exact HB.out | apply below_alloc | apply pw_below_drewN | apply below_drew1 | refine below_set ?_ GE268.out | refine below_set ?_ GE276.out | refine below_set ?_ GE283.out) | exact HB.out)) hb); clear BK268; clear BK276; clear BK283; clear HB; have BK268 := n0_; have BK276 := n1_; have BK283 := n2_; have HB := n3_; clear n0_ n1_ n2_ n3_; (try clear hb); (try clear hb2); (try clear hk); (try clear hi)) | ((with_reducible refine gate_dst (N := 11) rfl ?_); refine box_event ?hg (N := 11) ?hd (cs := #[.int .i64 0, .int .i64 0, .int .i64 0, .int .i64 0]) (t := 23) ?hr ?_; (case hd => rfl); (case hg => rfl); (case hr => first | (go_simp; done) | (go_simp; rfl)); intro gb289 hg w31 hbox hb; have n0_ := Aside0.mk (blk_below (g := gb268) (o := .cells #[.int .i64 a0_0, .int .i64 a0_1, .int .i64 a0_2, .int .i64 a0_3] 23 (0, 0)) (by (with_reducible repeat (first | refine blk_drewN ?_ _ | refine blk_drew ?_ | refine blk_alloc ?_ _)); exact BK268.out) hb); have n1_ := Aside0.mk (blk_below (g := gb276) (o := .cells #[.int .i64 t271, .int .i64 t272, .int .i64 t273, .int .i64 t274] 23 (0, 0)) (by (with_reducible repeat (first | refine blk_drewN ?_ _ | refine blk_drew ?_ | refine blk_alloc ?_ _)); exact BK276.out) hb); have n2_ := Aside0.mk (blk_below (g := gb283) (o := .cells #[.int .i64 t278, .int .i64 t279, .int .i64 t280, .int .i64 t281] 23 (0, 0)) (by (with_reducible repeat (first | refine blk_drewN ?_ _ | refine blk_drew ?_ | refine blk_alloc ?_ _)); exact BK283.out) hb); have n3_ := Aside0.mk (below_step (by repeat (first | (with_reducible first | exact HB.out | apply below_alloc | apply pw_below_drewN | apply below_drew1 | refine below_set ?_ GE268.out | refine below_set ?_ GE276.out | refine below_set ?_ GE283.out) | exact HB.out)) hb); have n4_ := Aside0.mk (hbox); have n5_ := Aside0.mk ((by rw [hg]; exact (below_size (by repeat (first | (with_reducible first | exact HB.out | apply below_alloc | apply pw_below_drewN | apply below_drew1 | refine below_set ?_ GE268.out | refine below_set ?_ GE276.out | refine below_set ?_ GE283.out) | exact HB.out))) : w.heap.size ≤ gb289)); have n6_ := Aside0.mk ((by rw [hg]; exact (below_size (by repeat (first | (with_reducible first | exact HB.out | apply below_alloc | apply pw_below_drewN | apply below_drew1 | refine below_set ?_ GE268.out | refine below_set ?_ GE276.out | refine below_set ?_ GE283.out) | exact HB.out))) : w.heap.size ≤ gb289)); have n7_ := Aside0.mk ((by rw [hg]; exact Nat.ne_of_lt (blk_lt (g := gb268) (o := .cells #[.int .i64 a0_0, .int .i64 a0_1, .int .i64 a0_2, .int .i64 a0_3] 23 (0, 0)) (by (with_reducible repeat (first | refine blk_drewN ?_ _ | refine blk_drew ?_ | refine blk_alloc ?_ _)); exact BK268.out)) : gb268 ≠ gb289)); have n8_ := Aside0.mk ((by rw [hg]; exact Nat.ne_of_gt (blk_lt (g := gb268) (o := .cells #[.int .i64 a0_0, .int .i64 a0_1, .int .i64 a0_2, .int .i64 a0_3] 23 (0, 0)) (by (with_reducible repeat (first | refine blk_drewN ?_ _ | refine blk_drew ?_ | refine blk_alloc ?_ _)); exact BK268.out)) : gb289 ≠ gb268)); have n9_ := Aside0.mk ((by rw [hg]; exact Nat.ne_of_lt (blk_lt (g := gb276) (o := .cells #[.int .i64 t271, .int .i64 t272, .int .i64 t273, .int .i64 t274] 23 (0, 0)) (by (with_reducible repeat (first | refine blk_drewN ?_ _ | refine blk_drew ?_ | refine blk_alloc ?_ _)); exact BK276.out)) : gb276 ≠ gb289)); have n10_ := Aside0.mk ((by rw [hg]; exact Nat.ne_of_gt (blk_lt (g := gb276) (o := .cells #[.int .i64 t271, .int .i64 t272, .int .i64 t273, .int .i64 t274] 23 (0, 0)) (by (with_reducible repeat (first | refine blk_drewN ?_ _ | refine blk_drew ?_ | refine blk_alloc ?_ _)); exact BK276.out)) : gb289 ≠ gb276)); have n11_ := Aside0.mk ((by rw [hg]; exact Nat.ne_of_lt (blk_lt (g := gb283) (o := .cells #[.int .i64 t278, .int .i64 t279, .int .i64 t280, .int .i64 t281] 23 (0, 0)) (by (with_reducible repeat (first | refine blk_drewN ?_ _ | refine blk_drew ?_ | refine blk_alloc ?_ _)); exact BK283.out)) : gb283 ≠ gb289)); have n12_ := Aside0.mk ((by rw [hg]; exact Nat.ne_of_gt (blk_lt (g := gb283) (o := .cells #[.int .i64 t278, .int .i64 t279, .int .i64 t280, .int .i64 t281] 23 (0, 0)) (by (with_reducible repeat (first | refine blk_drewN ?_ _ | refine blk_drew ?_ | refine blk_alloc ?_ _)); exact BK283.out)) : gb289 ≠ gb283)); clear BK268; clear BK276; clear BK283; clear HB; have BK268 := n0_; have BK276 := n1_; have BK283 := n2_; have HB := n3_; have BK289 := n4_; have GW289 := n5_; have GE289 := n6_; have NB268_289 := n7_; have NB289_268 := n8_; have NB276_289 := n9_; have NB289_276 := n10_; have NB283_289 := n11_; have NB289_283 := n12_; clear n0_ n1_ n2_ n3_ n4_ n5_ n6_ n7_ n8_ n9_ n10_ n11_ n12_; clear hb hbox hg; have hnb32 := NB289_268.out; have hnc32 := NB268_289.out; have hnb33 := NB289_276.out; have hnc33 := NB276_289.out; have hnb34 := NB289_283.out; have hnc34 := NB283_289.out; have hcz35_0 : w31.cell? ⟨gb289, 0, none⟩ = some (.int .i64 0) := (blk_cell BK289.out 0).trans rfl; have hcz35_1 : w31.cell? ⟨gb289, 1, none⟩ = some (.int .i64 0) := (blk_cell BK289.out 1).trans rfl; have hcz35_2 : w31.cell? ⟨gb289, 2, none⟩ = some (.int .i64 0) := (blk_cell BK289.out 2).trans rfl; have hcz35_3 : w31.cell? ⟨gb289, 3, none⟩ = some (.int .i64 0) := (blk_cell BK289.out 3).trans rfl; have hfz35_0 := blk_frozen BK289.out 0; have hfz35_1 := blk_frozen BK289.out 1; have hfz35_2 := blk_frozen BK289.out 2; have hfz35_3 := blk_frozen BK289.out 3))
          (try simp only [Act.put, List.setIfInBounds_toArray, List.set_cons_zero, List.set_cons_succ])
          go_cut [73] (fun v73 wc => ∃ (kq : Nat) (x73_16 : Bool), v73 = .bool x73_16 ∧ Aside0 (celluloidlaw21_CanvasFaint.j1 kq l1 x73_16 a0_0 a0_1 a0_2 a0_3 = some r) ∧ Aside0 (kq ≤ kj3) ∧ Aside0 (wc.heap[gb268]? = some (.cells #[.int .i64 a0_0, .int .i64 a0_1, .int .i64 a0_2, .int .i64 a0_3] 23 (0, 0))) ∧ Aside0 (wc.heap[gb276]? = some (.cells #[.int .i64 t271, .int .i64 t272, .int .i64 t273, .int .i64 t274] 23 (0, 0))) ∧ Aside0 (wc.heap[gb283]? = some (.cells #[.int .i64 t278, .int .i64 t279, .int .i64 t280, .int .i64 t281] 23 (0, 0))) ∧ Aside0 (wc.heap[gb289]? = some (.cells #[.int .i64 t284, .int .i64 t285, .int .i64 t286, .int .i64 t287] 23 (0, 0))) ∧ Aside0 (Below w.heap.size w wc))
          case first =>
            have H := HC17.out
            clear HC17
            replace H := Option.bind_eq_some_iff.mp H
            obtain ⟨t290, A360, H⟩ := H
            replace H : (if t290 = true then (if t274 < a0_3 then (celluloidlaw21_CanvasFaint.j1 kj3 l1 true a0_0 a0_1 a0_2 a0_3) else (if (!(t278 == a0_0) || (!(t279 == a0_1) || (!(t280 == a0_2) || (!(t281 == a0_3))))) = true then (celluloidlaw21_CanvasFaint.j1 kj3 l1 true a0_0 a0_1 a0_2 a0_3) else (if t282 = 0 then (if (!(t284 == a0_0) || (!(t285 == a0_1) || (!(t286 == a0_2) || (!(t287 == a0_3))))) = true then (celluloidlaw21_CanvasFaint.j1 kj3 l1 true a0_0 a0_1 a0_2 a0_3) else (celluloidlaw21_CanvasFaint.j1 kj3 l1 (t288 != 0) a0_0 a0_1 a0_2 a0_3)) else (celluloidlaw21_CanvasFaint.j1 kj3 l1 true a0_0 a0_1 a0_2 a0_3)))) else (celluloidlaw21_CanvasFaint.j1 kj3 l1 true a0_0 a0_1 a0_2 a0_3)) = some r := H
            have A36 := Aside0.mk A360
            clear A360
            by_cases c37 : t290 = true
            · subst c37
              have H1 : (if t274 < a0_3 then (celluloidlaw21_CanvasFaint.j1 kj3 l1 true a0_0 a0_1 a0_2 a0_3) else (if (!(t278 == a0_0) || (!(t279 == a0_1) || (!(t280 == a0_2) || (!(t281 == a0_3))))) = true then (celluloidlaw21_CanvasFaint.j1 kj3 l1 true a0_0 a0_1 a0_2 a0_3) else (if t282 = 0 then (if (!(t284 == a0_0) || (!(t285 == a0_1) || (!(t286 == a0_2) || (!(t287 == a0_3))))) = true then (celluloidlaw21_CanvasFaint.j1 kj3 l1 true a0_0 a0_1 a0_2 a0_3) else (celluloidlaw21_CanvasFaint.j1 kj3 l1 (t288 != 0) a0_0 a0_1 a0_2 a0_3)) else (celluloidlaw21_CanvasFaint.j1 kj3 l1 true a0_0 a0_1 a0_2 a0_3)))) = some r := by rw [if_pos rfl] at H; exact H
              clear H
              have H := H1
              clear H1
              by_cases c38 : t274 < a0_3
              · rw [if_pos c38] at H
                have c38b0 : decide (t274 < a0_3) = true := decide_eq_true c38
                clear c38
                (first | rw [c38b0] | (simp only [i64_w, i32_w]; rw [c38b0]) | skip)
                exact absurd (H.trans (congrArg some hr_.out)) (celluloidlaw21_CanvasFaint.j1_dead _ _ _ _ _ _)
              · rw [if_neg c38] at H
                have c38b0 : decide (t274 < a0_3) = false := decide_eq_false c38
                clear c38
                (first | rw [c38b0] | (simp only [i64_w, i32_w]; rw [c38b0]) | skip)
                by_cases c48 : (!(t278 == a0_0) || (!(t279 == a0_1) || (!(t280 == a0_2) || (!(t281 == a0_3))))) = true
                · rw [if_pos c48] at H
                  have c48b0 : (!(t278 == a0_0) || (!(t279 == a0_1) || (!(t280 == a0_2) || (!(t281 == a0_3))))) = true := c48
                  clear c48
                  exact absurd (H.trans (congrArg some hr_.out)) (celluloidlaw21_CanvasFaint.j1_dead _ _ _ _ _ _)
                · rw [if_neg c48] at H
                  have c48b0 : (!(t278 == a0_0) || (!(t279 == a0_1) || (!(t280 == a0_2) || (!(t281 == a0_3))))) = false := by simpa using c48
                  clear c48
                  by_cases c60 : t282 = 0
                  · rw [if_pos c60] at H
                    have c60b0 : (t282 == 0) = true := beq_iff_eq.mpr c60
                    have c60b1 : (t282 != 0) = false := bne_eq_false_iff_eq.mpr c60
                    clear c60
                    by_cases c61 : (!(t284 == a0_0) || (!(t285 == a0_1) || (!(t286 == a0_2) || (!(t287 == a0_3))))) = true
                    · rw [if_pos c61] at H
                      have c61b0 : (!(t284 == a0_0) || (!(t285 == a0_1) || (!(t286 == a0_2) || (!(t287 == a0_3))))) = true := c61
                      clear c61
                      exact absurd (H.trans (congrArg some hr_.out)) (celluloidlaw21_CanvasFaint.j1_dead _ _ _ _ _ _)
                    · rw [if_neg c61] at H
                      have c61b0 : (!(t284 == a0_0) || (!(t285 == a0_1) || (!(t286 == a0_2) || (!(t287 == a0_3))))) = false := by simpa using c61
                      clear c61
                      have H' := Aside0.mk H
                      clear H
                      have hnb74 := NB276_268.out
                      have hnc74 := NB268_276.out
                      have hnb75 := NB276_283.out
                      have hnc75 := NB283_276.out
                      have hnb76 := NB276_289.out
                      have hnc76 := NB289_276.out
                      have hcz77_0 : w31.cell? ⟨gb276, 0, none⟩ = some (.int .i64 t271) := (blk_cell BK276.out 0).trans rfl
                      have hcz77_1 : w31.cell? ⟨gb276, 1, none⟩ = some (.int .i64 t272) := (blk_cell BK276.out 1).trans rfl
                      have hcz77_2 : w31.cell? ⟨gb276, 2, none⟩ = some (.int .i64 t273) := (blk_cell BK276.out 2).trans rfl
                      have hcz77_3 : w31.cell? ⟨gb276, 3, none⟩ = some (.int .i64 t274) := (blk_cell BK276.out 3).trans rfl
                      have hfz77_0 := blk_frozen BK276.out 0
                      have hfz77_1 := blk_frozen BK276.out 1
                      have hfz77_2 := blk_frozen BK276.out 2
                      have hfz77_3 := blk_frozen BK276.out 3
                      go_wp2_with (first | ((with_reducible refine gate_callee (f := 10) rfl ?_); refine goesL_ (some 47) rfl rfl Try.func10 (by kernel_rfl) rfl #[.agg #[.int .i64 t271, .int .i64 t272, .int .i64 t273, .int .i64 t274]] rfl (by (try simp only [List.map_toArray, List.map_cons, List.map_nil]); first | done | rfl | (simp only [List.length_drop, List.length_take]; rfl)) ?_; (with_reducible refine (celluloidref21_Faint.calls kj3 t271 t272 t273 t274 true _ A36.out).mono ?_); rintro e w78 ⟨rfl, hb⟩; refine ⟨_, rfl, ?_⟩; have n0_ := Aside0.mk (blk_below (g := gb268) (o := .cells #[.int .i64 a0_0, .int .i64 a0_1, .int .i64 a0_2, .int .i64 a0_3] 23 (0, 0)) (by (with_reducible repeat (first | refine blk_drewN ?_ _ | refine blk_drew ?_ | refine blk_alloc ?_ _)); refine blk_far ?_ NB268_289.out _; (with_reducible repeat (first | refine blk_drewN ?_ _ | refine blk_drew ?_ | refine blk_alloc ?_ _)); refine blk_far ?_ NB268_289.out _; (with_reducible repeat (first | refine blk_drewN ?_ _ | refine blk_drew ?_ | refine blk_alloc ?_ _)); refine blk_far ?_ NB268_289.out _; (with_reducible repeat (first | refine blk_drewN ?_ _ | refine blk_drew ?_ | refine blk_alloc ?_ _)); refine blk_far ?_ NB268_289.out _; (with_reducible repeat (first | refine blk_drewN ?_ _ | refine blk_drew ?_ | refine blk_alloc ?_ _)); exact BK268.out) hb); have n1_ := Aside0.mk (blk_below (g := gb276) (o := .cells #[.int .i64 t271, .int .i64 t272, .int .i64 t273, .int .i64 t274] 23 (0, 0)) (by (with_reducible repeat (first | refine blk_drewN ?_ _ | refine blk_drew ?_ | refine blk_alloc ?_ _)); refine blk_far ?_ NB276_289.out _; (with_reducible repeat (first | refine blk_drewN ?_ _ | refine blk_drew ?_ | refine blk_alloc ?_ _)); refine blk_far ?_ NB276_289.out _; (with_reducible repeat (first | refine blk_drewN ?_ _ | refine blk_drew ?_ | refine blk_alloc ?_ _)); refine blk_far ?_ NB276_289.out _; (with_reducible repeat (first | refine blk_drewN ?_ _ | refine blk_drew ?_ | refine blk_alloc ?_ _)); refine blk_far ?_ NB276_289.out _; (with_reducible repeat (first | refine blk_drewN ?_ _ | refine blk_drew ?_ | refine blk_alloc ?_ _)); exact BK276.out) hb); have n2_ := Aside0.mk (blk_below (g := gb283) (o := .cells #[.int .i64 t278, .int .i64 t279, .int .i64 t280, .int .i64 t281] 23 (0, 0)) (by (with_reducible repeat (first | refine blk_drewN ?_ _ | refine blk_drew ?_ | refine blk_alloc ?_ _)); refine blk_far ?_ NB283_289.out _; (with_reducible repeat (first | refine blk_drewN ?_ _ | refine blk_drew ?_ | refine blk_alloc ?_ _)); refine blk_far ?_ NB283_289.out _; (with_reducible repeat (first | refine blk_drewN ?_ _ | refine blk_drew ?_ | refine blk_alloc ?_ _)); refine blk_far ?_ NB283_289.out _; (with_reducible repeat (first | refine blk_drewN ?_ _ | refine blk_drew ?_ | refine blk_alloc ?_ _)); refine blk_far ?_ NB283_289.out _; (with_reducible repeat (first | refine blk_drewN ?_ _ | refine blk_drew ?_ | refine blk_alloc ?_ _)); exact BK283.out) hb); have n3_ := Aside0.mk (blk_below (g := gb289) (o := .cells #[.int .i64 t284, .int .i64 t285, .int .i64 t286, .int .i64 t287] 23 (0, 0)) (by (with_reducible repeat (first | refine blk_drewN ?_ _ | refine blk_drew ?_ | refine blk_alloc ?_ _)); refine blk_put (cs := #[.int .i64 t284, .int .i64 t285, .int .i64 t286, .int .i64 0]) ?_ 3 _ rfl; (with_reducible repeat (first | refine blk_drewN ?_ _ | refine blk_drew ?_ | refine blk_alloc ?_ _)); refine blk_put (cs := #[.int .i64 t284, .int .i64 t285, .int .i64 0, .int .i64 0]) ?_ 2 _ rfl; (with_reducible repeat (first | refine blk_drewN ?_ _ | refine blk_drew ?_ | refine blk_alloc ?_ _)); refine blk_put (cs := #[.int .i64 t284, .int .i64 0, .int .i64 0, .int .i64 0]) ?_ 1 _ rfl; (with_reducible repeat (first | refine blk_drewN ?_ _ | refine blk_drew ?_ | refine blk_alloc ?_ _)); refine blk_put (cs := #[.int .i64 0, .int .i64 0, .int .i64 0, .int .i64 0]) ?_ 0 _ rfl; (with_reducible repeat (first | refine blk_drewN ?_ _ | refine blk_drew ?_ | refine blk_alloc ?_ _)); exact BK289.out) hb); have n4_ := Aside0.mk (below_step (by repeat (first | (with_reducible first | exact HB.out | apply below_alloc | apply pw_below_drewN | apply below_drew1 | refine below_set ?_ GE268.out | refine below_set ?_ GE276.out | refine below_set ?_ GE283.out | refine below_set ?_ GE289.out) | exact HB.out)) hb); clear BK268; clear BK276; clear BK283; clear BK289; clear HB; have BK268 := n0_; have BK276 := n1_; have BK283 := n2_; have BK289 := n3_; have HB := n4_; clear n0_ n1_ n2_ n3_ n4_; (try clear hb); (try clear hb2); (try clear hk); (try clear hi); have hcz79_0 : w78.cell? ⟨gb276, 0, none⟩ = some (.int .i64 t271) := (blk_cell BK276.out 0).trans rfl; have hcz79_1 : w78.cell? ⟨gb276, 1, none⟩ = some (.int .i64 t272) := (blk_cell BK276.out 1).trans rfl; have hcz79_2 : w78.cell? ⟨gb276, 2, none⟩ = some (.int .i64 t273) := (blk_cell BK276.out 2).trans rfl; have hcz79_3 : w78.cell? ⟨gb276, 3, none⟩ = some (.int .i64 t274) := (blk_cell BK276.out 3).trans rfl; have hfz79_0 := blk_frozen BK276.out 0; have hfz79_1 := blk_frozen BK276.out 1; have hfz79_2 := blk_frozen BK276.out 2; have hfz79_3 := blk_frozen BK276.out 3; have hnb80 := NB268_283.out; have hnc80 := NB283_268.out; have hnb81 := NB268_289.out; have hnc81 := NB289_268.out; have hcz82_0 : w78.cell? ⟨gb268, 0, none⟩ = some (.int .i64 a0_0) := (blk_cell BK268.out 0).trans rfl; have hcz82_1 : w78.cell? ⟨gb268, 1, none⟩ = some (.int .i64 a0_1) := (blk_cell BK268.out 1).trans rfl; have hcz82_2 : w78.cell? ⟨gb268, 2, none⟩ = some (.int .i64 a0_2) := (blk_cell BK268.out 2).trans rfl; have hcz82_3 : w78.cell? ⟨gb268, 3, none⟩ = some (.int .i64 a0_3) := (blk_cell BK268.out 3).trans rfl; have hfz82_0 := blk_frozen BK268.out 0; have hfz82_1 := blk_frozen BK268.out 1; have hfz82_2 := blk_frozen BK268.out 2; have hfz82_3 := blk_frozen BK268.out 3; have hnb83 := NB283_289.out; have hnc83 := NB289_283.out; have hcz84_0 : w78.cell? ⟨gb283, 0, none⟩ = some (.int .i64 t278) := (blk_cell BK283.out 0).trans rfl; have hcz84_1 : w78.cell? ⟨gb283, 1, none⟩ = some (.int .i64 t279) := (blk_cell BK283.out 1).trans rfl; have hcz84_2 : w78.cell? ⟨gb283, 2, none⟩ = some (.int .i64 t280) := (blk_cell BK283.out 2).trans rfl; have hcz84_3 : w78.cell? ⟨gb283, 3, none⟩ = some (.int .i64 t281) := (blk_cell BK283.out 3).trans rfl; have hfz84_0 := blk_frozen BK283.out 0; have hfz84_1 := blk_frozen BK283.out 1; have hfz84_2 := blk_frozen BK283.out 2; have hfz84_3 := blk_frozen BK283.out 3; have hcz85_0 : w78.cell? ⟨gb289, 0, none⟩ = some (.int .i64 t284) := (blk_cell BK289.out 0).trans rfl; have hcz85_1 : w78.cell? ⟨gb289, 1, none⟩ = some (.int .i64 t285) := (blk_cell BK289.out 1).trans rfl; have hcz85_2 : w78.cell? ⟨gb289, 2, none⟩ = some (.int .i64 t286) := (blk_cell BK289.out 2).trans rfl; have hcz85_3 : w78.cell? ⟨gb289, 3, none⟩ = some (.int .i64 t287) := (blk_cell BK289.out 3).trans rfl; have hfz85_0 := blk_frozen BK289.out 0; have hfz85_1 := blk_frozen BK289.out 1; have hfz85_2 := blk_frozen BK289.out 2; have hfz85_3 := blk_frozen BK289.out 3))
                      all_goals try (exfalso; have hne_ := c48b0; simp only [Bool.or_eq_false_iff, Bool.not_eq_false', beq_iff_eq] at hne_; obtain ⟨en0_, en1_, en2_, en3_⟩ := hne_; contradiction)
                      all_goals try (exfalso; have hne_ := c61b0; simp only [Bool.or_eq_false_iff, Bool.not_eq_false', beq_iff_eq] at hne_; obtain ⟨en0_, en1_, en2_, en3_⟩ := hne_; contradiction)
                      go_meet
                      case rel => exact ⟨_, ((t288 != 0)), (by first | rfl | (simp; done) | (simp [*]; done)), H', ⟨by have := HJ3.out; first | omega | exact Nat.le_refl _⟩, ⟨by (with_reducible repeat (first | refine blk_drewN ?_ _ | refine blk_drew ?_ | refine blk_alloc ?_ _)); exact BK268.out⟩, ⟨by (with_reducible repeat (first | refine blk_drewN ?_ _ | refine blk_drew ?_ | refine blk_alloc ?_ _)); exact BK276.out⟩, ⟨by (with_reducible repeat (first | refine blk_drewN ?_ _ | refine blk_drew ?_ | refine blk_alloc ?_ _)); exact BK283.out⟩, ⟨by (with_reducible repeat (first | refine blk_drewN ?_ _ | refine blk_drew ?_ | refine blk_alloc ?_ _)); exact BK289.out⟩, ⟨by repeat (first | (with_reducible first | exact HB.out | apply below_alloc | apply pw_below_drewN | apply below_drew1 | refine below_set ?_ GE268.out | refine below_set ?_ GE276.out | refine below_set ?_ GE283.out | refine below_set ?_ GE289.out) | exact HB.out)⟩⟩
                  · rw [if_neg c60] at H
                    have c60b0 : (t282 == 0) = false := beq_eq_false_iff_ne.mpr c60
                    have c60b1 : (t282 != 0) = true := bne_iff_ne.mpr c60
                    exact absurd (H.trans (congrArg some hr_.out)) (celluloidlaw21_CanvasFaint.j1_dead _ _ _ _ _ _)
            · replace c37 := Bool.eq_false_iff.mpr c37
              subst c37
              have H1 : (celluloidlaw21_CanvasFaint.j1 kj3 l1 true a0_0 a0_1 a0_2 a0_3) = some r := by rw [if_neg (show ¬ (false = true) by decide)] at H; exact H
              clear H
              have H := H1
              clear H1
              exact absurd (H.trans (congrArg some hr_.out)) (celluloidlaw21_CanvasFaint.j1_dead _ _ _ _ _ _)
          case rest =>
            clear HC17
            try clear c1
            try clear c2
            try clear p2
            try clear c3
            try clear c4
            try clear c5
            try clear c6
            try clear c6b0
            try clear c6b1
            try clear c7
            try clear c8
            try clear c9
            try clear c10
            try clear c11
            try clear c14
            try clear c14b0
            try clear c14b1
            try clear c21
            try clear c26
            try clear c27
            try clear c32
            try clear c33
            try clear c34
            try clear c37
            try clear c38
            try clear c38b0
            try clear c39
            try clear c40
            try clear c41
            try clear c45
            try clear c46
            try clear c48
            try clear c48b0
            try clear c49
            try clear c50
            try clear c51
            try clear c55
            try clear c56
            try clear c58
            try clear c60
            try clear c60b0
            try clear c60b1
            try clear c61
            try clear c61b0
            try clear c62
            try clear c63
            try clear c64
            try clear c68
            try clear c69
            try clear c71
            try clear c74
            try clear c75
            try clear c76
            try clear c80
            try clear c81
            try clear c83
            try clear c86
            try clear c87
            try clear c88
            try clear c92
            try clear c93
            try clear c95
            try clear c97
            try clear c98
            try clear c99
            try clear hcz100_0
            try clear hcz100_1
            try clear hcz100_2
            try clear hcz100_3
            try clear hcz18_0
            try clear hcz18_1
            try clear hcz18_2
            try clear hcz18_3
            try clear hcz22_0
            try clear hcz22_1
            try clear hcz22_2
            try clear hcz22_3
            try clear hcz23_0
            try clear hcz23_1
            try clear hcz23_2
            try clear hcz23_3
            try clear hcz28_0
            try clear hcz28_1
            try clear hcz28_2
            try clear hcz28_3
            try clear hcz29_0
            try clear hcz29_1
            try clear hcz29_2
            try clear hcz29_3
            try clear hcz35_0
            try clear hcz35_1
            try clear hcz35_2
            try clear hcz35_3
            try clear hcz42_0
            try clear hcz42_1
            try clear hcz42_2
            try clear hcz42_3
            try clear hcz44_0
            try clear hcz44_1
            try clear hcz44_2
            try clear hcz44_3
            try clear hcz47_0
            try clear hcz47_1
            try clear hcz47_2
            try clear hcz47_3
            try clear hcz52_0
            try clear hcz52_1
            try clear hcz52_2
            try clear hcz52_3
            try clear hcz54_0
            try clear hcz54_1
            try clear hcz54_2
            try clear hcz54_3
            try clear hcz57_0
            try clear hcz57_1
            try clear hcz57_2
            try clear hcz57_3
            try clear hcz59_0
            try clear hcz59_1
            try clear hcz59_2
            try clear hcz59_3
            try clear hcz65_0
            try clear hcz65_1
            try clear hcz65_2
            try clear hcz65_3
            try clear hcz67_0
            try clear hcz67_1
            try clear hcz67_2
            try clear hcz67_3
            try clear hcz70_0
            try clear hcz70_1
            try clear hcz70_2
            try clear hcz70_3
            try clear hcz72_0
            try clear hcz72_1
            try clear hcz72_2
            try clear hcz72_3
            try clear hcz73_0
            try clear hcz73_1
            try clear hcz73_2
            try clear hcz73_3
            try clear hcz77_0
            try clear hcz77_1
            try clear hcz77_2
            try clear hcz77_3
            try clear hcz79_0
            try clear hcz79_1
            try clear hcz79_2
            try clear hcz79_3
            try clear hcz82_0
            try clear hcz82_1
            try clear hcz82_2
            try clear hcz82_3
            try clear hcz84_0
            try clear hcz84_1
            try clear hcz84_2
            try clear hcz84_3
            try clear hcz85_0
            try clear hcz85_1
            try clear hcz85_2
            try clear hcz85_3
            try clear hcz89_0
            try clear hcz89_1
            try clear hcz89_2
            try clear hcz89_3
            try clear hcz8_0
            try clear hcz8_1
            try clear hcz8_2
            try clear hcz8_3
            try clear hcz91_0
            try clear hcz91_1
            try clear hcz91_2
            try clear hcz91_3
            try clear hcz94_0
            try clear hcz94_1
            try clear hcz94_2
            try clear hcz94_3
            try clear hcz96_0
            try clear hcz96_1
            try clear hcz96_2
            try clear hcz96_3
            try clear hfz100_0
            try clear hfz100_1
            try clear hfz100_2
            try clear hfz100_3
            try clear hfz18_0
            try clear hfz18_1
            try clear hfz18_2
            try clear hfz18_3
            try clear hfz22_0
            try clear hfz22_1
            try clear hfz22_2
            try clear hfz22_3
            try clear hfz23_0
            try clear hfz23_1
            try clear hfz23_2
            try clear hfz23_3
            try clear hfz28_0
            try clear hfz28_1
            try clear hfz28_2
            try clear hfz28_3
            try clear hfz29_0
            try clear hfz29_1
            try clear hfz29_2
            try clear hfz29_3
            try clear hfz35_0
            try clear hfz35_1
            try clear hfz35_2
            try clear hfz35_3
            try clear hfz42_0
            try clear hfz42_1
            try clear hfz42_2
            try clear hfz42_3
            try clear hfz44_0
            try clear hfz44_1
            try clear hfz44_2
            try clear hfz44_3
            try clear hfz47_0
            try clear hfz47_1
            try clear hfz47_2
            try clear hfz47_3
            try clear hfz52_0
            try clear hfz52_1
            try clear hfz52_2
            try clear hfz52_3
            try clear hfz54_0
            try clear hfz54_1
            try clear hfz54_2
            try clear hfz54_3
            try clear hfz57_0
            try clear hfz57_1
            try clear hfz57_2
            try clear hfz57_3
            try clear hfz59_0
            try clear hfz59_1
            try clear hfz59_2
            try clear hfz59_3
            try clear hfz65_0
            try clear hfz65_1
            try clear hfz65_2
            try clear hfz65_3
            try clear hfz67_0
            try clear hfz67_1
            try clear hfz67_2
            try clear hfz67_3
            try clear hfz70_0
            try clear hfz70_1
            try clear hfz70_2
            try clear hfz70_3
            try clear hfz72_0
            try clear hfz72_1
            try clear hfz72_2
            try clear hfz72_3
            try clear hfz73_0
            try clear hfz73_1
            try clear hfz73_2
            try clear hfz73_3
            try clear hfz77_0
            try clear hfz77_1
            try clear hfz77_2
            try clear hfz77_3
            try clear hfz79_0
            try clear hfz79_1
            try clear hfz79_2
            try clear hfz79_3
            try clear hfz82_0
            try clear hfz82_1
            try clear hfz82_2
            try clear hfz82_3
            try clear hfz84_0
            try clear hfz84_1
            try clear hfz84_2
            try clear hfz84_3
            try clear hfz85_0
            try clear hfz85_1
            try clear hfz85_2
            try clear hfz85_3
            try clear hfz89_0
            try clear hfz89_1
            try clear hfz89_2
            try clear hfz89_3
            try clear hfz8_0
            try clear hfz8_1
            try clear hfz8_2
            try clear hfz8_3
            try clear hfz91_0
            try clear hfz91_1
            try clear hfz91_2
            try clear hfz91_3
            try clear hfz94_0
            try clear hfz94_1
            try clear hfz94_2
            try clear hfz94_3
            try clear hfz96_0
            try clear hfz96_1
            try clear hfz96_2
            try clear hfz96_3
            try clear p2
            obtain ⟨kq, x73_16, rfl, HA, HJ16, BK268, BK276, BK283, BK289, HB⟩ := hcut
            cases kq with
            | zero => exact absurd HA.out (by simp [celluloidlaw21_CanvasFaint.j1])
            | succ kj16 =>
              have H := HA.out
              clear HA
              simp only [celluloidlaw21_CanvasFaint.j1] at H
              by_cases c102 : x73_16 = true
              · subst c102
                have H1 : (some false) = some r := by rw [if_pos rfl] at H; exact H
                clear H
                have H := H1
                clear H1
                exact absurd (Option.some.inj H) (by rw [hr_.out]; decide)
              · replace c102 := Bool.eq_false_iff.mpr c102
                subst c102
                have H1 : (if (l1.length : Int) > 0 then (if 0 < (l1.length : Int) then (celluloidlaw21_CanvasFaint.j2 kj16 l1 (((rd_T50 l1 0).f0.f3) == 255) a0_0 a0_1 a0_2 a0_3) else (none)) else (celluloidlaw21_CanvasFaint.j2 kj16 l1 false a0_0 a0_1 a0_2 a0_3)) = some r := by rw [if_neg (show ¬ (false = true) by decide)] at H; exact H
                clear H
                have H := H1
                clear H1
                have HC103 := Aside0.mk H
                clear H
                go_upto_region 10 with (fail)
                go_cut [84] (fun v84 wc => ∃ (kq : Nat) (x84_102 : Bool), v84 = .bool x84_102 ∧ Aside0 (celluloidlaw21_CanvasFaint.j2 kq l1 x84_102 a0_0 a0_1 a0_2 a0_3 = some r) ∧ Aside0 (kq ≤ kj16) ∧ Aside0 (wc.heap[gb268]? = some (.cells #[.int .i64 a0_0, .int .i64 a0_1, .int .i64 a0_2, .int .i64 a0_3] 23 (0, 0))) ∧ Aside0 (wc.heap[gb276]? = some (.cells #[.int .i64 t271, .int .i64 t272, .int .i64 t273, .int .i64 t274] 23 (0, 0))) ∧ Aside0 (wc.heap[gb283]? = some (.cells #[.int .i64 t278, .int .i64 t279, .int .i64 t280, .int .i64 t281] 23 (0, 0))) ∧ Aside0 (wc.heap[gb289]? = some (.cells #[.int .i64 t284, .int .i64 t285, .int .i64 t286, .int .i64 t287] 23 (0, 0))) ∧ Aside0 (Below w.heap.size w wc))
                case first =>
                  have H := HC103.out
                  clear HC103
                  by_cases c104 : (l1.length : Int) > 0
                  · rw [if_pos c104] at H
                    have c104b0 : decide (0 < (l1.length : Int)) = true := decide_eq_true c104
                    have c104b1 : decide (0 < l1.length) = true := decide_eq_true (by omega)
                    clear c104
                    (first | rw [c104b0] | (simp only [i64_w, i32_w]; rw [c104b0]) | skip)
                    by_cases c105 : 0 < (l1.length : Int)
                    · rw [if_pos c105] at H
                      have c105b0 : decide (0 < (l1.length : Int)) = true := decide_eq_true c105
                      have c105b1 : decide (0 < l1.length) = true := decide_eq_true (by omega)
                      clear c105
                      have H' := Aside0.mk H
                      clear H
                      have p291 : 0 ≤ (0 : Int) := (by omega)
                      have q291 : 0 < (l1.length : Int) := of_decide_eq_true (by first | (with_reducible assumption) | assumption)
                      obtain ⟨ad291, e291, hx291_0, hx291_1, hx291_2, hx291_3, hx291_4⟩ := at_T50 HR1.out 0 p291 q291
                      cases e291
                      have qi291 : (0 < l1.length) = True := eq_true (by omega)
                      (try rw [show ((0 : Int)).toNat = 0 from rfl] at hx291_0)
                      (try rw [show 0 * 5 = 0 from rfl] at hx291_0)
                      (try rw [Addr.add_zero'] at hx291_0)
                      (try rw [show ((0 : Int)).toNat = 0 from rfl] at hx291_1)
                      (try rw [show 0 * 5 = 0 from rfl] at hx291_1)
                      (try rw [Addr.add_zero'] at hx291_1)
                      (try rw [show ((0 : Int)).toNat = 0 from rfl] at hx291_2)
                      (try rw [show 0 * 5 = 0 from rfl] at hx291_2)
                      (try rw [Addr.add_zero'] at hx291_2)
                      (try rw [show ((0 : Int)).toNat = 0 from rfl] at hx291_3)
                      (try rw [show 0 * 5 = 0 from rfl] at hx291_3)
                      (try rw [Addr.add_zero'] at hx291_3)
                      (try rw [show ((0 : Int)).toNat = 0 from rfl] at hx291_4)
                      (try rw [show 0 * 5 = 0 from rfl] at hx291_4)
                      (try rw [Addr.add_zero'] at hx291_4)
                      replace hx291_0 := (HB.out.cell (World.block_lt_of_cell? w _ hx291_0)).trans hx291_0
                      replace hx291_1 := (HB.out.cell (World.block_lt_of_cell? w _ hx291_1)).trans hx291_1
                      replace hx291_2 := (HB.out.cell (World.block_lt_of_cell? w _ hx291_2)).trans hx291_2
                      replace hx291_3 := (HB.out.cell (World.block_lt_of_cell? w _ hx291_3)).trans hx291_3
                      replace hx291_4 := (HB.out.cell (World.block_lt_of_cell? w _ hx291_4)).trans hx291_4
                      replace p291 := eq_true p291
                      replace q291 := eq_true q291
                      go_wp2
                      go_meet
                      case rel => exact ⟨_, ((((rd_T50 l1 0).f0.f3) == 255)), (by first | rfl | (simp; done) | (simp [*]; done)), H', ⟨by have := HJ3.out; have := HJ16.out; first | omega | exact Nat.le_refl _⟩, ⟨by (with_reducible repeat (first | refine blk_drewN ?_ _ | refine blk_drew ?_ | refine blk_alloc ?_ _)); exact BK268.out⟩, ⟨by (with_reducible repeat (first | refine blk_drewN ?_ _ | refine blk_drew ?_ | refine blk_alloc ?_ _)); exact BK276.out⟩, ⟨by (with_reducible repeat (first | refine blk_drewN ?_ _ | refine blk_drew ?_ | refine blk_alloc ?_ _)); exact BK283.out⟩, ⟨by (with_reducible repeat (first | refine blk_drewN ?_ _ | refine blk_drew ?_ | refine blk_alloc ?_ _)); exact BK289.out⟩, ⟨by repeat (first | (with_reducible first | exact HB.out | apply below_alloc | apply pw_below_drewN | apply below_drew1 | refine below_set ?_ GE268.out | refine below_set ?_ GE276.out | refine below_set ?_ GE283.out | refine below_set ?_ GE289.out) | exact HB.out)⟩⟩
                    · rw [if_neg c105] at H
                      exact absurd H (by simp)
                  · rw [if_neg c104] at H
                    have c104b0 : decide (0 < (l1.length : Int)) = false := decide_eq_false c104
                    have c104b1 : decide (0 < l1.length) = false := decide_eq_false (by omega)
                    clear c104
                    (first | rw [c104b0] | (simp only [i64_w, i32_w]; rw [c104b0]) | skip)
                    have H' := Aside0.mk H
                    clear H
                    go_wp2
                    go_meet
                    case rel => exact ⟨_, (false), (by first | rfl | (simp; done) | (simp [*]; done)), H', ⟨by have := HJ3.out; have := HJ16.out; first | omega | exact Nat.le_refl _⟩, ⟨by (with_reducible repeat (first | refine blk_drewN ?_ _ | refine blk_drew ?_ | refine blk_alloc ?_ _)); exact BK268.out⟩, ⟨by (with_reducible repeat (first | refine blk_drewN ?_ _ | refine blk_drew ?_ | refine blk_alloc ?_ _)); exact BK276.out⟩, ⟨by (with_reducible repeat (first | refine blk_drewN ?_ _ | refine blk_drew ?_ | refine blk_alloc ?_ _)); exact BK283.out⟩, ⟨by (with_reducible repeat (first | refine blk_drewN ?_ _ | refine blk_drew ?_ | refine blk_alloc ?_ _)); exact BK289.out⟩, ⟨by repeat (first | (with_reducible first | exact HB.out | apply below_alloc | apply pw_below_drewN | apply below_drew1 | refine below_set ?_ GE268.out | refine below_set ?_ GE276.out | refine below_set ?_ GE283.out | refine below_set ?_ GE289.out) | exact HB.out)⟩⟩
                case rest =>
                  clear HC103
                  try clear c1
                  try clear c2
                  try clear p2
                  try clear q2
                  try clear hx2
                  try clear qi2
                  try clear c3
                  try clear c4
                  try clear c5
                  try clear c6
                  try clear c6b0
                  try clear c6b1
                  try clear c7
                  try clear c8
                  try clear c9
                  try clear c10
                  try clear c11
                  try clear c14
                  try clear c14b0
                  try clear c14b1
                  try clear c21
                  try clear c26
                  try clear c27
                  try clear p29
                  try clear q29
                  try clear hx29
                  try clear qi29
                  try clear c32
                  try clear c33
                  try clear c34
                  try clear c37
                  try clear c38
                  try clear c38b0
                  try clear c39
                  try clear c40
                  try clear c41
                  try clear c45
                  try clear c46
                  try clear c48
                  try clear c48b0
                  try clear c49
                  try clear c50
                  try clear c51
                  try clear c55
                  try clear c56
                  try clear c58
                  try clear c60
                  try clear c60b0
                  try clear c60b1
                  try clear c61
                  try clear c61b0
                  try clear c62
                  try clear c63
                  try clear c64
                  try clear c68
                  try clear c69
                  try clear c71
                  try clear c74
                  try clear c75
                  try clear c76
                  try clear c80
                  try clear c81
                  try clear c83
                  try clear c86
                  try clear c87
                  try clear c88
                  try clear c92
                  try clear c93
                  try clear c95
                  try clear c97
                  try clear c98
                  try clear c99
                  try clear c102
                  try clear c104
                  try clear c104b0
                  try clear c104b1
                  try clear c105
                  try clear c105b0
                  try clear c105b1
                  try clear hcz100_0
                  try clear hcz100_1
                  try clear hcz100_2
                  try clear hcz100_3
                  try clear hcz18_0
                  try clear hcz18_1
                  try clear hcz18_2
                  try clear hcz18_3
                  try clear hcz22_0
                  try clear hcz22_1
                  try clear hcz22_2
                  try clear hcz22_3
                  try clear hcz23_0
                  try clear hcz23_1
                  try clear hcz23_2
                  try clear hcz23_3
                  try clear hcz28_0
                  try clear hcz28_1
                  try clear hcz28_2
                  try clear hcz28_3
                  try clear hcz29_0
                  try clear hcz29_1
                  try clear hcz29_2
                  try clear hcz29_3
                  try clear hcz35_0
                  try clear hcz35_1
                  try clear hcz35_2
                  try clear hcz35_3
                  try clear hcz42_0
                  try clear hcz42_1
                  try clear hcz42_2
                  try clear hcz42_3
                  try clear hcz44_0
                  try clear hcz44_1
                  try clear hcz44_2
                  try clear hcz44_3
                  try clear hcz47_0
                  try clear hcz47_1
                  try clear hcz47_2
                  try clear hcz47_3
                  try clear hcz52_0
                  try clear hcz52_1
                  try clear hcz52_2
                  try clear hcz52_3
                  try clear hcz54_0
                  try clear hcz54_1
                  try clear hcz54_2
                  try clear hcz54_3
                  try clear hcz57_0
                  try clear hcz57_1
                  try clear hcz57_2
                  try clear hcz57_3
                  try clear hcz59_0
                  try clear hcz59_1
                  try clear hcz59_2
                  try clear hcz59_3
                  try clear hcz65_0
                  try clear hcz65_1
                  try clear hcz65_2
                  try clear hcz65_3
                  try clear hcz67_0
                  try clear hcz67_1
                  try clear hcz67_2
                  try clear hcz67_3
                  try clear hcz70_0
                  try clear hcz70_1
                  try clear hcz70_2
                  try clear hcz70_3
                  try clear hcz72_0
                  try clear hcz72_1
                  try clear hcz72_2
                  try clear hcz72_3
                  try clear hcz73_0
                  try clear hcz73_1
                  try clear hcz73_2
                  try clear hcz73_3
                  try clear hcz77_0
                  try clear hcz77_1
                  try clear hcz77_2
                  try clear hcz77_3
                  try clear hcz79_0
                  try clear hcz79_1
                  try clear hcz79_2
                  try clear hcz79_3
                  try clear hcz82_0
                  try clear hcz82_1
                  try clear hcz82_2
                  try clear hcz82_3
                  try clear hcz84_0
                  try clear hcz84_1
                  try clear hcz84_2
                  try clear hcz84_3
                  try clear hcz85_0
                  try clear hcz85_1
                  try clear hcz85_2
                  try clear hcz85_3
                  try clear hcz89_0
                  try clear hcz89_1
                  try clear hcz89_2
                  try clear hcz89_3
                  try clear hcz8_0
                  try clear hcz8_1
                  try clear hcz8_2
                  try clear hcz8_3
                  try clear hcz91_0
                  try clear hcz91_1
                  try clear hcz91_2
                  try clear hcz91_3
                  try clear hcz94_0
                  try clear hcz94_1
                  try clear hcz94_2
                  try clear hcz94_3
                  try clear hcz96_0
                  try clear hcz96_1
                  try clear hcz96_2
                  try clear hcz96_3
                  try clear hfz100_0
                  try clear hfz100_1
                  try clear hfz100_2
                  try clear hfz100_3
                  try clear hfz18_0
                  try clear hfz18_1
                  try clear hfz18_2
                  try clear hfz18_3
                  try clear hfz22_0
                  try clear hfz22_1
                  try clear hfz22_2
                  try clear hfz22_3
                  try clear hfz23_0
                  try clear hfz23_1
                  try clear hfz23_2
                  try clear hfz23_3
                  try clear hfz28_0
                  try clear hfz28_1
                  try clear hfz28_2
                  try clear hfz28_3
                  try clear hfz29_0
                  try clear hfz29_1
                  try clear hfz29_2
                  try clear hfz29_3
                  try clear hfz35_0
                  try clear hfz35_1
                  try clear hfz35_2
                  try clear hfz35_3
                  try clear hfz42_0
                  try clear hfz42_1
                  try clear hfz42_2
                  try clear hfz42_3
                  try clear hfz44_0
                  try clear hfz44_1
                  try clear hfz44_2
                  try clear hfz44_3
                  try clear hfz47_0
                  try clear hfz47_1
                  try clear hfz47_2
                  try clear hfz47_3
                  try clear hfz52_0
                  try clear hfz52_1
                  try clear hfz52_2
                  try clear hfz52_3
                  try clear hfz54_0
                  try clear hfz54_1
                  try clear hfz54_2
                  try clear hfz54_3
                  try clear hfz57_0
                  try clear hfz57_1
                  try clear hfz57_2
                  try clear hfz57_3
                  try clear hfz59_0
                  try clear hfz59_1
                  try clear hfz59_2
                  try clear hfz59_3
                  try clear hfz65_0
                  try clear hfz65_1
                  try clear hfz65_2
                  try clear hfz65_3
                  try clear hfz67_0
                  try clear hfz67_1
                  try clear hfz67_2
                  try clear hfz67_3
                  try clear hfz70_0
                  try clear hfz70_1
                  try clear hfz70_2
                  try clear hfz70_3
                  try clear hfz72_0
                  try clear hfz72_1
                  try clear hfz72_2
                  try clear hfz72_3
                  try clear hfz73_0
                  try clear hfz73_1
                  try clear hfz73_2
                  try clear hfz73_3
                  try clear hfz77_0
                  try clear hfz77_1
                  try clear hfz77_2
                  try clear hfz77_3
                  try clear hfz79_0
                  try clear hfz79_1
                  try clear hfz79_2
                  try clear hfz79_3
                  try clear hfz82_0
                  try clear hfz82_1
                  try clear hfz82_2
                  try clear hfz82_3
                  try clear hfz84_0
                  try clear hfz84_1
                  try clear hfz84_2
                  try clear hfz84_3
                  try clear hfz85_0
                  try clear hfz85_1
                  try clear hfz85_2
                  try clear hfz85_3
                  try clear hfz89_0
                  try clear hfz89_1
                  try clear hfz89_2
                  try clear hfz89_3
                  try clear hfz8_0
                  try clear hfz8_1
                  try clear hfz8_2
                  try clear hfz8_3
                  try clear hfz91_0
                  try clear hfz91_1
                  try clear hfz91_2
                  try clear hfz91_3
                  try clear hfz94_0
                  try clear hfz94_1
                  try clear hfz94_2
                  try clear hfz94_3
                  try clear hfz96_0
                  try clear hfz96_1
                  try clear hfz96_2
                  try clear hfz96_3
                  try clear hx291_0
                  try clear hx291_1
                  try clear hx291_2
                  try clear hx291_3
                  try clear hx291_4
                  try clear p2
                  try clear p291
                  try clear q291
                  obtain ⟨kq, x84_102, rfl, HA, HJ102, BK268, BK276, BK283, BK289, HB⟩ := hcut
                  cases kq with
                  | zero => exact absurd HA.out (by simp [celluloidlaw21_CanvasFaint.j2])
                  | succ kj102 =>
                    have H := HA.out
                    clear HA
                    simp only [celluloidlaw21_CanvasFaint.j2] at H
                    by_cases c106 : x84_102 = true
                    · subst c106
                      have H1 : (if 0 < (l1.length : Int) then ((canvas_Over.f kj102 a0_0 a0_1 a0_2 a0_3 (([(⟨(⟨(rd_T50 l1 0).f0.f0, (rd_T50 l1 0).f0.f1, (rd_T50 l1 0).f0.f2, (rd_T50 l1 0).f0.f3⟩ : S23), 16⟩ : S50)] : List (S50))) 16).bind fun bt296 => (if (bt296.1 == ((rd_T50 l1 0).f0.f0) && (bt296.2.1 == ((rd_T50 l1 0).f0.f1) && (bt296.2.2.1 == ((rd_T50 l1 0).f0.f2) && (bt296.2.2.2.1 == ((rd_T50 l1 0).f0.f3))))) = true then (if bt296.2.2.2.2 = 0 then ((celluloidlaw21_awake.f kj102).bind fun t303 => (some t303)) else (some false)) else (some false))) else (none)) = some r := by rw [if_pos rfl] at H; exact H
                      clear H
                      have H := H1
                      clear H1
                      by_cases c107 : 0 < (l1.length : Int)
                      · rw [if_pos c107] at H
                        have c107b0 : decide (0 < (l1.length : Int)) = true := decide_eq_true c107
                        have c107b1 : decide (0 < l1.length) = true := decide_eq_true (by omega)
                        clear c107
                        obtain ⟨y293, hy293⟩ : ∃ y_ : List (S50), y_ = (([(⟨(⟨(rd_T50 l1 0).f0.f0, (rd_T50 l1 0).f0.f1, (rd_T50 l1 0).f0.f2, (rd_T50 l1 0).f0.f3⟩ : S23), 16⟩ : S50)] : List (S50))) := ⟨_, rfl⟩
                        replace H : ((canvas_Over.f kj102 a0_0 a0_1 a0_2 a0_3 y293 16).bind fun bt296 => (if (bt296.1 == ((rd_T50 l1 0).f0.f0) && (bt296.2.1 == ((rd_T50 l1 0).f0.f1) && (bt296.2.2.1 == ((rd_T50 l1 0).f0.f2) && (bt296.2.2.2.1 == ((rd_T50 l1 0).f0.f3))))) = true then (if bt296.2.2.2.2 = 0 then ((celluloidlaw21_awake.f kj102).bind fun t303 => (some t303)) else (some false)) else (some false))) = some r := by first | (rw [hy293]; with_reducible exact H) | (have H2_ := (Option.bind_some _ _).symm.trans H; rw [hy293]; with_reducible exact H2_) | (have H2_ := (Option.bind_some _ _).symm.trans H; with_reducible exact H2_) | with_reducible exact H | (rw [hy293]; exact H) | exact H
                        have Ny293 := Aside0.mk hy293
                        clear hy293
                        replace H := Option.bind_eq_some_iff.mp H
                        obtain ⟨⟨t296, t297, t298, t299, t300⟩, A1080, H⟩ := H
                        replace H : (if (t296 == ((rd_T50 l1 0).f0.f0) && (t297 == ((rd_T50 l1 0).f0.f1) && (t298 == ((rd_T50 l1 0).f0.f2) && (t299 == ((rd_T50 l1 0).f0.f3))))) = true then (if t300 = 0 then ((celluloidlaw21_awake.f kj102).bind fun t303 => (some t303)) else (some false)) else (some false)) = some r := H
                        have A108 := Aside0.mk A1080
                        clear A1080
                        by_cases c109 : (t296 == ((rd_T50 l1 0).f0.f0) && (t297 == ((rd_T50 l1 0).f0.f1) && (t298 == ((rd_T50 l1 0).f0.f2) && (t299 == ((rd_T50 l1 0).f0.f3))))) = true
                        · rw [if_pos c109] at H
                          have c109b0 : (t296 == ((rd_T50 l1 0).f0.f0) && (t297 == ((rd_T50 l1 0).f0.f1) && (t298 == ((rd_T50 l1 0).f0.f2) && (t299 == ((rd_T50 l1 0).f0.f3))))) = true := c109
                          (try (have c109b1 : decide (t296 = ((rd_T50 l1 0).f0.f0) && (t297 == ((rd_T50 l1 0).f0.f1) && (t298 == ((rd_T50 l1 0).f0.f2) && (t299 == ((rd_T50 l1 0).f0.f3))))) = true := by simpa using c109))
                          (try (have c109b2 : (t296 == ((rd_T50 l1 0).f0.f0) && (t297 == ((rd_T50 l1 0).f0.f1) && (t298 == ((rd_T50 l1 0).f0.f2) && (t299 == ((rd_T50 l1 0).f0.f3))))) = true := by simpa using c109))
                          clear c109
                          by_cases c110 : t300 = 0
                          · rw [if_pos c110] at H
                            have c110b0 : (t300 == 0) = true := beq_iff_eq.mpr c110
                            have c110b1 : (t300 != 0) = false := bne_eq_false_iff_eq.mpr c110
                            clear c110
                            replace H := Option.bind_eq_some_iff.mp H
                            obtain ⟨t303, A1110, H⟩ := H
                            replace H : (some t303) = some r := H
                            have A111 := Aside0.mk A1110
                            clear A1110
                            first
                            | exact absurd (Option.some.inj H) (by rw [hr_.out]; decide)
                            | obtain rfl := Option.some.inj H
                              try go_wp2
                              have n0_ := Aside0.mk (blk_drew BK268.out)
                              have n1_ := Aside0.mk (blk_drew BK276.out)
                              have n2_ := Aside0.mk (blk_drew BK283.out)
                              have n3_ := Aside0.mk (blk_drew BK289.out)
                              have n4_ := Aside0.mk (below_drew1 HB.out)
                              clear BK268
                              clear BK276
                              clear BK283
                              clear BK289
                              clear HB
                              have BK268 := n0_
                              have BK276 := n1_
                              have BK283 := n2_
                              have BK289 := n3_
                              have HB := n4_
                              clear n0_ n1_ n2_ n3_ n4_
                              have p292 : 0 ≤ (0 : Int) := (by omega)
                              have q292 : 0 < (l1.length : Int) := of_decide_eq_true (by first | (with_reducible assumption) | assumption)
                              obtain ⟨ad292, e292, hx292_0, hx292_1, hx292_2, hx292_3, hx292_4⟩ := at_T50 HR1.out 0 p292 q292
                              have hw292_4 := hx292_4
                              (try rw [show ((0 : Int)).toNat = 0 from rfl] at hw292_4)
                              (try rw [show 0 * 5 = 0 from rfl] at hw292_4)
                              (try rw [Addr.add_zero'] at hw292_4)
                              have hw292_3 := hx292_3
                              (try rw [show ((0 : Int)).toNat = 0 from rfl] at hw292_3)
                              (try rw [show 0 * 5 = 0 from rfl] at hw292_3)
                              (try rw [Addr.add_zero'] at hw292_3)
                              have hw292_2 := hx292_2
                              (try rw [show ((0 : Int)).toNat = 0 from rfl] at hw292_2)
                              (try rw [show 0 * 5 = 0 from rfl] at hw292_2)
                              (try rw [Addr.add_zero'] at hw292_2)
                              have hw292_1 := hx292_1
                              (try rw [show ((0 : Int)).toNat = 0 from rfl] at hw292_1)
                              (try rw [show 0 * 5 = 0 from rfl] at hw292_1)
                              (try rw [Addr.add_zero'] at hw292_1)
                              have hw292_0 := hx292_0
                              (try rw [show ((0 : Int)).toNat = 0 from rfl] at hw292_0)
                              (try rw [show 0 * 5 = 0 from rfl] at hw292_0)
                              (try rw [Addr.add_zero'] at hw292_0)
                              cases e292
                              have qi292 : (0 < l1.length) = True := eq_true (by omega)
                              (try rw [show ((0 : Int)).toNat = 0 from rfl] at hx292_0)
                              (try rw [show 0 * 5 = 0 from rfl] at hx292_0)
                              (try rw [Addr.add_zero'] at hx292_0)
                              (try rw [show ((0 : Int)).toNat = 0 from rfl] at hx292_1)
                              (try rw [show 0 * 5 = 0 from rfl] at hx292_1)
                              (try rw [Addr.add_zero'] at hx292_1)
                              (try rw [show ((0 : Int)).toNat = 0 from rfl] at hx292_2)
                              (try rw [show 0 * 5 = 0 from rfl] at hx292_2)
                              (try rw [Addr.add_zero'] at hx292_2)
                              (try rw [show ((0 : Int)).toNat = 0 from rfl] at hx292_3)
                              (try rw [show 0 * 5 = 0 from rfl] at hx292_3)
                              (try rw [Addr.add_zero'] at hx292_3)
                              (try rw [show ((0 : Int)).toNat = 0 from rfl] at hx292_4)
                              (try rw [show 0 * 5 = 0 from rfl] at hx292_4)
                              (try rw [Addr.add_zero'] at hx292_4)
                              replace hx292_0 := (HB.out.cell (World.block_lt_of_cell? w _ hx292_0)).trans hx292_0
                              replace hx292_1 := (HB.out.cell (World.block_lt_of_cell? w _ hx292_1)).trans hx292_1
                              replace hx292_2 := (HB.out.cell (World.block_lt_of_cell? w _ hx292_2)).trans hx292_2
                              replace hx292_3 := (HB.out.cell (World.block_lt_of_cell? w _ hx292_3)).trans hx292_3
                              replace hx292_4 := (HB.out.cell (World.block_lt_of_cell? w _ hx292_4)).trans hx292_4
                              replace p292 := eq_true p292
                              replace q292 := eq_true q292
                              refine start_ (n := 14) (S := fun w' => True) (ds := []) #[false, false, false, false, false, false, false, false, false, false, false, false, false, false] (by kernel_rfl) rfl rfl trivial (fun hHeld => ?_); refine with_tabW celluloidlaw21_CanvasFaint.tab11 celluloidlaw21_CanvasFaint.bits11 (fun HT_ HW_ => ?_)
                              generalize wc.drew = w112 at BK268 BK276 BK283 BK289 HB hx292_0 hx292_1 hx292_2 hx292_3 hx292_4 hHeld ⊢
                              refine pure_ (i := 1) (N := some 87) (v := ?_) (a' := ?_) #[false, true, false, false, false, false, false, false, false, false, false, false, false, false] rfl rfl (any_of HT_.out (by kernel_rfl)) (fun _ _ _ h => h) (Or.inl ⟨by rfl, ?_⟩) ?_ ?_
                              rotate_left
                              · intro w'
                                go_simp
                                first | with_reducible rfl | (have hne_ := c109b0; simp only [Bool.and_eq_true, beq_iff_eq] at hne_; obtain ⟨en0_, en1_, en2_, en3_⟩ := hne_; rw [if_pos en0_, if_pos en1_, if_pos en2_, if_pos en3_])
                              rotate_left
                              · simp only [Act.put, List.setIfInBounds_toArray, List.set_cons_zero, List.set_cons_succ, i64_w, i32_w]
                                rfl
                              refine inv_at [0, 2, 3, 4, 5, 6, 7, 8, 9, 10, 11, 12, 13] (fun a0_ b a w' => ∃ (v294 : Value) (gb301 : Nat) (m11_ : Value), a = putSel a0_ b [(0, 86, .agg #[.int .i64 a0_0, .int .i64 a0_1, .int .i64 a0_2, .int .i64 a0_3]), (2, 88, .pointer (some ad292)), (3, 89, .pointer (some ad292)), (4, 90, .agg #[.int .i64 ((rd_T50 l1 0).f0.f0), .int .i64 ((rd_T50 l1 0).f0.f1), .int .i64 ((rd_T50 l1 0).f0.f2), .int .i64 ((rd_T50 l1 0).f0.f3)]), (5, 91, .agg #[.int .i64 ((rd_T50 l1 0).f0.f0), .int .i64 ((rd_T50 l1 0).f0.f1), .int .i64 ((rd_T50 l1 0).f0.f2), .int .i64 ((rd_T50 l1 0).f0.f3), .int .i64 16]), (6, 92, v294), (7, 93, .tuple #[.agg #[.int .i64 t296, .int .i64 t297, .int .i64 t298, .int .i64 t299], .int .i64 t300]), (8, 85, .tuple #[.agg #[.int .i64 t296, .int .i64 t297, .int .i64 t298, .int .i64 t299], .int .i64 t300]), (9, 94, .agg #[.int .i64 t296, .int .i64 t297, .int .i64 t298, .int .i64 t299]), (10, 95, .int .i64 t300), (11, 13, m11_), (13, 14, .int .i64 t300)] ∧ (w'.heap[gb268]? = some (.cells #[.int .i64 a0_0, .int .i64 a0_1, .int .i64 a0_2, .int .i64 a0_3] 23 (0, 0))) ∧ (w'.heap[gb276]? = some (.cells #[.int .i64 t271, .int .i64 t272, .int .i64 t273, .int .i64 t274] 23 (0, 0))) ∧ (w'.heap[gb283]? = some (.cells #[.int .i64 t278, .int .i64 t279, .int .i64 t280, .int .i64 t281] 23 (0, 0))) ∧ (w'.heap[gb289]? = some (.cells #[.int .i64 t284, .int .i64 t285, .int .i64 t286, .int .i64 t287] 23 (0, 0))) ∧ (Below w.heap.size w w') ∧ (b 6 = true → Kd.R k50 50 w' w.heap.size (fun _ => True) v294 y293) ∧ (b 11 = true → b 12 = false → w'.heap[gb301]? = some (.cells #[.int .i64 0, .int .i64 0, .int .i64 0, .int .i64 0] 23 (0, 0))) ∧ (b 11 = true → w.heap.size ≤ gb301) ∧ (b 11 = true → w.heap.size ≤ gb301) ∧ (b 11 = true → gb268 ≠ gb301) ∧ (b 11 = true → gb301 ≠ gb268) ∧ (b 11 = true → gb276 ≠ gb301) ∧ (b 11 = true → gb301 ≠ gb276) ∧ (b 11 = true → gb283 ≠ gb301) ∧ (b 11 = true → gb301 ≠ gb283) ∧ (b 11 = true → gb289 ≠ gb301) ∧ (b 11 = true → gb301 ≠ gb289) ∧ (b 12 = true → w'.heap[gb301]? = some (.cells #[.int .i64 t296, .int .i64 t297, .int .i64 t298, .int .i64 t299] 23 (0, 0))) ∧ (b 11 = true → (m11_ : Value) = .pointer (some ⟨gb301, 0, none⟩))) HT_.out HW_.out (by kernel_rfl) (by kernel_rfl) ?_ ?_ ?_
                              · exact ⟨.bool false, 0, .bool false, by simp only [putSel, Bool.false_eq_true, if_false], BK268.out, BK276.out, BK283.out, BK289.out, HB.out, fun h_ => absurd h_ (by decide), fun h_ => absurd h_ (by decide), fun h_ => absurd h_ (by decide), fun h_ => absurd h_ (by decide), fun h_ => absurd h_ (by decide), fun h_ => absurd h_ (by decide), fun h_ => absurd h_ (by decide), fun h_ => absurd h_ (by decide), fun h_ => absurd h_ (by decide), fun h_ => absurd h_ (by decide), fun h_ => absurd h_ (by decide), fun h_ => absurd h_ (by decide), fun h_ => absurd h_ (by decide), fun h_ => absurd h_ (by decide)⟩
                              · skip
                                clear BK268 BK276 BK283 BK289 HB
                                refine steps_cons ?_ ?_
                                · rintro b a w' ⟨v294, gb301, m11_, ha, Q_BK268, Q_BK276, Q_BK283, Q_BK289, Q_HB, Q_HO295, Q_BK301, Q_GW301, Q_GE301, Q_NB268_301, Q_NB301_268, Q_NB276_301, Q_NB301_276, Q_NB283_301, Q_NB301_283, Q_NB289_301, Q_NB301_289, Q_BK301_e12, Q_X11_⟩ hb_ hon hoff
                                  refine ⟨_, rfl, fun K hK => ?_⟩
                                  have e3 : a.tmps[3]? = some (.pointer (some ⟨gb268, 0, none⟩)) := by rw [ha]; exact (putSel_off rfl).trans rfl
                                  replace ha := Aside0.mk ha
                                  have BK268 := Aside0.mk Q_BK268
                                  have BK276 := Aside0.mk Q_BK276
                                  have BK283 := Aside0.mk Q_BK283
                                  have BK289 := Aside0.mk Q_BK289
                                  have HB := Aside0.mk Q_HB
                                  have hc0_ : w'.cell? ⟨gb268, 0, none⟩ = some (.int .i64 a0_0) := (blk_cell BK268.out 0).trans rfl
                                  have hc1_ : w'.cell? ⟨gb268, 1, none⟩ = some (.int .i64 a0_1) := (blk_cell BK268.out 1).trans rfl
                                  have hc2_ : w'.cell? ⟨gb268, 2, none⟩ = some (.int .i64 a0_2) := (blk_cell BK268.out 2).trans rfl
                                  have hc3_ : w'.cell? ⟨gb268, 3, none⟩ = some (.int .i64 a0_3) := (blk_cell BK268.out 3).trans rfl
                                  refine value_ (w1 := w') (v := .agg #[.int .i64 a0_0, .int .i64 a0_1, .int .i64 a0_2, .int .i64 a0_3]) (by rfl) rfl ?_ ?_
                                  · go_simp
                                    (try simp only [i64_w])
                                    try rfl
                                  refine hK.out _ _ ⟨v294, gb301, m11_, (by rw [ha.out]; exact putSel_upk 0 hb_ rfl rfl rfl), Q_BK268, Q_BK276, Q_BK283, Q_BK289, Q_HB, Q_HO295, Q_BK301, Q_GW301, Q_GE301, Q_NB268_301, Q_NB301_268, Q_NB276_301, Q_NB301_276, Q_NB283_301, Q_NB301_283, Q_NB289_301, Q_NB301_289, fun h0_ => absurd ((hoff 12 (by kernel_rfl)).symm.trans h0_) (by decide), Q_X11_⟩
                                refine steps_cons ?_ ?_
                                · rintro b a w' ⟨v294, gb301, m11_, ha, Q_BK268, Q_BK276, Q_BK283, Q_BK289, Q_HB, Q_HO295, Q_BK301, Q_GW301, Q_GE301, Q_NB268_301, Q_NB301_268, Q_NB276_301, Q_NB301_276, Q_NB283_301, Q_NB301_283, Q_NB289_301, Q_NB301_289, Q_BK301_e12, Q_X11_⟩ hb_ hon hoff
                                  refine ⟨_, rfl, fun K hK => ?_⟩
                                  have e87 : a.tmps[87]? = some (.slice (some ad292) l1.length c1) := by rw [ha]; exact (putSel_off rfl).trans rfl
                                  replace ha := Aside0.mk ha
                                  have BK268 := Aside0.mk Q_BK268
                                  have BK276 := Aside0.mk Q_BK276
                                  have BK283 := Aside0.mk Q_BK283
                                  have BK289 := Aside0.mk Q_BK289
                                  have HB := Aside0.mk Q_HB
                                  have hs0_ : w'.cell? ad292 = some (.int .i64 ((rd_T50 l1 0).f0.f0)) := ((HB.out.cell (World.block_lt_of_cell? w _ hw292_0)).trans hw292_0)
                                  have hs1_ : w'.cell? ⟨ad292.block, ad292.off + 1, none⟩ = some (.int .i64 ((rd_T50 l1 0).f0.f1)) := ((HB.out.cell (World.block_lt_of_cell? w _ hw292_1)).trans hw292_1)
                                  have hs2_ : w'.cell? ⟨ad292.block, ad292.off + 2, none⟩ = some (.int .i64 ((rd_T50 l1 0).f0.f2)) := ((HB.out.cell (World.block_lt_of_cell? w _ hw292_2)).trans hw292_2)
                                  have hs3_ : w'.cell? ⟨ad292.block, ad292.off + 3, none⟩ = some (.int .i64 ((rd_T50 l1 0).f0.f3)) := ((HB.out.cell (World.block_lt_of_cell? w _ hw292_3)).trans hw292_3)
                                  have hs4_ : w'.cell? ⟨ad292.block, ad292.off + 4, none⟩ = some (.int .i64 ((rd_T50 l1 0).f1)) := ((HB.out.cell (World.block_lt_of_cell? w _ hw292_4)).trans hw292_4)
                                  refine value_ (w1 := w') (v := .pointer (some ad292)) (by rfl) rfl ?_ ?_
                                  · go_simp
                                    (try simp only [i64_w])
                                    try rfl
                                  refine hK.out _ _ ⟨v294, gb301, m11_, (by rw [ha.out]; exact putSel_upk 1 hb_ rfl rfl rfl), Q_BK268, Q_BK276, Q_BK283, Q_BK289, Q_HB, fun h0_ => absurd ((hoff 6 (by kernel_rfl)).symm.trans h0_) (by decide), Q_BK301, Q_GW301, Q_GE301, Q_NB268_301, Q_NB301_268, Q_NB276_301, Q_NB301_276, Q_NB283_301, Q_NB301_283, Q_NB289_301, Q_NB301_289, fun h0_ => absurd ((hoff 12 (by kernel_rfl)).symm.trans h0_) (by decide), Q_X11_⟩
                                refine steps_cons ?_ ?_
                                · rintro b a w' ⟨v294, gb301, m11_, ha, Q_BK268, Q_BK276, Q_BK283, Q_BK289, Q_HB, Q_HO295, Q_BK301, Q_GW301, Q_GE301, Q_NB268_301, Q_NB301_268, Q_NB276_301, Q_NB301_276, Q_NB283_301, Q_NB301_283, Q_NB289_301, Q_NB301_289, Q_BK301_e12, Q_X11_⟩ hb_ hon hoff
                                  refine ⟨_, rfl, fun K hK => ?_⟩
                                  have e88 : a.tmps[88]? = some (.pointer (some ad292)) := by rw [ha]; exact putSel_on (e := (2, 88, .pointer (some ad292))) 1 rfl rfl (hon 2 (by kernel_rfl)) rfl
                                  replace ha := Aside0.mk ha
                                  have BK268 := Aside0.mk Q_BK268
                                  have BK276 := Aside0.mk Q_BK276
                                  have BK283 := Aside0.mk Q_BK283
                                  have BK289 := Aside0.mk Q_BK289
                                  have HB := Aside0.mk Q_HB
                                  refine value_ (w1 := w') (v := .pointer (some ad292)) (by rfl) rfl ?_ ?_
                                  · go_simp
                                    (try simp only [i64_w])
                                    try rfl
                                  refine hK.out _ _ ⟨v294, gb301, m11_, (by rw [ha.out]; exact putSel_upk 2 hb_ rfl rfl rfl), Q_BK268, Q_BK276, Q_BK283, Q_BK289, Q_HB, fun h0_ => absurd ((hoff 6 (by kernel_rfl)).symm.trans h0_) (by decide), Q_BK301, Q_GW301, Q_GE301, Q_NB268_301, Q_NB301_268, Q_NB276_301, Q_NB301_276, Q_NB283_301, Q_NB301_283, Q_NB289_301, Q_NB301_289, fun h0_ => absurd ((hoff 12 (by kernel_rfl)).symm.trans h0_) (by decide), Q_X11_⟩
                                refine steps_cons ?_ ?_
                                · rintro b a w' ⟨v294, gb301, m11_, ha, Q_BK268, Q_BK276, Q_BK283, Q_BK289, Q_HB, Q_HO295, Q_BK301, Q_GW301, Q_GE301, Q_NB268_301, Q_NB301_268, Q_NB276_301, Q_NB301_276, Q_NB283_301, Q_NB301_283, Q_NB289_301, Q_NB301_289, Q_BK301_e12, Q_X11_⟩ hb_ hon hoff
                                  refine ⟨_, rfl, fun K hK => ?_⟩
                                  have e89 : a.tmps[89]? = some (.pointer (some ad292)) := by rw [ha]; exact putSel_on (e := (3, 89, .pointer (some ad292))) 2 rfl rfl (hon 3 (by kernel_rfl)) rfl
                                  replace ha := Aside0.mk ha
                                  have BK268 := Aside0.mk Q_BK268
                                  have BK276 := Aside0.mk Q_BK276
                                  have BK283 := Aside0.mk Q_BK283
                                  have BK289 := Aside0.mk Q_BK289
                                  have HB := Aside0.mk Q_HB
                                  have hs0_ : w'.cell? ad292 = some (.int .i64 ((rd_T50 l1 0).f0.f0)) := ((HB.out.cell (World.block_lt_of_cell? w _ hw292_0)).trans hw292_0)
                                  have hs1_ : w'.cell? ⟨ad292.block, ad292.off + 1, none⟩ = some (.int .i64 ((rd_T50 l1 0).f0.f1)) := ((HB.out.cell (World.block_lt_of_cell? w _ hw292_1)).trans hw292_1)
                                  have hs2_ : w'.cell? ⟨ad292.block, ad292.off + 2, none⟩ = some (.int .i64 ((rd_T50 l1 0).f0.f2)) := ((HB.out.cell (World.block_lt_of_cell? w _ hw292_2)).trans hw292_2)
                                  have hs3_ : w'.cell? ⟨ad292.block, ad292.off + 3, none⟩ = some (.int .i64 ((rd_T50 l1 0).f0.f3)) := ((HB.out.cell (World.block_lt_of_cell? w _ hw292_3)).trans hw292_3)
                                  have hs4_ : w'.cell? ⟨ad292.block, ad292.off + 4, none⟩ = some (.int .i64 ((rd_T50 l1 0).f1)) := ((HB.out.cell (World.block_lt_of_cell? w _ hw292_4)).trans hw292_4)
                                  refine value_ (w1 := w') (v := .agg #[.int .i64 ((rd_T50 l1 0).f0.f0), .int .i64 ((rd_T50 l1 0).f0.f1), .int .i64 ((rd_T50 l1 0).f0.f2), .int .i64 ((rd_T50 l1 0).f0.f3)]) (by rfl) rfl ?_ ?_
                                  · go_simp
                                    (try simp only [i64_w])
                                    try rfl
                                  refine hK.out _ _ ⟨v294, gb301, m11_, (by rw [ha.out]; exact putSel_upk 3 hb_ rfl rfl rfl), Q_BK268, Q_BK276, Q_BK283, Q_BK289, Q_HB, fun h0_ => absurd ((hoff 6 (by kernel_rfl)).symm.trans h0_) (by decide), Q_BK301, Q_GW301, Q_GE301, Q_NB268_301, Q_NB301_268, Q_NB276_301, Q_NB301_276, Q_NB283_301, Q_NB301_283, Q_NB289_301, Q_NB301_289, fun h0_ => absurd ((hoff 12 (by kernel_rfl)).symm.trans h0_) (by decide), Q_X11_⟩
                                refine steps_cons ?_ ?_
                                · rintro b a w' ⟨v294, gb301, m11_, ha, Q_BK268, Q_BK276, Q_BK283, Q_BK289, Q_HB, Q_HO295, Q_BK301, Q_GW301, Q_GE301, Q_NB268_301, Q_NB301_268, Q_NB276_301, Q_NB301_276, Q_NB283_301, Q_NB301_283, Q_NB289_301, Q_NB301_289, Q_BK301_e12, Q_X11_⟩ hb_ hon hoff
                                  refine ⟨_, rfl, fun K hK => ?_⟩
                                  have e90 : a.tmps[90]? = some (.agg #[.int .i64 ((rd_T50 l1 0).f0.f0), .int .i64 ((rd_T50 l1 0).f0.f1), .int .i64 ((rd_T50 l1 0).f0.f2), .int .i64 ((rd_T50 l1 0).f0.f3)]) := by rw [ha]; exact putSel_on (e := (4, 90, .agg #[.int .i64 ((rd_T50 l1 0).f0.f0), .int .i64 ((rd_T50 l1 0).f0.f1), .int .i64 ((rd_T50 l1 0).f0.f2), .int .i64 ((rd_T50 l1 0).f0.f3)])) 3 rfl rfl (hon 4 (by kernel_rfl)) rfl
                                  replace ha := Aside0.mk ha
                                  have BK268 := Aside0.mk Q_BK268
                                  have BK276 := Aside0.mk Q_BK276
                                  have BK283 := Aside0.mk Q_BK283
                                  have BK289 := Aside0.mk Q_BK289
                                  have HB := Aside0.mk Q_HB
                                  refine value_ (w1 := w') (v := .agg #[.int .i64 ((rd_T50 l1 0).f0.f0), .int .i64 ((rd_T50 l1 0).f0.f1), .int .i64 ((rd_T50 l1 0).f0.f2), .int .i64 ((rd_T50 l1 0).f0.f3), .int .i64 16]) (by rfl) rfl ?_ ?_
                                  · go_simp
                                    (try simp only [i64_w])
                                    try rfl
                                  refine hK.out _ _ ⟨v294, gb301, m11_, (by rw [ha.out]; exact putSel_upk 4 hb_ rfl rfl rfl), Q_BK268, Q_BK276, Q_BK283, Q_BK289, Q_HB, fun h0_ => absurd ((hoff 6 (by kernel_rfl)).symm.trans h0_) (by decide), Q_BK301, Q_GW301, Q_GE301, Q_NB268_301, Q_NB301_268, Q_NB276_301, Q_NB301_276, Q_NB283_301, Q_NB301_283, Q_NB289_301, Q_NB301_289, fun h0_ => absurd ((hoff 12 (by kernel_rfl)).symm.trans h0_) (by decide), Q_X11_⟩
                                refine steps_cons ?_ ?_
                                · rintro b a w' ⟨v294, gb301, m11_, ha, Q_BK268, Q_BK276, Q_BK283, Q_BK289, Q_HB, Q_HO295, Q_BK301, Q_GW301, Q_GE301, Q_NB268_301, Q_NB301_268, Q_NB276_301, Q_NB301_276, Q_NB283_301, Q_NB301_283, Q_NB289_301, Q_NB301_289, Q_BK301_e12, Q_X11_⟩ hb_ hon hoff
                                  refine ⟨_, rfl, fun K hK => ?_⟩
                                  have e91 : a.tmps[91]? = some (.agg #[.int .i64 ((rd_T50 l1 0).f0.f0), .int .i64 ((rd_T50 l1 0).f0.f1), .int .i64 ((rd_T50 l1 0).f0.f2), .int .i64 ((rd_T50 l1 0).f0.f3), .int .i64 16]) := by rw [ha]; exact putSel_on (e := (5, 91, .agg #[.int .i64 ((rd_T50 l1 0).f0.f0), .int .i64 ((rd_T50 l1 0).f0.f1), .int .i64 ((rd_T50 l1 0).f0.f2), .int .i64 ((rd_T50 l1 0).f0.f3), .int .i64 16])) 4 rfl rfl (hon 5 (by kernel_rfl)) rfl
                                  replace ha := Aside0.mk ha
                                  have BK268 := Aside0.mk Q_BK268
                                  have BK276 := Aside0.mk Q_BK276
                                  have BK283 := Aside0.mk Q_BK283
                                  have BK289 := Aside0.mk Q_BK289
                                  have HB := Aside0.mk Q_HB
                                  refine Kd.R_lit_step k50 _ 50 ?hg (N := 92) ?hd (xs := ([(⟨(⟨(rd_T50 l1 0).f0.f0, (rd_T50 l1 0).f0.f1, (rd_T50 l1 0).f0.f2, (rd_T50 l1 0).f0.f3⟩ : S23), 16⟩ : S50)] : List (S50))) (inner := [.int .i64 ((rd_T50 l1 0).f0.f0), .int .i64 ((rd_T50 l1 0).f0.f1), .int .i64 ((rd_T50 l1 0).f0.f2), .int .i64 ((rd_T50 l1 0).f0.f3), .int .i64 16]) (ok := fun _ => True) (okp := fun _ => True) ?hr ?hp (fun _ hk => hk) trivial (Below.refl _ _) (Nat.le_refl _) (by simp) ?_; (case hd => rfl); (case hg => rfl); (case hr => first | (go_simp; done) | (go_simp; rfl)); (case hp => exact (Reps.c5 (show Kd.M k50 _ _ _ (⟨(⟨(rd_T50 l1 0).f0.f0, (rd_T50 l1 0).f0.f1, (rd_T50 l1 0).f0.f2, (rd_T50 l1 0).f0.f3⟩ : S23), 16⟩ : S50) [.int .i64 ((rd_T50 l1 0).f0.f0), .int .i64 ((rd_T50 l1 0).f0.f1), .int .i64 ((rd_T50 l1 0).f0.f2), .int .i64 ((rd_T50 l1 0).f0.f3), .int .i64 16] from (k50_mkM _ _ _ (⟨(⟨(rd_T50 l1 0).f0.f0, (rd_T50 l1 0).f0.f1, (rd_T50 l1 0).f0.f2, (rd_T50 l1 0).f0.f3⟩ : S23), 16⟩ : S50) )) (Reps.none _ _)))
                                  intro v294 w113 ho114 hb hg_ hnew_
                                  clear hg_ hnew_
                                  (first | rw [← Ny293.out] at ho114 | (simp only [Int.reduceToNat] at ho114; rw [← Ny293.out] at ho114))
                                  have n0_ := Aside0.mk (Kd.R_lower ho114 (below_size (by repeat (first | (with_reducible first | exact HB.out | apply below_alloc | apply pw_below_drewN | apply below_drew1 | refine below_set ?_ GE268.out | refine below_set ?_ GE276.out | refine below_set ?_ GE283.out | refine below_set ?_ GE289.out) | exact HB.out))))
                                  have n1_ := Aside0.mk (blk_below (g := gb268) (o := .cells #[.int .i64 a0_0, .int .i64 a0_1, .int .i64 a0_2, .int .i64 a0_3] 23 (0, 0)) (by (with_reducible repeat (first | refine blk_drewN ?_ _ | refine blk_drew ?_ | refine blk_alloc ?_ _)); exact BK268.out) hb)
                                  have n2_ := Aside0.mk (blk_below (g := gb276) (o := .cells #[.int .i64 t271, .int .i64 t272, .int .i64 t273, .int .i64 t274] 23 (0, 0)) (by (with_reducible repeat (first | refine blk_drewN ?_ _ | refine blk_drew ?_ | refine blk_alloc ?_ _)); exact BK276.out) hb)
                                  have n3_ := Aside0.mk (blk_below (g := gb283) (o := .cells #[.int .i64 t278, .int .i64 t279, .int .i64 t280, .int .i64 t281] 23 (0, 0)) (by (with_reducible repeat (first | refine blk_drewN ?_ _ | refine blk_drew ?_ | refine blk_alloc ?_ _)); exact BK283.out) hb)
                                  have n4_ := Aside0.mk (blk_below (g := gb289) (o := .cells #[.int .i64 t284, .int .i64 t285, .int .i64 t286, .int .i64 t287] 23 (0, 0)) (by (with_reducible repeat (first | refine blk_drewN ?_ _ | refine blk_drew ?_ | refine blk_alloc ?_ _)); exact BK289.out) hb)
                                  have n5_ := Aside0.mk (below_step (by repeat (first | (with_reducible first | exact HB.out | apply below_alloc | apply pw_below_drewN | apply below_drew1 | refine below_set ?_ GE268.out | refine below_set ?_ GE276.out | refine below_set ?_ GE283.out | refine below_set ?_ GE289.out) | exact HB.out)) hb)
                                  have z_BK301 := fun (h0_ : b 11 = true) (h1_ : b 12 = false) => (show w113.heap[gb301]? = some (.cells #[.int .i64 0, .int .i64 0, .int .i64 0, .int .i64 0] 23 (0, 0)) from by first | exact (blk_below (g := gb301) (o := .cells #[.int .i64 0, .int .i64 0, .int .i64 0, .int .i64 0] 23 (0, 0)) (by (with_reducible repeat (first | refine blk_drewN ?_ _ | refine blk_drew ?_ | refine blk_alloc ?_ _)); exact (Q_BK301 h0_ h1_)) hb))
                                  clear BK268
                                  clear BK276
                                  clear BK283
                                  clear BK289
                                  clear HB
                                  have HO295 := n0_
                                  have BK268 := n1_
                                  have BK276 := n2_
                                  have BK283 := n3_
                                  have BK289 := n4_
                                  have HB := n5_
                                  clear n0_ n1_ n2_ n3_ n4_ n5_
                                  clear hb ho114
                                  refine hK.out _ _ ⟨v294, gb301, m11_, (by rw [ha.out]; exact putSel_upk 5 hb_ rfl rfl rfl), (by (with_reducible repeat (first | refine blk_drewN ?_ _ | refine blk_drew ?_ | refine blk_alloc ?_ _)); exact BK268.out), (by (with_reducible repeat (first | refine blk_drewN ?_ _ | refine blk_drew ?_ | refine blk_alloc ?_ _)); exact BK276.out), (by (with_reducible repeat (first | refine blk_drewN ?_ _ | refine blk_drew ?_ | refine blk_alloc ?_ _)); exact BK283.out), (by (with_reducible repeat (first | refine blk_drewN ?_ _ | refine blk_drew ?_ | refine blk_alloc ?_ _)); exact BK289.out), (by repeat (first | (with_reducible first | exact HB.out | apply below_alloc | apply pw_below_drewN | apply below_drew1 | refine below_set ?_ GE268.out | refine below_set ?_ GE276.out | refine below_set ?_ GE283.out | refine below_set ?_ GE289.out) | exact HB.out)), fun _ => (by (with_reducible repeat (first | apply Kd.R_alloc | apply Kd.R_drewN | apply Kd.R_drew)); exact HO295.out), z_BK301, Q_GW301, Q_GE301, Q_NB268_301, Q_NB301_268, Q_NB276_301, Q_NB301_276, Q_NB283_301, Q_NB301_283, Q_NB289_301, Q_NB301_289, fun h0_ => absurd ((hoff 12 (by kernel_rfl)).symm.trans h0_) (by decide), Q_X11_⟩
                                refine steps_cons ?_ ?_
                                · rintro b a w' ⟨v294, gb301, m11_, ha, Q_BK268, Q_BK276, Q_BK283, Q_BK289, Q_HB, Q_HO295, Q_BK301, Q_GW301, Q_GE301, Q_NB268_301, Q_NB301_268, Q_NB276_301, Q_NB301_276, Q_NB283_301, Q_NB301_283, Q_NB289_301, Q_NB301_289, Q_BK301_e12, Q_X11_⟩ hb_ hon hoff
                                  refine ⟨_, rfl, fun K hK => ?_⟩
                                  have e86 : a.tmps[86]? = some (.agg #[.int .i64 a0_0, .int .i64 a0_1, .int .i64 a0_2, .int .i64 a0_3]) := by rw [ha]; exact putSel_on (e := (0, 86, .agg #[.int .i64 a0_0, .int .i64 a0_1, .int .i64 a0_2, .int .i64 a0_3])) 0 rfl rfl (hon 0 (by kernel_rfl)) rfl
                                  have e92 : a.tmps[92]? = some (v294) := by rw [ha]; exact putSel_on (e := (6, 92, v294)) 5 rfl rfl (hon 6 (by kernel_rfl)) rfl
                                  replace ha := Aside0.mk ha
                                  have BK268 := Aside0.mk Q_BK268
                                  have BK276 := Aside0.mk Q_BK276
                                  have BK283 := Aside0.mk Q_BK283
                                  have BK289 := Aside0.mk Q_BK289
                                  have HB := Aside0.mk Q_HB
                                  have HO295 := Aside0.mk (Q_HO295 (hon 6 (by kernel_rfl)))
                                  obtain ⟨Ao116, co116, eo116⟩ := Kd.R_slice HO295.out
                                  (first | subst eo116 | (injection eo116 with f1_ f2_ f3_; have f4_ := f1_.symm; have f5_ := f3_.symm; clear f1_ f2_ f3_; subst f4_; subst f5_))
                                  refine goes_ Try.func14 (by kernel_rfl) rfl #[.agg #[.int .i64 a0_0, .int .i64 a0_1, .int .i64 a0_2, .int .i64 a0_3], .slice Ao116 y293.length co116, .int .i64 16] (by rfl) rfl rfl (by first | (simp only [List.map_toArray, List.map_cons, List.map_nil, Act.eval, Array.getD_eq_getD_getElem?, Option.getD_some, e86, e92]; done) | (simp only [List.map_toArray, List.map_cons, List.map_nil, Act.eval, Array.getD_eq_getD_getElem?, Option.getD_some, e86, e92]; rfl)) ?_
                                  with_reducible refine (canvas_Over.calls kj102 a0_0 a0_1 a0_2 a0_3 _ _ y293 16 t296 t297 t298 t299 t300 _ ?side1 ?side2 A108.out).mono ?_
                                  (case side1 => repeat (first | exact (Kd.R_reads' HO295.out).2.2 | (with_reducible refine Kd.C_alloc ?_ _) | (with_reducible refine Kd.C_drewN ?_ _) | (with_reducible refine Kd.C_drew ?_)))
                                  (case side2 => exact (Kd.R_reads' HO295.out).2.1)
                                  rintro e w117 ⟨rfl, hb⟩
                                  refine ⟨_, rfl, ?_⟩
                                  have n0_ := Aside0.mk (Kd.R_below (by (with_reducible repeat (first | apply Kd.R_alloc | apply Kd.R_drewN | apply Kd.R_drew)); exact HO295.out) hb)
                                  have n1_ := Aside0.mk (blk_below (g := gb268) (o := .cells #[.int .i64 a0_0, .int .i64 a0_1, .int .i64 a0_2, .int .i64 a0_3] 23 (0, 0)) (by (with_reducible repeat (first | refine blk_drewN ?_ _ | refine blk_drew ?_ | refine blk_alloc ?_ _)); exact BK268.out) hb)
                                  have n2_ := Aside0.mk (blk_below (g := gb276) (o := .cells #[.int .i64 t271, .int .i64 t272, .int .i64 t273, .int .i64 t274] 23 (0, 0)) (by (with_reducible repeat (first | refine blk_drewN ?_ _ | refine blk_drew ?_ | refine blk_alloc ?_ _)); exact BK276.out) hb)
                                  have n3_ := Aside0.mk (blk_below (g := gb283) (o := .cells #[.int .i64 t278, .int .i64 t279, .int .i64 t280, .int .i64 t281] 23 (0, 0)) (by (with_reducible repeat (first | refine blk_drewN ?_ _ | refine blk_drew ?_ | refine blk_alloc ?_ _)); exact BK283.out) hb)
                                  have n4_ := Aside0.mk (blk_below (g := gb289) (o := .cells #[.int .i64 t284, .int .i64 t285, .int .i64 t286, .int .i64 t287] 23 (0, 0)) (by (with_reducible repeat (first | refine blk_drewN ?_ _ | refine blk_drew ?_ | refine blk_alloc ?_ _)); exact BK289.out) hb)
                                  have n5_ := Aside0.mk (below_step (by repeat (first | (with_reducible first | exact HB.out | apply below_alloc | apply pw_below_drewN | apply below_drew1 | refine below_set ?_ GE268.out | refine below_set ?_ GE276.out | refine below_set ?_ GE283.out | refine below_set ?_ GE289.out) | exact HB.out)) hb)
                                  have z_BK301 := fun (h0_ : b 11 = true) (h1_ : b 12 = false) => (show w117.heap[gb301]? = some (.cells #[.int .i64 0, .int .i64 0, .int .i64 0, .int .i64 0] 23 (0, 0)) from by first | exact (blk_below (g := gb301) (o := .cells #[.int .i64 0, .int .i64 0, .int .i64 0, .int .i64 0] 23 (0, 0)) (by (with_reducible repeat (first | refine blk_drewN ?_ _ | refine blk_drew ?_ | refine blk_alloc ?_ _)); exact (Q_BK301 h0_ h1_)) hb))
                                  clear HO295
                                  clear BK268
                                  clear BK276
                                  clear BK283
                                  clear BK289
                                  clear HB
                                  have HO295 := n0_
                                  have BK268 := n1_
                                  have BK276 := n2_
                                  have BK283 := n3_
                                  have BK289 := n4_
                                  have HB := n5_
                                  clear n0_ n1_ n2_ n3_ n4_ n5_
                                  (try clear hb)
                                  (try clear hb2)
                                  (try clear hk)
                                  (try clear hi)
                                  refine hK.out _ _ ⟨.slice Ao116 y293.length co116, gb301, m11_, (by rw [ha.out]; exact putSel_upk 6 hb_ rfl rfl rfl), (by (with_reducible repeat (first | refine blk_drewN ?_ _ | refine blk_drew ?_ | refine blk_alloc ?_ _)); exact BK268.out), (by (with_reducible repeat (first | refine blk_drewN ?_ _ | refine blk_drew ?_ | refine blk_alloc ?_ _)); exact BK276.out), (by (with_reducible repeat (first | refine blk_drewN ?_ _ | refine blk_drew ?_ | refine blk_alloc ?_ _)); exact BK283.out), (by (with_reducible repeat (first | refine blk_drewN ?_ _ | refine blk_drew ?_ | refine blk_alloc ?_ _)); exact BK289.out), (by repeat (first | (with_reducible first | exact HB.out | apply below_alloc | apply pw_below_drewN | apply below_drew1 | refine below_set ?_ GE268.out | refine below_set ?_ GE276.out | refine below_set ?_ GE283.out | refine below_set ?_ GE289.out) | exact HB.out)), fun _ => (by (with_reducible repeat (first | apply Kd.R_alloc | apply Kd.R_drewN | apply Kd.R_drew)); exact HO295.out), z_BK301, Q_GW301, Q_GE301, Q_NB268_301, Q_NB301_268, Q_NB276_301, Q_NB301_276, Q_NB283_301, Q_NB301_283, Q_NB289_301, Q_NB301_289, fun h0_ => absurd ((hoff 12 (by kernel_rfl)).symm.trans h0_) (by decide), Q_X11_⟩
                                refine steps_cons ?_ ?_
                                · rintro b a w' ⟨v294, gb301, m11_, ha, Q_BK268, Q_BK276, Q_BK283, Q_BK289, Q_HB, Q_HO295, Q_BK301, Q_GW301, Q_GE301, Q_NB268_301, Q_NB301_268, Q_NB276_301, Q_NB301_276, Q_NB283_301, Q_NB301_283, Q_NB289_301, Q_NB301_289, Q_BK301_e12, Q_X11_⟩ hb_ hon hoff
                                  refine ⟨_, rfl, fun K hK => ?_⟩
                                  have e93 : a.tmps[93]? = some (.tuple #[.agg #[.int .i64 t296, .int .i64 t297, .int .i64 t298, .int .i64 t299], .int .i64 t300]) := by rw [ha]; exact putSel_on (e := (7, 93, .tuple #[.agg #[.int .i64 t296, .int .i64 t297, .int .i64 t298, .int .i64 t299], .int .i64 t300])) 6 rfl rfl (hon 7 (by kernel_rfl)) rfl
                                  replace ha := Aside0.mk ha
                                  have BK268 := Aside0.mk Q_BK268
                                  have BK276 := Aside0.mk Q_BK276
                                  have BK283 := Aside0.mk Q_BK283
                                  have BK289 := Aside0.mk Q_BK289
                                  have HB := Aside0.mk Q_HB
                                  have HO295 := Aside0.mk (Q_HO295 (hon 6 (by kernel_rfl)))
                                  refine value_ (w1 := w') (v := .tuple #[.agg #[.int .i64 t296, .int .i64 t297, .int .i64 t298, .int .i64 t299], .int .i64 t300]) (by rfl) rfl ?_ ?_
                                  · go_simp
                                    (try simp only [i64_w])
                                    try rfl
                                  refine hK.out _ _ ⟨v294, gb301, m11_, (by rw [ha.out]; exact putSel_upk 7 hb_ rfl rfl rfl), Q_BK268, Q_BK276, Q_BK283, Q_BK289, Q_HB, Q_HO295, Q_BK301, Q_GW301, Q_GE301, Q_NB268_301, Q_NB301_268, Q_NB276_301, Q_NB301_276, Q_NB283_301, Q_NB301_283, Q_NB289_301, Q_NB301_289, fun h0_ => absurd ((hoff 12 (by kernel_rfl)).symm.trans h0_) (by decide), Q_X11_⟩
                                refine steps_cons ?_ ?_
                                · rintro b a w' ⟨v294, gb301, m11_, ha, Q_BK268, Q_BK276, Q_BK283, Q_BK289, Q_HB, Q_HO295, Q_BK301, Q_GW301, Q_GE301, Q_NB268_301, Q_NB301_268, Q_NB276_301, Q_NB301_276, Q_NB283_301, Q_NB301_283, Q_NB289_301, Q_NB301_289, Q_BK301_e12, Q_X11_⟩ hb_ hon hoff
                                  refine ⟨_, rfl, fun K hK => ?_⟩
                                  have e85 : a.tmps[85]? = some (.tuple #[.agg #[.int .i64 t296, .int .i64 t297, .int .i64 t298, .int .i64 t299], .int .i64 t300]) := by rw [ha]; exact putSel_on (e := (8, 85, .tuple #[.agg #[.int .i64 t296, .int .i64 t297, .int .i64 t298, .int .i64 t299], .int .i64 t300])) 7 rfl rfl (hon 8 (by kernel_rfl)) rfl
                                  replace ha := Aside0.mk ha
                                  have BK268 := Aside0.mk Q_BK268
                                  have BK276 := Aside0.mk Q_BK276
                                  have BK283 := Aside0.mk Q_BK283
                                  have BK289 := Aside0.mk Q_BK289
                                  have HB := Aside0.mk Q_HB
                                  have HO295 := Aside0.mk (Q_HO295 (hon 6 (by kernel_rfl)))
                                  refine value_ (w1 := w') (v := .agg #[.int .i64 t296, .int .i64 t297, .int .i64 t298, .int .i64 t299]) (by rfl) rfl ?_ ?_
                                  · go_simp
                                    (try simp only [i64_w])
                                    try rfl
                                  refine hK.out _ _ ⟨v294, gb301, m11_, (by rw [ha.out]; exact putSel_upk 8 hb_ rfl rfl rfl), Q_BK268, Q_BK276, Q_BK283, Q_BK289, Q_HB, Q_HO295, Q_BK301, Q_GW301, Q_GE301, Q_NB268_301, Q_NB301_268, Q_NB276_301, Q_NB301_276, Q_NB283_301, Q_NB301_283, Q_NB289_301, Q_NB301_289, fun h0_ => absurd ((hoff 12 (by kernel_rfl)).symm.trans h0_) (by decide), Q_X11_⟩
                                refine steps_cons ?_ ?_
                                · rintro b a w' ⟨v294, gb301, m11_, ha, Q_BK268, Q_BK276, Q_BK283, Q_BK289, Q_HB, Q_HO295, Q_BK301, Q_GW301, Q_GE301, Q_NB268_301, Q_NB301_268, Q_NB276_301, Q_NB301_276, Q_NB283_301, Q_NB301_283, Q_NB289_301, Q_NB301_289, Q_BK301_e12, Q_X11_⟩ hb_ hon hoff
                                  refine ⟨_, rfl, fun K hK => ?_⟩
                                  have e85 : a.tmps[85]? = some (.tuple #[.agg #[.int .i64 t296, .int .i64 t297, .int .i64 t298, .int .i64 t299], .int .i64 t300]) := by rw [ha]; exact putSel_on (e := (8, 85, .tuple #[.agg #[.int .i64 t296, .int .i64 t297, .int .i64 t298, .int .i64 t299], .int .i64 t300])) 7 rfl rfl (hon 8 (by kernel_rfl)) rfl
                                  replace ha := Aside0.mk ha
                                  have BK268 := Aside0.mk Q_BK268
                                  have BK276 := Aside0.mk Q_BK276
                                  have BK283 := Aside0.mk Q_BK283
                                  have BK289 := Aside0.mk Q_BK289
                                  have HB := Aside0.mk Q_HB
                                  have HO295 := Aside0.mk (Q_HO295 (hon 6 (by kernel_rfl)))
                                  refine value_ (w1 := w') (v := .int .i64 t300) (by rfl) rfl ?_ ?_
                                  · go_simp
                                    (try simp only [i64_w])
                                    try rfl
                                  refine hK.out _ _ ⟨v294, gb301, m11_, (by rw [ha.out]; exact putSel_upk 9 hb_ rfl rfl rfl), Q_BK268, Q_BK276, Q_BK283, Q_BK289, Q_HB, Q_HO295, Q_BK301, Q_GW301, Q_GE301, Q_NB268_301, Q_NB301_268, Q_NB276_301, Q_NB301_276, Q_NB283_301, Q_NB301_283, Q_NB289_301, Q_NB301_289, Q_BK301_e12, Q_X11_⟩
                                refine steps_cons ?_ ?_
                                · rintro b a w' ⟨v294, gb301, m11_, ha, Q_BK268, Q_BK276, Q_BK283, Q_BK289, Q_HB, Q_HO295, Q_BK301, Q_GW301, Q_GE301, Q_NB268_301, Q_NB301_268, Q_NB276_301, Q_NB301_276, Q_NB283_301, Q_NB301_283, Q_NB289_301, Q_NB301_289, Q_BK301_e12, Q_X11_⟩ hb_ hon hoff
                                  refine ⟨_, rfl, fun K hK => ?_⟩
                                  replace ha := Aside0.mk ha
                                  have BK268 := Aside0.mk Q_BK268
                                  have BK276 := Aside0.mk Q_BK276
                                  have BK283 := Aside0.mk Q_BK283
                                  have BK289 := Aside0.mk Q_BK289
                                  have HB := Aside0.mk Q_HB
                                  refine box_step ?hg (N := 13) ?hd (cs := #[.int .i64 0, .int .i64 0, .int .i64 0, .int .i64 0]) (t := 23) ?hr ?_; (case hd => rfl); (case hg => rfl); (case hr => first | (go_simp; done) | (go_simp; rfl))
                                  intro gb301 hg w113 hbox hb
                                  have n0_ := Aside0.mk (blk_below (g := gb268) (o := .cells #[.int .i64 a0_0, .int .i64 a0_1, .int .i64 a0_2, .int .i64 a0_3] 23 (0, 0)) (by (with_reducible repeat (first | refine blk_drewN ?_ _ | refine blk_drew ?_ | refine blk_alloc ?_ _)); exact BK268.out) hb)
                                  have n1_ := Aside0.mk (blk_below (g := gb276) (o := .cells #[.int .i64 t271, .int .i64 t272, .int .i64 t273, .int .i64 t274] 23 (0, 0)) (by (with_reducible repeat (first | refine blk_drewN ?_ _ | refine blk_drew ?_ | refine blk_alloc ?_ _)); exact BK276.out) hb)
                                  have n2_ := Aside0.mk (blk_below (g := gb283) (o := .cells #[.int .i64 t278, .int .i64 t279, .int .i64 t280, .int .i64 t281] 23 (0, 0)) (by (with_reducible repeat (first | refine blk_drewN ?_ _ | refine blk_drew ?_ | refine blk_alloc ?_ _)); exact BK283.out) hb)
                                  have n3_ := Aside0.mk (blk_below (g := gb289) (o := .cells #[.int .i64 t284, .int .i64 t285, .int .i64 t286, .int .i64 t287] 23 (0, 0)) (by (with_reducible repeat (first | refine blk_drewN ?_ _ | refine blk_drew ?_ | refine blk_alloc ?_ _)); exact BK289.out) hb)
                                  have n4_ := Aside0.mk (below_step (by repeat (first | (with_reducible first | exact HB.out | apply below_alloc | apply pw_below_drewN | apply below_drew1 | refine below_set ?_ GE268.out | refine below_set ?_ GE276.out | refine below_set ?_ GE283.out | refine below_set ?_ GE289.out) | exact HB.out)) hb)
                                  have n5_ := Aside0.mk (hbox)
                                  have n6_ := Aside0.mk ((by rw [hg]; exact (below_size (by repeat (first | (with_reducible first | exact HB.out | apply below_alloc | apply pw_below_drewN | apply below_drew1 | refine below_set ?_ GE268.out | refine below_set ?_ GE276.out | refine below_set ?_ GE283.out | refine below_set ?_ GE289.out) | exact HB.out))) : w.heap.size ≤ gb301))
                                  have n7_ := Aside0.mk ((by rw [hg]; exact (below_size (by repeat (first | (with_reducible first | exact HB.out | apply below_alloc | apply pw_below_drewN | apply below_drew1 | refine below_set ?_ GE268.out | refine below_set ?_ GE276.out | refine below_set ?_ GE283.out | refine below_set ?_ GE289.out) | exact HB.out))) : w.heap.size ≤ gb301))
                                  have n8_ := Aside0.mk ((by rw [hg]; exact Nat.ne_of_lt (blk_lt (g := gb268) (o := .cells #[.int .i64 a0_0, .int .i64 a0_1, .int .i64 a0_2, .int .i64 a0_3] 23 (0, 0)) (by (with_reducible repeat (first | refine blk_drewN ?_ _ | refine blk_drew ?_ | refine blk_alloc ?_ _)); exact BK268.out)) : gb268 ≠ gb301))
                                  have n9_ := Aside0.mk ((by rw [hg]; exact Nat.ne_of_gt (blk_lt (g := gb268) (o := .cells #[.int .i64 a0_0, .int .i64 a0_1, .int .i64 a0_2, .int .i64 a0_3] 23 (0, 0)) (by (with_reducible repeat (first | refine blk_drewN ?_ _ | refine blk_drew ?_ | refine blk_alloc ?_ _)); exact BK268.out)) : gb301 ≠ gb268))
                                  have n10_ := Aside0.mk ((by rw [hg]; exact Nat.ne_of_lt (blk_lt (g := gb276) (o := .cells #[.int .i64 t271, .int .i64 t272, .int .i64 t273, .int .i64 t274] 23 (0, 0)) (by (with_reducible repeat (first | refine blk_drewN ?_ _ | refine blk_drew ?_ | refine blk_alloc ?_ _)); exact BK276.out)) : gb276 ≠ gb301))
                                  have n11_ := Aside0.mk ((by rw [hg]; exact Nat.ne_of_gt (blk_lt (g := gb276) (o := .cells #[.int .i64 t271, .int .i64 t272, .int .i64 t273, .int .i64 t274] 23 (0, 0)) (by (with_reducible repeat (first | refine blk_drewN ?_ _ | refine blk_drew ?_ | refine blk_alloc ?_ _)); exact BK276.out)) : gb301 ≠ gb276))
                                  have n12_ := Aside0.mk ((by rw [hg]; exact Nat.ne_of_lt (blk_lt (g := gb283) (o := .cells #[.int .i64 t278, .int .i64 t279, .int .i64 t280, .int .i64 t281] 23 (0, 0)) (by (with_reducible repeat (first | refine blk_drewN ?_ _ | refine blk_drew ?_ | refine blk_alloc ?_ _)); exact BK283.out)) : gb283 ≠ gb301))
                                  have n13_ := Aside0.mk ((by rw [hg]; exact Nat.ne_of_gt (blk_lt (g := gb283) (o := .cells #[.int .i64 t278, .int .i64 t279, .int .i64 t280, .int .i64 t281] 23 (0, 0)) (by (with_reducible repeat (first | refine blk_drewN ?_ _ | refine blk_drew ?_ | refine blk_alloc ?_ _)); exact BK283.out)) : gb301 ≠ gb283))
                                  have n14_ := Aside0.mk ((by rw [hg]; exact Nat.ne_of_lt (blk_lt (g := gb289) (o := .cells #[.int .i64 t284, .int .i64 t285, .int .i64 t286, .int .i64 t287] 23 (0, 0)) (by (with_reducible repeat (first | refine blk_drewN ?_ _ | refine blk_drew ?_ | refine blk_alloc ?_ _)); exact BK289.out)) : gb289 ≠ gb301))
                                  have n15_ := Aside0.mk ((by rw [hg]; exact Nat.ne_of_gt (blk_lt (g := gb289) (o := .cells #[.int .i64 t284, .int .i64 t285, .int .i64 t286, .int .i64 t287] 23 (0, 0)) (by (with_reducible repeat (first | refine blk_drewN ?_ _ | refine blk_drew ?_ | refine blk_alloc ?_ _)); exact BK289.out)) : gb301 ≠ gb289))
                                  have z_HO295 := fun (h0_ : b 6 = true) => (show Kd.R k50 50 w113 w.heap.size (fun _ => True) v294 y293 from by first | exact (Kd.R_below (by (with_reducible repeat (first | apply Kd.R_alloc | apply Kd.R_drewN | apply Kd.R_drew)); exact (Q_HO295 h0_)) hb) | exact Kd.R_mono (Kd.R_below (by (with_reducible repeat (first | apply Kd.R_alloc | apply Kd.R_drewN | apply Kd.R_drew)); exact (Q_HO295 h0_)) hb) (fun _ h_ => by first | trivial | exact h_ | exact h_.1))
                                  clear BK268
                                  clear BK276
                                  clear BK283
                                  clear BK289
                                  clear HB
                                  have BK268 := n0_
                                  have BK276 := n1_
                                  have BK283 := n2_
                                  have BK289 := n3_
                                  have HB := n4_
                                  have BK301 := n5_
                                  have GW301 := n6_
                                  have GE301 := n7_
                                  have NB268_301 := n8_
                                  have NB301_268 := n9_
                                  have NB276_301 := n10_
                                  have NB301_276 := n11_
                                  have NB283_301 := n12_
                                  have NB301_283 := n13_
                                  have NB289_301 := n14_
                                  have NB301_289 := n15_
                                  clear n0_ n1_ n2_ n3_ n4_ n5_ n6_ n7_ n8_ n9_ n10_ n11_ n12_ n13_ n14_ n15_
                                  clear hb hbox hg
                                  refine hK.out _ _ ⟨v294, gb301, (.pointer (some ⟨gb301, 0, none⟩)), (by rw [ha.out]; exact putSel_upk 10 hb_ rfl rfl rfl), (by (with_reducible repeat (first | refine blk_drewN ?_ _ | refine blk_drew ?_ | refine blk_alloc ?_ _)); exact BK268.out), (by (with_reducible repeat (first | refine blk_drewN ?_ _ | refine blk_drew ?_ | refine blk_alloc ?_ _)); exact BK276.out), (by (with_reducible repeat (first | refine blk_drewN ?_ _ | refine blk_drew ?_ | refine blk_alloc ?_ _)); exact BK283.out), (by (with_reducible repeat (first | refine blk_drewN ?_ _ | refine blk_drew ?_ | refine blk_alloc ?_ _)); exact BK289.out), (by repeat (first | (with_reducible first | exact HB.out | apply below_alloc | apply pw_below_drewN | apply below_drew1 | refine below_set ?_ GE268.out | refine below_set ?_ GE276.out | refine below_set ?_ GE283.out | refine below_set ?_ GE289.out | refine below_set ?_ GE301.out) | exact HB.out)), z_HO295, fun _ _ => (by (with_reducible repeat (first | refine blk_drewN ?_ _ | refine blk_drew ?_ | refine blk_alloc ?_ _)); exact BK301.out), fun _ => GW301.out, fun _ => GE301.out, fun _ => NB268_301.out, fun _ => NB301_268.out, fun _ => NB276_301.out, fun _ => NB301_276.out, fun _ => NB283_301.out, fun _ => NB301_283.out, fun _ => NB289_301.out, fun _ => NB301_289.out, fun h0_ => absurd ((hoff 12 (by kernel_rfl)).symm.trans h0_) (by decide), fun _ => rfl⟩
                                refine steps_cons ?_ ?_
                                · rintro b a w' ⟨v294, gb301, m11_, ha, Q_BK268, Q_BK276, Q_BK283, Q_BK289, Q_HB, Q_HO295, Q_BK301, Q_GW301, Q_GE301, Q_NB268_301, Q_NB301_268, Q_NB276_301, Q_NB301_276, Q_NB283_301, Q_NB301_283, Q_NB289_301, Q_NB301_289, Q_BK301_e12, Q_X11_⟩ hb_ hon hoff
                                  refine ⟨_, rfl, fun K hK => ?_⟩
                                  have e13 : a.tmps[13]? = some (m11_) := by rw [ha]; exact putSel_on (e := (11, 13, m11_)) 10 rfl rfl (hon 11 (by kernel_rfl)) rfl
                                  rw [Q_X11_ (hon 11 (by kernel_rfl))] at e13
                                  have e94 : a.tmps[94]? = some (.agg #[.int .i64 t296, .int .i64 t297, .int .i64 t298, .int .i64 t299]) := by rw [ha]; exact putSel_on (e := (9, 94, .agg #[.int .i64 t296, .int .i64 t297, .int .i64 t298, .int .i64 t299])) 8 rfl rfl (hon 9 (by kernel_rfl)) rfl
                                  replace ha := Aside0.mk ha
                                  have BK268 := Aside0.mk Q_BK268
                                  have BK276 := Aside0.mk Q_BK276
                                  have BK283 := Aside0.mk Q_BK283
                                  have BK289 := Aside0.mk Q_BK289
                                  have HB := Aside0.mk Q_HB
                                  have HO295 := Aside0.mk (Q_HO295 (hon 6 (by kernel_rfl)))
                                  have BK301 := Aside0.mk (Q_BK301 (hon 11 (by kernel_rfl)) hb_)
                                  have GW301 := Aside0.mk (Q_GW301 (hon 11 (by kernel_rfl)))
                                  have GE301 := Aside0.mk (Q_GE301 (hon 11 (by kernel_rfl)))
                                  have NB268_301 := Aside0.mk (Q_NB268_301 (hon 11 (by kernel_rfl)))
                                  have NB301_268 := Aside0.mk (Q_NB301_268 (hon 11 (by kernel_rfl)))
                                  have NB276_301 := Aside0.mk (Q_NB276_301 (hon 11 (by kernel_rfl)))
                                  have NB301_276 := Aside0.mk (Q_NB301_276 (hon 11 (by kernel_rfl)))
                                  have NB283_301 := Aside0.mk (Q_NB283_301 (hon 11 (by kernel_rfl)))
                                  have NB301_283 := Aside0.mk (Q_NB301_283 (hon 11 (by kernel_rfl)))
                                  have NB289_301 := Aside0.mk (Q_NB289_301 (hon 11 (by kernel_rfl)))
                                  have NB301_289 := Aside0.mk (Q_NB301_289 (hon 11 (by kernel_rfl)))
                                  have hs119 : w'.cell? ⟨gb301, 0, none⟩ = some (.int .i64 0) := (blk_cell BK301.out 0).trans rfl
                                  have hfs119 := blk_frozen BK301.out 0
                                  have hns119_0 := NB268_301.out
                                  have hns119_1 := NB276_301.out
                                  have hns119_2 := NB283_301.out
                                  have hns119_3 := NB289_301.out
                                  have hms119_0 := NB301_268.out
                                  have hms119_1 := NB301_276.out
                                  have hms119_2 := NB301_283.out
                                  have hms119_3 := NB301_289.out
                                  have hs120 : w'.cell? ⟨gb301, 1, none⟩ = some (.int .i64 0) := (blk_cell BK301.out 1).trans rfl
                                  have hfs120 := blk_frozen BK301.out 1
                                  have hns120_0 := NB268_301.out
                                  have hns120_1 := NB276_301.out
                                  have hns120_2 := NB283_301.out
                                  have hns120_3 := NB289_301.out
                                  have hms120_0 := NB301_268.out
                                  have hms120_1 := NB301_276.out
                                  have hms120_2 := NB301_283.out
                                  have hms120_3 := NB301_289.out
                                  have hs121 : w'.cell? ⟨gb301, 2, none⟩ = some (.int .i64 0) := (blk_cell BK301.out 2).trans rfl
                                  have hfs121 := blk_frozen BK301.out 2
                                  have hns121_0 := NB268_301.out
                                  have hns121_1 := NB276_301.out
                                  have hns121_2 := NB283_301.out
                                  have hns121_3 := NB289_301.out
                                  have hms121_0 := NB301_268.out
                                  have hms121_1 := NB301_276.out
                                  have hms121_2 := NB301_283.out
                                  have hms121_3 := NB301_289.out
                                  have hs122 : w'.cell? ⟨gb301, 3, none⟩ = some (.int .i64 0) := (blk_cell BK301.out 3).trans rfl
                                  have hfs122 := blk_frozen BK301.out 3
                                  have hns122_0 := NB268_301.out
                                  have hns122_1 := NB276_301.out
                                  have hns122_2 := NB283_301.out
                                  have hns122_3 := NB289_301.out
                                  have hms122_0 := NB301_268.out
                                  have hms122_1 := NB301_276.out
                                  have hms122_2 := NB301_283.out
                                  have hms122_3 := NB301_289.out
                                  refine skip_ (w1 := ?_) (by rfl) rfl ?_ ?_
                                  rotate_left
                                  · go_simp
                                    rfl
                                  refine hK.out _ _ ⟨v294, gb301, m11_, (by rw [ha.out]; exact putSel_none (v := undef) rfl), (by (with_reducible repeat (first | refine blk_drewN ?_ _ | refine blk_drew ?_ | refine blk_alloc ?_ _)); refine blk_far ?_ NB268_301.out _; (with_reducible repeat (first | refine blk_drewN ?_ _ | refine blk_drew ?_ | refine blk_alloc ?_ _)); refine blk_far ?_ NB268_301.out _; (with_reducible repeat (first | refine blk_drewN ?_ _ | refine blk_drew ?_ | refine blk_alloc ?_ _)); refine blk_far ?_ NB268_301.out _; (with_reducible repeat (first | refine blk_drewN ?_ _ | refine blk_drew ?_ | refine blk_alloc ?_ _)); refine blk_far ?_ NB268_301.out _; (with_reducible repeat (first | refine blk_drewN ?_ _ | refine blk_drew ?_ | refine blk_alloc ?_ _)); exact BK268.out), (by (with_reducible repeat (first | refine blk_drewN ?_ _ | refine blk_drew ?_ | refine blk_alloc ?_ _)); refine blk_far ?_ NB276_301.out _; (with_reducible repeat (first | refine blk_drewN ?_ _ | refine blk_drew ?_ | refine blk_alloc ?_ _)); refine blk_far ?_ NB276_301.out _; (with_reducible repeat (first | refine blk_drewN ?_ _ | refine blk_drew ?_ | refine blk_alloc ?_ _)); refine blk_far ?_ NB276_301.out _; (with_reducible repeat (first | refine blk_drewN ?_ _ | refine blk_drew ?_ | refine blk_alloc ?_ _)); refine blk_far ?_ NB276_301.out _; (with_reducible repeat (first | refine blk_drewN ?_ _ | refine blk_drew ?_ | refine blk_alloc ?_ _)); exact BK276.out), (by (with_reducible repeat (first | refine blk_drewN ?_ _ | refine blk_drew ?_ | refine blk_alloc ?_ _)); refine blk_far ?_ NB283_301.out _; (with_reducible repeat (first | refine blk_drewN ?_ _ | refine blk_drew ?_ | refine blk_alloc ?_ _)); refine blk_far ?_ NB283_301.out _; (with_reducible repeat (first | refine blk_drewN ?_ _ | refine blk_drew ?_ | refine blk_alloc ?_ _)); refine blk_far ?_ NB283_301.out _; (with_reducible repeat (first | refine blk_drewN ?_ _ | refine blk_drew ?_ | refine blk_alloc ?_ _)); refine blk_far ?_ NB283_301.out _; (with_reducible repeat (first | refine blk_drewN ?_ _ | refine blk_drew ?_ | refine blk_alloc ?_ _)); exact BK283.out), (by (with_reducible repeat (first | refine blk_drewN ?_ _ | refine blk_drew ?_ | refine blk_alloc ?_ _)); refine blk_far ?_ NB289_301.out _; (with_reducible repeat (first | refine blk_drewN ?_ _ | refine blk_drew ?_ | refine blk_alloc ?_ _)); refine blk_far ?_ NB289_301.out _; (with_reducible repeat (first | refine blk_drewN ?_ _ | refine blk_drew ?_ | refine blk_alloc ?_ _)); refine blk_far ?_ NB289_301.out _; (with_reducible repeat (first | refine blk_drewN ?_ _ | refine blk_drew ?_ | refine blk_alloc ?_ _)); refine blk_far ?_ NB289_301.out _; (with_reducible repeat (first | refine blk_drewN ?_ _ | refine blk_drew ?_ | refine blk_alloc ?_ _)); exact BK289.out), (by repeat (first | (with_reducible first | exact HB.out | apply below_alloc | apply pw_below_drewN | apply below_drew1 | refine below_set ?_ GE268.out | refine below_set ?_ GE276.out | refine below_set ?_ GE283.out | refine below_set ?_ GE289.out | refine below_set ?_ GE301.out) | exact HB.out)), fun _ => (by (with_reducible repeat (first | apply Kd.R_alloc | apply Kd.R_drewN | apply Kd.R_drew)); exact Kd.R_mono (Kd.R_far (p := ⟨gb301, 3, none⟩) (Kd.R_far (p := ⟨gb301, 2, none⟩) (Kd.R_far (p := ⟨gb301, 1, none⟩) (Kd.R_far (p := ⟨gb301, 0, none⟩) (Kd.R_types HO295.out BK301.out (by decide)) (fun _ hk => hk.2) (.int .i64 t296)) (fun _ hk => hk.2) (.int .i64 t297)) (fun _ hk => hk.2) (.int .i64 t298)) (fun _ hk => hk.2) (.int .i64 t299)) (fun _ hk => trivial)), fun _ h1_ => absurd ((up_self b 12).symm.trans h1_) (by decide), fun _ => GW301.out, fun _ => GE301.out, fun _ => NB268_301.out, fun _ => NB301_268.out, fun _ => NB276_301.out, fun _ => NB301_276.out, fun _ => NB283_301.out, fun _ => NB301_283.out, fun _ => NB289_301.out, fun _ => NB301_289.out, fun _ => (by (with_reducible repeat (first | refine blk_drewN ?_ _ | refine blk_drew ?_ | refine blk_alloc ?_ _)); refine blk_put (cs := #[.int .i64 t296, .int .i64 t297, .int .i64 t298, .int .i64 0]) ?_ 3 _ rfl; (with_reducible repeat (first | refine blk_drewN ?_ _ | refine blk_drew ?_ | refine blk_alloc ?_ _)); refine blk_put (cs := #[.int .i64 t296, .int .i64 t297, .int .i64 0, .int .i64 0]) ?_ 2 _ rfl; (with_reducible repeat (first | refine blk_drewN ?_ _ | refine blk_drew ?_ | refine blk_alloc ?_ _)); refine blk_put (cs := #[.int .i64 t296, .int .i64 0, .int .i64 0, .int .i64 0]) ?_ 1 _ rfl; (with_reducible repeat (first | refine blk_drewN ?_ _ | refine blk_drew ?_ | refine blk_alloc ?_ _)); refine blk_put (cs := #[.int .i64 0, .int .i64 0, .int .i64 0, .int .i64 0]) ?_ 0 _ rfl; (with_reducible repeat (first | refine blk_drewN ?_ _ | refine blk_drew ?_ | refine blk_alloc ?_ _)); exact BK301.out), Q_X11_⟩
                                refine steps_cons ?_ ?_
                                · rintro b a w' ⟨v294, gb301, m11_, ha, Q_BK268, Q_BK276, Q_BK283, Q_BK289, Q_HB, Q_HO295, Q_BK301, Q_GW301, Q_GE301, Q_NB268_301, Q_NB301_268, Q_NB276_301, Q_NB301_276, Q_NB283_301, Q_NB301_283, Q_NB289_301, Q_NB301_289, Q_BK301_e12, Q_X11_⟩ hb_ hon hoff
                                  refine ⟨_, rfl, fun K hK => ?_⟩
                                  have e95 : a.tmps[95]? = some (.int .i64 t300) := by rw [ha]; exact putSel_on (e := (10, 95, .int .i64 t300)) 9 rfl rfl (hon 10 (by kernel_rfl)) rfl
                                  replace ha := Aside0.mk ha
                                  have BK268 := Aside0.mk Q_BK268
                                  have BK276 := Aside0.mk Q_BK276
                                  have BK283 := Aside0.mk Q_BK283
                                  have BK289 := Aside0.mk Q_BK289
                                  have HB := Aside0.mk Q_HB
                                  have HO295 := Aside0.mk (Q_HO295 (hon 6 (by kernel_rfl)))
                                  have GW301 := Aside0.mk (Q_GW301 (hon 11 (by kernel_rfl)))
                                  have GE301 := Aside0.mk (Q_GE301 (hon 11 (by kernel_rfl)))
                                  have NB268_301 := Aside0.mk (Q_NB268_301 (hon 11 (by kernel_rfl)))
                                  have NB301_268 := Aside0.mk (Q_NB301_268 (hon 11 (by kernel_rfl)))
                                  have NB276_301 := Aside0.mk (Q_NB276_301 (hon 11 (by kernel_rfl)))
                                  have NB301_276 := Aside0.mk (Q_NB301_276 (hon 11 (by kernel_rfl)))
                                  have NB283_301 := Aside0.mk (Q_NB283_301 (hon 11 (by kernel_rfl)))
                                  have NB301_283 := Aside0.mk (Q_NB301_283 (hon 11 (by kernel_rfl)))
                                  have NB289_301 := Aside0.mk (Q_NB289_301 (hon 11 (by kernel_rfl)))
                                  have NB301_289 := Aside0.mk (Q_NB301_289 (hon 11 (by kernel_rfl)))
                                  have BK301 := Aside0.mk (Q_BK301_e12 (hon 12 (by kernel_rfl)))
                                  refine value_ (w1 := w') (v := .int .i64 t300) (by rfl) rfl ?_ ?_
                                  · go_simp
                                    (try simp only [i64_w])
                                    try rfl
                                  refine hK.out _ _ ⟨v294, gb301, m11_, (by rw [ha.out]; exact putSel_upk 11 hb_ rfl rfl rfl), Q_BK268, Q_BK276, Q_BK283, Q_BK289, Q_HB, Q_HO295, fun _ h1_ => absurd ((hon 12 (by kernel_rfl)).symm.trans h1_) (by decide), Q_GW301, Q_GE301, Q_NB268_301, Q_NB301_268, Q_NB276_301, Q_NB301_276, Q_NB283_301, Q_NB301_283, Q_NB289_301, Q_NB301_289, Q_BK301_e12, Q_X11_⟩
                                exact steps_nil
                              rintro b a w122 hall ⟨v294, gb301, m11_, ha, Q_BK268, Q_BK276, Q_BK283, Q_BK289, Q_HB, Q_HO295, Q_BK301, Q_GW301, Q_GE301, Q_NB268_301, Q_NB301_268, Q_NB276_301, Q_NB301_276, Q_NB283_301, Q_NB301_283, Q_NB289_301, Q_NB301_289, Q_BK301_e12, Q_X11_⟩
                              clear BK268 BK276 BK283 BK289 HB
                              have hb0_ := hall 0 (by kernel_rfl)
                              have hb2_ := hall 2 (by kernel_rfl)
                              have hb3_ := hall 3 (by kernel_rfl)
                              have hb4_ := hall 4 (by kernel_rfl)
                              have hb5_ := hall 5 (by kernel_rfl)
                              have hb6_ := hall 6 (by kernel_rfl)
                              have hb7_ := hall 7 (by kernel_rfl)
                              have hb8_ := hall 8 (by kernel_rfl)
                              have hb9_ := hall 9 (by kernel_rfl)
                              have hb10_ := hall 10 (by kernel_rfl)
                              have hb11_ := hall 11 (by kernel_rfl)
                              have hb12_ := hall 12 (by kernel_rfl)
                              have hb13_ := hall 13 (by kernel_rfl)
                              subst ha
                              obtain rfl := Q_X11_ hb11_
                              simp only [putSel, hb0_, hb2_, hb3_, hb4_, hb5_, hb6_, hb7_, hb8_, hb9_, hb10_, hb11_, hb12_, hb13_, if_true, Act.put, List.setIfInBounds_toArray, List.set_cons_zero, List.set_cons_succ]
                              have BK268 := Aside0.mk Q_BK268
                              clear Q_BK268
                              have BK276 := Aside0.mk Q_BK276
                              clear Q_BK276
                              have BK283 := Aside0.mk Q_BK283
                              clear Q_BK283
                              have BK289 := Aside0.mk Q_BK289
                              clear Q_BK289
                              have HB := Aside0.mk Q_HB
                              clear Q_HB
                              have HO295 := Aside0.mk (Q_HO295 hb6_)
                              clear Q_HO295
                              clear Q_BK301
                              have GW301 := Aside0.mk (Q_GW301 hb11_)
                              clear Q_GW301
                              have GE301 := Aside0.mk (Q_GE301 hb11_)
                              clear Q_GE301
                              have NB268_301 := Aside0.mk (Q_NB268_301 hb11_)
                              clear Q_NB268_301
                              have NB301_268 := Aside0.mk (Q_NB301_268 hb11_)
                              clear Q_NB301_268
                              have NB276_301 := Aside0.mk (Q_NB276_301 hb11_)
                              clear Q_NB276_301
                              have NB301_276 := Aside0.mk (Q_NB301_276 hb11_)
                              clear Q_NB301_276
                              have NB283_301 := Aside0.mk (Q_NB283_301 hb11_)
                              clear Q_NB283_301
                              have NB301_283 := Aside0.mk (Q_NB301_283 hb11_)
                              clear Q_NB301_283
                              have NB289_301 := Aside0.mk (Q_NB289_301 hb11_)
                              clear Q_NB289_301
                              have NB301_289 := Aside0.mk (Q_NB301_289 hb11_)
                              clear Q_NB301_289
                              have BK301 := Aside0.mk (Q_BK301_e12 hb12_)
                              clear Q_BK301_e12
                              clear hall hb0_ hb2_ hb3_ hb4_ hb5_ hb6_ hb7_ hb8_ hb9_ hb10_ hb11_ hb12_ hb13_
                              try go_wp2
                              have n0_ := Aside0.mk (Kd.R_drew HO295.out)
                              have n1_ := Aside0.mk (blk_drew BK268.out)
                              have n2_ := Aside0.mk (blk_drew BK276.out)
                              have n3_ := Aside0.mk (blk_drew BK283.out)
                              have n4_ := Aside0.mk (blk_drew BK289.out)
                              have n5_ := Aside0.mk (blk_drew BK301.out)
                              have n6_ := Aside0.mk (below_drew1 HB.out)
                              clear HO295
                              clear BK268
                              clear BK276
                              clear BK283
                              clear BK289
                              clear BK301
                              clear HB
                              have HO295 := n0_
                              have BK268 := n1_
                              have BK276 := n2_
                              have BK283 := n3_
                              have BK289 := n4_
                              have BK301 := n5_
                              have HB := n6_
                              clear n0_ n1_ n2_ n3_ n4_ n5_ n6_
                              have p302 : 0 ≤ (0 : Int) := (by omega)
                              have q302 : 0 < (l1.length : Int) := of_decide_eq_true (by first | (with_reducible assumption) | assumption)
                              obtain ⟨ad302, e302, hx302_0, hx302_1, hx302_2, hx302_3, hx302_4⟩ := at_T50 HR1.out 0 p302 q302
                              have hw302_4 := hx302_4
                              (try rw [show ((0 : Int)).toNat = 0 from rfl] at hw302_4)
                              (try rw [show 0 * 5 = 0 from rfl] at hw302_4)
                              (try rw [Addr.add_zero'] at hw302_4)
                              have hw302_3 := hx302_3
                              (try rw [show ((0 : Int)).toNat = 0 from rfl] at hw302_3)
                              (try rw [show 0 * 5 = 0 from rfl] at hw302_3)
                              (try rw [Addr.add_zero'] at hw302_3)
                              have hw302_2 := hx302_2
                              (try rw [show ((0 : Int)).toNat = 0 from rfl] at hw302_2)
                              (try rw [show 0 * 5 = 0 from rfl] at hw302_2)
                              (try rw [Addr.add_zero'] at hw302_2)
                              have hw302_1 := hx302_1
                              (try rw [show ((0 : Int)).toNat = 0 from rfl] at hw302_1)
                              (try rw [show 0 * 5 = 0 from rfl] at hw302_1)
                              (try rw [Addr.add_zero'] at hw302_1)
                              have hw302_0 := hx302_0
                              (try rw [show ((0 : Int)).toNat = 0 from rfl] at hw302_0)
                              (try rw [show 0 * 5 = 0 from rfl] at hw302_0)
                              (try rw [Addr.add_zero'] at hw302_0)
                              obtain rfl : ad292 = ad302 := (by injection e302)
                              have qi302 : (0 < l1.length) = True := eq_true (by omega)
                              (try rw [show ((0 : Int)).toNat = 0 from rfl] at hx302_0)
                              (try rw [show 0 * 5 = 0 from rfl] at hx302_0)
                              (try rw [Addr.add_zero'] at hx302_0)
                              (try rw [show ((0 : Int)).toNat = 0 from rfl] at hx302_1)
                              (try rw [show 0 * 5 = 0 from rfl] at hx302_1)
                              (try rw [Addr.add_zero'] at hx302_1)
                              (try rw [show ((0 : Int)).toNat = 0 from rfl] at hx302_2)
                              (try rw [show 0 * 5 = 0 from rfl] at hx302_2)
                              (try rw [Addr.add_zero'] at hx302_2)
                              (try rw [show ((0 : Int)).toNat = 0 from rfl] at hx302_3)
                              (try rw [show 0 * 5 = 0 from rfl] at hx302_3)
                              (try rw [Addr.add_zero'] at hx302_3)
                              (try rw [show ((0 : Int)).toNat = 0 from rfl] at hx302_4)
                              (try rw [show 0 * 5 = 0 from rfl] at hx302_4)
                              (try rw [Addr.add_zero'] at hx302_4)
                              replace hx302_0 := (HB.out.cell (World.block_lt_of_cell? w _ hx302_0)).trans hx302_0
                              replace hx302_1 := (HB.out.cell (World.block_lt_of_cell? w _ hx302_1)).trans hx302_1
                              replace hx302_2 := (HB.out.cell (World.block_lt_of_cell? w _ hx302_2)).trans hx302_2
                              replace hx302_3 := (HB.out.cell (World.block_lt_of_cell? w _ hx302_3)).trans hx302_3
                              replace hx302_4 := (HB.out.cell (World.block_lt_of_cell? w _ hx302_4)).trans hx302_4
                              replace p302 := eq_true p302
                              replace q302 := eq_true q302
                              refine start_ (n := 14) (S := fun w' => w'.cell? ⟨gb301, 0, none⟩ = some (.int .i64 t296) ∧ w'.cell? ⟨gb301, 1, none⟩ = some (.int .i64 t297) ∧ w'.cell? ⟨gb301, 2, none⟩ = some (.int .i64 t298) ∧ w'.cell? ⟨gb301, 3, none⟩ = some (.int .i64 t299) ∧ w'.cell? ad292 = some (.int .i64 ((rd_T50 l1 0).f0.f0)) ∧ w'.cell? ⟨ad292.block, ad292.off + 1, none⟩ = some (.int .i64 ((rd_T50 l1 0).f0.f1)) ∧ w'.cell? ⟨ad292.block, ad292.off + 2, none⟩ = some (.int .i64 ((rd_T50 l1 0).f0.f2)) ∧ w'.cell? ⟨ad292.block, ad292.off + 3, none⟩ = some (.int .i64 ((rd_T50 l1 0).f0.f3)) ∧ w'.cell? ⟨ad292.block, ad292.off + 4, none⟩ = some (.int .i64 ((rd_T50 l1 0).f1))) (ds := []) #[false, false, false, false, false, false, false, false, false, false, false, false, false, false] (by kernel_rfl) rfl rfl ⟨(blk_cell BK301.out 0).trans rfl, (blk_cell BK301.out 1).trans rfl, (blk_cell BK301.out 2).trans rfl, (blk_cell BK301.out 3).trans rfl, ((HB.out.cell (World.block_lt_of_cell? w _ hw302_0)).trans hw302_0), ((HB.out.cell (World.block_lt_of_cell? w _ hw302_1)).trans hw302_1), ((HB.out.cell (World.block_lt_of_cell? w _ hw302_2)).trans hw302_2), ((HB.out.cell (World.block_lt_of_cell? w _ hw302_3)).trans hw302_3), ((HB.out.cell (World.block_lt_of_cell? w _ hw302_4)).trans hw302_4)⟩ (fun hHeld => ?_); refine with_tabW celluloidlaw21_CanvasFaint.tab12 celluloidlaw21_CanvasFaint.bits12 (fun HT_ HW_ => ?_)
                              generalize w122.drew = w123 at HO295 BK268 BK276 BK283 BK289 BK301 HB hx302_0 hx302_1 hx302_2 hx302_3 hx302_4 hHeld ⊢
                              refine pure_ (i := 1) (N := some 97) (v := ?_) (a' := ?_) #[false, true, false, false, false, false, false, false, false, false, false, false, false, false] rfl rfl (any_of HT_.out (by kernel_rfl)) (fun _ _ _ h => h) (Or.inl ⟨by rfl, ?_⟩) ?_ ?_
                              rotate_left
                              · intro w'
                                go_simp
                                first | with_reducible rfl | (have hne_ := c109b0; simp only [Bool.and_eq_true, beq_iff_eq] at hne_; obtain ⟨en0_, en1_, en2_, en3_⟩ := hne_; rw [if_pos en0_, if_pos en1_, if_pos en2_, if_pos en3_])
                              rotate_left
                              · simp only [Act.put, List.setIfInBounds_toArray, List.set_cons_zero, List.set_cons_succ, i64_w, i32_w]
                                rfl
                              refine pure_ (i := 2) (N := some 98) (v := ?_) (a' := ?_) #[false, true, true, false, false, false, false, false, false, false, false, false, false, false] rfl rfl (any_of HT_.out (by kernel_rfl)) (fun _ _ _ h => h) (Or.inl ⟨by rfl, ?_⟩) ?_ ?_
                              rotate_left
                              · intro w'
                                go_simp
                                first | with_reducible rfl | (have hne_ := c109b0; simp only [Bool.and_eq_true, beq_iff_eq] at hne_; obtain ⟨en0_, en1_, en2_, en3_⟩ := hne_; rw [if_pos en0_, if_pos en1_, if_pos en2_, if_pos en3_])
                              rotate_left
                              · simp only [Act.put, List.setIfInBounds_toArray, List.set_cons_zero, List.set_cons_succ, i64_w, i32_w]
                                rfl
                              refine pure_ (i := 3) (N := some 99) (v := ?_) (a' := ?_) #[false, true, true, true, false, false, false, false, false, false, false, false, false, false] rfl rfl (any_of HT_.out (by kernel_rfl)) (fun _ _ _ h => h) (Or.inl ⟨by rfl, ?_⟩) ?_ ?_
                              rotate_left
                              · intro w'
                                go_simp
                                first | with_reducible rfl | (have hne_ := c109b0; simp only [Bool.and_eq_true, beq_iff_eq] at hne_; obtain ⟨en0_, en1_, en2_, en3_⟩ := hne_; rw [if_pos en0_, if_pos en1_, if_pos en2_, if_pos en3_])
                              rotate_left
                              · simp only [Act.put, List.setIfInBounds_toArray, List.set_cons_zero, List.set_cons_succ, i64_w, i32_w]
                                rfl
                              refine take_ (i := 0) (N := some 96) (v := ?_) (a' := ?_) #[true, true, true, true, false, false, false, false, false, false, false, false, false, false] rfl rfl (take_ofW HT_.out HW_.out (by kernel_rfl)) (fun _ _ _ h => h) (Or.inl ⟨by rfl, ?_⟩) hHeld ?_ ?_
                              rotate_left
                              · rintro w' ⟨s0, s1, s2, s3, s4, s5, s6, s7, s8⟩
                                go_simp
                                first | with_reducible rfl | (have hne_ := c109b0; simp only [Bool.and_eq_true, beq_iff_eq] at hne_; obtain ⟨en0_, en1_, en2_, en3_⟩ := hne_; rw [if_pos en0_, if_pos en1_, if_pos en2_, if_pos en3_])
                              rotate_left
                              · simp only [Act.put, List.setIfInBounds_toArray, List.set_cons_zero, List.set_cons_succ, i64_w, i32_w]
                                rfl
                              refine take_ (i := 4) (N := some 100) (v := ?_) (a' := ?_) #[true, true, true, true, true, false, false, false, false, false, false, false, false, false] rfl rfl (take_ofW HT_.out HW_.out (by kernel_rfl)) (fun _ _ _ h => h) (Or.inl ⟨by rfl, ?_⟩) hHeld ?_ ?_
                              rotate_left
                              · rintro w' ⟨s0, s1, s2, s3, s4, s5, s6, s7, s8⟩
                                go_simp
                                first | with_reducible rfl | (have hne_ := c109b0; simp only [Bool.and_eq_true, beq_iff_eq] at hne_; obtain ⟨en0_, en1_, en2_, en3_⟩ := hne_; rw [if_pos en0_, if_pos en1_, if_pos en2_, if_pos en3_])
                              rotate_left
                              · simp only [Act.put, List.setIfInBounds_toArray, List.set_cons_zero, List.set_cons_succ, i64_w, i32_w]
                                rfl
                              refine pure_ (i := 5) (N := some 101) (v := ?_) (a' := ?_) #[true, true, true, true, true, true, false, false, false, false, false, false, false, false] rfl rfl (any_of HT_.out (by kernel_rfl)) (fun _ _ _ h => h) (Or.inl ⟨by rfl, ?_⟩) ?_ ?_
                              rotate_left
                              · intro w'
                                go_simp
                                first | with_reducible rfl | (have hne_ := c109b0; simp only [Bool.and_eq_true, beq_iff_eq] at hne_; obtain ⟨en0_, en1_, en2_, en3_⟩ := hne_; rw [if_pos en0_, if_pos en1_, if_pos en2_, if_pos en3_])
                              rotate_left
                              · simp only [Act.put, List.setIfInBounds_toArray, List.set_cons_zero, List.set_cons_succ, i64_w, i32_w]
                                rfl
                              refine pure_ (i := 6) (N := some 102) (v := ?_) (a' := ?_) #[true, true, true, true, true, true, true, false, false, false, false, false, false, false] rfl rfl (any_of HT_.out (by kernel_rfl)) (fun _ _ _ h => h) (Or.inl ⟨by rfl, ?_⟩) ?_ ?_
                              rotate_left
                              · intro w'
                                go_simp
                                first | with_reducible rfl | (have hne_ := c109b0; simp only [Bool.and_eq_true, beq_iff_eq] at hne_; obtain ⟨en0_, en1_, en2_, en3_⟩ := hne_; rw [if_pos en0_, if_pos en1_, if_pos en2_, if_pos en3_])
                              rotate_left
                              · simp only [Act.put, List.setIfInBounds_toArray, List.set_cons_zero, List.set_cons_succ, i64_w, i32_w]
                                rfl
                              refine pure_ (i := 7) (N := some 103) (v := ?_) (a' := ?_) #[true, true, true, true, true, true, true, true, false, false, false, false, false, false] rfl rfl (any_of HT_.out (by kernel_rfl)) (fun _ _ _ h => h) (Or.inl ⟨by rfl, ?_⟩) ?_ ?_
                              rotate_left
                              · intro w'
                                go_simp
                                first | with_reducible rfl | (have hne_ := c109b0; simp only [Bool.and_eq_true, beq_iff_eq] at hne_; obtain ⟨en0_, en1_, en2_, en3_⟩ := hne_; rw [if_pos en0_, if_pos en1_, if_pos en2_, if_pos en3_])
                              rotate_left
                              · simp only [Act.put, List.setIfInBounds_toArray, List.set_cons_zero, List.set_cons_succ, i64_w, i32_w]
                                rfl
                              refine pure_ (i := 8) (N := some 104) (v := ?_) (a' := ?_) #[true, true, true, true, true, true, true, true, true, false, false, false, false, false] rfl rfl (any_of HT_.out (by kernel_rfl)) (fun _ _ _ h => h) (Or.inl ⟨by rfl, ?_⟩) ?_ ?_
                              rotate_left
                              · intro w'
                                go_simp
                                first | with_reducible rfl | (have hne_ := c109b0; simp only [Bool.and_eq_true, beq_iff_eq] at hne_; obtain ⟨en0_, en1_, en2_, en3_⟩ := hne_; rw [if_pos en0_, if_pos en1_, if_pos en2_, if_pos en3_])
                              rotate_left
                              · simp only [Act.put, List.setIfInBounds_toArray, List.set_cons_zero, List.set_cons_succ, i64_w, i32_w]
                                rfl
                              refine pure_ (i := 9) (N := some 105) (v := ?_) (a' := ?_) #[true, true, true, true, true, true, true, true, true, true, false, false, false, false] rfl rfl (any_of HT_.out (by kernel_rfl)) (fun _ _ _ h => h) (Or.inl ⟨by rfl, ?_⟩) ?_ ?_
                              rotate_left
                              · intro w'
                                go_simp
                                first | with_reducible rfl | (have hne_ := c109b0; simp only [Bool.and_eq_true, beq_iff_eq] at hne_; obtain ⟨en0_, en1_, en2_, en3_⟩ := hne_; rw [if_pos en0_, if_pos en1_, if_pos en2_, if_pos en3_])
                              rotate_left
                              · simp only [Act.put, List.setIfInBounds_toArray, List.set_cons_zero, List.set_cons_succ, i64_w, i32_w]
                                rfl
                              refine pure_ (i := 10) (N := some 106) (v := ?_) (a' := ?_) #[true, true, true, true, true, true, true, true, true, true, true, false, false, false] rfl rfl (any_of HT_.out (by kernel_rfl)) (fun _ _ _ h => h) (Or.inl ⟨by rfl, ?_⟩) ?_ ?_
                              rotate_left
                              · intro w'
                                go_simp
                                first | with_reducible rfl | (have hne_ := c109b0; simp only [Bool.and_eq_true, beq_iff_eq] at hne_; obtain ⟨en0_, en1_, en2_, en3_⟩ := hne_; rw [if_pos en0_, if_pos en1_, if_pos en2_, if_pos en3_])
                              rotate_left
                              · simp only [Act.put, List.setIfInBounds_toArray, List.set_cons_zero, List.set_cons_succ, i64_w, i32_w]
                                rfl
                              refine one_ (i := 11) (N := some 107) #[true, true, true, true, true, true, true, true, true, true, true, true, false, false] rfl rfl (one_of HT_.out (by kernel_rfl)) (by decide) (fun K hK => ?_)
                              refine goes_ Try.func11 (by kernel_rfl) rfl #[] (by rfl) rfl rfl (by (try simp only [List.map_toArray, List.map_cons, List.map_nil]); first | done | rfl | (simp only [List.length_drop, List.length_take]; rfl)) ?_
                              with_reducible refine (celluloidlaw21_awake.calls kj102  t303 _ A111.out).mono ?_
                              rintro e w124 ⟨rfl, hb⟩
                              refine ⟨_, rfl, ?_⟩
                              have n0_ := Aside0.mk (Kd.R_below (by (with_reducible repeat (first | apply Kd.R_alloc | apply Kd.R_drewN | apply Kd.R_drew)); exact HO295.out) hb)
                              have n1_ := Aside0.mk (blk_below (g := gb268) (o := .cells #[.int .i64 a0_0, .int .i64 a0_1, .int .i64 a0_2, .int .i64 a0_3] 23 (0, 0)) (by (with_reducible repeat (first | refine blk_drewN ?_ _ | refine blk_drew ?_ | refine blk_alloc ?_ _)); exact BK268.out) hb)
                              have n2_ := Aside0.mk (blk_below (g := gb276) (o := .cells #[.int .i64 t271, .int .i64 t272, .int .i64 t273, .int .i64 t274] 23 (0, 0)) (by (with_reducible repeat (first | refine blk_drewN ?_ _ | refine blk_drew ?_ | refine blk_alloc ?_ _)); exact BK276.out) hb)
                              have n3_ := Aside0.mk (blk_below (g := gb283) (o := .cells #[.int .i64 t278, .int .i64 t279, .int .i64 t280, .int .i64 t281] 23 (0, 0)) (by (with_reducible repeat (first | refine blk_drewN ?_ _ | refine blk_drew ?_ | refine blk_alloc ?_ _)); exact BK283.out) hb)
                              have n4_ := Aside0.mk (blk_below (g := gb289) (o := .cells #[.int .i64 t284, .int .i64 t285, .int .i64 t286, .int .i64 t287] 23 (0, 0)) (by (with_reducible repeat (first | refine blk_drewN ?_ _ | refine blk_drew ?_ | refine blk_alloc ?_ _)); exact BK289.out) hb)
                              have n5_ := Aside0.mk (blk_below (g := gb301) (o := .cells #[.int .i64 t296, .int .i64 t297, .int .i64 t298, .int .i64 t299] 23 (0, 0)) (by (with_reducible repeat (first | refine blk_drewN ?_ _ | refine blk_drew ?_ | refine blk_alloc ?_ _)); exact BK301.out) hb)
                              have n6_ := Aside0.mk (below_step (by repeat (first | (with_reducible first | exact HB.out | apply below_alloc | apply pw_below_drewN | apply below_drew1 | refine below_set ?_ GE268.out | refine below_set ?_ GE276.out | refine below_set ?_ GE283.out | refine below_set ?_ GE289.out | refine below_set ?_ GE301.out) | exact HB.out)) hb)
                              clear HO295
                              clear BK268
                              clear BK276
                              clear BK283
                              clear BK289
                              clear BK301
                              clear HB
                              have HO295 := n0_
                              have BK268 := n1_
                              have BK276 := n2_
                              have BK283 := n3_
                              have BK289 := n4_
                              have BK301 := n5_
                              have HB := n6_
                              clear n0_ n1_ n2_ n3_ n4_ n5_ n6_
                              (try clear hb)
                              (try clear hb2)
                              (try clear hk)
                              (try clear hi)
                              refine hK.out _ _ ⟨(blk_cell BK301.out 0).trans rfl, (blk_cell BK301.out 1).trans rfl, (blk_cell BK301.out 2).trans rfl, (blk_cell BK301.out 3).trans rfl, ((HB.out.cell (World.block_lt_of_cell? w _ hw302_0)).trans hw302_0), ((HB.out.cell (World.block_lt_of_cell? w _ hw302_1)).trans hw302_1), ((HB.out.cell (World.block_lt_of_cell? w _ hw302_2)).trans hw302_2), ((HB.out.cell (World.block_lt_of_cell? w _ hw302_3)).trans hw302_3), ((HB.out.cell (World.block_lt_of_cell? w _ hw302_4)).trans hw302_4)⟩ (fun hHeld => ?_)
                              clear hK K
                              refine norm_ (a' := ?_) ?_ ?_
                              rotate_left
                              · show Act.put _ (some 107) _ = _
                                simp only [Act.put, List.setIfInBounds_toArray, List.set_cons_zero, List.set_cons_succ, i64_w, i32_w]
                                rfl
                              refine pure_ (i := 12) (N := some 108) (v := ?_) (a' := ?_) #[true, true, true, true, true, true, true, true, true, true, true, true, true, false] rfl rfl (any_of HT_.out (by kernel_rfl)) (fun _ _ _ h => h) (Or.inl ⟨by rfl, ?_⟩) ?_ ?_
                              rotate_left
                              · intro w'
                                go_simp
                                first | with_reducible rfl | (have hne_ := c109b0; simp only [Bool.and_eq_true, beq_iff_eq] at hne_; obtain ⟨en0_, en1_, en2_, en3_⟩ := hne_; rw [if_pos en0_, if_pos en1_, if_pos en2_, if_pos en3_])
                              rotate_left
                              · simp only [Act.put, List.setIfInBounds_toArray, List.set_cons_zero, List.set_cons_succ, i64_w, i32_w]
                                rfl
                              refine pure_ (i := 13) (N := some 6) (v := ?_) (a' := ?_) #[true, true, true, true, true, true, true, true, true, true, true, true, true, true] rfl rfl (any_of HT_.out (by kernel_rfl)) (fun _ _ _ h => h) (Or.inl ⟨by rfl, ?_⟩) ?_ ?_
                              rotate_left
                              · intro w'
                                go_simp
                                first | with_reducible rfl | (have hne_ := c109b0; simp only [Bool.and_eq_true, beq_iff_eq] at hne_; obtain ⟨en0_, en1_, en2_, en3_⟩ := hne_; rw [if_pos en0_, if_pos en1_, if_pos en2_, if_pos en3_])
                              rotate_left
                              · simp only [Act.put, List.setIfInBounds_toArray, List.set_cons_zero, List.set_cons_succ, i64_w, i32_w]
                                rfl
                              refine done_ (done_of HT_.out (by kernel_rfl)) ?_
                              try go_wp2
                              go_ret
                              exact ⟨by first | rfl | (simp [errW_none, errW_some] <;> rfl) | (simp [*, errW_none, errW_some] <;> rfl), by repeat (first | (with_reducible first | exact HB.out | apply below_alloc | apply pw_below_drewN | apply below_drew1 | refine below_set ?_ GE268.out | refine below_set ?_ GE276.out | refine below_set ?_ GE283.out | refine below_set ?_ GE289.out | refine below_set ?_ GE301.out) | exact HB.out)⟩
                          · rw [if_neg c110] at H
                            have c110b0 : (t300 == 0) = false := beq_eq_false_iff_ne.mpr c110
                            have c110b1 : (t300 != 0) = true := bne_iff_ne.mpr c110
                            exact absurd (Option.some.inj H) (by rw [hr_.out]; decide)
                        · rw [if_neg c109] at H
                          have c109b0 : (t296 == ((rd_T50 l1 0).f0.f0) && (t297 == ((rd_T50 l1 0).f0.f1) && (t298 == ((rd_T50 l1 0).f0.f2) && (t299 == ((rd_T50 l1 0).f0.f3))))) = false := by simpa using c109
                          (try (have c109b1 : decide (t296 = ((rd_T50 l1 0).f0.f0) && (t297 == ((rd_T50 l1 0).f0.f1) && (t298 == ((rd_T50 l1 0).f0.f2) && (t299 == ((rd_T50 l1 0).f0.f3))))) = false := by simpa using c109))
                          (try (have c109b2 : (t296 == ((rd_T50 l1 0).f0.f0) && (t297 == ((rd_T50 l1 0).f0.f1) && (t298 == ((rd_T50 l1 0).f0.f2) && (t299 == ((rd_T50 l1 0).f0.f3))))) = false := by simpa using c109))
                          (try (have c109b3 : ¬ (t296 = ((rd_T50 l1 0).f0.f0) && (t297 == ((rd_T50 l1 0).f0.f1) && (t298 == ((rd_T50 l1 0).f0.f2) && (t299 == ((rd_T50 l1 0).f0.f3))))) := by simpa using c109))
                          clear c109
                          exact absurd (Option.some.inj H) (by rw [hr_.out]; decide)
                      · rw [if_neg c107] at H
                        exact absurd H (by simp)
                    · replace c106 := Bool.eq_false_iff.mpr c106
                      subst c106
                      have H1 : ((celluloidlaw21_awake.f kj102).bind fun t304 => (some t304)) = some r := by rw [if_neg (show ¬ (false = true) by decide)] at H; exact H
                      clear H
                      have H := H1
                      clear H1
                      replace H := Option.bind_eq_some_iff.mp H
                      obtain ⟨t304, A1490, H⟩ := H
                      replace H : (some t304) = some r := H
                      have A149 := Aside0.mk A1490
                      clear A1490
                      first
                      | exact absurd (Option.some.inj H) (by rw [hr_.out]; decide)
                      | obtain rfl := Option.some.inj H
                        go_wp2_with (first | ((with_reducible refine gate_callee (f := 11) rfl ?_); refine goesL_ (some 109) rfl rfl Try.func11 (by kernel_rfl) rfl #[] rfl (by (try simp only [List.map_toArray, List.map_cons, List.map_nil]); first | done | rfl | (simp only [List.length_drop, List.length_take]; rfl)) ?_; (with_reducible refine (celluloidlaw21_awake.calls kj102  t304 _ A149.out).mono ?_); rintro e w150 ⟨rfl, hb⟩; refine ⟨_, rfl, ?_⟩; have n0_ := Aside0.mk (blk_below (g := gb268) (o := .cells #[.int .i64 a0_0, .int .i64 a0_1, .int .i64 a0_2, .int .i64 a0_3] 23 (0, 0)) (by (with_reducible repeat (first | refine blk_drewN ?_ _ | refine blk_drew ?_ | refine blk_alloc ?_ _)); exact BK268.out) hb); have n1_ := Aside0.mk (blk_below (g := gb276) (o := .cells #[.int .i64 t271, .int .i64 t272, .int .i64 t273, .int .i64 t274] 23 (0, 0)) (by (with_reducible repeat (first | refine blk_drewN ?_ _ | refine blk_drew ?_ | refine blk_alloc ?_ _)); exact BK276.out) hb); have n2_ := Aside0.mk (blk_below (g := gb283) (o := .cells #[.int .i64 t278, .int .i64 t279, .int .i64 t280, .int .i64 t281] 23 (0, 0)) (by (with_reducible repeat (first | refine blk_drewN ?_ _ | refine blk_drew ?_ | refine blk_alloc ?_ _)); exact BK283.out) hb); have n3_ := Aside0.mk (blk_below (g := gb289) (o := .cells #[.int .i64 t284, .int .i64 t285, .int .i64 t286, .int .i64 t287] 23 (0, 0)) (by (with_reducible repeat (first | refine blk_drewN ?_ _ | refine blk_drew ?_ | refine blk_alloc ?_ _)); exact BK289.out) hb); have n4_ := Aside0.mk (below_step (by repeat (first | (with_reducible first | exact HB.out | apply below_alloc | apply pw_below_drewN | apply below_drew1 | refine below_set ?_ GE268.out | refine below_set ?_ GE276.out | refine below_set ?_ GE283.out | refine below_set ?_ GE289.out) | exact HB.out)) hb); clear BK268; clear BK276; clear BK283; clear BK289; clear HB; have BK268 := n0_; have BK276 := n1_; have BK283 := n2_; have BK289 := n3_; have HB := n4_; clear n0_ n1_ n2_ n3_ n4_; (try clear hb); (try clear hb2); (try clear hk); (try clear hi)))
                        go_ret
                        exact ⟨by first | rfl | (simp [errW_none, errW_some] <;> rfl) | (simp [*, errW_none, errW_some] <;> rfl), by repeat (first | (with_reducible first | exact HB.out | apply below_alloc | apply pw_below_drewN | apply below_drew1 | refine below_set ?_ GE268.out | refine below_set ?_ GE276.out | refine below_set ?_ GE283.out | refine below_set ?_ GE289.out) | exact HB.out)⟩
        · rw [if_neg c14] at H
          have c14b0 : (t275 == 0) = false := beq_eq_false_iff_ne.mpr c14
          have c14b1 : (t275 != 0) = true := bne_iff_ne.mpr c14
          replace H := Option.bind_eq_some_iff.mp H
          obtain ⟨t277, A1510, H⟩ := H
          replace H : (some t277) = some r := H
          have A151 := Aside0.mk A1510
          clear A1510
          first
          | exact absurd (Option.some.inj H) (by rw [hr_.out]; decide)
          | obtain rfl := Option.some.inj H
            have hcz152_0 : wc.cell? ⟨gb268, 0, none⟩ = some (.int .i64 a0_0) := (blk_cell BK268.out 0).trans rfl
            have hcz152_1 : wc.cell? ⟨gb268, 1, none⟩ = some (.int .i64 a0_1) := (blk_cell BK268.out 1).trans rfl
            have hcz152_2 : wc.cell? ⟨gb268, 2, none⟩ = some (.int .i64 a0_2) := (blk_cell BK268.out 2).trans rfl
            have hcz152_3 : wc.cell? ⟨gb268, 3, none⟩ = some (.int .i64 a0_3) := (blk_cell BK268.out 3).trans rfl
            have hfz152_0 := blk_frozen BK268.out 0
            have hfz152_1 := blk_frozen BK268.out 1
            have hfz152_2 := blk_frozen BK268.out 2
            have hfz152_3 := blk_frozen BK268.out 3
            go_wp2_with (first | ((with_reducible refine gate_callee (f := 14) rfl ?_); refine goesL_ (some 28) rfl rfl Try.func14 (by kernel_rfl) rfl #[.agg #[.int .i64 a0_0, .int .i64 a0_1, .int .i64 a0_2, .int .i64 a0_3], .slice A1 l1.length c1, .int .i64 a2] rfl (by (try simp only [List.map_toArray, List.map_cons, List.map_nil]); first | done | rfl | (simp only [List.length_drop, List.length_take]; rfl)) ?_; (with_reducible refine (canvas_Over.calls kj3 a0_0 a0_1 a0_2 a0_3 _ _ l1 a2 t271 t272 t273 t274 t275 _ ?side1 ?side2 A13.out).mono ?_); (case side1 => repeat (first | exact (Kd.C_below HR1.out HB.out) | (with_reducible refine Kd.C_alloc ?_ _) | (with_reducible refine Kd.C_drewN ?_ _) | (with_reducible refine Kd.C_drew ?_))); (case side2 => exact HC1.out); rintro e w153 ⟨rfl, hb⟩; refine ⟨_, rfl, ?_⟩; have n0_ := Aside0.mk (blk_below (g := gb268) (o := .cells #[.int .i64 a0_0, .int .i64 a0_1, .int .i64 a0_2, .int .i64 a0_3] 23 (0, 0)) (by (with_reducible repeat (first | refine blk_drewN ?_ _ | refine blk_drew ?_ | refine blk_alloc ?_ _)); exact BK268.out) hb); have n1_ := Aside0.mk (below_step (by repeat (first | (with_reducible first | exact HB.out | apply below_alloc | apply pw_below_drewN | apply below_drew1 | refine below_set ?_ GE268.out) | exact HB.out)) hb); clear BK268; clear HB; have BK268 := n0_; have HB := n1_; clear n0_ n1_; (try clear hb); (try clear hb2); (try clear hk); (try clear hi)) | ((with_reducible refine gate_dst (N := 7) rfl ?_); refine box_event ?hg (N := 7) ?hd (cs := #[.int .i64 0, .int .i64 0, .int .i64 0, .int .i64 0]) (t := 23) ?hr ?_; (case hd => rfl); (case hg => rfl); (case hr => first | (go_simp; done) | (go_simp; rfl)); intro gb276 hg w154 hbox hb; have n0_ := Aside0.mk (blk_below (g := gb268) (o := .cells #[.int .i64 a0_0, .int .i64 a0_1, .int .i64 a0_2, .int .i64 a0_3] 23 (0, 0)) (by (with_reducible repeat (first | refine blk_drewN ?_ _ | refine blk_drew ?_ | refine blk_alloc ?_ _)); exact BK268.out) hb); have n1_ := Aside0.mk (below_step (by repeat (first | (with_reducible first | exact HB.out | apply below_alloc | apply pw_below_drewN | apply below_drew1 | refine below_set ?_ GE268.out) | exact HB.out)) hb); have n2_ := Aside0.mk (hbox); have n3_ := Aside0.mk ((by rw [hg]; exact (below_size (by repeat (first | (with_reducible first | exact HB.out | apply below_alloc | apply pw_below_drewN | apply below_drew1 | refine below_set ?_ GE268.out) | exact HB.out))) : w.heap.size ≤ gb276)); have n4_ := Aside0.mk ((by rw [hg]; exact (below_size (by repeat (first | (with_reducible first | exact HB.out | apply below_alloc | apply pw_below_drewN | apply below_drew1 | refine below_set ?_ GE268.out) | exact HB.out))) : w.heap.size ≤ gb276)); have n5_ := Aside0.mk ((by rw [hg]; exact Nat.ne_of_lt (blk_lt (g := gb268) (o := .cells #[.int .i64 a0_0, .int .i64 a0_1, .int .i64 a0_2, .int .i64 a0_3] 23 (0, 0)) (by (with_reducible repeat (first | refine blk_drewN ?_ _ | refine blk_drew ?_ | refine blk_alloc ?_ _)); exact BK268.out)) : gb268 ≠ gb276)); have n6_ := Aside0.mk ((by rw [hg]; exact Nat.ne_of_gt (blk_lt (g := gb268) (o := .cells #[.int .i64 a0_0, .int .i64 a0_1, .int .i64 a0_2, .int .i64 a0_3] 23 (0, 0)) (by (with_reducible repeat (first | refine blk_drewN ?_ _ | refine blk_drew ?_ | refine blk_alloc ?_ _)); exact BK268.out)) : gb276 ≠ gb268)); clear BK268; clear HB; have BK268 := n0_; have HB := n1_; have BK276 := n2_; have GW276 := n3_; have GE276 := n4_; have NB268_276 := n5_; have NB276_268 := n6_; clear n0_ n1_ n2_ n3_ n4_ n5_ n6_; clear hb hbox hg; have hnb155 := NB276_268.out; have hnc155 := NB268_276.out; have hcz156_0 : w154.cell? ⟨gb276, 0, none⟩ = some (.int .i64 0) := (blk_cell BK276.out 0).trans rfl; have hcz156_1 : w154.cell? ⟨gb276, 1, none⟩ = some (.int .i64 0) := (blk_cell BK276.out 1).trans rfl; have hcz156_2 : w154.cell? ⟨gb276, 2, none⟩ = some (.int .i64 0) := (blk_cell BK276.out 2).trans rfl; have hcz156_3 : w154.cell? ⟨gb276, 3, none⟩ = some (.int .i64 0) := (blk_cell BK276.out 3).trans rfl; have hfz156_0 := blk_frozen BK276.out 0; have hfz156_1 := blk_frozen BK276.out 1; have hfz156_2 := blk_frozen BK276.out 2; have hfz156_3 := blk_frozen BK276.out 3) | ((with_reducible refine gate_callee (f := 11) rfl ?_); refine goesL_ (some 33) rfl rfl Try.func11 (by kernel_rfl) rfl #[] rfl (by (try simp only [List.map_toArray, List.map_cons, List.map_nil]); first | done | rfl | (simp only [List.length_drop, List.length_take]; rfl)) ?_; (with_reducible refine (celluloidlaw21_awake.calls kj3  t277 _ A151.out).mono ?_); rintro e w157 ⟨rfl, hb⟩; refine ⟨_, rfl, ?_⟩; have n0_ := Aside0.mk (blk_below (g := gb268) (o := .cells #[.int .i64 a0_0, .int .i64 a0_1, .int .i64 a0_2, .int .i64 a0_3] 23 (0, 0)) (by (with_reducible repeat (first | refine blk_drewN ?_ _ | refine blk_drew ?_ | refine blk_alloc ?_ _)); refine blk_far ?_ NB268_276.out _; (with_reducible repeat (first | refine blk_drewN ?_ _ | refine blk_drew ?_ | refine blk_alloc ?_ _)); refine blk_far ?_ NB268_276.out _; (with_reducible repeat (first | refine blk_drewN ?_ _ | refine blk_drew ?_ | refine blk_alloc ?_ _)); refine blk_far ?_ NB268_276.out _; (with_reducible repeat (first | refine blk_drewN ?_ _ | refine blk_drew ?_ | refine blk_alloc ?_ _)); refine blk_far ?_ NB268_276.out _; (with_reducible repeat (first | refine blk_drewN ?_ _ | refine blk_drew ?_ | refine blk_alloc ?_ _)); exact BK268.out) hb); have n1_ := Aside0.mk (blk_below (g := gb276) (o := .cells #[.int .i64 t271, .int .i64 t272, .int .i64 t273, .int .i64 t274] 23 (0, 0)) (by (with_reducible repeat (first | refine blk_drewN ?_ _ | refine blk_drew ?_ | refine blk_alloc ?_ _)); refine blk_put (cs := #[.int .i64 t271, .int .i64 t272, .int .i64 t273, .int .i64 0]) ?_ 3 _ rfl; (with_reducible repeat (first | refine blk_drewN ?_ _ | refine blk_drew ?_ | refine blk_alloc ?_ _)); refine blk_put (cs := #[.int .i64 t271, .int .i64 t272, .int .i64 0, .int .i64 0]) ?_ 2 _ rfl; (with_reducible repeat (first | refine blk_drewN ?_ _ | refine blk_drew ?_ | refine blk_alloc ?_ _)); refine blk_put (cs := #[.int .i64 t271, .int .i64 0, .int .i64 0, .int .i64 0]) ?_ 1 _ rfl; (with_reducible repeat (first | refine blk_drewN ?_ _ | refine blk_drew ?_ | refine blk_alloc ?_ _)); refine blk_put (cs := #[.int .i64 0, .int .i64 0, .int .i64 0, .int .i64 0]) ?_ 0 _ rfl; (with_reducible repeat (first | refine blk_drewN ?_ _ | refine blk_drew ?_ | refine blk_alloc ?_ _)); exact BK276.out) hb); have n2_ := Aside0.mk (below_step (by repeat (first | (with_reducible first | exact HB.out | apply below_alloc | apply pw_below_drewN | apply below_drew1 | refine below_set ?_ GE268.out | refine below_set ?_ GE276.out) | exact HB.out)) hb); clear BK268; clear BK276; clear HB; have BK268 := n0_; have BK276 := n1_; have HB := n2_; clear n0_ n1_ n2_; (try clear hb); (try clear hb2); (try clear hk); (try clear hi)))
            go_ret
            exact ⟨by first | rfl | (simp [errW_none, errW_some] <;> rfl) | (simp [*, errW_none, errW_some] <;> rfl), by repeat (first | (with_reducible first | exact HB.out | apply below_alloc | apply pw_below_drewN | apply below_drew1 | refine below_set ?_ GE268.out | refine below_set ?_ GE276.out) | exact HB.out)⟩
  
end Go.Proofs.Ytdkiglaidbahmaa.GCan
