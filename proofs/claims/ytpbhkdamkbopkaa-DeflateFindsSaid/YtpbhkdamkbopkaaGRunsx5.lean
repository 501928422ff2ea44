-- Written by a program of this session (wip/tools/print2.py) for this claim.
import Derived.Test.YtpbhkdamkbopkaaGRunsx0
import Derived.Test.YtpbhkdamkbopkaaGRunsx3
namespace Go.Proofs.Ytpbhkdamkbopkaa.GRuns
open Go.RowKit Go.Proofs.YtpbhkdamkbopkaaW.PrintWords Go.Proofs.YtpbhkdamkbopkaaW.PrintLast Go.Proofs.YtpbhkdamkbopkaaW.PrintMore Go.Proofs.Ytpbhkdamkbopkaa.Wr0
attribute [local go_sem] max2_int min2_int max_two min_two max_three min_three max_four min_four   -- for this text's walks alone
set_option linter.unusedVariables false
set_option linter.unusedSimpArgs false

/-! ### celluloidlaw06_DeflateFinds: function 9 -/
mutual
def celluloidlaw06_DeflateFinds.j0 : Nat → ByteArray → Int → Int → Bool → Option (Bool)
  | 0, _, _, _, _ => none
  | k + 1, x0, x1, x2, x23 => if x23 = true then ((celluloidlaw06_awake.f k).bind fun t134 => (some t134)) else ((deflate_Run.f k x0 x1).bind fun bt135 => (if bt135.1 = 0 then (celluloidlaw06_DeflateFinds.j1 k x0 x1 x2 bt135.1 bt135.2 (bt135.2 != 0)) else (if bt135.1 < 3 then (celluloidlaw06_DeflateFinds.j1 k x0 x1 x2 bt135.1 bt135.2 true) else (if bt135.1 > 258 then (celluloidlaw06_DeflateFinds.j1 k x0 x1 x2 bt135.1 bt135.2 true) else (if bt135.2 < 1 then (celluloidlaw06_DeflateFinds.j1 k x0 x1 x2 bt135.1 bt135.2 true) else (if bt135.2 > x1 then (celluloidlaw06_DeflateFinds.j1 k x0 x1 x2 bt135.1 bt135.2 true) else (if (wrap64 (x1 + bt135.1)) > (x0.size : Int) then (celluloidlaw06_DeflateFinds.j1 k x0 x1 x2 bt135.1 bt135.2 true) else (celluloidlaw06_DeflateFinds.j1 k x0 x1 x2 bt135.1 bt135.2 false))))))))
def celluloidlaw06_DeflateFinds.j1 : Nat → ByteArray → Int → Int → Int → Int → Bool → Option (Bool)
  | 0, _, _, _, _, _, _ => none
  | k + 1, x0, x1, x2, x7, x8, x65 => if x65 = true then (some false) else (celluloidlaw06_DeflateFinds.l0 k x0 x1 x2 x7 x8 0)
def celluloidlaw06_DeflateFinds.l0 : Nat → ByteArray → Int → Int → Int → Int → Int → Option (Bool)
  | 0, _, _, _, _, _, _ => none
  | k + 1, x0, x1, x2, x7, x8, x9 => if x9 < x7 then (if 0 ≤ (wrap64 (x1 + x9)) then (if (wrap64 (x1 + x9)) < (x0.size : Int) then (if 0 ≤ (wrap64 ((wrap64 (x1 + x9)) - x8)) then (if (wrap64 ((wrap64 (x1 + x9)) - x8)) < (x0.size : Int) then (if (bt x0 (wrap64 (x1 + x9))) = (bt x0 (wrap64 ((wrap64 (x1 + x9)) - x8))) then (celluloidlaw06_DeflateFinds.l0 k x0 x1 x2 x7 x8 (wrap64 (x9 + 1))) else (some false)) else (none)) else (none)) else (none)) else (none)) else (if x2 < 1 then (celluloidlaw06_DeflateFinds.j3 k x0 x1 x2 x7 x8 true) else (celluloidlaw06_DeflateFinds.j3 k x0 x1 x2 x7 x8 (decide (x2 > x1))))
def celluloidlaw06_DeflateFinds.j3 : Nat → ByteArray → Int → Int → Int → Int → Bool → Option (Bool)
  | 0, _, _, _, _, _, _ => none
  | k + 1, x0, x1, x2, x7, x8, x90 => if x90 = true then ((celluloidlaw06_awake.f k).bind fun t137 => (some t137)) else (celluloidlaw06_DeflateFinds.l1 k x0 x1 x2 x7 x8 0)
def celluloidlaw06_DeflateFinds.l1 : Nat → ByteArray → Int → Int → Int → Int → Int → Option (Bool)
  | 0, _, _, _, _, _, _ => none
  | k + 1, x0, x1, x2, x7, x8, x10 => if x10 < 258 then (if (wrap64 (x1 + x10)) < (x0.size : Int) then (if 0 ≤ (wrap64 (x1 + x10)) then (if 0 ≤ (wrap64 ((wrap64 (x1 + x10)) - x2)) then (if (wrap64 ((wrap64 (x1 + x10)) - x2)) < (x0.size : Int) then (if (bt x0 (wrap64 (x1 + x10))) = (bt x0 (wrap64 ((wrap64 (x1 + x10)) - x2))) then (celluloidlaw06_DeflateFinds.l1 k x0 x1 x2 x7 x8 (wrap64 (x10 + 1))) else (if x10 < 3 then ((celluloidlaw06_awake.f k).bind fun t138 => (some t138)) else (if x10 < x7 then ((celluloidlaw06_awake.f k).bind fun t139 => (some t139)) else (if x10 = x7 then (if x8 ≤ x2 then ((celluloidlaw06_awake.f k).bind fun t140 => (some t140)) else (some false)) else (some false))))) else (none)) else (none)) else (none)) else (if x10 < 3 then ((celluloidlaw06_awake.f k).bind fun t141 => (some t141)) else (if x10 < x7 then ((celluloidlaw06_awake.f k).bind fun t142 => (some t142)) else (if x10 = x7 then (if x8 ≤ x2 then ((celluloidlaw06_awake.f k).bind fun t143 => (some t143)) else (some false)) else (some false))))) else (if x10 < 3 then ((celluloidlaw06_awake.f k).bind fun t144 => (some t144)) else (if x10 < x7 then ((celluloidlaw06_awake.f k).bind fun t145 => (some t145)) else (if x10 = x7 then (if x8 ≤ x2 then ((celluloidlaw06_awake.f k).bind fun t146 => (some t146)) else (some false)) else (some false))))
end
def celluloidlaw06_DeflateFinds.f (k : Nat) (a0 : ByteArray) (a1 : Int) (a2 : Int) : Option (Bool) := if (a0.size : Int) > 512 then (celluloidlaw06_DeflateFinds.j0 k a0 a1 a2 true) else (if a1 < 0 then (celluloidlaw06_DeflateFinds.j0 k a0 a1 a2 true) else (celluloidlaw06_DeflateFinds.j0 k a0 a1 a2 (decide (a1 ≥ (a0.size : Int)))))
theorem celluloidlaw06_DeflateFinds.mono_l : ∀ k, (∀ y0 y1 y2 y3, LeO (celluloidlaw06_DeflateFinds.j0 k y0 y1 y2 y3) (celluloidlaw06_DeflateFinds.j0 (k + 1) y0 y1 y2 y3)) ∧ (∀ y0 y1 y2 y3 y4 y5, LeO (celluloidlaw06_DeflateFinds.j1 k y0 y1 y2 y3 y4 y5) (celluloidlaw06_DeflateFinds.j1 (k + 1) y0 y1 y2 y3 y4 y5)) ∧ (∀ y0 y1 y2 y3 y4 y5, LeO (celluloidlaw06_DeflateFinds.l0 k y0 y1 y2 y3 y4 y5) (celluloidlaw06_DeflateFinds.l0 (k + 1) y0 y1 y2 y3 y4 y5)) ∧ (∀ y0 y1 y2 y3 y4 y5, LeO (celluloidlaw06_DeflateFinds.j3 k y0 y1 y2 y3 y4 y5) (celluloidlaw06_DeflateFinds.j3 (k + 1) y0 y1 y2 y3 y4 y5)) ∧ (∀ y0 y1 y2 y3 y4 y5, LeO (celluloidlaw06_DeflateFinds.l1 k y0 y1 y2 y3 y4 y5) (celluloidlaw06_DeflateFinds.l1 (k + 1) y0 y1 y2 y3 y4 y5))
  | 0 => ⟨fun _ _ _ _ r h => by simp [celluloidlaw06_DeflateFinds.j0] at h, fun _ _ _ _ _ _ r h => by simp [celluloidlaw06_DeflateFinds.j1] at h, fun _ _ _ _ _ _ r h => by simp [celluloidlaw06_DeflateFinds.l0] at h, fun _ _ _ _ _ _ r h => by simp [celluloidlaw06_DeflateFinds.j3] at h, fun _ _ _ _ _ _ r h => by simp [celluloidlaw06_DeflateFinds.l1] at h⟩
  | k + 1 => by
    obtain ⟨ih0, ih1, ih2, ih3, ih4⟩ := celluloidlaw06_DeflateFinds.mono_l k
    refine ⟨?_, ?_, ?_, ?_, ?_⟩
    · intro y0 y1 y2 y3
      unfold celluloidlaw06_DeflateFinds.j0
      repeat' first
      | (with_reducible exact ih0 _ _ _ _)
      | (with_reducible exact ih1 _ _ _ _ _ _)
      | (with_reducible exact ih2 _ _ _ _ _ _)
      | (with_reducible exact ih3 _ _ _ _ _ _)
      | (with_reducible exact ih4 _ _ _ _ _ _)
      | (with_reducible exact celluloidlaw06_awake.mono _)
      | (with_reducible exact deflate_Run.mono _ _ _)
      | (with_reducible exact LeO.refl _)
      | (with_reducible exact LeO.none _)
      | (with_reducible refine LeO.ite ?_ ?_)
      | (with_reducible refine LeO.bind ?_ (fun _ => ?_))
      | exact ih0 _ _ _ _
      | exact ih1 _ _ _ _ _ _
      | exact ih2 _ _ _ _ _ _
      | exact ih3 _ _ _ _ _ _
      | exact ih4 _ _ _ _ _ _
      | exact celluloidlaw06_awake.mono _
      | exact deflate_Run.mono _ _ _
      | exact LeO.none _
      | refine LeO.ite ?_ ?_
      | refine LeO.bind ?_ (fun _ => ?_)
    · intro y0 y1 y2 y3 y4 y5
      unfold celluloidlaw06_DeflateFinds.j1
      repeat' first
      | (with_reducible exact ih0 _ _ _ _)
      | (with_reducible exact ih1 _ _ _ _ _ _)
      | (with_reducible exact ih2 _ _ _ _ _ _)
      | (with_reducible exact ih3 _ _ _ _ _ _)
      | (with_reducible exact ih4 _ _ _ _ _ _)
      | (with_reducible exact celluloidlaw06_awake.mono _)
      | (with_reducible exact deflate_Run.mono _ _ _)
      | (with_reducible exact LeO.refl _)
      | (with_reducible exact LeO.none _)
      | (with_reducible refine LeO.ite ?_ ?_)
      | (with_reducible refine LeO.bind ?_ (fun _ => ?_))
      | exact ih0 _ _ _ _
      | exact ih1 _ _ _ _ _ _
      | exact ih2 _ _ _ _ _ _
      | exact ih3 _ _ _ _ _ _
      | exact ih4 _ _ _ _ _ _
      | exact celluloidlaw06_awake.mono _
      | exact deflate_Run.mono _ _ _
      | exact LeO.none _
      | refine LeO.ite ?_ ?_
      | refine LeO.bind ?_ (fun _ => ?_)
    · intro y0 y1 y2 y3 y4 y5
      unfold celluloidlaw06_DeflateFinds.l0
      repeat' first
      | (with_reducible exact ih0 _ _ _ _)
      | (with_reducible exact ih1 _ _ _ _ _ _)
      | (with_reducible exact ih2 _ _ _ _ _ _)
      | (with_reducible exact ih3 _ _ _ _ _ _)
      | (with_reducible exact ih4 _ _ _ _ _ _)
      | (with_reducible exact celluloidlaw06_awake.mono _)
      | (with_reducible exact deflate_Run.mono _ _ _)
      | (with_reducible exact LeO.refl _)
      | (with_reducible exact LeO.none _)
      | (with_reducible refine LeO.ite ?_ ?_)
      | (with_reducible refine LeO.bind ?_ (fun _ => ?_))
      | exact ih0 _ _ _ _
      | exact ih1 _ _ _ _ _ _
      | exact ih2 _ _ _ _ _ _
      | exact ih3 _ _ _ _ _ _
      | exact ih4 _ _ _ _ _ _
      | exact celluloidlaw06_awake.mono _
      | exact deflate_Run.mono _ _ _
      | exact LeO.none _
      | refine LeO.ite ?_ ?_
      | refine LeO.bind ?_ (fun _ => ?_)
    · intro y0 y1 y2 y3 y4 y5
      unfold celluloidlaw06_DeflateFinds.j3
      repeat' first
      | (with_reducible exact ih0 _ _ _ _)
      | (with_reducible exact ih1 _ _ _ _ _ _)
      | (with_reducible exact ih2 _ _ _ _ _ _)
      | (with_reducible exact ih3 _ _ _ _ _ _)
      | (with_reducible exact ih4 _ _ _ _ _ _)
      | (with_reducible exact celluloidlaw06_awake.mono _)
      | (with_reducible exact deflate_Run.mono _ _ _)
      | (with_reducible exact LeO.refl _)
      | (with_reducible exact LeO.none _)
      | (with_reducible refine LeO.ite ?_ ?_)
      | (with_reducible refine LeO.bind ?_ (fun _ => ?_))
      | exact ih0 _ _ _ _
      | exact ih1 _ _ _ _ _ _
      | exact ih2 _ _ _ _ _ _
      | exact ih3 _ _ _ _ _ _
      | exact ih4 _ _ _ _ _ _
      | exact celluloidlaw06_awake.mono _
      | exact deflate_Run.mono _ _ _
      | exact LeO.none _
      | refine LeO.ite ?_ ?_
      | refine LeO.bind ?_ (fun _ => ?_)
    · intro y0 y1 y2 y3 y4 y5
      unfold celluloidlaw06_DeflateFinds.l1
      repeat' first
      | (with_reducible exact ih0 _ _ _ _)
      | (with_reducible exact ih1 _ _ _ _ _ _)
      | (with_reducible exact ih2 _ _ _ _ _ _)
      | (with_reducible exact ih3 _ _ _ _ _ _)
      | (with_reducible exact ih4 _ _ _ _ _ _)
      | (with_reducible exact celluloidlaw06_awake.mono _)
      | (with_reducible exact deflate_Run.mono _ _ _)
      | (with_reducible exact LeO.refl _)
      | (with_reducible exact LeO.none _)
      | (with_reducible refine LeO.ite ?_ ?_)
      | (with_reducible refine LeO.bind ?_ (fun _ => ?_))
      | exact ih0 _ _ _ _
      | exact ih1 _ _ _ _ _ _
      | exact ih2 _ _ _ _ _ _
      | exact ih3 _ _ _ _ _ _
      | exact ih4 _ _ _ _ _ _
      | exact celluloidlaw06_awake.mono _
      | exact deflate_Run.mono _ _ _
      | exact LeO.none _
      | refine LeO.ite ?_ ?_
      | refine LeO.bind ?_ (fun _ => ?_)
theorem celluloidlaw06_DeflateFinds.mono : ∀ a0 a1 a2 k, LeO (celluloidlaw06_DeflateFinds.f k a0 a1 a2) (celluloidlaw06_DeflateFinds.f (k + 1) a0 a1 a2) := by
  intro a0 a1 a2 k
  obtain ⟨ih0, ih1, ih2, ih3, ih4⟩ := celluloidlaw06_DeflateFinds.mono_l k
  unfold celluloidlaw06_DeflateFinds.f
  repeat' first
      | (with_reducible exact ih0 _ _ _ _)
      | (with_reducible exact ih1 _ _ _ _ _ _)
      | (with_reducible exact ih2 _ _ _ _ _ _)
      | (with_reducible exact ih3 _ _ _ _ _ _)
      | (with_reducible exact ih4 _ _ _ _ _ _)
      | (with_reducible exact celluloidlaw06_awake.mono _)
      | (with_reducible exact deflate_Run.mono _ _ _)
      | (with_reducible exact LeO.refl _)
      | (with_reducible exact LeO.none _)
      | (with_reducible refine LeO.ite ?_ ?_)
      | (with_reducible refine LeO.bind ?_ (fun _ => ?_))
      | exact ih0 _ _ _ _
      | exact ih1 _ _ _ _ _ _
      | exact ih2 _ _ _ _ _ _
      | exact ih3 _ _ _ _ _ _
      | exact ih4 _ _ _ _ _ _
      | exact celluloidlaw06_awake.mono _
      | exact deflate_Run.mono _ _ _
      | exact LeO.none _
      | refine LeO.ite ?_ ?_
      | refine LeO.bind ?_ (fun _ => ?_)
theorem celluloidlaw06_DeflateFinds.j1_dead (k : Nat) : ∀ y0 y1 y2 y3 y4, celluloidlaw06_DeflateFinds.j1 k y0 y1 y2 y3 y4 true ≠ some true := by
  cases k <;> intros <;> simp [celluloidlaw06_DeflateFinds.j1]
set_option maxHeartbeats 8000000 in
set_option maxRecDepth 100000 in
theorem celluloidlaw06_DeflateFinds.calls (k : Nat) (a0 : ByteArray) (a1 : Int) (a2 : Int) (r : Bool) (w : World) (h : celluloidlaw06_DeflateFinds.f k a0 a1 a2 = some r) (hr_ : Aside0 (r = true)) :
    Calls Try.prog 9 #[.string a0, .int .i64 a1, .int .i64 a2] w fun e w' => e = .returned (.bool r) ∧ Below w.heap.size w w' := by
  have HB := Aside0.mk (Below.refl w.heap.size w)
  have H : (if (a0.size : Int) > 512 then (celluloidlaw06_DeflateFinds.j0 k a0 a1 a2 true) else (if a1 < 0 then (celluloidlaw06_DeflateFinds.j0 k a0 a1 a2 true) else (celluloidlaw06_DeflateFinds.j0 k a0 a1 a2 (decide (a1 ≥ (a0.size : Int)))))) = some r := h
  clear h
  have HC4 := Aside0.mk H
  clear H
  go_enter Try.func9, Try.ntmps9
  go_upto_region 1 with (fail)
  repeat (go_quiet (fail); go_upto_region 1 with (fail))
  go_cut [23] (fun v23 wc => ∃ (kq : Nat) (x23_3 : Bool), v23 = .bool x23_3 ∧ Aside0 (celluloidlaw06_DeflateFinds.j0 kq a0 a1 a2 x23_3 = some r) ∧ Aside0 (kq ≤ k) ∧ Aside0 (Below w.heap.size w wc))
  case first =>
    have H := HC4.out
    clear HC4
    by_cases c5 : (a0.size : Int) > 512
    · rw [if_pos c5] at H
      have c5b0 : decide (512 < (a0.size : Int)) = true := decide_eq_true c5
      have c5b1 : decide (512 < a0.size) = true := decide_eq_true (by omega)
      clear c5
      (first | rw [c5b0] | (simp only [i64_w, i32_w]; rw [c5b0]) | skip)
      have H' := Aside0.mk H
      clear H
      go_wp2
      repeat (go_quiet (fail); try go_wp2)
      go_meet
      case rel => exact ⟨_, (true), (by first | rfl | (simp; done) | (simp [*]; done)), H', ⟨by first | omega | exact Nat.le_refl _⟩, ⟨by repeat (first | (with_reducible first | exact HB.out | apply below_alloc | apply pw_below_drewN | apply below_drew1) | exact HB.out)⟩⟩
    · rw [if_neg c5] at H
      have c5b0 : decide (512 < (a0.size : Int)) = false := decide_eq_false c5
      have c5b1 : decide (512 < a0.size) = false := decide_eq_false (by omega)
      clear c5
      (first | rw [c5b0] | (simp only [i64_w, i32_w]; rw [c5b0]) | skip)
      by_cases c6 : a1 < 0
      · rw [if_pos c6] at H
        have c6b0 : decide (a1 < 0) = true := decide_eq_true c6
        clear c6
        have H' := Aside0.mk H
        clear H
        go_wp2
        repeat (go_quiet (fail); try go_wp2)
        go_meet
        case rel => exact ⟨_, (true), (by first | rfl | (simp; done) | (simp [*]; done)), H', ⟨by first | omega | exact Nat.le_refl _⟩, ⟨by repeat (first | (with_reducible first | exact HB.out | apply below_alloc | apply pw_below_drewN | apply below_drew1) | exact HB.out)⟩⟩
      · rw [if_neg c6] at H
        have c6b0 : decide (a1 < 0) = false := decide_eq_false c6
        clear c6
        have H' := Aside0.mk H
        clear H
        go_wp2
        repeat (go_quiet (fail); try go_wp2)
        go_meet
        case rel => exact ⟨_, (decide (a1 ≥ (a0.size : Int))), (by first | rfl | (simp; done) | (simp [*]; done)), H', ⟨by first | omega | exact Nat.le_refl _⟩, ⟨by repeat (first | (with_reducible first | exact HB.out | apply below_alloc | apply pw_below_drewN | apply below_drew1) | exact HB.out)⟩⟩
  case rest =>
    clear HC4
    try clear p2
    try clear c5
    try clear c5b0
    try clear c5b1
    try clear c6
    try clear c6b0
    obtain ⟨kq, x23_3, rfl, HA, HJ3, HB⟩ := hcut
    cases kq with
    | zero => exact absurd HA.out (by simp [celluloidlaw06_DeflateFinds.j0])
    | succ kj3 =>
      have H := HA.out
      clear HA
      simp only [celluloidlaw06_DeflateFinds.j0] at H
      by_cases c7 : x23_3 = true
      · subst c7
        have H1 : ((celluloidlaw06_awake.f kj3).bind fun t134 => (some t134)) = some r := by rw [if_pos rfl] at H; exact H
        clear H
        have H := H1
        clear H1
        replace H := Option.bind_eq_some_iff.mp H
        obtain ⟨t134, A80, H⟩ := H
        replace H : (some t134) = some r := H
        have A8 := Aside0.mk A80
        clear A80
        first
        | exact absurd (Option.some.inj H) (by rw [hr_.out]; decide)
        | obtain rfl := Option.some.inj H
          go_wp2_with (first | (go_at_call 36; (with_reducible refine (celluloidlaw06_awake.calls kj3  t134 _ A8.out).mono ?_); rintro e w9 ⟨rfl, hb⟩; have n0_ := Aside0.mk (below_step (by repeat (first | (with_reducible first | exact HB.out | apply below_alloc | apply pw_below_drewN | apply below_drew1) | exact HB.out)) hb); clear HB; have HB := n0_; clear n0_; (try clear hb); (try clear hb2); (try clear hk); (try clear hi)))
          repeat (go_quiet (first | (go_at_call 36; (with_reducible refine (celluloidlaw06_awake.calls kj3  t134 _ A8.out).mono ?_); rintro e w9 ⟨rfl, hb⟩; have n0_ := Aside0.mk (below_step (by repeat (first | (with_reducible first | exact HB.out | apply below_alloc | apply pw_below_drewN | apply below_drew1) | exact HB.out)) hb); clear HB; have HB := n0_; clear n0_; (try clear hb); (try clear hb2); (try clear hk); (try clear hi))); try go_wp2_with (first | (go_at_call 36; (with_reducible refine (celluloidlaw06_awake.calls kj3  t134 _ A8.out).mono ?_); rintro e w9 ⟨rfl, hb⟩; have n0_ := Aside0.mk (below_step (by repeat (first | (with_reducible first | exact HB.out | apply below_alloc | apply pw_below_drewN | apply below_drew1) | exact HB.out)) hb); clear HB; have HB := n0_; clear n0_; (try clear hb); (try clear hb2); (try clear hk); (try clear hi))))
          go_ret
          exact ⟨by first | rfl | (simp [errW_none, errW_some] <;> rfl) | (simp [*, errW_none, errW_some] <;> rfl), by repeat (first | (with_reducible first | exact HB.out | apply below_alloc | apply pw_below_drewN | apply below_drew1) | exact HB.out)⟩
      · replace c7 := Bool.eq_false_iff.mpr c7
        subst c7
        have H1 : ((deflate_Run.f kj3 a0 a1).bind fun bt135 => (if bt135.1 = 0 then (celluloidlaw06_DeflateFinds.j1 kj3 a0 a1 a2 bt135.1 bt135.2 (bt135.2 != 0)) else (if bt135.1 < 3 then (celluloidlaw06_DeflateFinds.j1 kj3 a0 a1 a2 bt135.1 bt135.2 true) else (if bt135.1 > 258 then (celluloidlaw06_DeflateFinds.j1 kj3 a0 a1 a2 bt135.1 bt135.2 true) else (if bt135.2 < 1 then (celluloidlaw06_DeflateFinds.j1 kj3 a0 a1 a2 bt135.1 bt135.2 true) else (if bt135.2 > a1 then (celluloidlaw06_DeflateFinds.j1 kj3 a0 a1 a2 bt135.1 bt135.2 true) else (if (wrap64 (a1 + bt135.1)) > (a0.size : Int) then (celluloidlaw06_DeflateFinds.j1 kj3 a0 a1 a2 bt135.1 bt135.2 true) else (celluloidlaw06_DeflateFinds.j1 kj3 a0 a1 a2 bt135.1 bt135.2 false)))))))) = some r := by rw [if_neg (show ¬ (false = true) by decide)] at H; exact H
        clear H
        have H := H1
        clear H1
        replace H := Option.bind_eq_some_iff.mp H
        obtain ⟨⟨t135, t136⟩, A100, H⟩ := H
        replace H : (if t135 = 0 then (celluloidlaw06_DeflateFinds.j1 kj3 a0 a1 a2 t135 t136 (t136 != 0)) else (if t135 < 3 then (celluloidlaw06_DeflateFinds.j1 kj3 a0 a1 a2 t135 t136 true) else (if t135 > 258 then (celluloidlaw06_DeflateFinds.j1 kj3 a0 a1 a2 t135 t136 true) else (if t136 < 1 then (celluloidlaw06_DeflateFinds.j1 kj3 a0 a1 a2 t135 t136 true) else (if t136 > a1 then (celluloidlaw06_DeflateFinds.j1 kj3 a0 a1 a2 t135 t136 true) else (if (wrap64 (a1 + t135)) > (a0.size : Int) then (celluloidlaw06_DeflateFinds.j1 kj3 a0 a1 a2 t135 t136 true) else (celluloidlaw06_DeflateFinds.j1 kj3 a0 a1 a2 t135 t136 false))))))) = some r := H
        have A10 := Aside0.mk A100
        clear A100
        have HC11 := Aside0.mk H
        clear H
        go_upto_region 4 with (first | (go_at_call 37; (with_reducible refine (deflate_Run.calls kj3 a0 a1 t135 t136 _ A10.out).mono ?_); rintro e w12 ⟨rfl, hb⟩; have n0_ := Aside0.mk (below_step (by repeat (first | (with_reducible first | exact HB.out | apply below_alloc | apply pw_below_drewN | apply below_drew1) | exact HB.out)) hb); clear HB; have HB := n0_; clear n0_; (try clear hb); (try clear hb2); (try clear hk); (try clear hi)))
        repeat (go_quiet (first | (go_at_call 37; (with_reducible refine (deflate_Run.calls kj3 a0 a1 t135 t136 _ A10.out).mono ?_); rintro e w12 ⟨rfl, hb⟩; have n0_ := Aside0.mk (below_step (by repeat (first | (with_reducible first | exact HB.out | apply below_alloc | apply pw_below_drewN | apply below_drew1) | exact HB.out)) hb); clear HB; have HB := n0_; clear n0_; (try clear hb); (try clear hb2); (try clear hk); (try clear hi))); go_upto_region 4 with (first | (go_at_call 37; (with_reducible refine (deflate_Run.calls kj3 a0 a1 t135 t136 _ A10.out).mono ?_); rintro e w12 ⟨rfl, hb⟩; have n0_ := Aside0.mk (below_step (by repeat (first | (with_reducible first | exact HB.out | apply below_alloc | apply pw_below_drewN | apply below_drew1) | exact HB.out)) hb); clear HB; have HB := n0_; clear n0_; (try clear hb); (try clear hb2); (try clear hk); (try clear hi))))
        (try simp only [Act.put, List.setIfInBounds_toArray, List.set_cons_zero, List.set_cons_succ])
        go_cut [65] (fun v65 wc => ∃ (kq : Nat) (x65_10 : Bool), v65 = .bool x65_10 ∧ Aside0 (celluloidlaw06_DeflateFinds.j1 kq a0 a1 a2 t135 t136 x65_10 = some r) ∧ Aside0 (kq ≤ kj3) ∧ Aside0 (Below w.heap.size w wc))
        case first =>
          have H := HC11.out
          clear HC11
          by_cases c13 : t135 = 0
          · rw [if_pos c13] at H
            have c13b0 : (t135 == 0) = true := beq_iff_eq.mpr c13
            have c13b1 : (t135 != 0) = false := bne_eq_false_iff_eq.mpr c13
            clear c13
            (first | rw [c13b0] | (simp only [i64_w, i32_w]; rw [c13b0]) | skip)
            have H' := Aside0.mk H
            clear H
            go_wp2
            repeat (go_quiet (fail); try go_wp2)
            go_meet
            case rel => exact ⟨_, ((t136 != 0)), (by first | rfl | (simp; done) | (simp [*]; done)), H', ⟨by have := HJ3.out; first | omega | exact Nat.le_refl _⟩, ⟨by repeat (first | (with_reducible first | exact HB.out | apply below_alloc | apply pw_below_drewN | apply below_drew1) | exact HB.out)⟩⟩
          · rw [if_neg c13] at H
            have c13b0 : (t135 == 0) = false := beq_eq_false_iff_ne.mpr c13
            have c13b1 : (t135 != 0) = true := bne_iff_ne.mpr c13
            (first | rw [c13b0] | (simp only [i64_w, i32_w]; rw [c13b0]) | skip)
            by_cases c14 : t135 < 3
            · rw [if_pos c14] at H
              have c14b0 : decide (t135 < 3) = true := decide_eq_true c14
              clear c14
              exact absurd (H.trans (congrArg some hr_.out)) (celluloidlaw06_DeflateFinds.j1_dead _ _ _ _ _ _)
            · rw [if_neg c14] at H
              have c14b0 : decide (t135 < 3) = false := decide_eq_false c14
              clear c14
              by_cases c15 : t135 > 258
              · rw [if_pos c15] at H
                have c15b0 : decide (258 < t135) = true := decide_eq_true c15
                clear c15
                exact absurd (H.trans (congrArg some hr_.out)) (celluloidlaw06_DeflateFinds.j1_dead _ _ _ _ _ _)
              · rw [if_neg c15] at H
                have c15b0 : decide (258 < t135) = false := decide_eq_false c15
                clear c15
                by_cases c16 : t136 < 1
                · rw [if_pos c16] at H
                  have c16b0 : decide (t136 < 1) = true := decide_eq_true c16
                  clear c16
                  exact absurd (H.trans (congrArg some hr_.out)) (celluloidlaw06_DeflateFinds.j1_dead _ _ _ _ _ _)
                · rw [if_neg c16] at H
                  have c16b0 : decide (t136 < 1) = false := decide_eq_false c16
                  clear c16
                  by_cases c17 : t136 > a1
                  · rw [if_pos c17] at H
                    have c17b0 : decide (a1 < t136) = true := decide_eq_true c17
                    clear c17
                    exact absurd (H.trans (congrArg some hr_.out)) (celluloidlaw06_DeflateFinds.j1_dead _ _ _ _ _ _)
                  · rw [if_neg c17] at H
                    have c17b0 : decide (a1 < t136) = false := decide_eq_false c17
                    clear c17
                    by_cases c18 : (wrap64 (a1 + t135)) > (a0.size : Int)
                    · rw [if_pos c18] at H
                      have c18b0 : decide ((a0.size : Int) < (wrap64 (a1 + t135))) = true := decide_eq_true c18
                      clear c18
                      exact absurd (H.trans (congrArg some hr_.out)) (celluloidlaw06_DeflateFinds.j1_dead _ _ _ _ _ _)
                    · rw [if_neg c18] at H
                      have c18b0 : decide ((a0.size : Int) < (wrap64 (a1 + t135))) = false := decide_eq_false c18
                      clear c18
                      have H' := Aside0.mk H
                      clear H
                      go_wp2
                      repeat (go_quiet (fail); try go_wp2)
                      go_meet
                      case rel => exact ⟨_, (false), (by first | rfl | (simp; done) | (simp [*]; done)), H', ⟨by have := HJ3.out; first | omega | exact Nat.le_refl _⟩, ⟨by repeat (first | (with_reducible first | exact HB.out | apply below_alloc | apply pw_below_drewN | apply below_drew1) | exact HB.out)⟩⟩
        case rest =>
          clear HC11
          try clear c1
          try clear p2
          try clear c5
          try clear c5b0
          try clear c5b1
          try clear c6
          try clear c6b0
          try clear p6
          try clear c7
          try clear c9
          try clear c13
          try clear c13b0
          try clear c13b1
          try clear c14
          try clear c14b0
          try clear c15
          try clear c15b0
          try clear c16
          try clear c16b0
          try clear c17
          try clear c17b0
          try clear c18
          try clear c18b0
          try clear p2
          obtain ⟨kq, x65_10, rfl, HA, HJ10, HB⟩ := hcut
          cases kq with
          | zero => exact absurd HA.out (by simp [celluloidlaw06_DeflateFinds.j1])
          | succ kj10 =>
            have H := HA.out
            clear HA
            simp only [celluloidlaw06_DeflateFinds.j1] at H
            by_cases c19 : x65_10 = true
            · subst c19
              have H1 : (some false) = some r := by rw [if_pos rfl] at H; exact H
              clear H
              have H := H1
              clear H1
              first
              | exact absurd (Option.some.inj H) (by rw [hr_.out]; decide)
              | obtain rfl := Option.some.inj H
                go_wp2
                repeat (go_quiet (fail); try go_wp2)
                go_ret
                exact ⟨by first | rfl | (simp [errW_none, errW_some] <;> rfl) | (simp [*, errW_none, errW_some] <;> rfl), by repeat (first | (with_reducible first | exact HB.out | apply below_alloc | apply pw_below_drewN | apply below_drew1) | exact HB.out)⟩
            · replace c19 := Bool.eq_false_iff.mpr c19
              subst c19
              have H1 : (celluloidlaw06_DeflateFinds.l0 kj10 a0 a1 a2 t135 t136 0) = some r := by rw [if_neg (show ¬ (false = true) by decide)] at H; exact H
              clear H
              have H := H1
              clear H1
              have H' := Aside0.mk H
              clear H
              go_wp2
              repeat (go_quiet (fail); try go_wp2)
              go_loopg [9] kj10 (fun kq v9 w' => ∃ (x9_3 : Int), v9 = .int .i64 x9_3 ∧ Aside0 (celluloidlaw06_DeflateFinds.l0 kq a0 a1 a2 t135 t136 x9_3 = some r) ∧ Aside0 (kq ≤ kj10) ∧ Aside0 (Below w.heap.size w w'))
              case atStart => exact ⟨(0), (by first | rfl | (simp; done) | (simp [*]; done)), H', ⟨Nat.le_refl _⟩, ⟨by repeat (first | (with_reducible first | exact HB.out | apply below_alloc | apply pw_below_drewN | apply below_drew1) | exact HB.out)⟩⟩
              case round =>
                clear H'
                try clear c1
                try clear p2
                try clear c5
                try clear c5b0
                try clear c5b1
                try clear c6
                try clear c6b0
                try clear p6
                try clear c7
                try clear c9
                try clear c13
                try clear c13b0
                try clear c13b1
                try clear c14
                try clear c14b0
                try clear c15
                try clear c15b0
                try clear c16
                try clear c16b0
                try clear c17
                try clear c17b0
                try clear c18
                try clear c18b0
                try clear c19
                try clear p2
                try clear p6
                obtain ⟨x9_3, rfl, HA, HK3, HB⟩ := hrel
                cases gk with
                | zero => exact absurd HA.out (by simp [celluloidlaw06_DeflateFinds.l0])
                | succ k3 =>
                  have H := HA.out
                  clear HA
                  simp only [celluloidlaw06_DeflateFinds.l0] at H
                  by_cases c20 : x9_3 < t135
                  · rw [if_pos c20] at H
                    have c20b0 : decide (x9_3 < t135) = true := decide_eq_true c20
                    clear c20
                    obtain ⟨ji21, hji21⟩ : ∃ j_ : Int, (wrap64 (a1 + x9_3)) = j_ := ⟨_, rfl⟩
                    replace H : (if 0 ≤ (ji21) then (if (ji21) < (a0.size : Int) then (if 0 ≤ (wrap64 ((ji21) - t136)) then (if (wrap64 ((ji21) - t136)) < (a0.size : Int) then (if (bt a0 (ji21)) = (bt a0 (wrap64 ((ji21) - t136))) then (celluloidlaw06_DeflateFinds.l0 k3 a0 a1 a2 t135 t136 (wrap64 (x9_3 + 1))) else (some false)) else (none)) else (none)) else (none)) else (none)) = some r := by first | (rw [hji21] at H; exact H) | (simp only [hji21] at H ⊢; exact H)
                    have hji21w : (IntKind.i64.wrap (a1 + x9_3)) = ji21 := (i64_w _).trans hji21
                    by_cases c22 : 0 ≤ (ji21)
                    · rw [if_pos c22] at H
                      have c22b0 : decide (0 ≤ (ji21)) = true := decide_eq_true c22
                      clear c22
                      by_cases c23 : (ji21) < (a0.size : Int)
                      · rw [if_pos c23] at H
                        have c23b0 : decide ((ji21) < (a0.size : Int)) = true := decide_eq_true c23
                        clear c23
                        obtain ⟨ji25, hji25⟩ : ∃ j_ : Int, (wrap64 ((ji21) - t136)) = j_ := ⟨_, rfl⟩
                        replace H : (if 0 ≤ (ji25) then (if (ji25) < (a0.size : Int) then (if (bt a0 (ji21)) = (bt a0 (ji25)) then (celluloidlaw06_DeflateFinds.l0 k3 a0 a1 a2 t135 t136 (wrap64 (x9_3 + 1))) else (some false)) else (none)) else (none)) = some r := by first | (rw [hji25] at H; exact H) | (simp only [hji25] at H ⊢; exact H)
                        have hji25w : (IntKind.i64.wrap ((ji21) - t136)) = ji25 := (i64_w _).trans hji25
                        by_cases c26 : 0 ≤ (ji25)
                        · rw [if_pos c26] at H
                          have c26b0 : decide (0 ≤ (ji25)) = true := decide_eq_true c26
                          clear c26
                          by_cases c27 : (ji25) < (a0.size : Int)
                          · rw [if_pos c27] at H
                            have c27b0 : decide ((ji25) < (a0.size : Int)) = true := decide_eq_true c27
                            clear c27
                            by_cases c29 : (bt a0 (ji21)) = (bt a0 (ji25))
                            · rw [if_pos c29] at H
                              have c29b0 : ((bt a0 (ji21)) == (bt a0 (ji25))) = true := beq_iff_eq.mpr c29
                              have c29b1 : ((bt a0 (ji21)) != (bt a0 (ji25))) = false := bne_eq_false_iff_eq.mpr c29
                              clear c29
                              have H' := Aside0.mk H
                              clear H
                              have p24 : 0 ≤ ((ji21) : Int) := of_decide_eq_true (by first | (with_reducible assumption) | assumption)
                              have q24 : (ji21) < (a0.size : Int) := of_decide_eq_true (by first | (with_reducible assumption) | assumption)
                              have hx24 := bt_at a0 (ji21)
                              replace p24 := eq_true p24
                              replace q24 := eq_true q24
                              have p28 : 0 ≤ ((ji25) : Int) := of_decide_eq_true (by first | (with_reducible assumption) | assumption)
                              have q28 : (ji25) < (a0.size : Int) := of_decide_eq_true (by first | (with_reducible assumption) | assumption)
                              have hx28 := bt_at a0 (ji25)
                              replace p28 := eq_true p28
                              replace q28 := eq_true q28
                              go_wp2
                              repeat (go_quiet (fail); try go_wp2)
                              go_roundg k3
                              case measure => have := HJ3.out; have := HJ10.out; have := HK3.out; omega
                              case rel => exact ⟨(wrap64 (x9_3 + 1)), (by first | rfl | (simp; done) | (simp [*]; done)), H', ⟨by have := HJ3.out; have := HJ10.out; have := HK3.out; omega⟩, ⟨by repeat (first | (with_reducible first | exact HB.out | apply below_alloc | apply pw_below_drewN | apply below_drew1) | exact HB.out)⟩⟩
                            · rw [if_neg c29] at H
                              have c29b0 : ((bt a0 (ji21)) == (bt a0 (ji25))) = false := beq_eq_false_iff_ne.mpr c29
                              have c29b1 : ((bt a0 (ji21)) != (bt a0 (ji25))) = true := bne_iff_ne.mpr c29
                              first
                              | exact absurd (Option.some.inj H) (by rw [hr_.out]; decide)
                              | obtain rfl := Option.some.inj H
                                have p24 : 0 ≤ ((ji21) : Int) := of_decide_eq_true (by first | (with_reducible assumption) | assumption)
                                have q24 : (ji21) < (a0.size : Int) := of_decide_eq_true (by first | (with_reducible assumption) | assumption)
                                have hx24 := bt_at a0 (ji21)
                                replace p24 := eq_true p24
                                replace q24 := eq_true q24
                                have p28 : 0 ≤ ((ji25) : Int) := of_decide_eq_true (by first | (with_reducible assumption) | assumption)
                                have q28 : (ji25) < (a0.size : Int) := of_decide_eq_true (by first | (with_reducible assumption) | assumption)
                                have hx28 := bt_at a0 (ji25)
                                replace p28 := eq_true p28
                                replace q28 := eq_true q28
                                go_wp2
                                repeat (go_quiet (fail); try go_wp2)
                                go_ret
                                exact ⟨by first | rfl | (simp [errW_none, errW_some] <;> rfl) | (simp only [← hji21, ← hji25]; first | rfl | (simp [errW_none, errW_some] <;> rfl)) | (simp [*, errW_none, errW_some] <;> rfl), by repeat (first | (with_reducible first | exact HB.out | apply below_alloc | apply pw_below_drewN | apply below_drew1) | exact HB.out)⟩
                          · rw [if_neg c27] at H
                            exact absurd H (by simp)
                        · rw [if_neg c26] at H
                          exact absurd H (by simp)
                      · rw [if_neg c23] at H
                        exact absurd H (by simp)
                    · rw [if_neg c22] at H
                      exact absurd H (by simp)
                  · rw [if_neg c20] at H
                    have c20b0 : decide (x9_3 < t135) = false := decide_eq_false c20
                    clear c20
                    have HC30 := Aside0.mk H
                    clear H
                    go_upto_region 11 with (fail)
                    repeat (go_quiet (fail); go_upto_region 11 with (fail))
                    go_cut [90] (fun v90 wc => ∃ (kq : Nat) (x90_29 : Bool), v90 = .bool x90_29 ∧ Aside0 (celluloidlaw06_DeflateFinds.j3 kq a0 a1 a2 t135 t136 x90_29 = some r) ∧ Aside0 (kq ≤ k3) ∧ Aside0 (Below w.heap.size w wc))
                    case first =>
                      have H := HC30.out
                      clear HC30
                      by_cases c31 : a2 < 1
                      · rw [if_pos c31] at H
                        have c31b0 : decide (a2 < 1) = true := decide_eq_true c31
                        clear c31
                        (first | rw [c31b0] | (simp only [i64_w, i32_w]; rw [c31b0]) | skip)
                        have H' := Aside0.mk H
                        clear H
                        go_wp2
                        repeat (go_quiet (fail); try go_wp2)
                        go_meet
                        case rel => exact ⟨_, (true), (by first | rfl | (simp; done) | (simp [*]; done)), H', ⟨by have := HJ3.out; have := HJ10.out; have := HK3.out; first | omega | exact Nat.le_refl _⟩, ⟨by repeat (first | (with_reducible first | exact HB.out | apply below_alloc | apply pw_below_drewN | apply below_drew1) | exact HB.out)⟩⟩
                      · rw [if_neg c31] at H
                        have c31b0 : decide (a2 < 1) = false := decide_eq_false c31
                        clear c31
                        (first | rw [c31b0] | (simp only [i64_w, i32_w]; rw [c31b0]) | skip)
                        have H' := Aside0.mk H
                        clear H
                        go_wp2
                        repeat (go_quiet (fail); try go_wp2)
                        go_meet
                        case rel => exact ⟨_, (decide (a2 > a1)), (by first | rfl | (simp; done) | (simp [*]; done)), H', ⟨by have := HJ3.out; have := HJ10.out; have := HK3.out; first | omega | exact Nat.le_refl _⟩, ⟨by repeat (first | (with_reducible first | exact HB.out | apply below_alloc | apply pw_below_drewN | apply below_drew1) | exact HB.out)⟩⟩
                    case rest =>
                      clear HC30
                      try clear c1
                      try clear c2
                      try clear p2
                      try clear q2
                      try clear hx2
                      try clear c3
                      try clear c5
                      try clear c5b0
                      try clear c5b1
                      try clear c6
                      try clear c6b0
                      try clear p6
                      try clear c7
                      try clear c9
                      try clear c13
                      try clear c13b0
                      try clear c13b1
                      try clear c14
                      try clear c14b0
                      try clear c15
                      try clear c15b0
                      try clear c16
                      try clear c16b0
                      try clear c17
                      try clear c17b0
                      try clear c18
                      try clear c18b0
                      try clear c19
                      try clear c20
                      try clear c20b0
                      try clear c22
                      try clear c22b0
                      try clear c23
                      try clear c23b0
                      try clear p24
                      try clear q24
                      try clear hx24
                      try clear c26
                      try clear c26b0
                      try clear c27
                      try clear c27b0
                      try clear p28
                      try clear q28
                      try clear hx28
                      try clear c29
                      try clear c29b0
                      try clear c29b1
                      try clear c31
                      try clear c31b0
                      try clear p2
                      try clear p24
                      try clear p28
                      try clear p6
                      try clear q24
                      try clear q28
                      obtain ⟨kq, x90_29, rfl, HA, HJ29, HB⟩ := hcut
                      cases kq with
                      | zero => exact absurd HA.out (by simp [celluloidlaw06_DeflateFinds.j3])
                      | succ kj29 =>
                        have H := HA.out
                        clear HA
                        simp only [celluloidlaw06_DeflateFinds.j3] at H
                        by_cases c32 : x90_29 = true
                        · subst c32
                          have H1 : ((celluloidlaw06_awake.f kj29).bind fun t137 => (some t137)) = some r := by rw [if_pos rfl] at H; exact H
                          clear H
                          have H := H1
                          clear H1
                          replace H := Option.bind_eq_some_iff.mp H
                          obtain ⟨t137, A330, H⟩ := H
                          replace H : (some t137) = some r := H
                          have A33 := Aside0.mk A330
                          clear A330
                          first
                          | exact absurd (Option.some.inj H) (by rw [hr_.out]; decide)
                          | obtain rfl := Option.some.inj H
                            go_wp2_with (first | (go_at_call 36; (with_reducible refine (celluloidlaw06_awake.calls kj29  t137 _ A33.out).mono ?_); rintro e w34 ⟨rfl, hb⟩; have n0_ := Aside0.mk (below_step (by repeat (first | (with_reducible first | exact HB.out | apply below_alloc | apply pw_below_drewN | apply below_drew1) | exact HB.out)) hb); clear HB; have HB := n0_; clear n0_; (try clear hb); (try clear hb2); (try clear hk); (try clear hi)))
                            repeat (go_quiet (first | (go_at_call 36; (with_reducible refine (celluloidlaw06_awake.calls kj29  t137 _ A33.out).mono ?_); rintro e w34 ⟨rfl, hb⟩; have n0_ := Aside0.mk (below_step (by repeat (first | (with_reducible first | exact HB.out | apply below_alloc | apply pw_below_drewN | apply below_drew1) | exact HB.out)) hb); clear HB; have HB := n0_; clear n0_; (try clear hb); (try clear hb2); (try clear hk); (try clear hi))); try go_wp2_with (first | (go_at_call 36; (with_reducible refine (celluloidlaw06_awake.calls kj29  t137 _ A33.out).mono ?_); rintro e w34 ⟨rfl, hb⟩; have n0_ := Aside0.mk (below_step (by repeat (first | (with_reducible first | exact HB.out | apply below_alloc | apply pw_below_drewN | apply below_drew1) | exact HB.out)) hb); clear HB; have HB := n0_; clear n0_; (try clear hb); (try clear hb2); (try clear hk); (try clear hi))))
                            go_ret
                            exact ⟨by first | rfl | (simp [errW_none, errW_some] <;> rfl) | (simp [*, errW_none, errW_some] <;> rfl), by repeat (first | (with_reducible first | exact HB.out | apply below_alloc | apply pw_below_drewN | apply below_drew1) | exact HB.out)⟩
                        · replace c32 := Bool.eq_false_iff.mpr c32
                          subst c32
                          have H1 : (celluloidlaw06_DeflateFinds.l1 kj29 a0 a1 a2 t135 t136 0) = some r := by rw [if_neg (show ¬ (false = true) by decide)] at H; exact H
                          clear H
                          have H := H1
                          clear H1
                          have H' := Aside0.mk H
                          clear H
                          go_wp2
                          repeat (go_quiet (fail); try go_wp2)
                          go_loopg [10] kj29 (fun kq v10 w' => ∃ (x10_5 : Int), v10 = .int .i64 x10_5 ∧ Aside0 (celluloidlaw06_DeflateFinds.l1 kq a0 a1 a2 t135 t136 x10_5 = some r) ∧ Aside0 (kq ≤ kj29) ∧ Aside0 (Below w.heap.size w w'))
                          case atStart => exact ⟨(0), (by first | rfl | (simp; done) | (simp [*]; done)), H', ⟨Nat.le_refl _⟩, ⟨by repeat (first | (with_reducible first | exact HB.out | apply below_alloc | apply pw_below_drewN | apply below_drew1) | exact HB.out)⟩⟩
                          case round =>
                            clear H'
                            try clear c1
                            try clear c2
                            try clear p2
                            try clear q2
                            try clear hx2
                            try clear c3
                            try clear c5
                            try clear c5b0
                            try clear c5b1
                            try clear c6
                            try clear c6b0
                            try clear p6
                            try clear c7
                            try clear c9
                            try clear c13
                            try clear c13b0
                            try clear c13b1
                            try clear c14
                            try clear c14b0
                            try clear c15
                            try clear c15b0
                            try clear c16
                            try clear c16b0
                            try clear c17
                            try clear c17b0
                            try clear c18
                            try clear c18b0
                            try clear c19
                            try clear c20
                            try clear c20b0
                            try clear c22
                            try clear c22b0
                            try clear c23
                            try clear c23b0
                            try clear p24
                            try clear q24
                            try clear hx24
                            try clear c26
                            try clear c26b0
                            try clear c27
                            try clear c27b0
                            try clear p28
                            try clear q28
                            try clear hx28
                            try clear c29
                            try clear c29b0
                            try clear c29b1
                            try clear c31
                            try clear c31b0
                            try clear c32
                            try clear p2
                            try clear p24
                            try clear p28
                            try clear p6
                            try clear q2
                            try clear q24
                            try clear q28
                            obtain ⟨x10_5, rfl, HA, HK5, HB⟩ := hrel
                            cases gk with
                            | zero => exact absurd HA.out (by simp [celluloidlaw06_DeflateFinds.l1])
                            | succ k5 =>
                              have H := HA.out
                              clear HA
                              simp only [celluloidlaw06_DeflateFinds.l1] at H
                              by_cases c35 : x10_5 < 258
                              · rw [if_pos c35] at H
                                have c35b0 : decide (x10_5 < 258) = true := decide_eq_true c35
                                clear c35
                                by_cases c36 : (wrap64 (a1 + x10_5)) < (a0.size : Int)
                                · rw [if_pos c36] at H
                                  have c36b0 : decide ((wrap64 (a1 + x10_5)) < (a0.size : Int)) = true := decide_eq_true c36
                                  clear c36
                                  obtain ⟨ji37, hji37⟩ : ∃ j_ : Int, (wrap64 (a1 + x10_5)) = j_ := ⟨_, rfl⟩
                                  replace H : (if 0 ≤ (ji37) then (if 0 ≤ (wrap64 ((ji37) - a2)) then (if (wrap64 ((ji37) - a2)) < (a0.size : Int) then (if (bt a0 (ji37)) = (bt a0 (wrap64 ((ji37) - a2))) then (celluloidlaw06_DeflateFinds.l1 k5 a0 a1 a2 t135 t136 (wrap64 (x10_5 + 1))) else (if x10_5 < 3 then ((celluloidlaw06_awake.f k5).bind fun t138 => (some t138)) else (if x10_5 < t135 then ((celluloidlaw06_awake.f k5).bind fun t139 => (some t139)) else (if x10_5 = t135 then (if t136 ≤ a2 then ((celluloidlaw06_awake.f k5).bind fun t140 => (some t140)) else (some false)) else (some false))))) else (none)) else (none)) else (none)) = some r := by first | (rw [hji37] at H; exact H) | (simp only [hji37] at H ⊢; exact H)
                                  (try rw [hji37] at c36b0)
                                  have hji37w : (IntKind.i64.wrap (a1 + x10_5)) = ji37 := (i64_w _).trans hji37
                                  by_cases c38 : 0 ≤ (ji37)
                                  · rw [if_pos c38] at H
                                    have c38b0 : decide (0 ≤ (ji37)) = true := decide_eq_true c38
                                    clear c38
                                    obtain ⟨ji40, hji40⟩ : ∃ j_ : Int, (wrap64 ((ji37) - a2)) = j_ := ⟨_, rfl⟩
                                    replace H : (if 0 ≤ (ji40) then (if (ji40) < (a0.size : Int) then (if (bt a0 (ji37)) = (bt a0 (ji40)) then (celluloidlaw06_DeflateFinds.l1 k5 a0 a1 a2 t135 t136 (wrap64 (x10_5 + 1))) else (if x10_5 < 3 then ((celluloidlaw06_awake.f k5).bind fun t138 => (some t138)) else (if x10_5 < t135 then ((celluloidlaw06_awake.f k5).bind fun t139 => (some t139)) else (if x10_5 = t135 then (if t136 ≤ a2 then ((celluloidlaw06_awake.f k5).bind fun t140 => (some t140)) else (some false)) else (some false))))) else (none)) else (none)) = some r := by first | (rw [hji40] at H; exact H) | (simp only [hji40] at H ⊢; exact H)
                                    have hji40w : (IntKind.i64.wrap ((ji37) - a2)) = ji40 := (i64_w _).trans hji40
                                    by_cases c41 : 0 ≤ (ji40)
                                    · rw [if_pos c41] at H
                                      have c41b0 : decide (0 ≤ (ji40)) = true := decide_eq_true c41
                                      clear c41
                                      by_cases c42 : (ji40) < (a0.size : Int)
                                      · rw [if_pos c42] at H
                                        have c42b0 : decide ((ji40) < (a0.size : Int)) = true := decide_eq_true c42
                                        clear c42
                                        by_cases c44 : (bt a0 (ji37)) = (bt a0 (ji40))
                                        · rw [if_pos c44] at H
                                          have c44b0 : ((bt a0 (ji37)) == (bt a0 (ji40))) = true := beq_iff_eq.mpr c44
                                          have c44b1 : ((bt a0 (ji37)) != (bt a0 (ji40))) = false := bne_eq_false_iff_eq.mpr c44
                                          clear c44
                                          have H' := Aside0.mk H
                                          clear H
                                          have p39 : 0 ≤ ((ji37) : Int) := of_decide_eq_true (by first | (with_reducible assumption) | assumption)
                                          have q39 : (ji37) < (a0.size : Int) := of_decide_eq_true (by first | (with_reducible assumption) | assumption)
                                          have hx39 := bt_at a0 (ji37)
                                          replace p39 := eq_true p39
                                          replace q39 := eq_true q39
                                          have p43 : 0 ≤ ((ji40) : Int) := of_decide_eq_true (by first | (with_reducible assumption) | assumption)
                                          have q43 : (ji40) < (a0.size : Int) := of_decide_eq_true (by first | (with_reducible assumption) | assumption)
                                          have hx43 := bt_at a0 (ji40)
                                          replace p43 := eq_true p43
                                          replace q43 := eq_true q43
                                          go_wp2
                                          repeat (go_quiet (fail); try go_wp2)
                                          go_roundg k5
                                          case measure => have := HJ3.out; have := HJ10.out; have := HK3.out; have := HJ29.out; have := HK5.out; omega
                                          case rel => exact ⟨(wrap64 (x10_5 + 1)), (by first | rfl | (simp; done) | (simp [*]; done)), H', ⟨by have := HJ3.out; have := HJ10.out; have := HK3.out; have := HJ29.out; have := HK5.out; omega⟩, ⟨by repeat (first | (with_reducible first | exact HB.out | apply below_alloc | apply pw_below_drewN | apply below_drew1) | exact HB.out)⟩⟩
                                        · rw [if_neg c44] at H
                                          have c44b0 : ((bt a0 (ji37)) == (bt a0 (ji40))) = false := beq_eq_false_iff_ne.mpr c44
                                          have c44b1 : ((bt a0 (ji37)) != (bt a0 (ji40))) = true := bne_iff_ne.mpr c44
                                          by_cases c45 : x10_5 < 3
                                          · rw [if_pos c45] at H
                                            have c45b0 : decide (x10_5 < 3) = true := decide_eq_true c45
                                            clear c45
                                            replace H := Option.bind_eq_some_iff.mp H
                                            obtain ⟨t138, A460, H⟩ := H
                                            replace H : (some t138) = some r := H
                                            have A46 := Aside0.mk A460
                                            clear A460
                                            first
                                            | exact absurd (Option.some.inj H) (by rw [hr_.out]; decide)
                                            | obtain rfl := Option.some.inj H
                                              have p39 : 0 ≤ ((ji37) : Int) := of_decide_eq_true (by first | (with_reducible assumption) | assumption)
                                              have q39 : (ji37) < (a0.size : Int) := of_decide_eq_true (by first | (with_reducible assumption) | assumption)
                                              have hx39 := bt_at a0 (ji37)
                                              replace p39 := eq_true p39
                                              replace q39 := eq_true q39
                                              have p43 : 0 ≤ ((ji40) : Int) := of_decide_eq_true (by first | (with_reducible assumption) | assumption)
                                              have q43 : (ji40) < (a0.size : Int) := of_decide_eq_true (by first | (with_reducible assumption) | assumption)
                                              have hx43 := bt_at a0 (ji40)
                                              replace p43 := eq_true p43
                                              replace q43 := eq_true q43
                                              go_wp2_with (first | (go_at_call 36; (with_reducible refine (celluloidlaw06_awake.calls k5  t138 _ A46.out).mono ?_); rintro e w47 ⟨rfl, hb⟩; have n0_ := Aside0.mk (below_step (by repeat (first | (with_reducible first | exact HB.out | apply below_alloc | apply pw_below_drewN | apply below_drew1) | exact HB.out)) hb); clear HB; have HB := n0_; clear n0_; (try clear hb); (try clear hb2); (try clear hk); (try clear hi)))
                                              repeat (go_quiet (first | (go_at_call 36; (with_reducible refine (celluloidlaw06_awake.calls k5  t138 _ A46.out).mono ?_); rintro e w47 ⟨rfl, hb⟩; have n0_ := Aside0.mk (below_step (by repeat (first | (with_reducible first | exact HB.out | apply below_alloc | apply pw_below_drewN | apply below_drew1) | exact HB.out)) hb); clear HB; have HB := n0_; clear n0_; (try clear hb); (try clear hb2); (try clear hk); (try clear hi))); try go_wp2_with (first | (go_at_call 36; (with_reducible refine (celluloidlaw06_awake.calls k5  t138 _ A46.out).mono ?_); rintro e w47 ⟨rfl, hb⟩; have n0_ := Aside0.mk (below_step (by repeat (first | (with_reducible first | exact HB.out | apply below_alloc | apply pw_below_drewN | apply below_drew1) | exact HB.out)) hb); clear HB; have HB := n0_; clear n0_; (try clear hb); (try clear hb2); (try clear hk); (try clear hi))))
                                              go_ret
                                              exact ⟨by first | rfl | (simp [errW_none, errW_some] <;> rfl) | (simp only [← hji37, ← hji40]; first | rfl | (simp [errW_none, errW_some] <;> rfl)) | (simp [*, errW_none, errW_some] <;> rfl), by repeat (first | (with_reducible first | exact HB.out | apply below_alloc | apply pw_below_drewN | apply below_drew1) | exact HB.out)⟩
                                          · rw [if_neg c45] at H
                                            have c45b0 : decide (x10_5 < 3) = false := decide_eq_false c45
                                            clear c45
                                            by_cases c48 : x10_5 < t135
                                            · rw [if_pos c48] at H
                                              have c48b0 : decide (x10_5 < t135) = true := decide_eq_true c48
                                              clear c48
                                              replace H := Option.bind_eq_some_iff.mp H
                                              obtain ⟨t139, A490, H⟩ := H
                                              replace H : (some t139) = some r := H
                                              have A49 := Aside0.mk A490
                                              clear A490
                                              first
                                              | exact absurd (Option.some.inj H) (by rw [hr_.out]; decide)
                                              | obtain rfl := Option.some.inj H
                                                have p39 : 0 ≤ ((ji37) : Int) := of_decide_eq_true (by first | (with_reducible assumption) | assumption)
                                                have q39 : (ji37) < (a0.size : Int) := of_decide_eq_true (by first | (with_reducible assumption) | assumption)
                                                have hx39 := bt_at a0 (ji37)
                                                replace p39 := eq_true p39
                                                replace q39 := eq_true q39
                                                have p43 : 0 ≤ ((ji40) : Int) := of_decide_eq_true (by first | (with_reducible assumption) | assumption)
                                                have q43 : (ji40) < (a0.size : Int) := of_decide_eq_true (by first | (with_reducible assumption) | assumption)
                                                have hx43 := bt_at a0 (ji40)
                                                replace p43 := eq_true p43
                                                replace q43 := eq_true q43
                                                go_wp2_with (first | (go_at_call 36; (with_reducible refine (celluloidlaw06_awake.calls k5  t139 _ A49.out).mono ?_); rintro e w50 ⟨rfl, hb⟩; have n0_ := Aside0.mk (below_step (by repeat (first | (with_reducible first | exact HB.out | apply below_alloc | apply pw_below_drewN | apply below_drew1) | exact HB.out)) hb); clear HB; have HB := n0_; clear n0_; (try clear hb); (try clear hb2); (try clear hk); (try clear hi)))
                                                repeat (go_quiet (first | (go_at_call 36; (with_reducible refine (celluloidlaw06_awake.calls k5  t139 _ A49.out).mono ?_); rintro e w50 ⟨rfl, hb⟩; have n0_ := Aside0.mk (below_step (by repeat (first | (with_reducible first | exact HB.out | apply below_alloc | apply pw_below_drewN | apply below_drew1) | exact HB.out)) hb); clear HB; have HB := n0_; clear n0_; (try clear hb); (try clear hb2); (try clear hk); (try clear hi))); try go_wp2_with (first | (go_at_call 36; (with_reducible refine (celluloidlaw06_awake.calls k5  t139 _ A49.out).mono ?_); rintro e w50 ⟨rfl, hb⟩; have n0_ := Aside0.mk (below_step (by repeat (first | (with_reducible first | exact HB.out | apply below_alloc | apply pw_below_drewN | apply below_drew1) | exact HB.out)) hb); clear HB; have HB := n0_; clear n0_; (try clear hb); (try clear hb2); (try clear hk); (try clear hi))))
                                                go_ret
                                                exact ⟨by first | rfl | (simp [errW_none, errW_some] <;> rfl) | (simp only [← hji37, ← hji40]; first | rfl | (simp [errW_none, errW_some] <;> rfl)) | (simp [*, errW_none, errW_some] <;> rfl), by repeat (first | (with_reducible first | exact HB.out | apply below_alloc | apply pw_below_drewN | apply below_drew1) | exact HB.out)⟩
                                            · rw [if_neg c48] at H
                                              have c48b0 : decide (x10_5 < t135) = false := decide_eq_false c48
                                              clear c48
                                              by_cases c51 : x10_5 = t135
                                              · rw [if_pos c51] at H
                                                have c51b0 : (x10_5 == t135) = true := beq_iff_eq.mpr c51
                                                have c51b1 : (x10_5 != t135) = false := bne_eq_false_iff_eq.mpr c51
                                                clear c51
                                                by_cases c52 : t136 ≤ a2
                                                · rw [if_pos c52] at H
                                                  have c52b0 : decide (t136 ≤ a2) = true := decide_eq_true c52
                                                  clear c52
                                                  replace H := Option.bind_eq_some_iff.mp H
                                                  obtain ⟨t140, A530, H⟩ := H
                                                  replace H : (some t140) = some r := H
                                                  have A53 := Aside0.mk A530
                                                  clear A530
                                                  first
                                                  | exact absurd (Option.some.inj H) (by rw [hr_.out]; decide)
                                                  | obtain rfl := Option.some.inj H
                                                    have p39 : 0 ≤ ((ji37) : Int) := of_decide_eq_true (by first | (with_reducible assumption) | assumption)
                                                    have q39 : (ji37) < (a0.size : Int) := of_decide_eq_true (by first | (with_reducible assumption) | assumption)
                                                    have hx39 := bt_at a0 (ji37)
                                                    replace p39 := eq_true p39
                                                    replace q39 := eq_true q39
                                                    have p43 : 0 ≤ ((ji40) : Int) := of_decide_eq_true (by first | (with_reducible assumption) | assumption)
                                                    have q43 : (ji40) < (a0.size : Int) := of_decide_eq_true (by first | (with_reducible assumption) | assumption)
                                                    have hx43 := bt_at a0 (ji40)
                                                    replace p43 := eq_true p43
                                                    replace q43 := eq_true q43
                                                    go_wp2_with (first | (go_at_call 36; (with_reducible refine (celluloidlaw06_awake.calls k5  t140 _ A53.out).mono ?_); rintro e w54 ⟨rfl, hb⟩; have n0_ := Aside0.mk (below_step (by repeat (first | (with_reducible first | exact HB.out | apply below_alloc | apply pw_below_drewN | apply below_drew1) | exact HB.out)) hb); clear HB; have HB := n0_; clear n0_; (try clear hb); (try clear hb2); (try clear hk); (try clear hi)))
                                                    repeat (go_quiet (first | (go_at_call 36; (with_reducible refine (celluloidlaw06_awake.calls k5  t140 _ A53.out).mono ?_); rintro e w54 ⟨rfl, hb⟩; have n0_ := Aside0.mk (below_step (by repeat (first | (with_reducible first | exact HB.out | apply below_alloc | apply pw_below_drewN | apply below_drew1) | exact HB.out)) hb); clear HB; have HB := n0_; clear n0_; (try clear hb); (try clear hb2); (try clear hk); (try clear hi))); try go_wp2_with (first | (go_at_call 36; (with_reducible refine (celluloidlaw06_awake.calls k5  t140 _ A53.out).mono ?_); rintro e w54 ⟨rfl, hb⟩; have n0_ := Aside0.mk (below_step (by repeat (first | (with_reducible first | exact HB.out | apply below_alloc | apply pw_below_drewN | apply below_drew1) | exact HB.out)) hb); clear HB; have HB := n0_; clear n0_; (try clear hb); (try clear hb2); (try clear hk); (try clear hi))))
                                                    go_ret
                                                    exact ⟨by first | rfl | (simp [errW_none, errW_some] <;> rfl) | (simp only [← hji37, ← hji40]; first | rfl | (simp [errW_none, errW_some] <;> rfl)) | (simp [*, errW_none, errW_some] <;> rfl), by repeat (first | (with_reducible first | exact HB.out | apply below_alloc | apply pw_below_drewN | apply below_drew1) | exact HB.out)⟩
                                                · rw [if_neg c52] at H
                                                  have c52b0 : decide (t136 ≤ a2) = false := decide_eq_false c52
                                                  clear c52
                                                  first
                                                  | exact absurd (Option.some.inj H) (by rw [hr_.out]; decide)
                                                  | obtain rfl := Option.some.inj H
                                                    have p39 : 0 ≤ ((ji37) : Int) := of_decide_eq_true (by first | (with_reducible assumption) | assumption)
                                                    have q39 : (ji37) < (a0.size : Int) := of_decide_eq_true (by first | (with_reducible assumption) | assumption)
                                                    have hx39 := bt_at a0 (ji37)
                                                    replace p39 := eq_true p39
                                                    replace q39 := eq_true q39
                                                    have p43 : 0 ≤ ((ji40) : Int) := of_decide_eq_true (by first | (with_reducible assumption) | assumption)
                                                    have q43 : (ji40) < (a0.size : Int) := of_decide_eq_true (by first | (with_reducible assumption) | assumption)
                                                    have hx43 := bt_at a0 (ji40)
                                                    replace p43 := eq_true p43
                                                    replace q43 := eq_true q43
                                                    go_wp2
                                                    repeat (go_quiet (fail); try go_wp2)
                                                    go_ret
                                                    exact ⟨by first | rfl | (simp [errW_none, errW_some] <;> rfl) | (simp only [← hji37, ← hji40]; first | rfl | (simp [errW_none, errW_some] <;> rfl)) | (simp [*, errW_none, errW_some] <;> rfl), by repeat (first | (with_reducible first | exact HB.out | apply below_alloc | apply pw_below_drewN | apply below_drew1) | exact HB.out)⟩
                                              · rw [if_neg c51] at H
                                                have c51b0 : (x10_5 == t135) = false := beq_eq_false_iff_ne.mpr c51
                                                have c51b1 : (x10_5 != t135) = true := bne_iff_ne.mpr c51
                                                first
                                                | exact absurd (Option.some.inj H) (by rw [hr_.out]; decide)
                                                | obtain rfl := Option.some.inj H
                                                  have p39 : 0 ≤ ((ji37) : Int) := of_decide_eq_true (by first | (with_reducible assumption) | assumption)
                                                  have q39 : (ji37) < (a0.size : Int) := of_decide_eq_true (by first | (with_reducible assumption) | assumption)
                                                  have hx39 := bt_at a0 (ji37)
                                                  replace p39 := eq_true p39
                                                  replace q39 := eq_true q39
                                                  have p43 : 0 ≤ ((ji40) : Int) := of_decide_eq_true (by first | (with_reducible assumption) | assumption)
                                                  have q43 : (ji40) < (a0.size : Int) := of_decide_eq_true (by first | (with_reducible assumption) | assumption)
                                                  have hx43 := bt_at a0 (ji40)
                                                  replace p43 := eq_true p43
                                                  replace q43 := eq_true q43
                                                  go_wp2
                                                  repeat (go_quiet (fail); try go_wp2)
                                                  go_ret
                                                  exact ⟨by first | rfl | (simp [errW_none, errW_some] <;> rfl) | (simp only [← hji37, ← hji40]; first | rfl | (simp [errW_none, errW_some] <;> rfl)) | (simp [*, errW_none, errW_some] <;> rfl), by repeat (first | (with_reducible first | exact HB.out | apply below_alloc | apply pw_below_drewN | apply below_drew1) | exact HB.out)⟩
                                      · rw [if_neg c42] at H
                                        exact absurd H (by simp)
                                    · rw [if_neg c41] at H
                                      exact absurd H (by simp)
                                  · rw [if_neg c38] at H
                                    exact absurd H (by simp)
                                · rw [if_neg c36] at H
                                  have c36b0 : decide ((wrap64 (a1 + x10_5)) < (a0.size : Int)) = false := decide_eq_false c36
                                  clear c36
                                  by_cases c55 : x10_5 < 3
                                  · rw [if_pos c55] at H
                                    have c55b0 : decide (x10_5 < 3) = true := decide_eq_true c55
                                    clear c55
                                    replace H := Option.bind_eq_some_iff.mp H
                                    obtain ⟨t141, A560, H⟩ := H
                                    replace H : (some t141) = some r := H
                                    have A56 := Aside0.mk A560
                                    clear A560
                                    first
                                    | exact absurd (Option.some.inj H) (by rw [hr_.out]; decide)
                                    | obtain rfl := Option.some.inj H
                                      go_wp2_with (first | (go_at_call 36; (with_reducible refine (celluloidlaw06_awake.calls k5  t141 _ A56.out).mono ?_); rintro e w57 ⟨rfl, hb⟩; have n0_ := Aside0.mk (below_step (by repeat (first | (with_reducible first | exact HB.out | apply below_alloc | apply pw_below_drewN | apply below_drew1) | exact HB.out)) hb); clear HB; have HB := n0_; clear n0_; (try clear hb); (try clear hb2); (try clear hk); (try clear hi)))
                                      repeat (go_quiet (first | (go_at_call 36; (with_reducible refine (celluloidlaw06_awake.calls k5  t141 _ A56.out).mono ?_); rintro e w57 ⟨rfl, hb⟩; have n0_ := Aside0.mk (below_step (by repeat (first | (with_reducible first | exact HB.out | apply below_alloc | apply pw_below_drewN | apply below_drew1) | exact HB.out)) hb); clear HB; have HB := n0_; clear n0_; (try clear hb); (try clear hb2); (try clear hk); (try clear hi))); try go_wp2_with (first | (go_at_call 36; (with_reducible refine (celluloidlaw06_awake.calls k5  t141 _ A56.out).mono ?_); rintro e w57 ⟨rfl, hb⟩; have n0_ := Aside0.mk (below_step (by repeat (first | (with_reducible first | exact HB.out | apply below_alloc | apply pw_below_drewN | apply below_drew1) | exact HB.out)) hb); clear HB; have HB := n0_; clear n0_; (try clear hb); (try clear hb2); (try clear hk); (try clear hi))))
                                      go_ret
                                      exact ⟨by first | rfl | (simp [errW_none, errW_some] <;> rfl) | (simp [*, errW_none, errW_some] <;> rfl), by repeat (first | (with_reducible first | exact HB.out | apply below_alloc | apply pw_below_drewN | apply below_drew1) | exact HB.out)⟩
                                  · rw [if_neg c55] at H
                                    have c55b0 : decide (x10_5 < 3) = false := decide_eq_false c55
                                    clear c55
                                    by_cases c58 : x10_5 < t135
                                    · rw [if_pos c58] at H
                                      have c58b0 : decide (x10_5 < t135) = true := decide_eq_true c58
                                      clear c58
                                      replace H := Option.bind_eq_some_iff.mp H
                                      obtain ⟨t142, A590, H⟩ := H
                                      replace H : (some t142) = some r := H
                                      have A59 := Aside0.mk A590
                                      clear A590
                                      first
                                      | exact absurd (Option.some.inj H) (by rw [hr_.out]; decide)
                                      | obtain rfl := Option.some.inj H
                                        go_wp2_with (first | (go_at_call 36; (with_reducible refine (celluloidlaw06_awake.calls k5  t142 _ A59.out).mono ?_); rintro e w60 ⟨rfl, hb⟩; have n0_ := Aside0.mk (below_step (by repeat (first | (with_reducible first | exact HB.out | apply below_alloc | apply pw_below_drewN | apply below_drew1) | exact HB.out)) hb); clear HB; have HB := n0_; clear n0_; (try clear hb); (try clear hb2); (try clear hk); (try clear hi)))
                                        repeat (go_quiet (first | (go_at_call 36; (with_reducible refine (celluloidlaw06_awake.calls k5  t142 _ A59.out).mono ?_); rintro e w60 ⟨rfl, hb⟩; have n0_ := Aside0.mk (below_step (by repeat (first | (with_reducible first | exact HB.out | apply below_alloc | apply pw_below_drewN | apply below_drew1) | exact HB.out)) hb); clear HB; have HB := n0_; clear n0_; (try clear hb); (try clear hb2); (try clear hk); (try clear hi))); try go_wp2_with (first | (go_at_call 36; (with_reducible refine (celluloidlaw06_awake.calls k5  t142 _ A59.out).mono ?_); rintro e w60 ⟨rfl, hb⟩; have n0_ := Aside0.mk (below_step (by repeat (first | (with_reducible first | exact HB.out | apply below_alloc | apply pw_below_drewN | apply below_drew1) | exact HB.out)) hb); clear HB; have HB := n0_; clear n0_; (try clear hb); (try clear hb2); (try clear hk); (try clear hi))))
                                        go_ret
                                        exact ⟨by first | rfl | (simp [errW_none, errW_some] <;> rfl) | (simp [*, errW_none, errW_some] <;> rfl), by repeat (first | (with_reducible first | exact HB.out | apply below_alloc | apply pw_below_drewN | apply below_drew1) | exact HB.out)⟩
                                    · rw [if_neg c58] at H
                                      have c58b0 : decide (x10_5 < t135) = false := decide_eq_false c58
                                      clear c58
                                      by_cases c61 : x10_5 = t135
                                      · rw [if_pos c61] at H
                                        have c61b0 : (x10_5 == t135) = true := beq_iff_eq.mpr c61
                                        have c61b1 : (x10_5 != t135) = false := bne_eq_false_iff_eq.mpr c61
                                        clear c61
                                        by_cases c62 : t136 ≤ a2
                                        · rw [if_pos c62] at H
                                          have c62b0 : decide (t136 ≤ a2) = true := decide_eq_true c62
                                          clear c62
                                          replace H := Option.bind_eq_some_iff.mp H
                                          obtain ⟨t143, A630, H⟩ := H
                                          replace H : (some t143) = some r := H
                                          have A63 := Aside0.mk A630
                                          clear A630
                                          first
                                          | exact absurd (Option.some.inj H) (by rw [hr_.out]; decide)
                                          | obtain rfl := Option.some.inj H
                                            go_wp2_with (first | (go_at_call 36; (with_reducible refine (celluloidlaw06_awake.calls k5  t143 _ A63.out).mono ?_); rintro e w64 ⟨rfl, hb⟩; have n0_ := Aside0.mk (below_step (by repeat (first | (with_reducible first | exact HB.out | apply below_alloc | apply pw_below_drewN | apply below_drew1) | exact HB.out)) hb); clear HB; have HB := n0_; clear n0_; (try clear hb); (try clear hb2); (try clear hk); (try clear hi)))
                                            repeat (go_quiet (first | (go_at_call 36; (with_reducible refine (celluloidlaw06_awake.calls k5  t143 _ A63.out).mono ?_); rintro e w64 ⟨rfl, hb⟩; have n0_ := Aside0.mk (below_step (by repeat (first | (with_reducible first | exact HB.out | apply below_alloc | apply pw_below_drewN | apply below_drew1) | exact HB.out)) hb); clear HB; have HB := n0_; clear n0_; (try clear hb); (try clear hb2); (try clear hk); (try clear hi))); try go_wp2_with (first | (go_at_call 36; (with_reducible refine (celluloidlaw06_awake.calls k5  t143 _ A63.out).mono ?_); rintro e w64 ⟨rfl, hb⟩; have n0_ := Aside0.mk (below_step (by repeat (first | (with_reducible first | exact HB.out | apply below_alloc | apply pw_below_drewN | apply below_drew1) | exact HB.out)) hb); clear HB; have HB := n0_; clear n0_; (try clear hb); (try clear hb2); (try clear hk); (try clear hi))))
                                            go_ret
                                            exact ⟨by first | rfl | (simp [errW_none, errW_some] <;> rfl) | (simp [*, errW_none, errW_some] <;> rfl), by repeat (first | (with_reducible first | exact HB.out | apply below_alloc | apply pw_below_drewN | apply below_drew1) | exact HB.out)⟩
                                        · rw [if_neg c62] at H
                                          have c62b0 : decide (t136 ≤ a2) = false := decide_eq_false c62
                                          clear c62
                                          first
                                          | exact absurd (Option.some.inj H) (by rw [hr_.out]; decide)
                                          | obtain rfl := Option.some.inj H
                                            go_wp2
                                            repeat (go_quiet (fail); try go_wp2)
                                            go_ret
                                            exact ⟨by first | rfl | (simp [errW_none, errW_some] <;> rfl) | (simp [*, errW_none, errW_some] <;> rfl), by repeat (first | (with_reducible first | exact HB.out | apply below_alloc | apply pw_below_drewN | apply below_drew1) | exact HB.out)⟩
                                      · rw [if_neg c61] at H
                                        have c61b0 : (x10_5 == t135) = false := beq_eq_false_iff_ne.mpr c61
                                        have c61b1 : (x10_5 != t135) = true := bne_iff_ne.mpr c61
                                        first
                                        | exact absurd (Option.some.inj H) (by rw [hr_.out]; decide)
                                        | obtain rfl := Option.some.inj H
                                          go_wp2
                                          repeat (go_quiet (fail); try go_wp2)
                                          go_ret
                                          exact ⟨by first | rfl | (simp [errW_none, errW_some] <;> rfl) | (simp [*, errW_none, errW_some] <;> rfl), by repeat (first | (with_reducible first | exact HB.out | apply below_alloc | apply pw_below_drewN | apply below_drew1) | exact HB.out)⟩
                              · rw [if_neg c35] at H
                                have c35b0 : decide (x10_5 < 258) = false := decide_eq_false c35
                                clear c35
                                by_cases c65 : x10_5 < 3
                                · rw [if_pos c65] at H
                                  have c65b0 : decide (x10_5 < 3) = true := decide_eq_true c65
                                  clear c65
                                  replace H := Option.bind_eq_some_iff.mp H
                                  obtain ⟨t144, A660, H⟩ := H
                                  replace H : (some t144) = some r := H
                                  have A66 := Aside0.mk A660
                                  clear A660
                                  first
                                  | exact absurd (Option.some.inj H) (by rw [hr_.out]; decide)
                                  | obtain rfl := Option.some.inj H
                                    go_wp2_with (first | (go_at_call 36; (with_reducible refine (celluloidlaw06_awake.calls k5  t144 _ A66.out).mono ?_); rintro e w67 ⟨rfl, hb⟩; have n0_ := Aside0.mk (below_step (by repeat (first | (with_reducible first | exact HB.out | apply below_alloc | apply pw_below_drewN | apply below_drew1) | exact HB.out)) hb); clear HB; have HB := n0_; clear n0_; (try clear hb); (try clear hb2); (try clear hk); (try clear hi)))
                                    repeat (go_quiet (first | (go_at_call 36; (with_reducible refine (celluloidlaw06_awake.calls k5  t144 _ A66.out).mono ?_); rintro e w67 ⟨rfl, hb⟩; have n0_ := Aside0.mk (below_step (by repeat (first | (with_reducible first | exact HB.out | apply below_alloc | apply pw_below_drewN | apply below_drew1) | exact HB.out)) hb); clear HB; have HB := n0_; clear n0_; (try clear hb); (try clear hb2); (try clear hk); (try clear hi))); try go_wp2_with (first | (go_at_call 36; (with_reducible refine (celluloidlaw06_awake.calls k5  t144 _ A66.out).mono ?_); rintro e w67 ⟨rfl, hb⟩; have n0_ := Aside0.mk (below_step (by repeat (first | (with_reducible first | exact HB.out | apply below_alloc | apply pw_below_drewN | apply below_drew1) | exact HB.out)) hb); clear HB; have HB := n0_; clear n0_; (try clear hb); (try clear hb2); (try clear hk); (try clear hi))))
                                    go_ret
                                    exact ⟨by first | rfl | (simp [errW_none, errW_some] <;> rfl) | (simp [*, errW_none, errW_some] <;> rfl), by repeat (first | (with_reducible first | exact HB.out | apply below_alloc | apply pw_below_drewN | apply below_drew1) | exact HB.out)⟩
                                · rw [if_neg c65] at H
                                  have c65b0 : decide (x10_5 < 3) = false := decide_eq_false c65
                                  clear c65
                                  by_cases c68 : x10_5 < t135
                                  · rw [if_pos c68] at H
                                    have c68b0 : decide (x10_5 < t135) = true := decide_eq_true c68
                                    clear c68
                                    replace H := Option.bind_eq_some_iff.mp H
                                    obtain ⟨t145, A690, H⟩ := H
                                    replace H : (some t145) = some r := H
                                    have A69 := Aside0.mk A690
                                    clear A690
                                    first
                                    | exact absurd (Option.some.inj H) (by rw [hr_.out]; decide)
                                    | obtain rfl := Option.some.inj H
                                      go_wp2_with (first | (go_at_call 36; (with_reducible refine (celluloidlaw06_awake.calls k5  t145 _ A69.out).mono ?_); rintro e w70 ⟨rfl, hb⟩; have n0_ := Aside0.mk (below_step (by repeat (first | (with_reducible first | exact HB.out | apply below_alloc | apply pw_below_drewN | apply below_drew1) | exact HB.out)) hb); clear HB; have HB := n0_; clear n0_; (try clear hb); (try clear hb2); (try clear hk); (try clear hi)))
                                      repeat (go_quiet (first | (go_at_call 36; (with_reducible refine (celluloidlaw06_awake.calls k5  t145 _ A69.out).mono ?_); rintro e w70 ⟨rfl, hb⟩; have n0_ := Aside0.mk (below_step (by repeat (first | (with_reducible first | exact HB.out | apply below_alloc | apply pw_below_drewN | apply below_drew1) | exact HB.out)) hb); clear HB; have HB := n0_; clear n0_; (try clear hb); (try clear hb2); (try clear hk); (try clear hi))); try go_wp2_with (first | (go_at_call 36; (with_reducible refine (celluloidlaw06_awake.calls k5  t145 _ A69.out).mono ?_); rintro e w70 ⟨rfl, hb⟩; have n0_ := Aside0.mk (below_step (by repeat (first | (with_reducible first | exact HB.out | apply below_alloc | apply pw_below_drewN | apply below_drew1) | exact HB.out)) hb); clear HB; have HB := n0_; clear n0_; (try clear hb); (try clear hb2); (try clear hk); (try clear hi))))
                                      go_ret
                                      exact ⟨by first | rfl | (simp [errW_none, errW_some] <;> rfl) | (simp [*, errW_none, errW_some] <;> rfl), by repeat (first | (with_reducible first | exact HB.out | apply below_alloc | apply pw_below_drewN | apply below_drew1) | exact HB.out)⟩
                                  · rw [if_neg c68] at H
                                    have c68b0 : decide (x10_5 < t135) = false := decide_eq_false c68
                                    clear c68
                                    by_cases c71 : x10_5 = t135
                                    · rw [if_pos c71] at H
                                      have c71b0 : (x10_5 == t135) = true := beq_iff_eq.mpr c71
                                      have c71b1 : (x10_5 != t135) = false := bne_eq_false_iff_eq.mpr c71
                                      clear c71
                                      by_cases c72 : t136 ≤ a2
                                      · rw [if_pos c72] at H
                                        have c72b0 : decide (t136 ≤ a2) = true := decide_eq_true c72
                                        clear c72
                                        replace H := Option.bind_eq_some_iff.mp H
                                        obtain ⟨t146, A730, H⟩ := H
                                        replace H : (some t146) = some r := H
                                        have A73 := Aside0.mk A730
                                        clear A730
                                        first
                                        | exact absurd (Option.some.inj H) (by rw [hr_.out]; decide)
                                        | obtain rfl := Option.some.inj H
                                          go_wp2_with (first | (go_at_call 36; (with_reducible refine (celluloidlaw06_awake.calls k5  t146 _ A73.out).mono ?_); rintro e w74 ⟨rfl, hb⟩; have n0_ := Aside0.mk (below_step (by repeat (first | (with_reducible first | exact HB.out | apply below_alloc | apply pw_below_drewN | apply below_drew1) | exact HB.out)) hb); clear HB; have HB := n0_; clear n0_; (try clear hb); (try clear hb2); (try clear hk); (try clear hi)))
                                          repeat (go_quiet (first | (go_at_call 36; (with_reducible refine (celluloidlaw06_awake.calls k5  t146 _ A73.out).mono ?_); rintro e w74 ⟨rfl, hb⟩; have n0_ := Aside0.mk (below_step (by repeat (first | (with_reducible first | exact HB.out | apply below_alloc | apply pw_below_drewN | apply below_drew1) | exact HB.out)) hb); clear HB; have HB := n0_; clear n0_; (try clear hb); (try clear hb2); (try clear hk); (try clear hi))); try go_wp2_with (first | (go_at_call 36; (with_reducible refine (celluloidlaw06_awake.calls k5  t146 _ A73.out).mono ?_); rintro e w74 ⟨rfl, hb⟩; have n0_ := Aside0.mk (below_step (by repeat (first | (with_reducible first | exact HB.out | apply below_alloc | apply pw_below_drewN | apply below_drew1) | exact HB.out)) hb); clear HB; have HB := n0_; clear n0_; (try clear hb); (try clear hb2); (try clear hk); (try clear hi))))
                                          go_ret
                                          exact ⟨by first | rfl | (simp [errW_none, errW_some] <;> rfl) | (simp [*, errW_none, errW_some] <;> rfl), by repeat (first | (with_reducible first | exact HB.out | apply below_alloc | apply pw_below_drewN | apply below_drew1) | exact HB.out)⟩
                                      · rw [if_neg c72] at H
                                        have c72b0 : decide (t136 ≤ a2) = false := decide_eq_false c72
                                        clear c72
                                        first
                                        | exact absurd (Option.some.inj H) (by rw [hr_.out]; decide)
                                        | obtain rfl := Option.some.inj H
                                          go_wp2
                                          repeat (go_quiet (fail); try go_wp2)
                                          go_ret
                                          exact ⟨by first | rfl | (simp [errW_none, errW_some] <;> rfl) | (simp [*, errW_none, errW_some] <;> rfl), by repeat (first | (with_reducible first | exact HB.out | apply below_alloc | apply pw_below_drewN | apply below_drew1) | exact HB.out)⟩
                                    · rw [if_neg c71] at H
                                      have c71b0 : (x10_5 == t135) = false := beq_eq_false_iff_ne.mpr c71
                                      have c71b1 : (x10_5 != t135) = true := bne_iff_ne.mpr c71
                                      first
                                      | exact absurd (Option.some.inj H) (by rw [hr_.out]; decide)
                                      | obtain rfl := Option.some.inj H
                                        go_wp2
                                        repeat (go_quiet (fail); try go_wp2)
                                        go_ret
                                        exact ⟨by first | rfl | (simp [errW_none, errW_some] <;> rfl) | (simp [*, errW_none, errW_some] <;> rfl), by repeat (first | (with_reducible first | exact HB.out | apply below_alloc | apply pw_below_drewN | apply below_drew1) | exact HB.out)⟩
  
/-- THE ONE PURE STATEMENT of celluloidlaw06_DeflateFinds: yours. -/
def celluloidlaw06_DeflateFinds.Pure : Prop := ∀ (a0 : ByteArray) (a1 : Int) (a2 : Int), a0.size ≤ 140737488351232 → (Lit.int .i64 a1).wf = true → (Lit.int .i64 a2).wf = true → ∃ k, celluloidlaw06_DeflateFinds.f k a0 a1 a2 = some true
theorem celluloidlaw06_DeflateFinds.walk (P : celluloidlaw06_DeflateFinds.Pure) (a0 : ByteArray) (a1 : Int) (a2 : Int) (w : World) (w0 : a0.size ≤ 140737488351232) (w1 : (Lit.int .i64 a1).wf = true) (w2 : (Lit.int .i64 a2).wf = true) :
    Calls Try.prog 9 #[.string a0, .int .i64 a1, .int .i64 a2] w fun e w' => e = .returned (.bool true) ∧ Below w.heap.size w w' := by
  obtain ⟨k, h⟩ := P a0 a1 a2 w0 w1 w2
  refine (celluloidlaw06_DeflateFinds.calls k a0 a1 a2 true w h ⟨rfl⟩).mono ?_
  rintro e w' ⟨rfl, hd⟩
  exact ⟨rfl, hd⟩

end Go.Proofs.Ytpbhkdamkbopkaa.GRuns
