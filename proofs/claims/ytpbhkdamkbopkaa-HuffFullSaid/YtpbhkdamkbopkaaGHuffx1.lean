-- Written by a program of this session (wip/tools/print2.py) for this claim.
import Derived.Test.YtpbhkdamkbopkaaGHuffx0
namespace Go.Proofs.Ytpbhkdamkbopkaa.GHuff
open Go.RowKit Go.Proofs.YtpbhkdamkbopkaaW.PrintWords Go.Proofs.YtpbhkdamkbopkaaW.PrintLast Go.Proofs.YtpbhkdamkbopkaaW.PrintMore Go.Proofs.Ytpbhkdamkbopkaa.Ext Go.Proofs.Ytpbhkdamkbopkaa.ExtAwake
attribute [local go_sem] max2_int min2_int max_two min_two max_three min_three max_four min_four   -- for this text's walks alone
set_option linter.unusedVariables false
set_option linter.unusedSimpArgs false

-- NOT PRINTED: function 88 (slices_IndexFunc_int_int)

-- NOT PRINTED: function 59 (slices_ContainsFunc_int_int)

-- walked by hand: function 26 (huff_New)

-- walked by hand: function 27 (huff_Codes)

/-! ### huff_Bit: function 34 -/
def huff_Bit.f (a0 : ByteArray) (a1 : Int) : Option (Int × Bool) := if a1 < 0 then (some (0, false)) else (if a1 ≥ (wrap64 (8 * (a0.size : Int))) then (some (0, false)) else (if 0 ≤ (wrap64 (Int.tdiv a1 8)) then (if (wrap64 (Int.tdiv a1 8)) < (a0.size : Int) then (if 0 ≤ (Int.tmod a1 8) then (some (Go.bits .and .i64 (wrap64 (shr .u8 (bt a0 (wrap64 (Int.tdiv a1 8))) (Int.tmod a1 8))) 1, true)) else (none)) else (none)) else (none)))
set_option maxHeartbeats 8000000 in
set_option maxRecDepth 100000 in
theorem huff_Bit.calls (a0 : ByteArray) (a1 : Int) (r1 : Int) (r2 : Bool) (w : World) (h : huff_Bit.f a0 a1 = some (r1, r2)) :
    Calls Try.prog 34 #[.string a0, .int .i64 a1] w fun e w' => e = .returned (.tuple #[.int .i64 r1, .bool r2]) ∧ Drawn0 w w' := by
  have H : (if a1 < 0 then (some (0, false)) else (if a1 ≥ (wrap64 (8 * (a0.size : Int))) then (some (0, false)) else (if 0 ≤ (wrap64 (Int.tdiv a1 8)) then (if (wrap64 (Int.tdiv a1 8)) < (a0.size : Int) then (if 0 ≤ (Int.tmod a1 8) then (some (Go.bits .and .i64 (wrap64 (shr .u8 (bt a0 (wrap64 (Int.tdiv a1 8))) (Int.tmod a1 8))) 1, true)) else (none)) else (none)) else (none)))) = some (r1, r2) := h
  clear h
  by_cases c3 : a1 < 0
  · rw [if_pos c3] at H
    have c3b0 : decide (a1 < 0) = true := decide_eq_true c3
    clear c3
    simp only [Option.some.injEq, Prod.mk.injEq] at H
    obtain ⟨rfl, rfl⟩ := H
    go_enter Try.func34, Try.ntmps34
    go_wp2
    go_ret2
    exact ⟨by first | rfl | (simp; done) | (simp [*]; done), by repeat (first | exact Drawn0.refl _ | apply Drawn0.step)⟩
  · rw [if_neg c3] at H
    have c3b0 : decide (a1 < 0) = false := decide_eq_false c3
    clear c3
    by_cases c4 : a1 ≥ (wrap64 (8 * (a0.size : Int)))
    · rw [if_pos c4] at H
      have c4b0 : decide ((wrap64 (8 * (a0.size : Int))) ≤ a1) = true := decide_eq_true c4
      clear c4
      simp only [Option.some.injEq, Prod.mk.injEq] at H
      obtain ⟨rfl, rfl⟩ := H
      go_enter Try.func34, Try.ntmps34
      go_wp2
      go_ret2
      exact ⟨by first | rfl | (simp; done) | (simp [*]; done), by repeat (first | exact Drawn0.refl _ | apply Drawn0.step)⟩
    · rw [if_neg c4] at H
      have c4b0 : decide ((wrap64 (8 * (a0.size : Int))) ≤ a1) = false := decide_eq_false c4
      clear c4
      obtain ⟨ji5, hji5⟩ : ∃ j_ : Int, (wrap64 (Int.tdiv a1 8)) = j_ := ⟨_, rfl⟩
      replace H : (if 0 ≤ (ji5) then (if (ji5) < (a0.size : Int) then (if 0 ≤ (Int.tmod a1 8) then (some (Go.bits .and .i64 (wrap64 (shr .u8 (bt a0 (ji5)) (Int.tmod a1 8))) 1, true)) else (none)) else (none)) else (none)) = some (r1, r2) := by first | (rw [hji5] at H; exact H) | (simp only [hji5] at H ⊢; exact H)
      have hji5w : (IntKind.i64.wrap (Int.tdiv a1 8)) = ji5 := (i64_w _).trans hji5
      by_cases c6 : 0 ≤ (ji5)
      · rw [if_pos c6] at H
        have c6b0 : decide (0 ≤ (ji5)) = true := decide_eq_true c6
        clear c6
        by_cases c7 : (ji5) < (a0.size : Int)
        · rw [if_pos c7] at H
          have c7b0 : decide ((ji5) < (a0.size : Int)) = true := decide_eq_true c7
          clear c7
          obtain ⟨ji9, hji9⟩ : ∃ j_ : Int, (Int.tmod a1 8) = j_ := ⟨_, rfl⟩
          replace H : (if 0 ≤ (ji9) then (some (Go.bits .and .i64 (wrap64 (shr .u8 (bt a0 (ji5)) (ji9))) 1, true)) else (none)) = some (r1, r2) := by first | (rw [hji9] at H; exact H) | (simp only [hji9] at H ⊢; exact H)
          by_cases c10 : 0 ≤ (ji9)
          · rw [if_pos c10] at H
            have c10b0 := eq_true c10
            have c10b1 : decide (0 ≤ (ji9)) = true := decide_eq_true c10
            clear c10
            obtain ⟨ji11, hji11⟩ : ∃ j_ : Int, (shr .u8 (bt a0 (ji5)) (ji9)) = j_ := ⟨_, rfl⟩
            replace H : (some (Go.bits .and .i64 (wrap64 (ji11)) 1, true)) = some (r1, r2) := by first | (rw [hji11] at H; exact H) | (simp only [hji11] at H ⊢; exact H)
            have hji11_ : ((bt a0 (ji5)) / 2 ^ min (ji9).toNat 8) = ji11 := hji11
            have hji11z : (ji9) ≤ 8 → ((bt a0 (ji5)) / 2 ^ (ji9).toNat) = ji11 := shr_small hji11
            simp only [Option.some.injEq, Prod.mk.injEq] at H
            obtain ⟨rfl, rfl⟩ := H
            have p8 : 0 ≤ ((ji5) : Int) := of_decide_eq_true (by first | (with_reducible assumption) | assumption)
            have q8 : (ji5) < (a0.size : Int) := of_decide_eq_true (by first | (with_reducible assumption) | assumption)
            have hx8 := bt_at a0 (ji5)
            replace p8 := eq_true p8
            replace q8 := eq_true q8
            go_enter Try.func34, Try.ntmps34
            go_wp2
            go_ret2
            exact ⟨by first | rfl | (simp; done) | (simp only [← hji5, ← hji9, ← hji11] <;> (first | rfl | simp)) | (simp [*]; done), by repeat (first | exact Drawn0.refl _ | apply Drawn0.step)⟩
          · rw [if_neg c10] at H
            exact absurd H (by simp)
        · rw [if_neg c7] at H
          exact absurd H (by simp)
      · rw [if_neg c6] at H
        exact absurd H (by simp)

-- walked by hand: function 30 (huff_Next)

-- walked by hand: function 25 (celluloidlaw04_awake)

/-! ### celluloidref04_Error: function 28 -/
mutual
def celluloidref04_Error.l0 : Nat → List Int → Int → Int → Int → Int → Option (Int)
  | 0, _, _, _, _, _ => none
  | k + 1, x0, x3, x4, x5, x6 => if x6 < (x0.length : Int) then (if 0 ≤ x6 then (if (rd x0 x6) < 0 then (celluloidref04_Error.j1 k x0 x3 x4 x5 x6 true) else (celluloidref04_Error.j1 k x0 x3 x4 x5 x6 (decide ((rd x0 x6) > 15)))) else (none)) else (if x3 = 32768 then (some 0) else (if x4 = 0 then (some 0) else (if x4 = 1 then (if x5 = 1 then (some 0) else (some 4)) else (some 4))))
def celluloidref04_Error.j1 : Nat → List Int → Int → Int → Int → Int → Bool → Option (Int)
  | 0, _, _, _, _, _, _ => none
  | k + 1, x0, x3, x4, x5, x6, x29 => if x29 = true then (some 1) else (if 0 ≤ x6 then (if x6 < (x0.length : Int) then (if (rd x0 x6) > 0 then (celluloidref04_Error.l1 k x0 x3 (wrap64 (x4 + 1)) x5 x6 32768 0) else (if (rd x0 x6) = 1 then (celluloidref04_Error.l0 k x0 x3 x4 (wrap64 (x5 + 1)) (wrap64 (x6 + 1))) else (celluloidref04_Error.l0 k x0 x3 x4 x5 (wrap64 (x6 + 1))))) else (none)) else (none))
def celluloidref04_Error.l1 : Nat → List Int → Int → Int → Int → Int → Int → Int → Option (Int)
  | 0, _, _, _, _, _, _, _ => none
  | k + 1, x0, x3, x4, x5, x6, x7, x8 => if 0 ≤ x6 then (if x6 < (x0.length : Int) then (if x8 < (rd x0 x6) then (celluloidref04_Error.l1 k x0 x3 x4 x5 x6 (wrap64 (Int.tdiv x7 2)) (wrap64 (x8 + 1))) else (if (rd x0 x6) = 1 then (celluloidref04_Error.l0 k x0 (wrap64 (x3 + x7)) x4 (wrap64 (x5 + 1)) (wrap64 (x6 + 1))) else (celluloidref04_Error.l0 k x0 (wrap64 (x3 + x7)) x4 x5 (wrap64 (x6 + 1))))) else (none)) else (none)
end
def celluloidref04_Error.f (k : Nat) (l0 : List Int) : Option (Int) := if (l0.length : Int) > 320 then (some 1) else (celluloidref04_Error.l0 k l0 0 0 0 0)
theorem celluloidref04_Error.mono_l : ∀ k, (∀ y0 y1 y2 y3 y4, LeO (celluloidref04_Error.l0 k y0 y1 y2 y3 y4) (celluloidref04_Error.l0 (k + 1) y0 y1 y2 y3 y4)) ∧ (∀ y0 y1 y2 y3 y4 y5, LeO (celluloidref04_Error.j1 k y0 y1 y2 y3 y4 y5) (celluloidref04_Error.j1 (k + 1) y0 y1 y2 y3 y4 y5)) ∧ (∀ y0 y1 y2 y3 y4 y5 y6, LeO (celluloidref04_Error.l1 k y0 y1 y2 y3 y4 y5 y6) (celluloidref04_Error.l1 (k + 1) y0 y1 y2 y3 y4 y5 y6))
  | 0 => ⟨fun _ _ _ _ _ r h => by simp [celluloidref04_Error.l0] at h, fun _ _ _ _ _ _ r h => by simp [celluloidref04_Error.j1] at h, fun _ _ _ _ _ _ _ r h => by simp [celluloidref04_Error.l1] at h⟩
  | k + 1 => by
    obtain ⟨ih0, ih1, ih2⟩ := celluloidref04_Error.mono_l k
    refine ⟨?_, ?_, ?_⟩
    · intro y0 y1 y2 y3 y4
      unfold celluloidref04_Error.l0
      repeat' first
      | (with_reducible exact ih0 _ _ _ _ _)
      | (with_reducible exact ih1 _ _ _ _ _ _)
      | (with_reducible exact ih2 _ _ _ _ _ _ _)
      | (with_reducible exact LeO.refl _)
      | (with_reducible exact LeO.none _)
      | (with_reducible refine LeO.ite ?_ ?_)
      | (with_reducible refine LeO.bind ?_ (fun _ => ?_))
      | exact ih0 _ _ _ _ _
      | exact ih1 _ _ _ _ _ _
      | exact ih2 _ _ _ _ _ _ _
      | exact LeO.none _
      | refine LeO.ite ?_ ?_
      | refine LeO.bind ?_ (fun _ => ?_)
    · intro y0 y1 y2 y3 y4 y5
      unfold celluloidref04_Error.j1
      repeat' first
      | (with_reducible exact ih0 _ _ _ _ _)
      | (with_reducible exact ih1 _ _ _ _ _ _)
      | (with_reducible exact ih2 _ _ _ _ _ _ _)
      | (with_reducible exact LeO.refl _)
      | (with_reducible exact LeO.none _)
      | (with_reducible refine LeO.ite ?_ ?_)
      | (with_reducible refine LeO.bind ?_ (fun _ => ?_))
      | exact ih0 _ _ _ _ _
      | exact ih1 _ _ _ _ _ _
      | exact ih2 _ _ _ _ _ _ _
      | exact LeO.none _
      | refine LeO.ite ?_ ?_
      | refine LeO.bind ?_ (fun _ => ?_)
    · intro y0 y1 y2 y3 y4 y5 y6
      unfold celluloidref04_Error.l1
      repeat' first
      | (with_reducible exact ih0 _ _ _ _ _)
      | (with_reducible exact ih1 _ _ _ _ _ _)
      | (with_reducible exact ih2 _ _ _ _ _ _ _)
      | (with_reducible exact LeO.refl _)
      | (with_reducible exact LeO.none _)
      | (with_reducible refine LeO.ite ?_ ?_)
      | (with_reducible refine LeO.bind ?_ (fun _ => ?_))
      | exact ih0 _ _ _ _ _
      | exact ih1 _ _ _ _ _ _
      | exact ih2 _ _ _ _ _ _ _
      | exact LeO.none _
      | refine LeO.ite ?_ ?_
      | refine LeO.bind ?_ (fun _ => ?_)
theorem celluloidref04_Error.mono : ∀ a0 k, LeO (celluloidref04_Error.f k a0) (celluloidref04_Error.f (k + 1) a0) := by
  intro a0 k
  obtain ⟨ih0, ih1, ih2⟩ := celluloidref04_Error.mono_l k
  unfold celluloidref04_Error.f
  repeat' first
      | (with_reducible exact ih0 _ _ _ _ _)
      | (with_reducible exact ih1 _ _ _ _ _ _)
      | (with_reducible exact ih2 _ _ _ _ _ _ _)
      | (with_reducible exact LeO.refl _)
      | (with_reducible exact LeO.none _)
      | (with_reducible refine LeO.ite ?_ ?_)
      | (with_reducible refine LeO.bind ?_ (fun _ => ?_))
      | exact ih0 _ _ _ _ _
      | exact ih1 _ _ _ _ _ _
      | exact ih2 _ _ _ _ _ _ _
      | exact LeO.none _
      | refine LeO.ite ?_ ?_
      | refine LeO.bind ?_ (fun _ => ?_)
set_option maxHeartbeats 8000000 in
set_option maxRecDepth 100000 in
theorem celluloidref04_Error.calls (k : Nat) (A0 : Option Addr) (c0 : Nat) (l0 : List Int) (r : Int) (w : World) (hr0 : Kd.C (Kd.int .i64) w A0 l0.length l0) (hc0 : l0.length ≤ c0) (h : celluloidref04_Error.f k l0 = some r) :
    Calls Try.prog 28 #[.slice A0 l0.length c0] w fun e w' => e = .returned (.int .i64 r) ∧ Drawn0 w w' := by
  have HR0 := Aside0.mk hr0
  have HC0 := Aside0.mk hc0
  clear hr0 hc0
  have H : (if (l0.length : Int) > 320 then (some 1) else (celluloidref04_Error.l0 k l0 0 0 0 0)) = some r := h
  clear h
  by_cases c2 : (l0.length : Int) > 320
  · rw [if_pos c2] at H
    have c2b0 : decide (320 < (l0.length : Int)) = true := decide_eq_true c2
    have c2b1 : decide (320 < l0.length) = true := decide_eq_true (by omega)
    clear c2
    obtain rfl := Option.some.inj H
    go_enter Try.func28, Try.ntmps28
    go_wp2
    go_ret
    exact ⟨by first | rfl | (simp; done) | (simp [*]; done), by repeat (first | exact Drawn0.refl _ | apply Drawn0.step)⟩
  · rw [if_neg c2] at H
    have c2b0 : decide (320 < (l0.length : Int)) = false := decide_eq_false c2
    have c2b1 : decide (320 < l0.length) = false := decide_eq_false (by omega)
    clear c2
    have H' := Aside0.mk H
    clear H
    go_enter Try.func28, Try.ntmps28
    go_wp2
    go_loopg [3, 4, 5, 6] k (fun kq v3 v4 v5 v6 w' => ∃ (x3_1 : Int) (x4_1 : Int) (x5_1 : Int) (x6_1 : Int), v3 = .int .i64 x3_1 ∧ v4 = .int .i64 x4_1 ∧ v5 = .int .i64 x5_1 ∧ v6 = .int .i64 x6_1 ∧ Aside0 (celluloidref04_Error.l0 kq l0 x3_1 x4_1 x5_1 x6_1 = some r) ∧ Aside0 (kq ≤ k) ∧ Drawn0 w w')
    case atStart => exact ⟨(0), (0), (0), (0), (by first | rfl | (simp; done) | (simp [*]; done)), (by first | rfl | (simp; done) | (simp [*]; done)), (by first | rfl | (simp; done) | (simp [*]; done)), (by first | rfl | (simp; done) | (simp [*]; done)), H', ⟨Nat.le_refl _⟩, by repeat (first | exact Drawn0.refl _ | apply Drawn0.step)⟩
    case round =>
      clear H'
      try clear c2
      try clear c2b0
      try clear c2b1
      try clear p2
      obtain ⟨x3_1, x4_1, x5_1, x6_1, rfl, rfl, rfl, rfl, HA, HK1, ⟨m1, rfl⟩⟩ := hrel
      cases gk with
      | zero => exact absurd HA.out (by simp [celluloidref04_Error.l0])
      | succ k1 =>
        have H := HA.out
        clear HA
        simp only [celluloidref04_Error.l0] at H
        by_cases c3 : x6_1 < (l0.length : Int)
        · rw [if_pos c3] at H
          have c3b0 : decide (x6_1 < (l0.length : Int)) = true := decide_eq_true c3
          clear c3
          have HC4 := Aside0.mk H
          clear H
          go_upto_region 7 with (fail)
          go_cut [29] (fun v29 wc => ∃ (kq : Nat) (x29_3 : Bool), v29 = .bool x29_3 ∧ Aside0 (celluloidref04_Error.j1 kq l0 x3_1 x4_1 x5_1 x6_1 x29_3 = some r) ∧ Aside0 (kq ≤ k1) ∧ Drawn0 w wc)
          case first =>
            have H := HC4.out
            clear HC4
            by_cases c5 : 0 ≤ x6_1
            · rw [if_pos c5] at H
              have c5b0 : decide (0 ≤ x6_1) = true := decide_eq_true c5
              clear c5
              (first | rw [c5b0] | (simp only [i64_w, i32_w]; rw [c5b0]) | skip)
              by_cases c6 : (rd l0 x6_1) < 0
              · rw [if_pos c6] at H
                have c6b0 : decide ((rd l0 x6_1) < 0) = true := decide_eq_true c6
                clear c6
                have H' := Aside0.mk H
                clear H
                have p101 : 0 ≤ (x6_1 : Int) := of_decide_eq_true (by first | (with_reducible assumption) | assumption)
                have q101 : x6_1 < (l0.length : Int) := of_decide_eq_true (by first | (with_reducible assumption) | assumption)
                obtain ⟨ad101, e101, hx101_0⟩ := Kd.at_int HR0.out x6_1 p101 q101
                cases e101
                replace p101 := eq_true p101
                replace q101 := eq_true q101
                go_wp2
                go_meet
                case rel => exact ⟨_, (true), (by first | rfl | (simp; done) | (simp [*]; done)), H', ⟨by have := HK1.out; first | omega | exact Nat.le_refl _⟩, by repeat (first | exact Drawn0.refl _ | apply Drawn0.step)⟩
              · rw [if_neg c6] at H
                have c6b0 : decide ((rd l0 x6_1) < 0) = false := decide_eq_false c6
                clear c6
                have H' := Aside0.mk H
                clear H
                have p101 : 0 ≤ (x6_1 : Int) := of_decide_eq_true (by first | (with_reducible assumption) | assumption)
                have q101 : x6_1 < (l0.length : Int) := of_decide_eq_true (by first | (with_reducible assumption) | assumption)
                obtain ⟨ad101, e101, hx101_0⟩ := Kd.at_int HR0.out x6_1 p101 q101
                cases e101
                replace p101 := eq_true p101
                replace q101 := eq_true q101
                have p102 : 0 ≤ (x6_1 : Int) := of_decide_eq_true (by first | (with_reducible assumption) | assumption)
                have q102 : x6_1 < (l0.length : Int) := of_decide_eq_true (by first | (with_reducible assumption) | assumption)
                obtain ⟨ad102, e102, hx102_0⟩ := Kd.at_int HR0.out x6_1 p102 q102
                obtain rfl : ad101 = ad102 := (by injection e102)
                replace p102 := eq_true p102
                replace q102 := eq_true q102
                go_wp2
                go_meet
                case rel => exact ⟨_, (decide ((rd l0 x6_1) > 15)), (by first | rfl | (simp; done) | (simp [*]; done)), H', ⟨by have := HK1.out; first | omega | exact Nat.le_refl _⟩, by repeat (first | exact Drawn0.refl _ | apply Drawn0.step)⟩
            · rw [if_neg c5] at H
              exact absurd H (by simp)
          case rest =>
            clear HC4
            try clear p1
            try clear q1
            try clear hx1
            try clear c2
            try clear c2b0
            try clear c2b1
            try clear p2
            try clear c3
            try clear c3b0
            try clear c5
            try clear c5b0
            try clear c6
            try clear c6b0
            try clear hx101_0
            try clear hx102_0
            try clear p101
            try clear p102
            try clear p2
            try clear q101
            try clear q102
            obtain ⟨kq, x29_3, rfl, HA, HJ3, ⟨mc3, rfl⟩⟩ := hcut
            cases kq with
            | zero => exact absurd HA.out (by simp [celluloidref04_Error.j1])
            | succ kj3 =>
              have H := HA.out
              clear HA
              simp only [celluloidref04_Error.j1] at H
              by_cases c7 : x29_3 = true
              · subst c7
                have H1 : (some 1) = some r := by rw [if_pos rfl] at H; exact H
                clear H
                have H := H1
                clear H1
                obtain rfl := Option.some.inj H
                go_wp2
                go_ret
                exact ⟨by first | rfl | (simp; done) | (simp [*]; done), by repeat (first | exact Drawn0.refl _ | apply Drawn0.step)⟩
              · replace c7 := Bool.eq_false_iff.mpr c7
                subst c7
                have H1 : (if 0 ≤ x6_1 then (if x6_1 < (l0.length : Int) then (if (rd l0 x6_1) > 0 then (celluloidref04_Error.l1 kj3 l0 x3_1 (wrap64 (x4_1 + 1)) x5_1 x6_1 32768 0) else (if (rd l0 x6_1) = 1 then (celluloidref04_Error.l0 kj3 l0 x3_1 x4_1 (wrap64 (x5_1 + 1)) (wrap64 (x6_1 + 1))) else (celluloidref04_Error.l0 kj3 l0 x3_1 x4_1 x5_1 (wrap64 (x6_1 + 1))))) else (none)) else (none)) = some r := by rw [if_neg (show ¬ (false = true) by decide)] at H; exact H
                clear H
                have H := H1
                clear H1
                by_cases c8 : 0 ≤ x6_1
                · rw [if_pos c8] at H
                  have c8b0 : decide (0 ≤ x6_1) = true := decide_eq_true c8
                  clear c8
                  by_cases c9 : x6_1 < (l0.length : Int)
                  · rw [if_pos c9] at H
                    have c9b0 : decide (x6_1 < (l0.length : Int)) = true := decide_eq_true c9
                    clear c9
                    by_cases c10 : (rd l0 x6_1) > 0
                    · rw [if_pos c10] at H
                      have c10b0 : decide (0 < (rd l0 x6_1)) = true := decide_eq_true c10
                      clear c10
                      have H' := Aside0.mk H
                      clear H
                      have p103 : 0 ≤ (x6_1 : Int) := of_decide_eq_true (by first | (with_reducible assumption) | assumption)
                      have q103 : x6_1 < (l0.length : Int) := of_decide_eq_true (by first | (with_reducible assumption) | assumption)
                      obtain ⟨ad103, e103, hx103_0⟩ := Kd.at_int HR0.out x6_1 p103 q103
                      cases e103
                      replace p103 := eq_true p103
                      replace q103 := eq_true q103
                      go_wp2
                      go_loopg [7, 8] kj3 (fun kq v7 v8 w' => ∃ (x7_3 : Int) (x8_3 : Int), v7 = .int .i64 x7_3 ∧ v8 = .int .i64 x8_3 ∧ Aside0 (celluloidref04_Error.l1 kq l0 x3_1 (wrap64 (x4_1 + 1)) x5_1 x6_1 x7_3 x8_3 = some r) ∧ Aside0 (kq ≤ kj3) ∧ Drawn0 w w')
                      case atStart => exact ⟨(32768), (0), (by first | rfl | (simp; done) | (simp [*]; done)), (by first | rfl | (simp; done) | (simp [*]; done)), H', ⟨Nat.le_refl _⟩, by repeat (first | exact Drawn0.refl _ | apply Drawn0.step)⟩
                      case round =>
                        clear H'
                        try clear c1
                        try clear p1
                        try clear q1
                        try clear hx1
                        try clear c2
                        try clear c2b0
                        try clear c2b1
                        try clear p2
                        try clear c3
                        try clear c3b0
                        try clear c5
                        try clear c5b0
                        try clear c6
                        try clear c6b0
                        try clear p6
                        try clear c7
                        try clear c8
                        try clear c8b0
                        try clear c9
                        try clear c9b0
                        try clear c10
                        try clear c10b0
                        try clear p10
                        try clear q10
                        try clear hx10
                        try clear hx101_0
                        try clear hx102_0
                        try clear hx103_0
                        try clear p1
                        try clear p101
                        try clear p102
                        try clear p103
                        try clear p2
                        try clear q1
                        try clear q101
                        try clear q102
                        try clear q103
                        obtain ⟨x7_3, x8_3, rfl, rfl, HA, HK3, ⟨m3, rfl⟩⟩ := hrel
                        cases gk with
                        | zero => exact absurd HA.out (by simp [celluloidref04_Error.l1])
                        | succ k3 =>
                          have H := HA.out
                          clear HA
                          simp only [celluloidref04_Error.l1] at H
                          by_cases c11 : 0 ≤ x6_1
                          · rw [if_pos c11] at H
                            have c11b0 : decide (0 ≤ x6_1) = true := decide_eq_true c11
                            clear c11
                            by_cases c12 : x6_1 < (l0.length : Int)
                            · rw [if_pos c12] at H
                              have c12b0 : decide (x6_1 < (l0.length : Int)) = true := decide_eq_true c12
                              clear c12
                              by_cases c13 : x8_3 < (rd l0 x6_1)
                              · rw [if_pos c13] at H
                                have c13b0 : decide (x8_3 < (rd l0 x6_1)) = true := decide_eq_true c13
                                clear c13
                                have H' := Aside0.mk H
                                clear H
                                have p104 : 0 ≤ (x6_1 : Int) := of_decide_eq_true (by first | (with_reducible assumption) | assumption)
                                have q104 : x6_1 < (l0.length : Int) := of_decide_eq_true (by first | (with_reducible assumption) | assumption)
                                obtain ⟨ad104, e104, hx104_0⟩ := Kd.at_int HR0.out x6_1 p104 q104
                                obtain rfl : ad103 = ad104 := (by injection e104)
                                replace p104 := eq_true p104
                                replace q104 := eq_true q104
                                go_wp2
                                go_roundg k3
                                case measure => have := HK1.out; have := HJ3.out; have := HK3.out; omega
                                case rel => exact ⟨(wrap64 (Int.tdiv x7_3 2)), (wrap64 (x8_3 + 1)), (by first | rfl | (simp; done) | (simp [*]; done)), (by first | rfl | (simp; done) | (simp [*]; done)), H', ⟨by have := HK1.out; have := HJ3.out; have := HK3.out; omega⟩, by repeat (first | exact Drawn0.refl _ | apply Drawn0.step)⟩
                              · rw [if_neg c13] at H
                                have c13b0 : decide (x8_3 < (rd l0 x6_1)) = false := decide_eq_false c13
                                clear c13
                                by_cases c14 : (rd l0 x6_1) = 1
                                · rw [if_pos c14] at H
                                  have c14b0 : ((rd l0 x6_1) == 1) = true := beq_iff_eq.mpr c14
                                  have c14b1 : ((rd l0 x6_1) != 1) = false := bne_eq_false_iff_eq.mpr c14
                                  clear c14
                                  have H' := Aside0.mk H
                                  clear H
                                  have p104 : 0 ≤ (x6_1 : Int) := of_decide_eq_true (by first | (with_reducible assumption) | assumption)
                                  have q104 : x6_1 < (l0.length : Int) := of_decide_eq_true (by first | (with_reducible assumption) | assumption)
                                  obtain ⟨ad104, e104, hx104_0⟩ := Kd.at_int HR0.out x6_1 p104 q104
                                  obtain rfl : ad103 = ad104 := (by injection e104)
                                  replace p104 := eq_true p104
                                  replace q104 := eq_true q104
                                  have p105 : 0 ≤ (x6_1 : Int) := of_decide_eq_true (by first | (with_reducible assumption) | assumption)
                                  have q105 : x6_1 < (l0.length : Int) := of_decide_eq_true (by first | (with_reducible assumption) | assumption)
                                  obtain ⟨ad105, e105, hx105_0⟩ := Kd.at_int HR0.out x6_1 p105 q105
                                  obtain rfl : ad103 = ad105 := (by injection e105)
                                  replace p105 := eq_true p105
                                  replace q105 := eq_true q105
                                  go_wp2
                                  go_roundg k3
                                  case measure => have := HK1.out; have := HJ3.out; have := HK3.out; omega
                                  case rel => exact ⟨(wrap64 (x3_1 + x7_3)), ((wrap64 (x4_1 + 1))), (wrap64 (x5_1 + 1)), (wrap64 (x6_1 + 1)), (by first | rfl | (simp; done) | (simp [*]; done)), (by first | rfl | (simp; done) | (simp [*]; done)), (by first | rfl | (simp; done) | (simp [*]; done)), (by first | rfl | (simp; done) | (simp [*]; done)), H', ⟨by have := HK1.out; have := HJ3.out; have := HK3.out; omega⟩, by repeat (first | exact Drawn0.refl _ | apply Drawn0.step)⟩
                                · rw [if_neg c14] at H
                                  have c14b0 : ((rd l0 x6_1) == 1) = false := beq_eq_false_iff_ne.mpr c14
                                  have c14b1 : ((rd l0 x6_1) != 1) = true := bne_iff_ne.mpr c14
                                  have H' := Aside0.mk H
                                  clear H
                                  have p104 : 0 ≤ (x6_1 : Int) := of_decide_eq_true (by first | (with_reducible assumption) | assumption)
                                  have q104 : x6_1 < (l0.length : Int) := of_decide_eq_true (by first | (with_reducible assumption) | assumption)
                                  obtain ⟨ad104, e104, hx104_0⟩ := Kd.at_int HR0.out x6_1 p104 q104
                                  obtain rfl : ad103 = ad104 := (by injection e104)
                                  replace p104 := eq_true p104
                                  replace q104 := eq_true q104
                                  have p105 : 0 ≤ (x6_1 : Int) := of_decide_eq_true (by first | (with_reducible assumption) | assumption)
                                  have q105 : x6_1 < (l0.length : Int) := of_decide_eq_true (by first | (with_reducible assumption) | assumption)
                                  obtain ⟨ad105, e105, hx105_0⟩ := Kd.at_int HR0.out x6_1 p105 q105
                                  obtain rfl : ad103 = ad105 := (by injection e105)
                                  replace p105 := eq_true p105
                                  replace q105 := eq_true q105
                                  go_wp2
                                  go_roundg k3
                                  case measure => have := HK1.out; have := HJ3.out; have := HK3.out; omega
                                  case rel => exact ⟨(wrap64 (x3_1 + x7_3)), ((wrap64 (x4_1 + 1))), (x5_1), (wrap64 (x6_1 + 1)), (by first | rfl | (simp; done) | (simp [*]; done)), (by first | rfl | (simp; done) | (simp [*]; done)), (by first | rfl | (simp; done) | (simp [*]; done)), (by first | rfl | (simp; done) | (simp [*]; done)), H', ⟨by have := HK1.out; have := HJ3.out; have := HK3.out; omega⟩, by repeat (first | exact Drawn0.refl _ | apply Drawn0.step)⟩
                            · rw [if_neg c12] at H
                              exact absurd H (by simp)
                          · rw [if_neg c11] at H
                            exact absurd H (by simp)
                    · rw [if_neg c10] at H
                      have c10b0 : decide (0 < (rd l0 x6_1)) = false := decide_eq_false c10
                      clear c10
                      by_cases c15 : (rd l0 x6_1) = 1
                      · rw [if_pos c15] at H
                        have c15b0 : ((rd l0 x6_1) == 1) = true := beq_iff_eq.mpr c15
                        have c15b1 : ((rd l0 x6_1) != 1) = false := bne_eq_false_iff_eq.mpr c15
                        clear c15
                        have H' := Aside0.mk H
                        clear H
                        have p103 : 0 ≤ (x6_1 : Int) := of_decide_eq_true (by first | (with_reducible assumption) | assumption)
                        have q103 : x6_1 < (l0.length : Int) := of_decide_eq_true (by first | (with_reducible assumption) | assumption)
                        obtain ⟨ad103, e103, hx103_0⟩ := Kd.at_int HR0.out x6_1 p103 q103
                        cases e103
                        replace p103 := eq_true p103
                        replace q103 := eq_true q103
                        have p106 : 0 ≤ (x6_1 : Int) := of_decide_eq_true (by first | (with_reducible assumption) | assumption)
                        have q106 : x6_1 < (l0.length : Int) := of_decide_eq_true (by first | (with_reducible assumption) | assumption)
                        obtain ⟨ad106, e106, hx106_0⟩ := Kd.at_int HR0.out x6_1 p106 q106
                        obtain rfl : ad103 = ad106 := (by injection e106)
                        replace p106 := eq_true p106
                        replace q106 := eq_true q106
                        go_wp2
                        go_roundg kj3
                        case measure => have := HK1.out; have := HJ3.out; omega
                        case rel => exact ⟨(x3_1), (x4_1), (wrap64 (x5_1 + 1)), (wrap64 (x6_1 + 1)), (by first | rfl | (simp; done) | (simp [*]; done)), (by first | rfl | (simp; done) | (simp [*]; done)), (by first | rfl | (simp; done) | (simp [*]; done)), (by first | rfl | (simp; done) | (simp [*]; done)), H', ⟨by have := HK1.out; have := HJ3.out; omega⟩, by repeat (first | exact Drawn0.refl _ | apply Drawn0.step)⟩
                      · rw [if_neg c15] at H
                        have c15b0 : ((rd l0 x6_1) == 1) = false := beq_eq_false_iff_ne.mpr c15
                        have c15b1 : ((rd l0 x6_1) != 1) = true := bne_iff_ne.mpr c15
                        have H' := Aside0.mk H
                        clear H
                        have p103 : 0 ≤ (x6_1 : Int) := of_decide_eq_true (by first | (with_reducible assumption) | assumption)
                        have q103 : x6_1 < (l0.length : Int) := of_decide_eq_true (by first | (with_reducible assumption) | assumption)
                        obtain ⟨ad103, e103, hx103_0⟩ := Kd.at_int HR0.out x6_1 p103 q103
                        cases e103
                        replace p103 := eq_true p103
                        replace q103 := eq_true q103
                        have p106 : 0 ≤ (x6_1 : Int) := of_decide_eq_true (by first | (with_reducible assumption) | assumption)
                        have q106 : x6_1 < (l0.length : Int) := of_decide_eq_true (by first | (with_reducible assumption) | assumption)
                        obtain ⟨ad106, e106, hx106_0⟩ := Kd.at_int HR0.out x6_1 p106 q106
                        obtain rfl : ad103 = ad106 := (by injection e106)
                        replace p106 := eq_true p106
                        replace q106 := eq_true q106
                        go_wp2
                        go_roundg kj3
                        case measure => have := HK1.out; have := HJ3.out; omega
                        case rel => exact ⟨(x3_1), (x4_1), (x5_1), (wrap64 (x6_1 + 1)), (by first | rfl | (simp; done) | (simp [*]; done)), (by first | rfl | (simp; done) | (simp [*]; done)), (by first | rfl | (simp; done) | (simp [*]; done)), (by first | rfl | (simp; done) | (simp [*]; done)), H', ⟨by have := HK1.out; have := HJ3.out; omega⟩, by repeat (first | exact Drawn0.refl _ | apply Drawn0.step)⟩
                  · rw [if_neg c9] at H
                    exact absurd H (by simp)
                · rw [if_neg c8] at H
                  exact absurd H (by simp)
        · rw [if_neg c3] at H
          have c3b0 : decide (x6_1 < (l0.length : Int)) = false := decide_eq_false c3
          clear c3
          by_cases c16 : x3_1 = 32768
          · rw [if_pos c16] at H
            have c16b0 : (x3_1 == 32768) = true := beq_iff_eq.mpr c16
            have c16b1 : (x3_1 != 32768) = false := bne_eq_false_iff_eq.mpr c16
            clear c16
            obtain rfl := Option.some.inj H
            go_wp2
            go_ret
            exact ⟨by first | rfl | (simp; done) | (simp [*]; done), by repeat (first | exact Drawn0.refl _ | apply Drawn0.step)⟩
          · rw [if_neg c16] at H
            have c16b0 : (x3_1 == 32768) = false := beq_eq_false_iff_ne.mpr c16
            have c16b1 : (x3_1 != 32768) = true := bne_iff_ne.mpr c16
            by_cases c17 : x4_1 = 0
            · rw [if_pos c17] at H
              have c17b0 : (x4_1 == 0) = true := beq_iff_eq.mpr c17
              have c17b1 : (x4_1 != 0) = false := bne_eq_false_iff_eq.mpr c17
              clear c17
              obtain rfl := Option.some.inj H
              go_wp2
              go_ret
              exact ⟨by first | rfl | (simp; done) | (simp [*]; done), by repeat (first | exact Drawn0.refl _ | apply Drawn0.step)⟩
            · rw [if_neg c17] at H
              have c17b0 : (x4_1 == 0) = false := beq_eq_false_iff_ne.mpr c17
              have c17b1 : (x4_1 != 0) = true := bne_iff_ne.mpr c17
              by_cases c18 : x4_1 = 1
              · rw [if_pos c18] at H
                have c18b0 : (x4_1 == 1) = true := beq_iff_eq.mpr c18
                have c18b1 : (x4_1 != 1) = false := bne_eq_false_iff_eq.mpr c18
                clear c18
                by_cases c19 : x5_1 = 1
                · rw [if_pos c19] at H
                  have c19b0 : (x5_1 == 1) = true := beq_iff_eq.mpr c19
                  have c19b1 : (x5_1 != 1) = false := bne_eq_false_iff_eq.mpr c19
                  clear c19
                  obtain rfl := Option.some.inj H
                  go_wp2
                  go_ret
                  exact ⟨by first | rfl | (simp; done) | (simp [*]; done), by repeat (first | exact Drawn0.refl _ | apply Drawn0.step)⟩
                · rw [if_neg c19] at H
                  have c19b0 : (x5_1 == 1) = false := beq_eq_false_iff_ne.mpr c19
                  have c19b1 : (x5_1 != 1) = true := bne_iff_ne.mpr c19
                  obtain rfl := Option.some.inj H
                  go_wp2
                  go_ret
                  exact ⟨by first | rfl | (simp; done) | (simp [*]; done), by repeat (first | exact Drawn0.refl _ | apply Drawn0.step)⟩
              · rw [if_neg c18] at H
                have c18b0 : (x4_1 == 1) = false := beq_eq_false_iff_ne.mpr c18
                have c18b1 : (x4_1 != 1) = true := bne_iff_ne.mpr c18
                obtain rfl := Option.some.inj H
                go_wp2
                go_ret
                exact ⟨by first | rfl | (simp; done) | (simp [*]; done), by repeat (first | exact Drawn0.refl _ | apply Drawn0.step)⟩

end Go.Proofs.Ytpbhkdamkbopkaa.GHuff
