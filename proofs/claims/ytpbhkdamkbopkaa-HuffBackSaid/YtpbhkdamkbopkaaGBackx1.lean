-- Written by a program of this session (wip/tools/print2.py) for this claim.
import Derived.Test.YtpbhkdamkbopkaaGBackx0
namespace Go.Proofs.Ytpbhkdamkbopkaa.GBack
open Go.RowKit Go.Proofs.YtpbhkdamkbopkaaW.PrintWords Go.Proofs.YtpbhkdamkbopkaaW.PrintLast Go.Proofs.YtpbhkdamkbopkaaW.PrintMore Go.Proofs.Ytpbhkdamkbopkaa.Ext Go.Proofs.Ytpbhkdamkbopkaa.ExtAwake
attribute [local go_sem] max2_int min2_int max_two min_two max_three min_three max_four min_four   -- for this text's walks alone
set_option linter.unusedVariables false
set_option linter.unusedSimpArgs false

-- NOT PRINTED: function 88 (slices_IndexFunc_int_int)

-- NOT PRINTED: function 59 (slices_ContainsFunc_int_int)

-- walked by hand: function 26 (huff_New)

-- walked by hand: function 27 (huff_Codes)

/-! ### huff_Bit: function 34 -/
def huff_Bit.f (a0 : ByteArray) (a1 : Int) : Option (Int × Bool) := if a1 < 0 then (some (0, false)) else (if a1 ≥ (wrap64 (8 * (a0.size : Int))) then (some (0, false)) else (if 0 ≤ (wrap64 (Int.tdiv a1 8)) then (if (wrap64 (Int.tdiv a1 8)) < (a0.size : Int) then (if 0 ≤ (Int.tmod a1 8) then (some (Go.bits .and .i64 (wrap64 (shr .u8 (bt a0 (wrap64 (Int.tdiv a1 8))) (Int.tmod a1 8))) 1, true)) else (none)) else (none)) else (none)))
set_option maxHeartbeats 8000000 in
set_option maxRecDepth 100000 in
theorem huff_Bit.calls (a0 : ByteArray) (a1 : Int) (r1 : Int) (r2 : Bool) (w : World) (h : huff_Bit.f a0 a1 = some (r1, r2)) :
    Calls Try.prog 34 #[.string a0, .int .i64 a1] w fun e w' => e = .returned (.tuple #[.int .i64 r1, .bool r2]) ∧ Drawn0 w w' := by
  have H : (if a1 < 0 then (some (0, false)) else (if a1 ≥ (wrap64 (8 * (a0.size : Int))) then (some (0, false)) else (if 0 ≤ (wrap64 (Int.tdiv a1 8)) then (if (wrap64 (Int.tdiv a1 8)) < (a0.size : Int) then (if 0 ≤ (Int.tmod a1 8) then (some (Go.bits .and .i64 (wrap64 (shr .u8 (bt a0 (wrap64 (Int.tdiv a1 8))) (Int.tmod a1 8))) 1, true)) else (none)) else (none)) else (none)))) = some (r1, r2) := h
  clear h
  by_cases c3 : a1 < 0
  · rw [if_pos c3] at H
    have c3b0 : decide (a1 < 0) = true := decide_eq_true c3
    clear c3
    simp only [Option.some.injEq, Prod.mk.injEq] at H
    obtain ⟨rfl, rfl⟩ := H
    go_enter Try.func34, Try.ntmps34
    go_wp2
    go_ret2
    exact ⟨by first | rfl | (simp; done) | (simp [*]; done), by repeat (first | exact Drawn0.refl _ | apply Drawn0.step)⟩
  · rw [if_neg c3] at H
    have c3b0 : decide (a1 < 0) = false := decide_eq_false c3
    clear c3
    by_cases c4 : a1 ≥ (wrap64 (8 * (a0.size : Int)))
    · rw [if_pos c4] at H
      have c4b0 : decide ((wrap64 (8 * (a0.size : Int))) ≤ a1) = true := decide_eq_true c4
      clear c4
      simp only [Option.some.injEq, Prod.mk.injEq] at H
      obtain ⟨rfl, rfl⟩ := H
      go_enter Try.func34, Try.ntmps34
      go_wp2
      go_ret2
      exact ⟨by first | rfl | (simp; done) | (simp [*]; done), by repeat (first | exact Drawn0.refl _ | apply Drawn0.step)⟩
    · rw [if_neg c4] at H
      have c4b0 : decide ((wrap64 (8 * (a0.size : Int))) ≤ a1) = false := decide_eq_false c4
      clear c4
      obtain ⟨ji5, hji5⟩ : ∃ j_ : Int, (wrap64 (Int.tdiv a1 8)) = j_ := ⟨_, rfl⟩
      replace H : (if 0 ≤ (ji5) then (if (ji5) < (a0.size : Int) then (if 0 ≤ (Int.tmod a1 8) then (some (Go.bits .and .i64 (wrap64 (shr .u8 (bt a0 (ji5)) (Int.tmod a1 8))) 1, true)) else (none)) else (none)) else (none)) = some (r1, r2) := by first | (rw [hji5] at H; exact H) | (simp only [hji5] at H ⊢; exact H)
      have hji5w : (IntKind.i64.wrap (Int.tdiv a1 8)) = ji5 := (i64_w _).trans hji5
      by_cases c6 : 0 ≤ (ji5)
      · rw [if_pos c6] at H
        have c6b0 : decide (0 ≤ (ji5)) = true := decide_eq_true c6
        clear c6
        by_cases c7 : (ji5) < (a0.size : Int)
        · rw [if_pos c7] at H
          have c7b0 : decide ((ji5) < (a0.size : Int)) = true := decide_eq_true c7
          clear c7
          obtain ⟨ji9, hji9⟩ : ∃ j_ : Int, (Int.tmod a1 8) = j_ := ⟨_, rfl⟩
          replace H : (if 0 ≤ (ji9) then (some (Go.bits .and .i64 (wrap64 (shr .u8 (bt a0 (ji5)) (ji9))) 1, true)) else (none)) = some (r1, r2) := by first | (rw [hji9] at H; exact H) | (simp only [hji9] at H ⊢; exact H)
          by_cases c10 : 0 ≤ (ji9)
          · rw [if_pos c10] at H
            have c10b0 := eq_true c10
            have c10b1 : decide (0 ≤ (ji9)) = true := decide_eq_true c10
            clear c10
            obtain ⟨ji11, hji11⟩ : ∃ j_ : Int, (shr .u8 (bt a0 (ji5)) (ji9)) = j_ := ⟨_, rfl⟩
            replace H : (some (Go.bits .and .i64 (wrap64 (ji11)) 1, true)) = some (r1, r2) := by first | (rw [hji11] at H; exact H) | (simp only [hji11] at H ⊢; exact H)
            have hji11_ : ((bt a0 (ji5)) / 2 ^ min (ji9).toNat 8) = ji11 := hji11
            have hji11z : (ji9) ≤ 8 → ((bt a0 (ji5)) / 2 ^ (ji9).toNat) = ji11 := shr_small hji11
            simp only [Option.some.injEq, Prod.mk.injEq] at H
            obtain ⟨rfl, rfl⟩ := H
            have p8 : 0 ≤ ((ji5) : Int) := of_decide_eq_true (by first | (with_reducible assumption) | assumption)
            have q8 : (ji5) < (a0.size : Int) := of_decide_eq_true (by first | (with_reducible assumption) | assumption)
            have hx8 := bt_at a0 (ji5)
            replace p8 := eq_true p8
            replace q8 := eq_true q8
            go_enter Try.func34, Try.ntmps34
            go_wp2
            go_ret2
            exact ⟨by first | rfl | (simp; done) | (simp only [← hji5, ← hji9, ← hji11] <;> (first | rfl | simp)) | (simp [*]; done), by repeat (first | exact Drawn0.refl _ | apply Drawn0.step)⟩
          · rw [if_neg c10] at H
            exact absurd H (by simp)
        · rw [if_neg c7] at H
          exact absurd H (by simp)
      · rw [if_neg c6] at H
        exact absurd H (by simp)

-- walked by hand: function 30 (huff_Next)

-- walked by hand: function 25 (celluloidlaw04_awake)

/-! ### celluloidlaw04_HuffBack: function 5 -/
mutual
def celluloidlaw04_HuffBack.j0 : Nat → List Int → Int → ByteArray → Int → List Int → Bool → Int → Int → Int → Int → Int → Int → Int → Int → Int → Int → Int → Int → Int → Int → Int → Int → List Int → Option (Bool)
  | 0, _, _, _, _, _, _, _, _, _, _, _, _, _, _, _, _, _, _, _, _, _, _, _ => none
  | k + 1, x0, x1, x2, x8, x9, x54, x122000, x122001, x122002, x122003, x122004, x122005, x122006, x122007, x122008, x122009, x122010, x122011, x122012, x122013, x122014, x122015, x122016 => if x54 = true then (if x8 = 0 then (if (x9.length : Int) = (x0.length : Int) then ((celluloidlaw04_awake.f).bind fun t126 => (some t126)) else (some false)) else ((celluloidlaw04_awake.f).bind fun t127 => (some t127))) else (if 0 ≤ x1 then (if x1 < (x0.length : Int) then (if (rd x0 x1) < 1 then (celluloidlaw04_HuffBack.j1 k x0 x1 x2 x9 true x122000 x122001 x122002 x122003 x122004 x122005 x122006 x122007 x122008 x122009 x122010 x122011 x122012 x122013 x122014 x122015 x122016) else (celluloidlaw04_HuffBack.j1 k x0 x1 x2 x9 (decide ((rd x0 x1) > 15)) x122000 x122001 x122002 x122003 x122004 x122005 x122006 x122007 x122008 x122009 x122010 x122011 x122012 x122013 x122014 x122015 x122016)) else (none)) else (none))
def celluloidlaw04_HuffBack.j1 : Nat → List Int → Int → ByteArray → List Int → Bool → Int → Int → Int → Int → Int → Int → Int → Int → Int → Int → Int → Int → Int → Int → Int → Int → List Int → Option (Bool)
  | 0, _, _, _, _, _, _, _, _, _, _, _, _, _, _, _, _, _, _, _, _, _, _ => none
  | k + 1, x0, x1, x2, x9, x78, x122000, x122001, x122002, x122003, x122004, x122005, x122006, x122007, x122008, x122009, x122010, x122011, x122012, x122013, x122014, x122015, x122016 => if x78 = true then ((celluloidlaw04_awake.f).bind fun t130 => (some t130)) else (if 2 ≤ 281474976710656 then (celluloidlaw04_HuffBack.l0 k x0 x1 x2 x9 (List.replicate 2 0) 0 x122000 x122001 x122002 x122003 x122004 x122005 x122006 x122007 x122008 x122009 x122010 x122011 x122012 x122013 x122014 x122015 x122016) else (none))
def celluloidlaw04_HuffBack.l0 : Nat → List Int → Int → ByteArray → List Int → List Int → Int → Int → Int → Int → Int → Int → Int → Int → Int → Int → Int → Int → Int → Int → Int → Int → Int → List Int → Option (Bool)
  | 0, _, _, _, _, _, _, _, _, _, _, _, _, _, _, _, _, _, _, _, _, _, _, _ => none
  | k + 1, x0, x1, x2, x9, x11, x12, x122000, x122001, x122002, x122003, x122004, x122005, x122006, x122007, x122008, x122009, x122010, x122011, x122012, x122013, x122014, x122015, x122016 => if 0 ≤ x1 then (if x1 < (x0.length : Int) then (if x12 < (rd x0 x1) then (if x1 < (x9.length : Int) then (if 0 ≤ (wrap64 ((wrap64 ((rd x0 x1) - 1)) - x12)) then (if (Go.bits .and .i64 (shr .i64 (rd x9 x1) (wrap64 ((wrap64 ((rd x0 x1) - 1)) - x12))) 1) = 1 then (if 0 ≤ (wrap64 (Int.tdiv x12 8)) then (if (wrap64 (Int.tdiv x12 8)) < (x11.length : Int) then (if 0 ≤ (Int.tmod x12 8) then (celluloidlaw04_HuffBack.l0 k x0 x1 x2 x9 (x11.set ((wrap64 (Int.tdiv x12 8)) : Int).toNat (Go.bits .or .u8 (rd x11 (wrap64 (Int.tdiv x12 8))) (shl .u8 1 (Int.tmod x12 8)))) (wrap64 (x12 + 1)) x122000 x122001 x122002 x122003 x122004 x122005 x122006 x122007 x122008 x122009 x122010 x122011 x122012 x122013 x122014 x122015 x122016) else (none)) else (none)) else (none)) else (celluloidlaw04_HuffBack.l0 k x0 x1 x2 x9 x11 (wrap64 (x12 + 1)) x122000 x122001 x122002 x122003 x122004 x122005 x122006 x122007 x122008 x122009 x122010 x122011 x122012 x122013 x122014 x122015 x122016)) else (none)) else (none)) else (if (strOfNums x11).size + x2.size ≤ 9223372036854775807 then ((huff_Next.f x122000 x122001 x122002 x122003 x122004 x122005 x122006 x122007 x122008 x122009 x122010 x122011 x122012 x122013 x122014 x122015 x122016 ((strOfNums x11) ++ x2) 0).bind fun bt139 => (if bt139.1 = x1 then (if bt139.2.1 = (rd x0 x1) then (celluloidlaw04_HuffBack.j3 k x0 x1 x9 (bt139.2.2 != 0)) else (celluloidlaw04_HuffBack.j3 k x0 x1 x9 true)) else (celluloidlaw04_HuffBack.j3 k x0 x1 x9 true))) else (none))) else (none)) else (none)
def celluloidlaw04_HuffBack.j3 : Nat → List Int → Int → List Int → Bool → Option (Bool)
  | 0, _, _, _, _ => none
  | k + 1, x0, x1, x9, x137 => if x137 = true then (some false) else (celluloidlaw04_HuffBack.l1 k x0 x1 x9 (x0.length : Int) 0)
def celluloidlaw04_HuffBack.l1 : Nat → List Int → Int → List Int → Int → Int → Option (Bool)
  | 0, _, _, _, _, _ => none
  | k + 1, x0, x1, x9, x139, x140 => if x140 < x139 then (if x140 = x1 then (celluloidlaw04_HuffBack.j5 k x0 x1 x9 x139 x140 false) else (if 0 ≤ x140 then (if x140 < (x0.length : Int) then (if 0 ≤ x1 then (if x1 < (x0.length : Int) then (if (rd x0 x140) ≥ (rd x0 x1) then (if x140 < (x9.length : Int) then (if 0 ≤ (wrap64 ((rd x0 x140) - (rd x0 x1))) then (if x1 < (x9.length : Int) then (celluloidlaw04_HuffBack.j5 k x0 x1 x9 x139 x140 ((shr .i64 (rd x9 x140) (wrap64 ((rd x0 x140) - (rd x0 x1)))) == (rd x9 x1))) else (none)) else (none)) else (none)) else (celluloidlaw04_HuffBack.j5 k x0 x1 x9 x139 x140 false)) else (none)) else (none)) else (none)) else (none))) else ((celluloidlaw04_awake.f).bind fun t143 => (some t143))
def celluloidlaw04_HuffBack.j5 : Nat → List Int → Int → List Int → Int → Int → Bool → Option (Bool)
  | 0, _, _, _, _, _, _ => none
  | k + 1, x0, x1, x9, x139, x140, x177 => if x177 = true then (some false) else (celluloidlaw04_HuffBack.l1 k x0 x1 x9 x139 (wrap64 (x140 + 1)))
end
def celluloidlaw04_HuffBack.f (k : Nat) (l0 : List Int) (a1 : Int) (a2 : ByteArray) : Option (Bool) := (huff_New.f l0).bind fun bt101 => ((huff_Codes.f l0).bind fun bt122 => (if bt101.2.2.2.2.2.2.2.2.2.2.2.2.2.2.2.2.2 = 0 then (if bt122.2 = 0 then (if a1 < 0 then (celluloidlaw04_HuffBack.j0 k l0 a1 a2 bt101.2.2.2.2.2.2.2.2.2.2.2.2.2.2.2.2.2 bt122.1 true bt101.1 bt101.2.1 bt101.2.2.1 bt101.2.2.2.1 bt101.2.2.2.2.1 bt101.2.2.2.2.2.1 bt101.2.2.2.2.2.2.1 bt101.2.2.2.2.2.2.2.1 bt101.2.2.2.2.2.2.2.2.1 bt101.2.2.2.2.2.2.2.2.2.1 bt101.2.2.2.2.2.2.2.2.2.2.1 bt101.2.2.2.2.2.2.2.2.2.2.2.1 bt101.2.2.2.2.2.2.2.2.2.2.2.2.1 bt101.2.2.2.2.2.2.2.2.2.2.2.2.2.1 bt101.2.2.2.2.2.2.2.2.2.2.2.2.2.2.1 bt101.2.2.2.2.2.2.2.2.2.2.2.2.2.2.2.1 bt101.2.2.2.2.2.2.2.2.2.2.2.2.2.2.2.2.1) else (if a1 ≥ (l0.length : Int) then (celluloidlaw04_HuffBack.j0 k l0 a1 a2 bt101.2.2.2.2.2.2.2.2.2.2.2.2.2.2.2.2.2 bt122.1 true bt101.1 bt101.2.1 bt101.2.2.1 bt101.2.2.2.1 bt101.2.2.2.2.1 bt101.2.2.2.2.2.1 bt101.2.2.2.2.2.2.1 bt101.2.2.2.2.2.2.2.1 bt101.2.2.2.2.2.2.2.2.1 bt101.2.2.2.2.2.2.2.2.2.1 bt101.2.2.2.2.2.2.2.2.2.2.1 bt101.2.2.2.2.2.2.2.2.2.2.2.1 bt101.2.2.2.2.2.2.2.2.2.2.2.2.1 bt101.2.2.2.2.2.2.2.2.2.2.2.2.2.1 bt101.2.2.2.2.2.2.2.2.2.2.2.2.2.2.1 bt101.2.2.2.2.2.2.2.2.2.2.2.2.2.2.2.1 bt101.2.2.2.2.2.2.2.2.2.2.2.2.2.2.2.2.1) else (if (bt122.1.length : Int) = (l0.length : Int) then (celluloidlaw04_HuffBack.j0 k l0 a1 a2 bt101.2.2.2.2.2.2.2.2.2.2.2.2.2.2.2.2.2 bt122.1 (decide ((a2.size : Int) > 100)) bt101.1 bt101.2.1 bt101.2.2.1 bt101.2.2.2.1 bt101.2.2.2.2.1 bt101.2.2.2.2.2.1 bt101.2.2.2.2.2.2.1 bt101.2.2.2.2.2.2.2.1 bt101.2.2.2.2.2.2.2.2.1 bt101.2.2.2.2.2.2.2.2.2.1 bt101.2.2.2.2.2.2.2.2.2.2.1 bt101.2.2.2.2.2.2.2.2.2.2.2.1 bt101.2.2.2.2.2.2.2.2.2.2.2.2.1 bt101.2.2.2.2.2.2.2.2.2.2.2.2.2.1 bt101.2.2.2.2.2.2.2.2.2.2.2.2.2.2.1 bt101.2.2.2.2.2.2.2.2.2.2.2.2.2.2.2.1 bt101.2.2.2.2.2.2.2.2.2.2.2.2.2.2.2.2.1) else (celluloidlaw04_HuffBack.j0 k l0 a1 a2 bt101.2.2.2.2.2.2.2.2.2.2.2.2.2.2.2.2.2 bt122.1 true bt101.1 bt101.2.1 bt101.2.2.1 bt101.2.2.2.1 bt101.2.2.2.2.1 bt101.2.2.2.2.2.1 bt101.2.2.2.2.2.2.1 bt101.2.2.2.2.2.2.2.1 bt101.2.2.2.2.2.2.2.2.1 bt101.2.2.2.2.2.2.2.2.2.1 bt101.2.2.2.2.2.2.2.2.2.2.1 bt101.2.2.2.2.2.2.2.2.2.2.2.1 bt101.2.2.2.2.2.2.2.2.2.2.2.2.1 bt101.2.2.2.2.2.2.2.2.2.2.2.2.2.1 bt101.2.2.2.2.2.2.2.2.2.2.2.2.2.2.1 bt101.2.2.2.2.2.2.2.2.2.2.2.2.2.2.2.1 bt101.2.2.2.2.2.2.2.2.2.2.2.2.2.2.2.2.1)))) else (celluloidlaw04_HuffBack.j0 k l0 a1 a2 bt101.2.2.2.2.2.2.2.2.2.2.2.2.2.2.2.2.2 bt122.1 true bt101.1 bt101.2.1 bt101.2.2.1 bt101.2.2.2.1 bt101.2.2.2.2.1 bt101.2.2.2.2.2.1 bt101.2.2.2.2.2.2.1 bt101.2.2.2.2.2.2.2.1 bt101.2.2.2.2.2.2.2.2.1 bt101.2.2.2.2.2.2.2.2.2.1 bt101.2.2.2.2.2.2.2.2.2.2.1 bt101.2.2.2.2.2.2.2.2.2.2.2.1 bt101.2.2.2.2.2.2.2.2.2.2.2.2.1 bt101.2.2.2.2.2.2.2.2.2.2.2.2.2.1 bt101.2.2.2.2.2.2.2.2.2.2.2.2.2.2.1 bt101.2.2.2.2.2.2.2.2.2.2.2.2.2.2.2.1 bt101.2.2.2.2.2.2.2.2.2.2.2.2.2.2.2.2.1)) else (celluloidlaw04_HuffBack.j0 k l0 a1 a2 bt101.2.2.2.2.2.2.2.2.2.2.2.2.2.2.2.2.2 bt122.1 true bt101.1 bt101.2.1 bt101.2.2.1 bt101.2.2.2.1 bt101.2.2.2.2.1 bt101.2.2.2.2.2.1 bt101.2.2.2.2.2.2.1 bt101.2.2.2.2.2.2.2.1 bt101.2.2.2.2.2.2.2.2.1 bt101.2.2.2.2.2.2.2.2.2.1 bt101.2.2.2.2.2.2.2.2.2.2.1 bt101.2.2.2.2.2.2.2.2.2.2.2.1 bt101.2.2.2.2.2.2.2.2.2.2.2.2.1 bt101.2.2.2.2.2.2.2.2.2.2.2.2.2.1 bt101.2.2.2.2.2.2.2.2.2.2.2.2.2.2.1 bt101.2.2.2.2.2.2.2.2.2.2.2.2.2.2.2.1 bt101.2.2.2.2.2.2.2.2.2.2.2.2.2.2.2.2.1)))
theorem celluloidlaw04_HuffBack.mono_l : ∀ k, (∀ y0 y1 y2 y3 y4 y5 y6 y7 y8 y9 y10 y11 y12 y13 y14 y15 y16 y17 y18 y19 y20 y21 y22, LeO (celluloidlaw04_HuffBack.j0 k y0 y1 y2 y3 y4 y5 y6 y7 y8 y9 y10 y11 y12 y13 y14 y15 y16 y17 y18 y19 y20 y21 y22) (celluloidlaw04_HuffBack.j0 (k + 1) y0 y1 y2 y3 y4 y5 y6 y7 y8 y9 y10 y11 y12 y13 y14 y15 y16 y17 y18 y19 y20 y21 y22)) ∧ (∀ y0 y1 y2 y3 y4 y5 y6 y7 y8 y9 y10 y11 y12 y13 y14 y15 y16 y17 y18 y19 y20 y21, LeO (celluloidlaw04_HuffBack.j1 k y0 y1 y2 y3 y4 y5 y6 y7 y8 y9 y10 y11 y12 y13 y14 y15 y16 y17 y18 y19 y20 y21) (celluloidlaw04_HuffBack.j1 (k + 1) y0 y1 y2 y3 y4 y5 y6 y7 y8 y9 y10 y11 y12 y13 y14 y15 y16 y17 y18 y19 y20 y21)) ∧ (∀ y0 y1 y2 y3 y4 y5 y6 y7 y8 y9 y10 y11 y12 y13 y14 y15 y16 y17 y18 y19 y20 y21 y22, LeO (celluloidlaw04_HuffBack.l0 k y0 y1 y2 y3 y4 y5 y6 y7 y8 y9 y10 y11 y12 y13 y14 y15 y16 y17 y18 y19 y20 y21 y22) (celluloidlaw04_HuffBack.l0 (k + 1) y0 y1 y2 y3 y4 y5 y6 y7 y8 y9 y10 y11 y12 y13 y14 y15 y16 y17 y18 y19 y20 y21 y22)) ∧ (∀ y0 y1 y2 y3, LeO (celluloidlaw04_HuffBack.j3 k y0 y1 y2 y3) (celluloidlaw04_HuffBack.j3 (k + 1) y0 y1 y2 y3)) ∧ (∀ y0 y1 y2 y3 y4, LeO (celluloidlaw04_HuffBack.l1 k y0 y1 y2 y3 y4) (celluloidlaw04_HuffBack.l1 (k + 1) y0 y1 y2 y3 y4)) ∧ (∀ y0 y1 y2 y3 y4 y5, LeO (celluloidlaw04_HuffBack.j5 k y0 y1 y2 y3 y4 y5) (celluloidlaw04_HuffBack.j5 (k + 1) y0 y1 y2 y3 y4 y5))
  | 0 => ⟨fun _ _ _ _ _ _ _ _ _ _ _ _ _ _ _ _ _ _ _ _ _ _ _ r h => by simp [celluloidlaw04_HuffBack.j0] at h, fun _ _ _ _ _ _ _ _ _ _ _ _ _ _ _ _ _ _ _ _ _ _ r h => by simp [celluloidlaw04_HuffBack.j1] at h, fun _ _ _ _ _ _ _ _ _ _ _ _ _ _ _ _ _ _ _ _ _ _ _ r h => by simp [celluloidlaw04_HuffBack.l0] at h, fun _ _ _ _ r h => by simp [celluloidlaw04_HuffBack.j3] at h, fun _ _ _ _ _ r h => by simp [celluloidlaw04_HuffBack.l1] at h, fun _ _ _ _ _ _ r h => by simp [celluloidlaw04_HuffBack.j5] at h⟩
  | k + 1 => by
    obtain ⟨ih0, ih1, ih2, ih3, ih4, ih5⟩ := celluloidlaw04_HuffBack.mono_l k
    refine ⟨?_, ?_, ?_, ?_, ?_, ?_⟩
    · intro y0 y1 y2 y3 y4 y5 y6 y7 y8 y9 y10 y11 y12 y13 y14 y15 y16 y17 y18 y19 y20 y21 y22
      unfold celluloidlaw04_HuffBack.j0
      repeat' first
      | (with_reducible exact ih0 _ _ _ _ _ _ _ _ _ _ _ _ _ _ _ _ _ _ _ _ _ _ _)
      | (with_reducible exact ih1 _ _ _ _ _ _ _ _ _ _ _ _ _ _ _ _ _ _ _ _ _ _)
      | (with_reducible exact ih2 _ _ _ _ _ _ _ _ _ _ _ _ _ _ _ _ _ _ _ _ _ _ _)
      | (with_reducible exact ih3 _ _ _ _)
      | (with_reducible exact ih4 _ _ _ _ _)
      | (with_reducible exact ih5 _ _ _ _ _ _)
      | (with_reducible exact LeO.refl _)
      | (with_reducible exact LeO.none _)
      | (with_reducible refine LeO.ite ?_ ?_)
      | (with_reducible refine LeO.bind ?_ (fun _ => ?_))
      | exact ih0 _ _ _ _ _ _ _ _ _ _ _ _ _ _ _ _ _ _ _ _ _ _ _
      | exact ih1 _ _ _ _ _ _ _ _ _ _ _ _ _ _ _ _ _ _ _ _ _ _
      | exact ih2 _ _ _ _ _ _ _ _ _ _ _ _ _ _ _ _ _ _ _ _ _ _ _
      | exact ih3 _ _ _ _
      | exact ih4 _ _ _ _ _
      | exact ih5 _ _ _ _ _ _
      | exact LeO.none _
      | refine LeO.ite ?_ ?_
      | refine LeO.bind ?_ (fun _ => ?_)
    · intro y0 y1 y2 y3 y4 y5 y6 y7 y8 y9 y10 y11 y12 y13 y14 y15 y16 y17 y18 y19 y20 y21
      unfold celluloidlaw04_HuffBack.j1
      repeat' first
      | (with_reducible exact ih0 _ _ _ _ _ _ _ _ _ _ _ _ _ _ _ _ _ _ _ _ _ _ _)
      | (with_reducible exact ih1 _ _ _ _ _ _ _ _ _ _ _ _ _ _ _ _ _ _ _ _ _ _)
      | (with_reducible exact ih2 _ _ _ _ _ _ _ _ _ _ _ _ _ _ _ _ _ _ _ _ _ _ _)
      | (with_reducible exact ih3 _ _ _ _)
      | (with_reducible exact ih4 _ _ _ _ _)
      | (with_reducible exact ih5 _ _ _ _ _ _)
      | (with_reducible exact LeO.refl _)
      | (with_reducible exact LeO.none _)
      | (with_reducible refine LeO.ite ?_ ?_)
      | (with_reducible refine LeO.bind ?_ (fun _ => ?_))
      | exact ih0 _ _ _ _ _ _ _ _ _ _ _ _ _ _ _ _ _ _ _ _ _ _ _
      | exact ih1 _ _ _ _ _ _ _ _ _ _ _ _ _ _ _ _ _ _ _ _ _ _
      | exact ih2 _ _ _ _ _ _ _ _ _ _ _ _ _ _ _ _ _ _ _ _ _ _ _
      | exact ih3 _ _ _ _
      | exact ih4 _ _ _ _ _
      | exact ih5 _ _ _ _ _ _
      | exact LeO.none _
      | refine LeO.ite ?_ ?_
      | refine LeO.bind ?_ (fun _ => ?_)
    · intro y0 y1 y2 y3 y4 y5 y6 y7 y8 y9 y10 y11 y12 y13 y14 y15 y16 y17 y18 y19 y20 y21 y22
      unfold celluloidlaw04_HuffBack.l0
      repeat' first
      | (with_reducible exact ih0 _ _ _ _ _ _ _ _ _ _ _ _ _ _ _ _ _ _ _ _ _ _ _)
      | (with_reducible exact ih1 _ _ _ _ _ _ _ _ _ _ _ _ _ _ _ _ _ _ _ _ _ _)
      | (with_reducible exact ih2 _ _ _ _ _ _ _ _ _ _ _ _ _ _ _ _ _ _ _ _ _ _ _)
      | (with_reducible exact ih3 _ _ _ _)
      | (with_reducible exact ih4 _ _ _ _ _)
      | (with_reducible exact ih5 _ _ _ _ _ _)
      | (with_reducible exact LeO.refl _)
      | (with_reducible exact LeO.none _)
      | (with_reducible refine LeO.ite ?_ ?_)
      | (with_reducible refine LeO.bind ?_ (fun _ => ?_))
      | exact ih0 _ _ _ _ _ _ _ _ _ _ _ _ _ _ _ _ _ _ _ _ _ _ _
      | exact ih1 _ _ _ _ _ _ _ _ _ _ _ _ _ _ _ _ _ _ _ _ _ _
      | exact ih2 _ _ _ _ _ _ _ _ _ _ _ _ _ _ _ _ _ _ _ _ _ _ _
      | exact ih3 _ _ _ _
      | exact ih4 _ _ _ _ _
      | exact ih5 _ _ _ _ _ _
      | exact LeO.none _
      | refine LeO.ite ?_ ?_
      | refine LeO.bind ?_ (fun _ => ?_)
    · intro y0 y1 y2 y3
      unfold celluloidlaw04_HuffBack.j3
      repeat' first
      | (with_reducible exact ih0 _ _ _ _ _ _ _ _ _ _ _ _ _ _ _ _ _ _ _ _ _ _ _)
      | (with_reducible exact ih1 _ _ _ _ _ _ _ _ _ _ _ _ _ _ _ _ _ _ _ _ _ _)
      | (with_reducible exact ih2 _ _ _ _ _ _ _ _ _ _ _ _ _ _ _ _ _ _ _ _ _ _ _)
      | (with_reducible exact ih3 _ _ _ _)
      | (with_reducible exact ih4 _ _ _ _ _)
      | (with_reducible exact ih5 _ _ _ _ _ _)
      | (with_reducible exact LeO.refl _)
      | (with_reducible exact LeO.none _)
      | (with_reducible refine LeO.ite ?_ ?_)
      | (with_reducible refine LeO.bind ?_ (fun _ => ?_))
      | exact ih0 _ _ _ _ _ _ _ _ _ _ _ _ _ _ _ _ _ _ _ _ _ _ _
      | exact ih1 _ _ _ _ _ _ _ _ _ _ _ _ _ _ _ _ _ _ _ _ _ _
      | exact ih2 _ _ _ _ _ _ _ _ _ _ _ _ _ _ _ _ _ _ _ _ _ _ _
      | exact ih3 _ _ _ _
      | exact ih4 _ _ _ _ _
      | exact ih5 _ _ _ _ _ _
      | exact LeO.none _
      | refine LeO.ite ?_ ?_
      | refine LeO.bind ?_ (fun _ => ?_)
    · intro y0 y1 y2 y3 y4
      unfold celluloidlaw04_HuffBack.l1
      repeat' first
      | (with_reducible exact ih0 _ _ _ _ _ _ _ _ _ _ _ _ _ _ _ _ _ _ _ _ _ _ _)
      | (with_reducible exact ih1 _ _ _ _ _ _ _ _ _ _ _ _ _ _ _ _ _ _ _ _ _ _)
      | (with_reducible exact ih2 _ _ _ _ _ _ _ _ _ _ _ _ _ _ _ _ _ _ _ _ _ _ _)
      | (with_reducible exact ih3 _ _ _ _)
      | (with_reducible exact ih4 _ _ _ _ _)
      | (with_reducible exact ih5 _ _ _ _ _ _)
      | (with_reducible exact LeO.refl _)
      | (with_reducible exact LeO.none _)
      | (with_reducible refine LeO.ite ?_ ?_)
      | (with_reducible refine LeO.bind ?_ (fun _ => ?_))
      | exact ih0 _ _ _ _ _ _ _ _ _ _ _ _ _ _ _ _ _ _ _ _ _ _ _
      | exact ih1 _ _ _ _ _ _ _ _ _ _ _ _ _ _ _ _ _ _ _ _ _ _
      | exact ih2 _ _ _ _ _ _ _ _ _ _ _ _ _ _ _ _ _ _ _ _ _ _ _
      | exact ih3 _ _ _ _
      | exact ih4 _ _ _ _ _
      | exact ih5 _ _ _ _ _ _
      | exact LeO.none _
      | refine LeO.ite ?_ ?_
      | refine LeO.bind ?_ (fun _ => ?_)
    · intro y0 y1 y2 y3 y4 y5
      unfold celluloidlaw04_HuffBack.j5
      repeat' first
      | (with_reducible exact ih0 _ _ _ _ _ _ _ _ _ _ _ _ _ _ _ _ _ _ _ _ _ _ _)
      | (with_reducible exact ih1 _ _ _ _ _ _ _ _ _ _ _ _ _ _ _ _ _ _ _ _ _ _)
      | (with_reducible exact ih2 _ _ _ _ _ _ _ _ _ _ _ _ _ _ _ _ _ _ _ _ _ _ _)
      | (with_reducible exact ih3 _ _ _ _)
      | (with_reducible exact ih4 _ _ _ _ _)
      | (with_reducible exact ih5 _ _ _ _ _ _)
      | (with_reducible exact LeO.refl _)
      | (with_reducible exact LeO.none _)
      | (with_reducible refine LeO.ite ?_ ?_)
      | (with_reducible refine LeO.bind ?_ (fun _ => ?_))
      | exact ih0 _ _ _ _ _ _ _ _ _ _ _ _ _ _ _ _ _ _ _ _ _ _ _
      | exact ih1 _ _ _ _ _ _ _ _ _ _ _ _ _ _ _ _ _ _ _ _ _ _
      | exact ih2 _ _ _ _ _ _ _ _ _ _ _ _ _ _ _ _ _ _ _ _ _ _ _
      | exact ih3 _ _ _ _
      | exact ih4 _ _ _ _ _
      | exact ih5 _ _ _ _ _ _
      | exact LeO.none _
      | refine LeO.ite ?_ ?_
      | refine LeO.bind ?_ (fun _ => ?_)
theorem celluloidlaw04_HuffBack.mono : ∀ a0 a1 a2 k, LeO (celluloidlaw04_HuffBack.f k a0 a1 a2) (celluloidlaw04_HuffBack.f (k + 1) a0 a1 a2) := by
  intro a0 a1 a2 k
  obtain ⟨ih0, ih1, ih2, ih3, ih4, ih5⟩ := celluloidlaw04_HuffBack.mono_l k
  unfold celluloidlaw04_HuffBack.f
  repeat' first
      | (with_reducible exact ih0 _ _ _ _ _ _ _ _ _ _ _ _ _ _ _ _ _ _ _ _ _ _ _)
      | (with_reducible exact ih1 _ _ _ _ _ _ _ _ _ _ _ _ _ _ _ _ _ _ _ _ _ _)
      | (with_reducible exact ih2 _ _ _ _ _ _ _ _ _ _ _ _ _ _ _ _ _ _ _ _ _ _ _)
      | (with_reducible exact ih3 _ _ _ _)
      | (with_reducible exact ih4 _ _ _ _ _)
      | (with_reducible exact ih5 _ _ _ _ _ _)
      | (with_reducible exact LeO.refl _)
      | (with_reducible exact LeO.none _)
      | (with_reducible refine LeO.ite ?_ ?_)
      | (with_reducible refine LeO.bind ?_ (fun _ => ?_))
      | exact ih0 _ _ _ _ _ _ _ _ _ _ _ _ _ _ _ _ _ _ _ _ _ _ _
      | exact ih1 _ _ _ _ _ _ _ _ _ _ _ _ _ _ _ _ _ _ _ _ _ _
      | exact ih2 _ _ _ _ _ _ _ _ _ _ _ _ _ _ _ _ _ _ _ _ _ _ _
      | exact ih3 _ _ _ _
      | exact ih4 _ _ _ _ _
      | exact ih5 _ _ _ _ _ _
      | exact LeO.none _
      | refine LeO.ite ?_ ?_
      | refine LeO.bind ?_ (fun _ => ?_)
def celluloidlaw04_HuffBack.T11 : Bool × List (List Nat × List Nat) := (true, [([], []), ([], []), ([0, 1], [0, 1]), ([2], [2]), ([], []), ([], []), ([4, 5], [4, 5]), ([6], [6]), ([7], [7]), ([], []), ([8, 9], [8, 9]), ([3, 10], [3, 10]), ([11], [11]), ([12], [12])])
def celluloidlaw04_HuffBack.B11 : List Nat := [0, 0, 3, 7, 0, 0, 48, 112, 240, 0, 1008, 2047, 4095, 8191]
theorem celluloidlaw04_HuffBack.tab11 : rtab .any (opsOf Try.f5 11) = celluloidlaw04_HuffBack.T11 := by kernel_rfl
theorem celluloidlaw04_HuffBack.bits11 : waitsOk celluloidlaw04_HuffBack.T11.2 celluloidlaw04_HuffBack.B11 = true := by kernel_rfl
def celluloidlaw04_HuffBack.T12 : Bool × List (List Nat × List Nat) := (true, [([], []), ([], []), ([1], [1]), ([0, 2], [0, 2]), ([3], [3]), ([], []), ([5], [5]), ([6], [6]), ([4, 7], [4, 7]), ([0, 2, 0, 1, 2, 3, 4, 5, 6, 7, 8], [0, 2]), ([9, 8, 0, 1, 2, 3, 4, 5, 6, 7, 8], [8, 9])])
def celluloidlaw04_HuffBack.B12 : List Nat := [0, 0, 2, 7, 15, 0, 32, 96, 255, 511, 1023]
theorem celluloidlaw04_HuffBack.tab12 : rtab .any (opsOf Try.f5 12) = celluloidlaw04_HuffBack.T12 := by kernel_rfl
theorem celluloidlaw04_HuffBack.bits12 : waitsOk celluloidlaw04_HuffBack.T12.2 celluloidlaw04_HuffBack.B12 = true := by kernel_rfl
def celluloidlaw04_HuffBack.T19 : Bool × List (List Nat × List Nat) := (true, [([], []), ([], []), ([0, 1], [0, 1]), ([2], [2]), ([3], [3]), ([3], [3]), ([4, 5, 3], [3, 4, 5]), ([6, 3], [3, 6]), ([3], [3]), ([3], [3]), ([8, 9, 3], [3, 8, 9]), ([10, 3], [3, 10]), ([7, 11, 3], [3, 7, 11]), ([3, 12], [3, 12]), ([13, 3], [13]), ([14], [14]), ([14], [14]), ([15, 16, 14], [14, 15, 16]), ([17, 14], [14, 17]), ([14], [14]), ([14], [14]), ([19, 20, 14], [14, 19, 20]), ([21, 14], [14, 21]), ([14], [14]), ([14], [14]), ([23, 24, 14], [14, 23, 24]), ([25, 14], [14, 25]), ([22, 26, 14], [14, 22, 26]), ([18, 27, 14], [14, 18, 27]), ([14], [14]), ([14], [14]), ([29, 30, 14], [14, 29, 30]), ([31, 14], [14, 31]), ([28, 32, 14], [14, 28, 32]), ([14, 33], [14, 33])])
def celluloidlaw04_HuffBack.B19 : List Nat := [0, 0, 3, 7, 15, 15, 63, 127, 15, 15, 783, 1807, 4095, 8191, 16383, 32767, 32767, 131071, 262143, 32767, 32767, 1605631, 3702783, 32767, 32767, 25198591, 58753023, 133726207, 268435455, 32767, 32767, 1610645503, 3758129151, 8589934591, 17179869183]
theorem celluloidlaw04_HuffBack.tab19 : rtab .any (opsOf Try.f5 19) = celluloidlaw04_HuffBack.T19 := by kernel_rfl
theorem celluloidlaw04_HuffBack.bits19 : waitsOk celluloidlaw04_HuffBack.T19.2 celluloidlaw04_HuffBack.B19 = true := by kernel_rfl

end Go.Proofs.Ytpbhkdamkbopkaa.GBack
