/- The walk and the plain law of this claim, glued by a program of this session (wip/tools/claimfit.py). -/
import Derived.Test.YtpbhkdamkbopkaaMPXH
-- Written by a program of this session (wip/tools/print2.py) for this claim.
namespace Go.Proofs.Ytpbhkdamkbopkaa.GPixb
open Go.RowKit Go.Proofs.YtpbhkdamkbopkaaW.PrintWords Go.Proofs.YtpbhkdamkbopkaaW.PrintLast Go.Proofs.YtpbhkdamkbopkaaW.PrintMore Go.Proofs.Ytpbhkdamkbopkaa.Wr2 Go.Proofs.Ytpbhkdamkbopkaa.Wr1 Go.Proofs.Ytpbhkdamkbopkaa.GRuns Go.Proofs.Ytpbhkdamkbopkaa.GBack2 Go.Proofs.Ytpbhkdamkbopkaa.GPix Go.Proofs.Ytpbhkdamkbopkaa.PR
attribute [local go_sem] max2_int min2_int max_two min_two max_three min_three max_four min_four   -- for this text's walks alone
set_option linter.unusedVariables false
set_option linter.unusedSimpArgs false

/-! ### celluloidlaw11_PixelNames: function 24 -/
def celluloidlaw11_PixelNames.f (k : Nat) (a0_0 : Int) (a0_1 : Int) (a0_2 : Int) (l0_3 : List (S89)) (a1 : Int) : Option (Bool) := if (l0_3.length : Int) > 500 then ((celluloidlaw11_awake.f k).bind fun t377 => (some t377)) else ((pixel_Put.f k a0_0 a0_1 a0_2 l0_3).bind fun bt378 => (if bt378.2 = 0 then ((pixel_Put.f k (wrap64 (a1)) a0_1 a0_2 l0_3).bind fun bt380 => (if bt380.2 = 0 then (if (bt380.1.size : Int) = (bt378.1.size : Int) then (if (bt380.1.size : Int) > 7 then (if 2 ≤ (bt380.1.size : Int) then (if 2 ≤ (bt378.1.size : Int) then (if (bt380.1.extract 2 bt380.1.size).toList = (bt378.1.extract 2 bt378.1.size).toList then (if 0 < (bt380.1.size : Int) then (if (bt bt380.1 0) = ((a1) % 256) then (if 1 < (bt380.1.size : Int) then (if (bt bt380.1 1) = ((a1 / 256) % 256) then ((celluloidlaw11_awake.f k).bind fun t382 => (some t382)) else (some false)) else (none)) else (some false)) else (none)) else (some false)) else (none)) else (none)) else (some false)) else (some false)) else (some false))) else (if bt378.1.toList = ([] : List UInt8) then ((celluloidlaw11_awake.f k).bind fun t383 => (some t383)) else (some false))))
theorem celluloidlaw11_PixelNames.mono : ∀ a0 a1 a2 a3 a4 k, LeO (celluloidlaw11_PixelNames.f k a0 a1 a2 a3 a4) (celluloidlaw11_PixelNames.f (k + 1) a0 a1 a2 a3 a4) := by
 intro a0 a1 a2 a3 a4 k
 unfold celluloidlaw11_PixelNames.f
 repeat' first
   |(with_reducible exact celluloidlaw11_awake.mono _)
   |(with_reducible exact pixel_Put.mono _ _ _ _ _)
   |(with_reducible exact LeO.refl _)
   |(with_reducible exact LeO.none _)
   |(with_reducible refine LeO.ite ?_ ?_)
   |(with_reducible refine LeO.bind ?_ (fun _ => ?_))
   |exact celluloidlaw11_awake.mono _
   |exact pixel_Put.mono _ _ _ _ _
   |exact LeO.none _
   |refine LeO.ite ?_ ?_
   |refine LeO.bind ?_ (fun _ => ?_)
def celluloidlaw11_PixelNames.T8 : Bool × List (List Nat × List Nat) := (true, [([], []), ([0], [0]), ([1], [1]), ([2], [2]), ([3, 2], [2, 3]), ([2], [2]), ([5, 2], [2, 5]), ([4, 6, 2], [2, 4, 6]), ([2, 7], [2, 7]), ([8, 2], [8]), ([9], [9]), ([10, 9], [9, 10]), ([11, 9], [9, 11]), ([9, 12], [9, 12]), ([13, 9], [13]), ([14], [14]), ([15, 14], [14, 15]), ([14], [14]), ([17, 14], [14, 17]), ([16, 18, 14], [14, 16, 18]), ([14, 19], [14, 19]), ([20, 14], [20]), ([21], [21]), ([22, 21], [21, 22]), ([21], [21]), ([24, 21], [21, 24]), ([23, 25, 21], [21, 23, 25]), ([21, 26], [21, 26]), ([27, 21], [27]), ([28], [28]), ([29, 28], [28, 29]), ([28], [28]), ([31, 28], [28, 31]), ([32, 28], [28, 32]), ([30, 33, 28], [28, 30, 33]), ([28, 34], [28, 34]), ([35, 28], [35]), ([36, 36], [36]), ([36, 37], [36, 37]), ([38, 37, 0, 1, 2, 3, 4, 5, 6, 7, 8, 9, 10, 11, 12, 13, 14, 15, 16, 17, 18, 19, 20, 21, 22, 23, 24, 25, 26, 27, 28, 29, 30, 31, 32, 33, 34, 35, 36, 37, 38], [38])])
def celluloidlaw11_PixelNames.B8 : List Nat := [0, 1, 3, 7, 15, 7, 39, 127, 255, 511, 1023, 2047, 4095, 8191, 16383, 32767, 65535, 32767, 163839, 524287, 1048575, 2097151, 4194303, 8388607, 4194303, 20971519, 67108863, 134217727, 268435455, 536870911, 1073741823, 536870911, 2684354559, 6979321855, 17179869183, 34359738367, 68719476735, 137438953471, 274877906943, 549755813887]
theorem celluloidlaw11_PixelNames.tab8 : rtab .any (opsOf Try.f24 8) = celluloidlaw11_PixelNames.T8 := by kernel_rfl
theorem celluloidlaw11_PixelNames.bits8 : waitsOk celluloidlaw11_PixelNames.T8.2 celluloidlaw11_PixelNames.B8 = true := by kernel_rfl

end Go.Proofs.Ytpbhkdamkbopkaa.GPixb
-- Written by a program of this session (wip/tools/print2.py) for this claim.
namespace Go.Proofs.Ytpbhkdamkbopkaa.GPixb
open Go.Proofs.Ytpbhkdamkbopkaa.Sq
open Go.RowKit Go.Proofs.YtpbhkdamkbopkaaW.PrintWords Go.Proofs.YtpbhkdamkbopkaaW.PrintLast Go.Proofs.YtpbhkdamkbopkaaW.PrintMore Go.Proofs.Ytpbhkdamkbopkaa.Wr2 Go.Proofs.Ytpbhkdamkbopkaa.Wr1 Go.Proofs.Ytpbhkdamkbopkaa.GRuns Go.Proofs.Ytpbhkdamkbopkaa.GBack2 Go.Proofs.Ytpbhkdamkbopkaa.GPix Go.Proofs.Ytpbhkdamkbopkaa.PR
attribute [local go_sem] max2_int min2_int max_two min_two max_three min_three max_four min_four   -- for this text's walks alone
set_option linter.unusedVariables false
set_option linter.unusedSimpArgs false

set_option maxHeartbeats 8000000 in
set_option maxRecDepth 100000 in
theorem celluloidlaw11_PixelNames.calls (k : Nat) (a0_0 : Int) (a0_1 : Int) (a0_2 : Int) (A0_3 : Option Addr) (c0_3 : Nat) (l0_3 : List (S89)) (a1 : Int) (r : Bool) (w : World) (hr0_3 : Kd.C k89 w A0_3 l0_3.length l0_3) (hc0_3 : l0_3.length ≤ c0_3) (h : celluloidlaw11_PixelNames.f k a0_0 a0_1 a0_2 l0_3 a1 = some r) (hr_ : Aside0 (r = true)) :
  Calls Try.prog 24 #[.agg #[.int .i64 a0_0, .int .i64 a0_1, .int .i64 a0_2, .slice A0_3 l0_3.length c0_3], .int .u16 a1] w fun e w' => e = .returned (.bool r) ∧ Below w.heap.size w w' := by
 have hu76 := Try.underlying76
 have hw8_ : ∀ n : Int, IntKind.u8.wrap n = n % 256 := fun n => by simp [IntKind.wrap, IntKind.bits, IntKind.signed]
 have HR0_3 := Aside0.mk hr0_3
 have HC0_3 := Aside0.mk hc0_3
 clear hr0_3 hc0_3
 have HB := Aside0.mk (Below.refl w.heap.size w)
 have H : (if (l0_3.length : Int) > 500 then ((celluloidlaw11_awake.f k).bind fun t377 => (some t377)) else ((pixel_Put.f k a0_0 a0_1 a0_2 l0_3).bind fun bt378 => (if bt378.2 = 0 then ((pixel_Put.f k (wrap64 (a1)) a0_1 a0_2 l0_3).bind fun bt380 => (if bt380.2 = 0 then (if (bt380.1.size : Int) = (bt378.1.size : Int) then (if (bt380.1.size : Int) > 7 then (if 2 ≤ (bt380.1.size : Int) then (if 2 ≤ (bt378.1.size : Int) then (if (bt380.1.extract 2 bt380.1.size).toList = (bt378.1.extract 2 bt378.1.size).toList then (if 0 < (bt380.1.size : Int) then (if (bt bt380.1 0) = ((a1) % 256) then (if 1 < (bt380.1.size : Int) then (if (bt bt380.1 1) = ((a1 / 256) % 256) then ((celluloidlaw11_awake.f k).bind fun t382 => (some t382)) else (some false)) else (none)) else (some false)) else (none)) else (some false)) else (none)) else (none)) else (some false)) else (some false)) else (some false))) else (if bt378.1.toList = ([] : List UInt8) then ((celluloidlaw11_awake.f k).bind fun t383 => (some t383)) else (some false))))) = some r := h
 clear h
 by_cases c3 : (l0_3.length : Int) > 500
 ·rw [if_pos c3] at H
  have c3b0 : decide (500 < (l0_3.length : Int)) = true := decide_eq_true c3
  have c3b1 : decide (500 < l0_3.length) = true := decide_eq_true (by omega)
  clear c3
  replace H := Option.bind_eq_some_iff.mp H
  obtain ⟨t377, A40, H⟩ := H
  replace H : (some t377) = some r := H
  have A4 := Aside0.mk A40
  clear A40
  first
  |exact absurd (Option.some.inj H) (by rw [hr_.out]; decide)
  |obtain rfl := Option.some.inj H
   go_enter Try.func24, Try.ntmps24
   go_wp2_with (first | ((with_reducible refine gate_dst (N := 2) rfl ?_); (try (refine gate_guard (by rfl) ?_; dsimp only)); refine boxQ 2 #[.int .i64 a0_0, .int .i64 a0_1, .int .i64 a0_2, .slice A0_3 l0_3.length c0_3] 76 ?_; intro gb376 hg w5 hbox hb; have n0_ := hs HB hb; have n1_ := Aside0.mk (hbox); have n2_ := gs HB hg; have n3_ := gs HB hg; clear HB; have HB := n0_; have BK376 := n1_; have GW376 := n2_; have GE376 := n3_; clear n0_ n1_ n2_ n3_; clear hb hbox hg; obtain ⟨hcz6_0, hcz6_1, hcz6_2, hcz6_3⟩ := cc4 BK376; obtain ⟨hfz6_0, hfz6_1, hfz6_2, hfz6_3⟩ := ff4 BK376) | ((with_reducible refine gate_callee (f := 49) rfl ?_); refine goesQ (some 13) Try.func49 #[] ?_; (with_reducible refine (celluloidlaw11_awake.calls k  t377 _ A4.out).mono ?_); rintro e w7 ⟨rfl, hb⟩; refine ⟨_, rfl, ?_⟩; have n0_ := bb BK376 hb; have n1_ := hs HB hb; clear BK376; clear HB; have BK376 := n0_; have HB := n1_; clear n0_ n1_; (try clear hb)))
   go_ret
   exact ⟨by first | rfl | (simp [errW_none, errW_some] <;> rfl) | (simp [*, errW_none, errW_some] <;> rfl), hn HB⟩
 ·rw [if_neg c3] at H
  have c3b0 : decide (500 < (l0_3.length : Int)) = false := decide_eq_false c3
  have c3b1 : decide (500 < l0_3.length) = false := decide_eq_false (by omega)
  clear c3
  replace H := Option.bind_eq_some_iff.mp H
  obtain ⟨⟨t378, t379⟩, A80, H⟩ := H
  replace H : (if t379 = 0 then ((pixel_Put.f k (wrap64 (a1)) a0_1 a0_2 l0_3).bind fun bt380 => (if bt380.2 = 0 then (if (bt380.1.size : Int) = (t378.size : Int) then (if (bt380.1.size : Int) > 7 then (if 2 ≤ (bt380.1.size : Int) then (if 2 ≤ (t378.size : Int) then (if (bt380.1.extract 2 bt380.1.size).toList = (t378.extract 2 t378.size).toList then (if 0 < (bt380.1.size : Int) then (if (bt bt380.1 0) = ((a1) % 256) then (if 1 < (bt380.1.size : Int) then (if (bt bt380.1 1) = ((a1 / 256) % 256) then ((celluloidlaw11_awake.f k).bind fun t382 => (some t382)) else (some false)) else (none)) else (some false)) else (none)) else (some false)) else (none)) else (none)) else (some false)) else (some false)) else (some false))) else (if t378.toList = ([] : List UInt8) then ((celluloidlaw11_awake.f k).bind fun t383 => (some t383)) else (some false))) = some r := H
  have A8 := Aside0.mk A80
  clear A80
  by_cases c9 : t379 = 0
  ·rw [if_pos c9] at H
   have c9b0 : (t379 == 0) = true := beq_iff_eq.mpr c9
   have c9b1 : (t379 != 0) = false := bne_eq_false_iff_eq.mpr c9
   clear c9
   replace H := Option.bind_eq_some_iff.mp H
   obtain ⟨⟨t380, t381⟩, A100, H⟩ := H
   replace H : (if t381 = 0 then (if (t380.size : Int) = (t378.size : Int) then (if (t380.size : Int) > 7 then (if 2 ≤ (t380.size : Int) then (if 2 ≤ (t378.size : Int) then (if (t380.extract 2 t380.size).toList = (t378.extract 2 t378.size).toList then (if 0 < (t380.size : Int) then (if (bt t380 0) = ((a1) % 256) then (if 1 < (t380.size : Int) then (if (bt t380 1) = ((a1 / 256) % 256) then ((celluloidlaw11_awake.f k).bind fun t382 => (some t382)) else (some false)) else (none)) else (some false)) else (none)) else (some false)) else (none)) else (none)) else (some false)) else (some false)) else (some false)) = some r := H
   have A10 := Aside0.mk A100
   clear A100
   by_cases c11 : t381 = 0
   ·rw [if_pos c11] at H
    have c11b0 : (t381 == 0) = true := beq_iff_eq.mpr c11
    have c11b1 : (t381 != 0) = false := bne_eq_false_iff_eq.mpr c11
    clear c11
    by_cases c12 : (t380.size : Int) = (t378.size : Int)
    ·rw [if_pos c12] at H
     have c12b0 : ((t380.size : Int) == (t378.size : Int)) = true := beq_iff_eq.mpr c12
     have c12b1 : ((t380.size : Int) != (t378.size : Int)) = false := bne_eq_false_iff_eq.mpr c12
     have c12b2 : (t380.size == t378.size) = true := by first | simpa using c12 | (simp at c12 ⊢; omega)
     clear c12
     by_cases c13 : (t380.size : Int) > 7
     ·rw [if_pos c13] at H
      have c13b0 : decide (7 < (t380.size : Int)) = true := decide_eq_true c13
      have c13b1 : decide (7 < t380.size) = true := decide_eq_true (by omega)
      clear c13
      by_cases c14 : 2 ≤ (t380.size : Int)
      ·rw [if_pos c14] at H
       have c14b0 := eq_true c14
       have c14b1 : decide (2 ≤ (t380.size : Int)) = true := decide_eq_true c14
       clear c14
       by_cases c15 : 2 ≤ (t378.size : Int)
       ·rw [if_pos c15] at H
        have c15b0 := eq_true c15
        have c15b1 : decide (2 ≤ (t378.size : Int)) = true := decide_eq_true c15
        clear c15
        by_cases c16 : (t380.extract 2 t380.size).toList = (t378.extract 2 t378.size).toList
        ·rw [if_pos c16] at H
         have c16b0 : ((t380.extract 2 t380.size).toList == (t378.extract 2 t378.size).toList) = true := beq_iff_eq.mpr c16
         have c16b1 : ((t380.extract 2 t380.size).toList != (t378.extract 2 t378.size).toList) = false := bne_eq_false_iff_eq.mpr c16
         clear c16
         by_cases c17 : 0 < (t380.size : Int)
         ·rw [if_pos c17] at H
          have c17b0 : decide (0 < (t380.size : Int)) = true := decide_eq_true c17
          have c17b1 : decide (0 < t380.size) = true := decide_eq_true (by omega)
          clear c17
          by_cases c19 : (bt t380 0) = ((a1) % 256)
          ·rw [if_pos c19] at H
           have c19b0 : ((bt t380 0) == ((a1) % 256)) = true := beq_iff_eq.mpr c19
           have c19b1 : ((bt t380 0) != ((a1) % 256)) = false := bne_eq_false_iff_eq.mpr c19
           clear c19
           by_cases c20 : 1 < (t380.size : Int)
           ·rw [if_pos c20] at H
            have c20b0 : decide (1 < (t380.size : Int)) = true := decide_eq_true c20
            have c20b1 : decide (1 < t380.size) = true := decide_eq_true (by omega)
            clear c20
            by_cases c22 : (bt t380 1) = ((a1 / 256) % 256)
            ·rw [if_pos c22] at H
             have c22b0 : ((bt t380 1) == ((a1 / 256) % 256)) = true := beq_iff_eq.mpr c22
             have c22b1 : ((bt t380 1) != ((a1 / 256) % 256)) = false := bne_eq_false_iff_eq.mpr c22
             clear c22
             replace H := Option.bind_eq_some_iff.mp H
             obtain ⟨t382, A230, H⟩ := H
             replace H : (some t382) = some r := H
             have A23 := Aside0.mk A230
             clear A230
             first
             |exact absurd (Option.some.inj H) (by rw [hr_.out]; decide)
             |obtain rfl := Option.some.inj H
              go_enter Try.func24, Try.ntmps24
              try go_wp2_with (first | ((with_reducible refine gate_dst (N := 2) rfl ?_); (try (refine gate_guard (by rfl) ?_; dsimp only)); refine boxQ 2 #[.int .i64 a0_0, .int .i64 a0_1, .int .i64 a0_2, .slice A0_3 l0_3.length c0_3] 76 ?_; intro gb376 hg w24 hbox hb; have n0_ := hs HB hb; have n1_ := Aside0.mk (hbox); have n2_ := gs HB hg; have n3_ := gs HB hg; clear HB; have HB := n0_; have BK376 := n1_; have GW376 := n2_; have GE376 := n3_; clear n0_ n1_ n2_ n3_; clear hb hbox hg; obtain ⟨hcz25_0, hcz25_1, hcz25_2, hcz25_3⟩ := cc4 BK376; obtain ⟨hfz25_0, hfz25_1, hfz25_2, hfz25_3⟩ := ff4 BK376) | ((with_reducible refine gate_callee (f := 50) rfl ?_); refine goesQ (some 16) Try.func50 #[.agg #[.int .i64 a0_0, .int .i64 a0_1, .int .i64 a0_2, .slice A0_3 l0_3.length c0_3]] ?_; (with_reducible refine (pixel_Put.calls k a0_0 a0_1 a0_2 _ _ l0_3 t378 t379 _ ?side1 ?side2 A8.out).mono ?_); (case side1 => repeat (first | exact (Kd.C_below HR0_3.out HB.out) | (with_reducible refine Kd.C_alloc ?_ _) | (with_reducible refine Kd.C_drewN ?_ _) | (with_reducible refine Kd.C_drew ?_))); (case side2 => exact HC0_3.out); rintro e w26 ⟨rfl, hb⟩; refine ⟨_, rfl, ?_⟩; have n0_ := bb BK376 hb; have n1_ := hs HB hb; clear BK376; clear HB; have BK376 := n0_; have HB := n1_; clear n0_ n1_; (try clear hb); obtain ⟨hcz27_0, hcz27_1, hcz27_2, hcz27_3⟩ := cc4 BK376; obtain ⟨hfz27_0, hfz27_1, hfz27_2, hfz27_3⟩ := ff4 BK376) | ((with_reducible refine gate_callee (f := 50) rfl ?_); refine goesQ (some 31) Try.func50 #[.agg #[.int .i64 (wrap64 (a1)), .int .i64 a0_1, .int .i64 a0_2, .slice A0_3 l0_3.length c0_3]] ?_; (with_reducible refine (pixel_Put.calls k (wrap64 (a1)) a0_1 a0_2 _ _ l0_3 t380 t381 _ ?side1 ?side2 A10.out).mono ?_); (case side1 => exact Kd.C_below HR0_3.out (hn HB)); (case side2 => exact HC0_3.out); rintro e w28 ⟨rfl, hb⟩; refine ⟨_, rfl, ?_⟩; have n0_ := bp #[.int .i64 (wrap64 (a1)), .int .i64 a0_1, .int .i64 a0_2, .slice A0_3 l0_3.length c0_3] BK376 hb; have n1_ := hs HB hb; clear BK376; clear HB; have BK376 := n0_; have HB := n1_; clear n0_ n1_; (try clear hb)))
              have n0_ := Aside0.mk (blk_drew BK376.out)
              have n1_ := Aside0.mk (below_drew1 HB.out)
              clear BK376
              clear HB
              have BK376 := n0_
              have HB := n1_
              clear n0_ n1_
              have p18 : 0 ≤ (0 : Int) := (by omega)
              have q18 : 0 < t380.size := (by have : (0 : Int) < (t380.size : Int) := of_decide_eq_true (by first | (with_reducible assumption) | assumption); omega)
              have hx18 : ∀ h : 0 < t380.size, ((t380[0]'h).toNat : Int) = bt t380 0 := bt_at t380 0
              clear p18
              have qi18 : (0 < (t380.size : Int)) = True := eq_true (of_decide_eq_true (by first | (with_reducible assumption) | assumption))
              replace q18 := eq_true q18
              have p21 : 0 ≤ (1 : Int) := (by omega)
              have q21 : 1 < t380.size := (by have : (1 : Int) < (t380.size : Int) := of_decide_eq_true (by first | (with_reducible assumption) | assumption); omega)
              have hx21 : ∀ h : 1 < t380.size, ((t380[1]'h).toNat : Int) = bt t380 1 := bt_at t380 1
              clear p21
              have qi21 : (1 < (t380.size : Int)) = True := eq_true (of_decide_eq_true (by first | (with_reducible assumption) | assumption))
              replace q21 := eq_true q21
              refine start_ (n := 40) (S := fun w' => True) (ds := []) #[false, false, false, false, false, false, false, false, false, false, false, false, false, false, false, false, false, false, false, false, false, false, false, false, false, false, false, false, false, false, false, false, false, false, false, false, false, false, false, false] (by kernel_rfl) rfl rfl trivial (fun hHeld => ?_); refine with_tabW celluloidlaw11_PixelNames.tab8 celluloidlaw11_PixelNames.bits8 (fun HT_ HW_ => ?_)
              generalize w28.drew = w29 at BK376 HB hHeld ⊢
              refine pureQ 0 (some 34) (tk 1 39) (any_of HT_.out (by kernel_rfl)) ?_
              refine pureQ 1 (some 35) (tk 2 38) (any_of HT_.out (by kernel_rfl)) ?_
              refine pureQ 2 (some 36) (tk 3 37) (any_of HT_.out (by kernel_rfl)) ?_
              refine pureQ 3 (some 37) (tk 4 36) (any_of HT_.out (by kernel_rfl)) ?_
              refine pureQ 4 (some 38) (tk 5 35) (any_of HT_.out (by kernel_rfl)) ?_
              refine pureQ 5 (some 39) (tk 6 34) (any_of HT_.out (by kernel_rfl)) ?_
              refine pureQ 6 (some 40) (tk 7 33) (any_of HT_.out (by kernel_rfl)) ?_
              refine pureQ 7 (some 41) (tk 8 32) (any_of HT_.out (by kernel_rfl)) ?_
              refine pureQ 8 (some 42) (tk 9 31) (any_of HT_.out (by kernel_rfl)) ?_
              refine pureQ 9 (some 43) (tk 10 30) (any_of HT_.out (by kernel_rfl)) ?_
              refine pureQ 10 (some 44) (tk 11 29) (any_of HT_.out (by kernel_rfl)) ?_
              refine pureQ 11 (some 45) (tk 12 28) (any_of HT_.out (by kernel_rfl)) ?_
              refine pureQ 12 (some 46) (tk 13 27) (any_of HT_.out (by kernel_rfl)) ?_
              refine pureQ 13 (some 47) (tk 14 26) (any_of HT_.out (by kernel_rfl)) ?_
              refine pureQ 14 (some 48) (tk 15 25) (any_of HT_.out (by kernel_rfl)) ?_
              refine pureQ 15 (some 49) (tk 16 24) (any_of HT_.out (by kernel_rfl)) ?_
              refine pureQ 16 (some 50) (tk 17 23) (any_of HT_.out (by kernel_rfl)) ?_
              refine pureQ 17 (some 51) (tk 18 22) (any_of HT_.out (by kernel_rfl)) ?_
              refine pureQ 18 (some 52) (tk 19 21) (any_of HT_.out (by kernel_rfl)) ?_
              refine pureQ 19 (some 53) (tk 20 20) (any_of HT_.out (by kernel_rfl)) ?_
              refine pureQ 20 (some 54) (tk 21 19) (any_of HT_.out (by kernel_rfl)) ?_
              refine pureQ 21 (some 55) (tk 22 18) (any_of HT_.out (by kernel_rfl)) ?_
              refine pureQ 22 (some 56) (tk 23 17) (any_of HT_.out (by kernel_rfl)) ?_
              refine pureQ 24 (some 58) #[true, true, true, true, true, true, true, true, true, true, true, true, true, true, true, true, true, true, true, true, true, true, true, false, true, false, false, false, false, false, false, false, false, false, false, false, false, false, false, false] (any_of HT_.out (by kernel_rfl)) ?_
              refine pureQ 25 (some 59) #[true, true, true, true, true, true, true, true, true, true, true, true, true, true, true, true, true, true, true, true, true, true, true, false, true, true, false, false, false, false, false, false, false, false, false, false, false, false, false, false] (any_of HT_.out (by kernel_rfl)) ?_
              refine take_ (i := 23) (N := some 57) (v := ?_) (a' := ?_) (tk 26 14) rfl rfl (take_ofW HT_.out HW_.out (by kernel_rfl)) (fun _ _ _ h => h) (Or.inl ⟨by rfl, ?_⟩) hHeld ?_ ?_
              rotate_left
              ·intro w' _
               go_simp
               with_reducible rfl
              rotate_left
              ·simp only [Act.put, List.setIfInBounds_toArray, List.set_cons_zero, List.set_cons_succ, i64_w, i32_w]
               rfl
              refine pureQ 26 (some 60) (tk 27 13) (any_of HT_.out (by kernel_rfl)) ?_
              refine pureQ 27 (some 61) (tk 28 12) (any_of HT_.out (by kernel_rfl)) ?_
              refine pureQ 28 (some 62) (tk 29 11) (any_of HT_.out (by kernel_rfl)) ?_
              refine pureQ 29 (some 63) (tk 30 10) (any_of HT_.out (by kernel_rfl)) ?_
              refine pureQ 31 (some 65) #[true, true, true, true, true, true, true, true, true, true, true, true, true, true, true, true, true, true, true, true, true, true, true, true, true, true, true, true, true, true, false, true, false, false, false, false, false, false, false, false] (any_of HT_.out (by kernel_rfl)) ?_
              refine pureQ 32 (some 66) #[true, true, true, true, true, true, true, true, true, true, true, true, true, true, true, true, true, true, true, true, true, true, true, true, true, true, true, true, true, true, false, true, true, false, false, false, false, false, false, false] (any_of HT_.out (by kernel_rfl)) ?_
              refine pureQ 33 (some 67) #[true, true, true, true, true, true, true, true, true, true, true, true, true, true, true, true, true, true, true, true, true, true, true, true, true, true, true, true, true, true, false, true, true, true, false, false, false, false, false, false] (any_of HT_.out (by kernel_rfl)) ?_
              refine take_ (i := 30) (N := some 64) (v := ?_) (a' := ?_) (tk 34 6) rfl rfl (take_ofW HT_.out HW_.out (by kernel_rfl)) (fun _ _ _ h => h) (Or.inl ⟨by rfl, ?_⟩) hHeld ?_ ?_
              rotate_left
              ·intro w' _
               go_simp
               with_reducible rfl
              rotate_left
              ·simp only [Act.put, List.setIfInBounds_toArray, List.set_cons_zero, List.set_cons_succ, i64_w, i32_w]
               rfl
              refine pureQ 34 (some 68) (tk 35 5) (any_of HT_.out (by kernel_rfl)) ?_
              refine pureQ 35 (some 69) (tk 36 4) (any_of HT_.out (by kernel_rfl)) ?_
              refine pureQ 36 (some 70) (tk 37 3) (any_of HT_.out (by kernel_rfl)) ?_
              refine one_ (i := 37) (N := some 71) (tk 38 2) rfl rfl (one_of HT_.out (by kernel_rfl)) (by decide) (fun K hK => ?_)
              refine goes_ Try.func49 (by kernel_rfl) rfl #[] (by rfl) rfl rfl (by (try simp only [List.map_toArray, List.map_cons, List.map_nil]); first | done | rfl | (simp only [List.length_drop, List.length_take]; rfl)) ?_
              with_reducible refine (celluloidlaw11_awake.calls k  t382 _ A23.out).mono ?_
              rintro e w30 ⟨rfl, hb⟩
              refine ⟨_, rfl, ?_⟩
              have n0_ := bb BK376 hb
              have n1_ := hs HB hb
              clear BK376
              clear HB
              have BK376 := n0_
              have HB := n1_
              clear n0_ n1_
              (try clear hb)
              (try clear hb2)
              (try clear hk)
              (try clear hi)
              refine hK.out _ _ trivial (fun hHeld => ?_)
              clear hK K
              refine norm_ (a' := ?_) ?_ ?_
              rotate_left
              ·show Act.put _ (some 71) _ = _
               simp only [Act.put, List.setIfInBounds_toArray, List.set_cons_zero, List.set_cons_succ, i64_w, i32_w]
               rfl
              refine pureQ 38 (some 72) (tk 39 1) (any_of HT_.out (by kernel_rfl)) ?_
              refine pureQ 39 (some 4) (tk 40 0) (any_of HT_.out (by kernel_rfl)) ?_
              refine done_ (done_of HT_.out (by kernel_rfl)) ?_
              try go_wp2
              go_ret
              exact ⟨by first | rfl | (simp [errW_none, errW_some] <;> rfl) | (simp [*, errW_none, errW_some] <;> rfl), hn HB⟩
            ·rw [if_neg c22] at H
             have c22b0 : ((bt t380 1) == ((a1 / 256) % 256)) = false := beq_eq_false_iff_ne.mpr c22
             have c22b1 : ((bt t380 1) != ((a1 / 256) % 256)) = true := bne_iff_ne.mpr c22
             first
             |exact absurd (Option.some.inj H) (by rw [hr_.out]; decide)
             |obtain rfl := Option.some.inj H
              go_enter Try.func24, Try.ntmps24
              try go_wp2_with (first | ((with_reducible refine gate_dst (N := 2) rfl ?_); (try (refine gate_guard (by rfl) ?_; dsimp only)); refine boxQ 2 #[.int .i64 a0_0, .int .i64 a0_1, .int .i64 a0_2, .slice A0_3 l0_3.length c0_3] 76 ?_; intro gb376 hg w31 hbox hb; have n0_ := hs HB hb; have n1_ := Aside0.mk (hbox); have n2_ := gs HB hg; have n3_ := gs HB hg; clear HB; have HB := n0_; have BK376 := n1_; have GW376 := n2_; have GE376 := n3_; clear n0_ n1_ n2_ n3_; clear hb hbox hg; obtain ⟨hcz32_0, hcz32_1, hcz32_2, hcz32_3⟩ := cc4 BK376; obtain ⟨hfz32_0, hfz32_1, hfz32_2, hfz32_3⟩ := ff4 BK376) | ((with_reducible refine gate_callee (f := 50) rfl ?_); refine goesQ (some 16) Try.func50 #[.agg #[.int .i64 a0_0, .int .i64 a0_1, .int .i64 a0_2, .slice A0_3 l0_3.length c0_3]] ?_; (with_reducible refine (pixel_Put.calls k a0_0 a0_1 a0_2 _ _ l0_3 t378 t379 _ ?side1 ?side2 A8.out).mono ?_); (case side1 => repeat (first | exact (Kd.C_below HR0_3.out HB.out) | (with_reducible refine Kd.C_alloc ?_ _) | (with_reducible refine Kd.C_drewN ?_ _) | (with_reducible refine Kd.C_drew ?_))); (case side2 => exact HC0_3.out); rintro e w33 ⟨rfl, hb⟩; refine ⟨_, rfl, ?_⟩; have n0_ := bb BK376 hb; have n1_ := hs HB hb; clear BK376; clear HB; have BK376 := n0_; have HB := n1_; clear n0_ n1_; (try clear hb); obtain ⟨hcz34_0, hcz34_1, hcz34_2, hcz34_3⟩ := cc4 BK376; obtain ⟨hfz34_0, hfz34_1, hfz34_2, hfz34_3⟩ := ff4 BK376) | ((with_reducible refine gate_callee (f := 50) rfl ?_); refine goesQ (some 31) Try.func50 #[.agg #[.int .i64 (wrap64 (a1)), .int .i64 a0_1, .int .i64 a0_2, .slice A0_3 l0_3.length c0_3]] ?_; (with_reducible refine (pixel_Put.calls k (wrap64 (a1)) a0_1 a0_2 _ _ l0_3 t380 t381 _ ?side1 ?side2 A10.out).mono ?_); (case side1 => exact Kd.C_below HR0_3.out (hn HB)); (case side2 => exact HC0_3.out); rintro e w35 ⟨rfl, hb⟩; refine ⟨_, rfl, ?_⟩; have n0_ := bp #[.int .i64 (wrap64 (a1)), .int .i64 a0_1, .int .i64 a0_2, .slice A0_3 l0_3.length c0_3] BK376 hb; have n1_ := hs HB hb; clear BK376; clear HB; have BK376 := n0_; have HB := n1_; clear n0_ n1_; (try clear hb)))
              have n0_ := Aside0.mk (blk_drew BK376.out)
              have n1_ := Aside0.mk (below_drew1 HB.out)
              clear BK376
              clear HB
              have BK376 := n0_
              have HB := n1_
              clear n0_ n1_
              have p18 : 0 ≤ (0 : Int) := (by omega)
              have q18 : 0 < t380.size := (by have : (0 : Int) < (t380.size : Int) := of_decide_eq_true (by first | (with_reducible assumption) | assumption); omega)
              have hx18 : ∀ h : 0 < t380.size, ((t380[0]'h).toNat : Int) = bt t380 0 := bt_at t380 0
              clear p18
              have qi18 : (0 < (t380.size : Int)) = True := eq_true (of_decide_eq_true (by first | (with_reducible assumption) | assumption))
              replace q18 := eq_true q18
              have p21 : 0 ≤ (1 : Int) := (by omega)
              have q21 : 1 < t380.size := (by have : (1 : Int) < (t380.size : Int) := of_decide_eq_true (by first | (with_reducible assumption) | assumption); omega)
              have hx21 : ∀ h : 1 < t380.size, ((t380[1]'h).toNat : Int) = bt t380 1 := bt_at t380 1
              clear p21
              have qi21 : (1 < (t380.size : Int)) = True := eq_true (of_decide_eq_true (by first | (with_reducible assumption) | assumption))
              replace q21 := eq_true q21
              refine start_ (n := 40) (S := fun w' => True) (ds := []) #[false, false, false, false, false, false, false, false, false, false, false, false, false, false, false, false, false, false, false, false, false, false, false, false, false, false, false, false, false, false, false, false, false, false, false, false, false, false, false, false] (by kernel_rfl) rfl rfl trivial (fun hHeld => ?_); refine with_tabW celluloidlaw11_PixelNames.tab8 celluloidlaw11_PixelNames.bits8 (fun HT_ HW_ => ?_)
              generalize w35.drew = w36 at BK376 HB hHeld ⊢
              refine pureQ 0 (some 34) (tk 1 39) (any_of HT_.out (by kernel_rfl)) ?_
              refine pureQ 1 (some 35) (tk 2 38) (any_of HT_.out (by kernel_rfl)) ?_
              refine pureQ 2 (some 36) (tk 3 37) (any_of HT_.out (by kernel_rfl)) ?_
              refine pureQ 3 (some 37) (tk 4 36) (any_of HT_.out (by kernel_rfl)) ?_
              refine pureQ 4 (some 38) (tk 5 35) (any_of HT_.out (by kernel_rfl)) ?_
              refine pureQ 5 (some 39) (tk 6 34) (any_of HT_.out (by kernel_rfl)) ?_
              refine pureQ 6 (some 40) (tk 7 33) (any_of HT_.out (by kernel_rfl)) ?_
              refine pureQ 7 (some 41) (tk 8 32) (any_of HT_.out (by kernel_rfl)) ?_
              refine pureQ 8 (some 42) (tk 9 31) (any_of HT_.out (by kernel_rfl)) ?_
              refine pureQ 9 (some 43) (tk 10 30) (any_of HT_.out (by kernel_rfl)) ?_
              refine pureQ 10 (some 44) (tk 11 29) (any_of HT_.out (by kernel_rfl)) ?_
              refine pureQ 11 (some 45) (tk 12 28) (any_of HT_.out (by kernel_rfl)) ?_
              refine pureQ 12 (some 46) (tk 13 27) (any_of HT_.out (by kernel_rfl)) ?_
              refine pureQ 13 (some 47) (tk 14 26) (any_of HT_.out (by kernel_rfl)) ?_
              refine pureQ 14 (some 48) (tk 15 25) (any_of HT_.out (by kernel_rfl)) ?_
              refine pureQ 15 (some 49) (tk 16 24) (any_of HT_.out (by kernel_rfl)) ?_
              refine pureQ 16 (some 50) (tk 17 23) (any_of HT_.out (by kernel_rfl)) ?_
              refine pureQ 17 (some 51) (tk 18 22) (any_of HT_.out (by kernel_rfl)) ?_
              refine pureQ 18 (some 52) (tk 19 21) (any_of HT_.out (by kernel_rfl)) ?_
              refine pureQ 19 (some 53) (tk 20 20) (any_of HT_.out (by kernel_rfl)) ?_
              refine pureQ 20 (some 54) (tk 21 19) (any_of HT_.out (by kernel_rfl)) ?_
              refine pureQ 21 (some 55) (tk 22 18) (any_of HT_.out (by kernel_rfl)) ?_
              refine pureQ 22 (some 56) (tk 23 17) (any_of HT_.out (by kernel_rfl)) ?_
              refine pureQ 24 (some 58) #[true, true, true, true, true, true, true, true, true, true, true, true, true, true, true, true, true, true, true, true, true, true, true, false, true, false, false, false, false, false, false, false, false, false, false, false, false, false, false, false] (any_of HT_.out (by kernel_rfl)) ?_
              refine pureQ 25 (some 59) #[true, true, true, true, true, true, true, true, true, true, true, true, true, true, true, true, true, true, true, true, true, true, true, false, true, true, false, false, false, false, false, false, false, false, false, false, false, false, false, false] (any_of HT_.out (by kernel_rfl)) ?_
              refine take_ (i := 23) (N := some 57) (v := ?_) (a' := ?_) (tk 26 14) rfl rfl (take_ofW HT_.out HW_.out (by kernel_rfl)) (fun _ _ _ h => h) (Or.inl ⟨by rfl, ?_⟩) hHeld ?_ ?_
              rotate_left
              ·intro w' _
               go_simp
               with_reducible rfl
              rotate_left
              ·simp only [Act.put, List.setIfInBounds_toArray, List.set_cons_zero, List.set_cons_succ, i64_w, i32_w]
               rfl
              refine pureQ 26 (some 60) (tk 27 13) (any_of HT_.out (by kernel_rfl)) ?_
              refine pureQ 27 (some 61) (tk 28 12) (any_of HT_.out (by kernel_rfl)) ?_
              refine pureQ 28 (some 62) (tk 29 11) (any_of HT_.out (by kernel_rfl)) ?_
              refine pureQ 29 (some 63) (tk 30 10) (any_of HT_.out (by kernel_rfl)) ?_
              refine pureQ 31 (some 65) #[true, true, true, true, true, true, true, true, true, true, true, true, true, true, true, true, true, true, true, true, true, true, true, true, true, true, true, true, true, true, false, true, false, false, false, false, false, false, false, false] (any_of HT_.out (by kernel_rfl)) ?_
              refine pureQ 32 (some 66) #[true, true, true, true, true, true, true, true, true, true, true, true, true, true, true, true, true, true, true, true, true, true, true, true, true, true, true, true, true, true, false, true, true, false, false, false, false, false, false, false] (any_of HT_.out (by kernel_rfl)) ?_
              refine pureQ 33 (some 67) #[true, true, true, true, true, true, true, true, true, true, true, true, true, true, true, true, true, true, true, true, true, true, true, true, true, true, true, true, true, true, false, true, true, true, false, false, false, false, false, false] (any_of HT_.out (by kernel_rfl)) ?_
              refine take_ (i := 30) (N := some 64) (v := ?_) (a' := ?_) (tk 34 6) rfl rfl (take_ofW HT_.out HW_.out (by kernel_rfl)) (fun _ _ _ h => h) (Or.inl ⟨by rfl, ?_⟩) hHeld ?_ ?_
              rotate_left
              ·intro w' _
               go_simp
               with_reducible rfl
              rotate_left
              ·simp only [Act.put, List.setIfInBounds_toArray, List.set_cons_zero, List.set_cons_succ, i64_w, i32_w]
               rfl
              refine pureQ 34 (some 68) (tk 35 5) (any_of HT_.out (by kernel_rfl)) ?_
              refine pureQ 35 (some 69) (tk 36 4) (any_of HT_.out (by kernel_rfl)) ?_
              refine pureQ 36 (some 70) (tk 37 3) (any_of HT_.out (by kernel_rfl)) ?_
              refine pureU 37 (some 71) (tk 38 2) (any_of HT_.out (by kernel_rfl)) ?_
              refine pureQ 38 (some 72) (tk 39 1) (any_of HT_.out (by kernel_rfl)) ?_
              refine pureQ 39 (some 4) (tk 40 0) (any_of HT_.out (by kernel_rfl)) ?_
              refine done_ (done_of HT_.out (by kernel_rfl)) ?_
              try go_wp2
              go_ret
              exact ⟨by first | rfl | (simp [errW_none, errW_some] <;> rfl) | (simp [*, errW_none, errW_some] <;> rfl), hn HB⟩
           ·rw [if_neg c20] at H
            exact absurd H (by simp)
          ·rw [if_neg c19] at H
           have c19b0 : ((bt t380 0) == ((a1) % 256)) = false := beq_eq_false_iff_ne.mpr c19
           have c19b1 : ((bt t380 0) != ((a1) % 256)) = true := bne_iff_ne.mpr c19
           first
           |exact absurd (Option.some.inj H) (by rw [hr_.out]; decide)
           |obtain rfl := Option.some.inj H
            go_enter Try.func24, Try.ntmps24
            try go_wp2_with (first | ((with_reducible refine gate_dst (N := 2) rfl ?_); (try (refine gate_guard (by rfl) ?_; dsimp only)); refine boxQ 2 #[.int .i64 a0_0, .int .i64 a0_1, .int .i64 a0_2, .slice A0_3 l0_3.length c0_3] 76 ?_; intro gb376 hg w37 hbox hb; have n0_ := hs HB hb; have n1_ := Aside0.mk (hbox); have n2_ := gs HB hg; have n3_ := gs HB hg; clear HB; have HB := n0_; have BK376 := n1_; have GW376 := n2_; have GE376 := n3_; clear n0_ n1_ n2_ n3_; clear hb hbox hg; obtain ⟨hcz38_0, hcz38_1, hcz38_2, hcz38_3⟩ := cc4 BK376; obtain ⟨hfz38_0, hfz38_1, hfz38_2, hfz38_3⟩ := ff4 BK376) | ((with_reducible refine gate_callee (f := 50) rfl ?_); refine goesQ (some 16) Try.func50 #[.agg #[.int .i64 a0_0, .int .i64 a0_1, .int .i64 a0_2, .slice A0_3 l0_3.length c0_3]] ?_; (with_reducible refine (pixel_Put.calls k a0_0 a0_1 a0_2 _ _ l0_3 t378 t379 _ ?side1 ?side2 A8.out).mono ?_); (case side1 => repeat (first | exact (Kd.C_below HR0_3.out HB.out) | (with_reducible refine Kd.C_alloc ?_ _) | (with_reducible refine Kd.C_drewN ?_ _) | (with_reducible refine Kd.C_drew ?_))); (case side2 => exact HC0_3.out); rintro e w39 ⟨rfl, hb⟩; refine ⟨_, rfl, ?_⟩; have n0_ := bb BK376 hb; have n1_ := hs HB hb; clear BK376; clear HB; have BK376 := n0_; have HB := n1_; clear n0_ n1_; (try clear hb); obtain ⟨hcz40_0, hcz40_1, hcz40_2, hcz40_3⟩ := cc4 BK376; obtain ⟨hfz40_0, hfz40_1, hfz40_2, hfz40_3⟩ := ff4 BK376) | ((with_reducible refine gate_callee (f := 50) rfl ?_); refine goesQ (some 31) Try.func50 #[.agg #[.int .i64 (wrap64 (a1)), .int .i64 a0_1, .int .i64 a0_2, .slice A0_3 l0_3.length c0_3]] ?_; (with_reducible refine (pixel_Put.calls k (wrap64 (a1)) a0_1 a0_2 _ _ l0_3 t380 t381 _ ?side1 ?side2 A10.out).mono ?_); (case side1 => exact Kd.C_below HR0_3.out (hn HB)); (case side2 => exact HC0_3.out); rintro e w41 ⟨rfl, hb⟩; refine ⟨_, rfl, ?_⟩; have n0_ := bp #[.int .i64 (wrap64 (a1)), .int .i64 a0_1, .int .i64 a0_2, .slice A0_3 l0_3.length c0_3] BK376 hb; have n1_ := hs HB hb; clear BK376; clear HB; have BK376 := n0_; have HB := n1_; clear n0_ n1_; (try clear hb)))
            have n0_ := Aside0.mk (blk_drew BK376.out)
            have n1_ := Aside0.mk (below_drew1 HB.out)
            clear BK376
            clear HB
            have BK376 := n0_
            have HB := n1_
            clear n0_ n1_
            have p18 : 0 ≤ (0 : Int) := (by omega)
            have q18 : 0 < t380.size := (by have : (0 : Int) < (t380.size : Int) := of_decide_eq_true (by first | (with_reducible assumption) | assumption); omega)
            have hx18 : ∀ h : 0 < t380.size, ((t380[0]'h).toNat : Int) = bt t380 0 := bt_at t380 0
            clear p18
            have qi18 : (0 < (t380.size : Int)) = True := eq_true (of_decide_eq_true (by first | (with_reducible assumption) | assumption))
            replace q18 := eq_true q18
            refine start_ (n := 40) (S := fun w' => True) (ds := []) #[false, false, false, false, false, false, false, false, false, false, false, false, false, false, false, false, false, false, false, false, false, false, false, false, false, false, false, false, false, false, false, false, false, false, false, false, false, false, false, false] (by kernel_rfl) rfl rfl trivial (fun hHeld => ?_); refine with_tabW celluloidlaw11_PixelNames.tab8 celluloidlaw11_PixelNames.bits8 (fun HT_ HW_ => ?_)
            generalize w41.drew = w42 at BK376 HB hHeld ⊢
            refine pureQ 0 (some 34) (tk 1 39) (any_of HT_.out (by kernel_rfl)) ?_
            refine pureQ 1 (some 35) (tk 2 38) (any_of HT_.out (by kernel_rfl)) ?_
            refine pureQ 2 (some 36) (tk 3 37) (any_of HT_.out (by kernel_rfl)) ?_
            refine pureQ 3 (some 37) (tk 4 36) (any_of HT_.out (by kernel_rfl)) ?_
            refine pureQ 4 (some 38) (tk 5 35) (any_of HT_.out (by kernel_rfl)) ?_
            refine pureQ 5 (some 39) (tk 6 34) (any_of HT_.out (by kernel_rfl)) ?_
            refine pureQ 6 (some 40) (tk 7 33) (any_of HT_.out (by kernel_rfl)) ?_
            refine pureQ 7 (some 41) (tk 8 32) (any_of HT_.out (by kernel_rfl)) ?_
            refine pureQ 8 (some 42) (tk 9 31) (any_of HT_.out (by kernel_rfl)) ?_
            refine pureQ 9 (some 43) (tk 10 30) (any_of HT_.out (by kernel_rfl)) ?_
            refine pureQ 10 (some 44) (tk 11 29) (any_of HT_.out (by kernel_rfl)) ?_
            refine pureQ 11 (some 45) (tk 12 28) (any_of HT_.out (by kernel_rfl)) ?_
            refine pureQ 12 (some 46) (tk 13 27) (any_of HT_.out (by kernel_rfl)) ?_
            refine pureQ 13 (some 47) (tk 14 26) (any_of HT_.out (by kernel_rfl)) ?_
            refine pureQ 14 (some 48) (tk 15 25) (any_of HT_.out (by kernel_rfl)) ?_
            refine pureQ 15 (some 49) (tk 16 24) (any_of HT_.out (by kernel_rfl)) ?_
            refine pureQ 16 (some 50) (tk 17 23) (any_of HT_.out (by kernel_rfl)) ?_
            refine pureQ 17 (some 51) (tk 18 22) (any_of HT_.out (by kernel_rfl)) ?_
            refine pureQ 18 (some 52) (tk 19 21) (any_of HT_.out (by kernel_rfl)) ?_
            refine pureQ 19 (some 53) (tk 20 20) (any_of HT_.out (by kernel_rfl)) ?_
            refine pureQ 20 (some 54) (tk 21 19) (any_of HT_.out (by kernel_rfl)) ?_
            refine pureQ 21 (some 55) (tk 22 18) (any_of HT_.out (by kernel_rfl)) ?_
            refine pureQ 22 (some 56) (tk 23 17) (any_of HT_.out (by kernel_rfl)) ?_
            refine pureQ 24 (some 58) #[true, true, true, true, true, true, true, true, true, true, true, true, true, true, true, true, true, true, true, true, true, true, true, false, true, false, false, false, false, false, false, false, false, false, false, false, false, false, false, false] (any_of HT_.out (by kernel_rfl)) ?_
            refine pureQ 25 (some 59) #[true, true, true, true, true, true, true, true, true, true, true, true, true, true, true, true, true, true, true, true, true, true, true, false, true, true, false, false, false, false, false, false, false, false, false, false, false, false, false, false] (any_of HT_.out (by kernel_rfl)) ?_
            refine take_ (i := 23) (N := some 57) (v := ?_) (a' := ?_) (tk 26 14) rfl rfl (take_ofW HT_.out HW_.out (by kernel_rfl)) (fun _ _ _ h => h) (Or.inl ⟨by rfl, ?_⟩) hHeld ?_ ?_
            rotate_left
            ·intro w' _
             go_simp
             with_reducible rfl
            rotate_left
            ·simp only [Act.put, List.setIfInBounds_toArray, List.set_cons_zero, List.set_cons_succ, i64_w, i32_w]
             rfl
            refine pureQ 26 (some 60) (tk 27 13) (any_of HT_.out (by kernel_rfl)) ?_
            refine pureQ 27 (some 61) (tk 28 12) (any_of HT_.out (by kernel_rfl)) ?_
            refine pureQ 28 (some 62) (tk 29 11) (any_of HT_.out (by kernel_rfl)) ?_
            refine pureU 29 (some 63) (tk 30 10) (any_of HT_.out (by kernel_rfl)) ?_
            refine pureU 30 (some 64) (tk 31 9) (any_of HT_.out (by kernel_rfl)) ?_
            refine pureU 31 (some 65) (tk 32 8) (any_of HT_.out (by kernel_rfl)) ?_
            refine pureU 32 (some 66) (tk 33 7) (any_of HT_.out (by kernel_rfl)) ?_
            refine pureU 33 (some 67) (tk 34 6) (any_of HT_.out (by kernel_rfl)) ?_
            refine pureU 34 (some 68) (tk 35 5) (any_of HT_.out (by kernel_rfl)) ?_
            refine pureQ 35 (some 69) (tk 36 4) (any_of HT_.out (by kernel_rfl)) ?_
            refine pureQ 36 (some 70) (tk 37 3) (any_of HT_.out (by kernel_rfl)) ?_
            refine pureU 37 (some 71) (tk 38 2) (any_of HT_.out (by kernel_rfl)) ?_
            refine pureQ 38 (some 72) (tk 39 1) (any_of HT_.out (by kernel_rfl)) ?_
            refine pureQ 39 (some 4) (tk 40 0) (any_of HT_.out (by kernel_rfl)) ?_
            refine done_ (done_of HT_.out (by kernel_rfl)) ?_
            try go_wp2
            go_ret
            exact ⟨by first | rfl | (simp [errW_none, errW_some] <;> rfl) | (simp [*, errW_none, errW_some] <;> rfl), hn HB⟩
         ·rw [if_neg c17] at H
          exact absurd H (by simp)
        ·rw [if_neg c16] at H
         have c16b0 : ((t380.extract 2 t380.size).toList == (t378.extract 2 t378.size).toList) = false := beq_eq_false_iff_ne.mpr c16
         have c16b1 : ((t380.extract 2 t380.size).toList != (t378.extract 2 t378.size).toList) = true := bne_iff_ne.mpr c16
         first
         |exact absurd (Option.some.inj H) (by rw [hr_.out]; decide)
         |obtain rfl := Option.some.inj H
          go_enter Try.func24, Try.ntmps24
          try go_wp2_with (first | ((with_reducible refine gate_dst (N := 2) rfl ?_); (try (refine gate_guard (by rfl) ?_; dsimp only)); refine boxQ 2 #[.int .i64 a0_0, .int .i64 a0_1, .int .i64 a0_2, .slice A0_3 l0_3.length c0_3] 76 ?_; intro gb376 hg w43 hbox hb; have n0_ := hs HB hb; have n1_ := Aside0.mk (hbox); have n2_ := gs HB hg; have n3_ := gs HB hg; clear HB; have HB := n0_; have BK376 := n1_; have GW376 := n2_; have GE376 := n3_; clear n0_ n1_ n2_ n3_; clear hb hbox hg; obtain ⟨hcz44_0, hcz44_1, hcz44_2, hcz44_3⟩ := cc4 BK376; obtain ⟨hfz44_0, hfz44_1, hfz44_2, hfz44_3⟩ := ff4 BK376) | ((with_reducible refine gate_callee (f := 50) rfl ?_); refine goesQ (some 16) Try.func50 #[.agg #[.int .i64 a0_0, .int .i64 a0_1, .int .i64 a0_2, .slice A0_3 l0_3.length c0_3]] ?_; (with_reducible refine (pixel_Put.calls k a0_0 a0_1 a0_2 _ _ l0_3 t378 t379 _ ?side1 ?side2 A8.out).mono ?_); (case side1 => repeat (first | exact (Kd.C_below HR0_3.out HB.out) | (with_reducible refine Kd.C_alloc ?_ _) | (with_reducible refine Kd.C_drewN ?_ _) | (with_reducible refine Kd.C_drew ?_))); (case side2 => exact HC0_3.out); rintro e w45 ⟨rfl, hb⟩; refine ⟨_, rfl, ?_⟩; have n0_ := bb BK376 hb; have n1_ := hs HB hb; clear BK376; clear HB; have BK376 := n0_; have HB := n1_; clear n0_ n1_; (try clear hb); obtain ⟨hcz46_0, hcz46_1, hcz46_2, hcz46_3⟩ := cc4 BK376; obtain ⟨hfz46_0, hfz46_1, hfz46_2, hfz46_3⟩ := ff4 BK376) | ((with_reducible refine gate_callee (f := 50) rfl ?_); refine goesQ (some 31) Try.func50 #[.agg #[.int .i64 (wrap64 (a1)), .int .i64 a0_1, .int .i64 a0_2, .slice A0_3 l0_3.length c0_3]] ?_; (with_reducible refine (pixel_Put.calls k (wrap64 (a1)) a0_1 a0_2 _ _ l0_3 t380 t381 _ ?side1 ?side2 A10.out).mono ?_); (case side1 => exact Kd.C_below HR0_3.out (hn HB)); (case side2 => exact HC0_3.out); rintro e w47 ⟨rfl, hb⟩; refine ⟨_, rfl, ?_⟩; have n0_ := bp #[.int .i64 (wrap64 (a1)), .int .i64 a0_1, .int .i64 a0_2, .slice A0_3 l0_3.length c0_3] BK376 hb; have n1_ := hs HB hb; clear BK376; clear HB; have BK376 := n0_; have HB := n1_; clear n0_ n1_; (try clear hb)))
          have n0_ := Aside0.mk (blk_drew BK376.out)
          have n1_ := Aside0.mk (below_drew1 HB.out)
          clear BK376
          clear HB
          have BK376 := n0_
          have HB := n1_
          clear n0_ n1_
          refine start_ (n := 40) (S := fun w' => True) (ds := []) #[false, false, false, false, false, false, false, false, false, false, false, false, false, false, false, false, false, false, false, false, false, false, false, false, false, false, false, false, false, false, false, false, false, false, false, false, false, false, false, false] (by kernel_rfl) rfl rfl trivial (fun hHeld => ?_); refine with_tabW celluloidlaw11_PixelNames.tab8 celluloidlaw11_PixelNames.bits8 (fun HT_ HW_ => ?_)
          generalize w47.drew = w48 at BK376 HB hHeld ⊢
          refine pureQ 0 (some 34) (tk 1 39) (any_of HT_.out (by kernel_rfl)) ?_
          refine pureQ 1 (some 35) (tk 2 38) (any_of HT_.out (by kernel_rfl)) ?_
          refine pureQ 2 (some 36) (tk 3 37) (any_of HT_.out (by kernel_rfl)) ?_
          refine pureQ 3 (some 37) (tk 4 36) (any_of HT_.out (by kernel_rfl)) ?_
          refine pureQ 4 (some 38) (tk 5 35) (any_of HT_.out (by kernel_rfl)) ?_
          refine pureQ 5 (some 39) (tk 6 34) (any_of HT_.out (by kernel_rfl)) ?_
          refine pureQ 6 (some 40) (tk 7 33) (any_of HT_.out (by kernel_rfl)) ?_
          refine pureQ 7 (some 41) (tk 8 32) (any_of HT_.out (by kernel_rfl)) ?_
          refine pureQ 8 (some 42) (tk 9 31) (any_of HT_.out (by kernel_rfl)) ?_
          refine pureQ 9 (some 43) (tk 10 30) (any_of HT_.out (by kernel_rfl)) ?_
          refine pureQ 10 (some 44) (tk 11 29) (any_of HT_.out (by kernel_rfl)) ?_
          refine pureQ 11 (some 45) (tk 12 28) (any_of HT_.out (by kernel_rfl)) ?_
          refine pureQ 12 (some 46) (tk 13 27) (any_of HT_.out (by kernel_rfl)) ?_
          refine pureQ 13 (some 47) (tk 14 26) (any_of HT_.out (by kernel_rfl)) ?_
          refine pureQ 14 (some 48) (tk 15 25) (any_of HT_.out (by kernel_rfl)) ?_
          refine pureQ 15 (some 49) (tk 16 24) (any_of HT_.out (by kernel_rfl)) ?_
          refine pureQ 16 (some 50) (tk 17 23) (any_of HT_.out (by kernel_rfl)) ?_
          refine pureQ 17 (some 51) (tk 18 22) (any_of HT_.out (by kernel_rfl)) ?_
          refine pureQ 18 (some 52) (tk 19 21) (any_of HT_.out (by kernel_rfl)) ?_
          refine pureQ 19 (some 53) (tk 20 20) (any_of HT_.out (by kernel_rfl)) ?_
          refine pureQ 20 (some 54) (tk 21 19) (any_of HT_.out (by kernel_rfl)) ?_
          refine pureQ 21 (some 55) (tk 22 18) (any_of HT_.out (by kernel_rfl)) ?_
          refine pureU 22 (some 56) (tk 23 17) (any_of HT_.out (by kernel_rfl)) ?_
          refine pureU 23 (some 57) (tk 24 16) (any_of HT_.out (by kernel_rfl)) ?_
          refine pureU 24 (some 58) (tk 25 15) (any_of HT_.out (by kernel_rfl)) ?_
          refine pureU 25 (some 59) (tk 26 14) (any_of HT_.out (by kernel_rfl)) ?_
          refine pureU 26 (some 60) (tk 27 13) (any_of HT_.out (by kernel_rfl)) ?_
          refine pureQ 27 (some 61) (tk 28 12) (any_of HT_.out (by kernel_rfl)) ?_
          refine pureQ 28 (some 62) (tk 29 11) (any_of HT_.out (by kernel_rfl)) ?_
          refine pureU 29 (some 63) (tk 30 10) (any_of HT_.out (by kernel_rfl)) ?_
          refine pureU 30 (some 64) (tk 31 9) (any_of HT_.out (by kernel_rfl)) ?_
          refine pureU 31 (some 65) (tk 32 8) (any_of HT_.out (by kernel_rfl)) ?_
          refine pureU 32 (some 66) (tk 33 7) (any_of HT_.out (by kernel_rfl)) ?_
          refine pureU 33 (some 67) (tk 34 6) (any_of HT_.out (by kernel_rfl)) ?_
          refine pureU 34 (some 68) (tk 35 5) (any_of HT_.out (by kernel_rfl)) ?_
          refine pureQ 35 (some 69) (tk 36 4) (any_of HT_.out (by kernel_rfl)) ?_
          refine pureQ 36 (some 70) (tk 37 3) (any_of HT_.out (by kernel_rfl)) ?_
          refine pureU 37 (some 71) (tk 38 2) (any_of HT_.out (by kernel_rfl)) ?_
          refine pureQ 38 (some 72) (tk 39 1) (any_of HT_.out (by kernel_rfl)) ?_
          refine pureQ 39 (some 4) (tk 40 0) (any_of HT_.out (by kernel_rfl)) ?_
          refine done_ (done_of HT_.out (by kernel_rfl)) ?_
          try go_wp2
          go_ret
          exact ⟨by first | rfl | (simp [errW_none, errW_some] <;> rfl) | (simp [*, errW_none, errW_some] <;> rfl), hn HB⟩
       ·rw [if_neg c15] at H
        exact absurd H (by simp)
      ·rw [if_neg c14] at H
       exact absurd H (by simp)
     ·rw [if_neg c13] at H
      have c13b0 : decide (7 < (t380.size : Int)) = false := decide_eq_false c13
      have c13b1 : decide (7 < t380.size) = false := decide_eq_false (by omega)
      clear c13
      first
      |exact absurd (Option.some.inj H) (by rw [hr_.out]; decide)
      |obtain rfl := Option.some.inj H
       go_enter Try.func24, Try.ntmps24
       try go_wp2_with (first | ((with_reducible refine gate_dst (N := 2) rfl ?_); (try (refine gate_guard (by rfl) ?_; dsimp only)); refine boxQ 2 #[.int .i64 a0_0, .int .i64 a0_1, .int .i64 a0_2, .slice A0_3 l0_3.length c0_3] 76 ?_; intro gb376 hg w49 hbox hb; have n0_ := hs HB hb; have n1_ := Aside0.mk (hbox); have n2_ := gs HB hg; have n3_ := gs HB hg; clear HB; have HB := n0_; have BK376 := n1_; have GW376 := n2_; have GE376 := n3_; clear n0_ n1_ n2_ n3_; clear hb hbox hg; obtain ⟨hcz50_0, hcz50_1, hcz50_2, hcz50_3⟩ := cc4 BK376; obtain ⟨hfz50_0, hfz50_1, hfz50_2, hfz50_3⟩ := ff4 BK376) | ((with_reducible refine gate_callee (f := 50) rfl ?_); refine goesQ (some 16) Try.func50 #[.agg #[.int .i64 a0_0, .int .i64 a0_1, .int .i64 a0_2, .slice A0_3 l0_3.length c0_3]] ?_; (with_reducible refine (pixel_Put.calls k a0_0 a0_1 a0_2 _ _ l0_3 t378 t379 _ ?side1 ?side2 A8.out).mono ?_); (case side1 => repeat (first | exact (Kd.C_below HR0_3.out HB.out) | (with_reducible refine Kd.C_alloc ?_ _) | (with_reducible refine Kd.C_drewN ?_ _) | (with_reducible refine Kd.C_drew ?_))); (case side2 => exact HC0_3.out); rintro e w51 ⟨rfl, hb⟩; refine ⟨_, rfl, ?_⟩; have n0_ := bb BK376 hb; have n1_ := hs HB hb; clear BK376; clear HB; have BK376 := n0_; have HB := n1_; clear n0_ n1_; (try clear hb); obtain ⟨hcz52_0, hcz52_1, hcz52_2, hcz52_3⟩ := cc4 BK376; obtain ⟨hfz52_0, hfz52_1, hfz52_2, hfz52_3⟩ := ff4 BK376) | ((with_reducible refine gate_callee (f := 50) rfl ?_); refine goesQ (some 31) Try.func50 #[.agg #[.int .i64 (wrap64 (a1)), .int .i64 a0_1, .int .i64 a0_2, .slice A0_3 l0_3.length c0_3]] ?_; (with_reducible refine (pixel_Put.calls k (wrap64 (a1)) a0_1 a0_2 _ _ l0_3 t380 t381 _ ?side1 ?side2 A10.out).mono ?_); (case side1 => exact Kd.C_below HR0_3.out (hn HB)); (case side2 => exact HC0_3.out); rintro e w53 ⟨rfl, hb⟩; refine ⟨_, rfl, ?_⟩; have n0_ := bp #[.int .i64 (wrap64 (a1)), .int .i64 a0_1, .int .i64 a0_2, .slice A0_3 l0_3.length c0_3] BK376 hb; have n1_ := hs HB hb; clear BK376; clear HB; have BK376 := n0_; have HB := n1_; clear n0_ n1_; (try clear hb)))
       have n0_ := Aside0.mk (blk_drew BK376.out)
       have n1_ := Aside0.mk (below_drew1 HB.out)
       clear BK376
       clear HB
       have BK376 := n0_
       have HB := n1_
       clear n0_ n1_
       refine start_ (n := 40) (S := fun w' => True) (ds := []) #[false, false, false, false, false, false, false, false, false, false, false, false, false, false, false, false, false, false, false, false, false, false, false, false, false, false, false, false, false, false, false, false, false, false, false, false, false, false, false, false] (by kernel_rfl) rfl rfl trivial (fun hHeld => ?_); refine with_tabW celluloidlaw11_PixelNames.tab8 celluloidlaw11_PixelNames.bits8 (fun HT_ HW_ => ?_)
       generalize w53.drew = w54 at BK376 HB hHeld ⊢
       refine pureQ 0 (some 34) (tk 1 39) (any_of HT_.out (by kernel_rfl)) ?_
       refine pureQ 1 (some 35) (tk 2 38) (any_of HT_.out (by kernel_rfl)) ?_
       refine pureQ 2 (some 36) (tk 3 37) (any_of HT_.out (by kernel_rfl)) ?_
       refine pureQ 3 (some 37) (tk 4 36) (any_of HT_.out (by kernel_rfl)) ?_
       refine pureQ 4 (some 38) (tk 5 35) (any_of HT_.out (by kernel_rfl)) ?_
       refine pureQ 5 (some 39) (tk 6 34) (any_of HT_.out (by kernel_rfl)) ?_
       refine pureQ 6 (some 40) (tk 7 33) (any_of HT_.out (by kernel_rfl)) ?_
       refine pureQ 7 (some 41) (tk 8 32) (any_of HT_.out (by kernel_rfl)) ?_
       refine pureQ 8 (some 42) (tk 9 31) (any_of HT_.out (by kernel_rfl)) ?_
       refine pureQ 9 (some 43) (tk 10 30) (any_of HT_.out (by kernel_rfl)) ?_
       refine pureQ 10 (some 44) (tk 11 29) (any_of HT_.out (by kernel_rfl)) ?_
       refine pureQ 11 (some 45) (tk 12 28) (any_of HT_.out (by kernel_rfl)) ?_
       refine pureQ 12 (some 46) (tk 13 27) (any_of HT_.out (by kernel_rfl)) ?_
       refine pureQ 13 (some 47) (tk 14 26) (any_of HT_.out (by kernel_rfl)) ?_
       refine pureQ 14 (some 48) (tk 15 25) (any_of HT_.out (by kernel_rfl)) ?_
       refine pureU 15 (some 49) (tk 16 24) (any_of HT_.out (by kernel_rfl)) ?_
       refine pureU 16 (some 50) (tk 17 23) (any_of HT_.out (by kernel_rfl)) ?_
       refine pureU 17 (some 51) (tk 18 22) (any_of HT_.out (by kernel_rfl)) ?_
       refine pureU 18 (some 52) (tk 19 21) (any_of HT_.out (by kernel_rfl)) ?_
       refine pureU 19 (some 53) (tk 20 20) (any_of HT_.out (by kernel_rfl)) ?_
       refine pureQ 20 (some 54) (tk 21 19) (any_of HT_.out (by kernel_rfl)) ?_
       refine pureQ 21 (some 55) (tk 22 18) (any_of HT_.out (by kernel_rfl)) ?_
       refine pureU 22 (some 56) (tk 23 17) (any_of HT_.out (by kernel_rfl)) ?_
       refine pureU 23 (some 57) (tk 24 16) (any_of HT_.out (by kernel_rfl)) ?_
       refine pureU 24 (some 58) (tk 25 15) (any_of HT_.out (by kernel_rfl)) ?_
       refine pureU 25 (some 59) (tk 26 14) (any_of HT_.out (by kernel_rfl)) ?_
       refine pureU 26 (some 60) (tk 27 13) (any_of HT_.out (by kernel_rfl)) ?_
       refine pureQ 27 (some 61) (tk 28 12) (any_of HT_.out (by kernel_rfl)) ?_
       refine pureQ 28 (some 62) (tk 29 11) (any_of HT_.out (by kernel_rfl)) ?_
       refine pureU 29 (some 63) (tk 30 10) (any_of HT_.out (by kernel_rfl)) ?_
       refine pureU 30 (some 64) (tk 31 9) (any_of HT_.out (by kernel_rfl)) ?_
       refine pureU 31 (some 65) (tk 32 8) (any_of HT_.out (by kernel_rfl)) ?_
       refine pureU 32 (some 66) (tk 33 7) (any_of HT_.out (by kernel_rfl)) ?_
       refine pureU 33 (some 67) (tk 34 6) (any_of HT_.out (by kernel_rfl)) ?_
       refine pureU 34 (some 68) (tk 35 5) (any_of HT_.out (by kernel_rfl)) ?_
       refine pureQ 35 (some 69) (tk 36 4) (any_of HT_.out (by kernel_rfl)) ?_
       refine pureQ 36 (some 70) (tk 37 3) (any_of HT_.out (by kernel_rfl)) ?_
       refine pureU 37 (some 71) (tk 38 2) (any_of HT_.out (by kernel_rfl)) ?_
       refine pureQ 38 (some 72) (tk 39 1) (any_of HT_.out (by kernel_rfl)) ?_
       refine pureQ 39 (some 4) (tk 40 0) (any_of HT_.out (by kernel_rfl)) ?_
       refine done_ (done_of HT_.out (by kernel_rfl)) ?_
       try go_wp2
       go_ret
       exact ⟨by first | rfl | (simp [errW_none, errW_some] <;> rfl) | (simp [*, errW_none, errW_some] <;> rfl), hn HB⟩
    ·rw [if_neg c12] at H
     have c12b0 : ((t380.size : Int) == (t378.size : Int)) = false := beq_eq_false_iff_ne.mpr c12
     have c12b1 : ((t380.size : Int) != (t378.size : Int)) = true := bne_iff_ne.mpr c12
     have c12b2 : (t380.size == t378.size) = false := by first | simpa using c12 | (simp at c12 ⊢; omega)
     first
     |exact absurd (Option.some.inj H) (by rw [hr_.out]; decide)
     |obtain rfl := Option.some.inj H
      go_enter Try.func24, Try.ntmps24
      try go_wp2_with (first | ((with_reducible refine gate_dst (N := 2) rfl ?_); (try (refine gate_guard (by rfl) ?_; dsimp only)); refine boxQ 2 #[.int .i64 a0_0, .int .i64 a0_1, .int .i64 a0_2, .slice A0_3 l0_3.length c0_3] 76 ?_; intro gb376 hg w55 hbox hb; have n0_ := hs HB hb; have n1_ := Aside0.mk (hbox); have n2_ := gs HB hg; have n3_ := gs HB hg; clear HB; have HB := n0_; have BK376 := n1_; have GW376 := n2_; have GE376 := n3_; clear n0_ n1_ n2_ n3_; clear hb hbox hg; obtain ⟨hcz56_0, hcz56_1, hcz56_2, hcz56_3⟩ := cc4 BK376; obtain ⟨hfz56_0, hfz56_1, hfz56_2, hfz56_3⟩ := ff4 BK376) | ((with_reducible refine gate_callee (f := 50) rfl ?_); refine goesQ (some 16) Try.func50 #[.agg #[.int .i64 a0_0, .int .i64 a0_1, .int .i64 a0_2, .slice A0_3 l0_3.length c0_3]] ?_; (with_reducible refine (pixel_Put.calls k a0_0 a0_1 a0_2 _ _ l0_3 t378 t379 _ ?side1 ?side2 A8.out).mono ?_); (case side1 => repeat (first | exact (Kd.C_below HR0_3.out HB.out) | (with_reducible refine Kd.C_alloc ?_ _) | (with_reducible refine Kd.C_drewN ?_ _) | (with_reducible refine Kd.C_drew ?_))); (case side2 => exact HC0_3.out); rintro e w57 ⟨rfl, hb⟩; refine ⟨_, rfl, ?_⟩; have n0_ := bb BK376 hb; have n1_ := hs HB hb; clear BK376; clear HB; have BK376 := n0_; have HB := n1_; clear n0_ n1_; (try clear hb); obtain ⟨hcz58_0, hcz58_1, hcz58_2, hcz58_3⟩ := cc4 BK376; obtain ⟨hfz58_0, hfz58_1, hfz58_2, hfz58_3⟩ := ff4 BK376) | ((with_reducible refine gate_callee (f := 50) rfl ?_); refine goesQ (some 31) Try.func50 #[.agg #[.int .i64 (wrap64 (a1)), .int .i64 a0_1, .int .i64 a0_2, .slice A0_3 l0_3.length c0_3]] ?_; (with_reducible refine (pixel_Put.calls k (wrap64 (a1)) a0_1 a0_2 _ _ l0_3 t380 t381 _ ?side1 ?side2 A10.out).mono ?_); (case side1 => exact Kd.C_below HR0_3.out (hn HB)); (case side2 => exact HC0_3.out); rintro e w59 ⟨rfl, hb⟩; refine ⟨_, rfl, ?_⟩; have n0_ := bp #[.int .i64 (wrap64 (a1)), .int .i64 a0_1, .int .i64 a0_2, .slice A0_3 l0_3.length c0_3] BK376 hb; have n1_ := hs HB hb; clear BK376; clear HB; have BK376 := n0_; have HB := n1_; clear n0_ n1_; (try clear hb)))
      have n0_ := Aside0.mk (blk_drew BK376.out)
      have n1_ := Aside0.mk (below_drew1 HB.out)
      clear BK376
      clear HB
      have BK376 := n0_
      have HB := n1_
      clear n0_ n1_
      refine start_ (n := 40) (S := fun w' => True) (ds := []) #[false, false, false, false, false, false, false, false, false, false, false, false, false, false, false, false, false, false, false, false, false, false, false, false, false, false, false, false, false, false, false, false, false, false, false, false, false, false, false, false] (by kernel_rfl) rfl rfl trivial (fun hHeld => ?_); refine with_tabW celluloidlaw11_PixelNames.tab8 celluloidlaw11_PixelNames.bits8 (fun HT_ HW_ => ?_)
      generalize w59.drew = w60 at BK376 HB hHeld ⊢
      refine pureQ 0 (some 34) (tk 1 39) (any_of HT_.out (by kernel_rfl)) ?_
      refine pureQ 1 (some 35) (tk 2 38) (any_of HT_.out (by kernel_rfl)) ?_
      refine pureQ 2 (some 36) (tk 3 37) (any_of HT_.out (by kernel_rfl)) ?_
      refine pureQ 3 (some 37) (tk 4 36) (any_of HT_.out (by kernel_rfl)) ?_
      refine pureQ 4 (some 38) (tk 5 35) (any_of HT_.out (by kernel_rfl)) ?_
      refine pureQ 5 (some 39) (tk 6 34) (any_of HT_.out (by kernel_rfl)) ?_
      refine pureQ 6 (some 40) (tk 7 33) (any_of HT_.out (by kernel_rfl)) ?_
      refine pureQ 7 (some 41) (tk 8 32) (any_of HT_.out (by kernel_rfl)) ?_
      refine pureQ 8 (some 42) (tk 9 31) (any_of HT_.out (by kernel_rfl)) ?_
      refine pureQ 9 (some 43) (tk 10 30) (any_of HT_.out (by kernel_rfl)) ?_
      refine pureU 10 (some 44) (tk 11 29) (any_of HT_.out (by kernel_rfl)) ?_
      refine pureU 11 (some 45) (tk 12 28) (any_of HT_.out (by kernel_rfl)) ?_
      refine pureU 12 (some 46) (tk 13 27) (any_of HT_.out (by kernel_rfl)) ?_
      refine pureQ 13 (some 47) (tk 14 26) (any_of HT_.out (by kernel_rfl)) ?_
      refine pureQ 14 (some 48) (tk 15 25) (any_of HT_.out (by kernel_rfl)) ?_
      refine pureU 15 (some 49) (tk 16 24) (any_of HT_.out (by kernel_rfl)) ?_
      refine pureU 16 (some 50) (tk 17 23) (any_of HT_.out (by kernel_rfl)) ?_
      refine pureU 17 (some 51) (tk 18 22) (any_of HT_.out (by kernel_rfl)) ?_
      refine pureU 18 (some 52) (tk 19 21) (any_of HT_.out (by kernel_rfl)) ?_
      refine pureU 19 (some 53) (tk 20 20) (any_of HT_.out (by kernel_rfl)) ?_
      refine pureQ 20 (some 54) (tk 21 19) (any_of HT_.out (by kernel_rfl)) ?_
      refine pureQ 21 (some 55) (tk 22 18) (any_of HT_.out (by kernel_rfl)) ?_
      refine pureU 22 (some 56) (tk 23 17) (any_of HT_.out (by kernel_rfl)) ?_
      refine pureU 23 (some 57) (tk 24 16) (any_of HT_.out (by kernel_rfl)) ?_
      refine pureU 24 (some 58) (tk 25 15) (any_of HT_.out (by kernel_rfl)) ?_
      refine pureU 25 (some 59) (tk 26 14) (any_of HT_.out (by kernel_rfl)) ?_
      refine pureU 26 (some 60) (tk 27 13) (any_of HT_.out (by kernel_rfl)) ?_
      refine pureQ 27 (some 61) (tk 28 12) (any_of HT_.out (by kernel_rfl)) ?_
      refine pureQ 28 (some 62) (tk 29 11) (any_of HT_.out (by kernel_rfl)) ?_
      refine pureU 29 (some 63) (tk 30 10) (any_of HT_.out (by kernel_rfl)) ?_
      refine pureU 30 (some 64) (tk 31 9) (any_of HT_.out (by kernel_rfl)) ?_
      refine pureU 31 (some 65) (tk 32 8) (any_of HT_.out (by kernel_rfl)) ?_
      refine pureU 32 (some 66) (tk 33 7) (any_of HT_.out (by kernel_rfl)) ?_
      refine pureU 33 (some 67) (tk 34 6) (any_of HT_.out (by kernel_rfl)) ?_
      refine pureU 34 (some 68) (tk 35 5) (any_of HT_.out (by kernel_rfl)) ?_
      refine pureQ 35 (some 69) (tk 36 4) (any_of HT_.out (by kernel_rfl)) ?_
      refine pureQ 36 (some 70) (tk 37 3) (any_of HT_.out (by kernel_rfl)) ?_
      refine pureU 37 (some 71) (tk 38 2) (any_of HT_.out (by kernel_rfl)) ?_
      refine pureQ 38 (some 72) (tk 39 1) (any_of HT_.out (by kernel_rfl)) ?_
      refine pureQ 39 (some 4) (tk 40 0) (any_of HT_.out (by kernel_rfl)) ?_
      refine done_ (done_of HT_.out (by kernel_rfl)) ?_
      try go_wp2
      go_ret
      exact ⟨by first | rfl | (simp [errW_none, errW_some] <;> rfl) | (simp [*, errW_none, errW_some] <;> rfl), hn HB⟩
   ·rw [if_neg c11] at H
    have c11b0 : (t381 == 0) = false := beq_eq_false_iff_ne.mpr c11
    have c11b1 : (t381 != 0) = true := bne_iff_ne.mpr c11
    first
    |exact absurd (Option.some.inj H) (by rw [hr_.out]; decide)
    |obtain rfl := Option.some.inj H
     go_enter Try.func24, Try.ntmps24
     try go_wp2_with (first | ((with_reducible refine gate_dst (N := 2) rfl ?_); (try (refine gate_guard (by rfl) ?_; dsimp only)); refine boxQ 2 #[.int .i64 a0_0, .int .i64 a0_1, .int .i64 a0_2, .slice A0_3 l0_3.length c0_3] 76 ?_; intro gb376 hg w61 hbox hb; have n0_ := hs HB hb; have n1_ := Aside0.mk (hbox); have n2_ := gs HB hg; have n3_ := gs HB hg; clear HB; have HB := n0_; have BK376 := n1_; have GW376 := n2_; have GE376 := n3_; clear n0_ n1_ n2_ n3_; clear hb hbox hg; obtain ⟨hcz62_0, hcz62_1, hcz62_2, hcz62_3⟩ := cc4 BK376; obtain ⟨hfz62_0, hfz62_1, hfz62_2, hfz62_3⟩ := ff4 BK376) | ((with_reducible refine gate_callee (f := 50) rfl ?_); refine goesQ (some 16) Try.func50 #[.agg #[.int .i64 a0_0, .int .i64 a0_1, .int .i64 a0_2, .slice A0_3 l0_3.length c0_3]] ?_; (with_reducible refine (pixel_Put.calls k a0_0 a0_1 a0_2 _ _ l0_3 t378 t379 _ ?side1 ?side2 A8.out).mono ?_); (case side1 => repeat (first | exact (Kd.C_below HR0_3.out HB.out) | (with_reducible refine Kd.C_alloc ?_ _) | (with_reducible refine Kd.C_drewN ?_ _) | (with_reducible refine Kd.C_drew ?_))); (case side2 => exact HC0_3.out); rintro e w63 ⟨rfl, hb⟩; refine ⟨_, rfl, ?_⟩; have n0_ := bb BK376 hb; have n1_ := hs HB hb; clear BK376; clear HB; have BK376 := n0_; have HB := n1_; clear n0_ n1_; (try clear hb); obtain ⟨hcz64_0, hcz64_1, hcz64_2, hcz64_3⟩ := cc4 BK376; obtain ⟨hfz64_0, hfz64_1, hfz64_2, hfz64_3⟩ := ff4 BK376) | ((with_reducible refine gate_callee (f := 50) rfl ?_); refine goesQ (some 31) Try.func50 #[.agg #[.int .i64 (wrap64 (a1)), .int .i64 a0_1, .int .i64 a0_2, .slice A0_3 l0_3.length c0_3]] ?_; (with_reducible refine (pixel_Put.calls k (wrap64 (a1)) a0_1 a0_2 _ _ l0_3 t380 t381 _ ?side1 ?side2 A10.out).mono ?_); (case side1 => exact Kd.C_below HR0_3.out (hn HB)); (case side2 => exact HC0_3.out); rintro e w65 ⟨rfl, hb⟩; refine ⟨_, rfl, ?_⟩; have n0_ := bp #[.int .i64 (wrap64 (a1)), .int .i64 a0_1, .int .i64 a0_2, .slice A0_3 l0_3.length c0_3] BK376 hb; have n1_ := hs HB hb; clear BK376; clear HB; have BK376 := n0_; have HB := n1_; clear n0_ n1_; (try clear hb)))
     have n0_ := Aside0.mk (blk_drew BK376.out)
     have n1_ := Aside0.mk (below_drew1 HB.out)
     clear BK376
     clear HB
     have BK376 := n0_
     have HB := n1_
     clear n0_ n1_
     refine start_ (n := 40) (S := fun w' => True) (ds := []) #[false, false, false, false, false, false, false, false, false, false, false, false, false, false, false, false, false, false, false, false, false, false, false, false, false, false, false, false, false, false, false, false, false, false, false, false, false, false, false, false] (by kernel_rfl) rfl rfl trivial (fun hHeld => ?_); refine with_tabW celluloidlaw11_PixelNames.tab8 celluloidlaw11_PixelNames.bits8 (fun HT_ HW_ => ?_)
     generalize w65.drew = w66 at BK376 HB hHeld ⊢
     refine pureQ 0 (some 34) (tk 1 39) (any_of HT_.out (by kernel_rfl)) ?_
     refine pureQ 1 (some 35) (tk 2 38) (any_of HT_.out (by kernel_rfl)) ?_
     refine pureQ 2 (some 36) (tk 3 37) (any_of HT_.out (by kernel_rfl)) ?_
     refine pureU 3 (some 37) (tk 4 36) (any_of HT_.out (by kernel_rfl)) ?_
     refine pureU 4 (some 38) (tk 5 35) (any_of HT_.out (by kernel_rfl)) ?_
     refine pureU 5 (some 39) (tk 6 34) (any_of HT_.out (by kernel_rfl)) ?_
     refine pureU 6 (some 40) (tk 7 33) (any_of HT_.out (by kernel_rfl)) ?_
     refine pureU 7 (some 41) (tk 8 32) (any_of HT_.out (by kernel_rfl)) ?_
     refine pureQ 8 (some 42) (tk 9 31) (any_of HT_.out (by kernel_rfl)) ?_
     refine pureQ 9 (some 43) (tk 10 30) (any_of HT_.out (by kernel_rfl)) ?_
     refine pureU 10 (some 44) (tk 11 29) (any_of HT_.out (by kernel_rfl)) ?_
     refine pureU 11 (some 45) (tk 12 28) (any_of HT_.out (by kernel_rfl)) ?_
     refine pureU 12 (some 46) (tk 13 27) (any_of HT_.out (by kernel_rfl)) ?_
     refine pureQ 13 (some 47) (tk 14 26) (any_of HT_.out (by kernel_rfl)) ?_
     refine pureQ 14 (some 48) (tk 15 25) (any_of HT_.out (by kernel_rfl)) ?_
     refine pureU 15 (some 49) (tk 16 24) (any_of HT_.out (by kernel_rfl)) ?_
     refine pureU 16 (some 50) (tk 17 23) (any_of HT_.out (by kernel_rfl)) ?_
     refine pureU 17 (some 51) (tk 18 22) (any_of HT_.out (by kernel_rfl)) ?_
     refine pureU 18 (some 52) (tk 19 21) (any_of HT_.out (by kernel_rfl)) ?_
     refine pureU 19 (some 53) (tk 20 20) (any_of HT_.out (by kernel_rfl)) ?_
     refine pureQ 20 (some 54) (tk 21 19) (any_of HT_.out (by kernel_rfl)) ?_
     refine pureQ 21 (some 55) (tk 22 18) (any_of HT_.out (by kernel_rfl)) ?_
     refine pureU 22 (some 56) (tk 23 17) (any_of HT_.out (by kernel_rfl)) ?_
     refine pureU 23 (some 57) (tk 24 16) (any_of HT_.out (by kernel_rfl)) ?_
     refine pureU 24 (some 58) (tk 25 15) (any_of HT_.out (by kernel_rfl)) ?_
     refine pureU 25 (some 59) (tk 26 14) (any_of HT_.out (by kernel_rfl)) ?_
     refine pureU 26 (some 60) (tk 27 13) (any_of HT_.out (by kernel_rfl)) ?_
     refine pureQ 27 (some 61) (tk 28 12) (any_of HT_.out (by kernel_rfl)) ?_
     refine pureQ 28 (some 62) (tk 29 11) (any_of HT_.out (by kernel_rfl)) ?_
     refine pureU 29 (some 63) (tk 30 10) (any_of HT_.out (by kernel_rfl)) ?_
     refine pureU 30 (some 64) (tk 31 9) (any_of HT_.out (by kernel_rfl)) ?_
     refine pureU 31 (some 65) (tk 32 8) (any_of HT_.out (by kernel_rfl)) ?_
     refine pureU 32 (some 66) (tk 33 7) (any_of HT_.out (by kernel_rfl)) ?_
     refine pureU 33 (some 67) (tk 34 6) (any_of HT_.out (by kernel_rfl)) ?_
     refine pureU 34 (some 68) (tk 35 5) (any_of HT_.out (by kernel_rfl)) ?_
     refine pureQ 35 (some 69) (tk 36 4) (any_of HT_.out (by kernel_rfl)) ?_
     refine pureQ 36 (some 70) (tk 37 3) (any_of HT_.out (by kernel_rfl)) ?_
     refine pureU 37 (some 71) (tk 38 2) (any_of HT_.out (by kernel_rfl)) ?_
     refine pureQ 38 (some 72) (tk 39 1) (any_of HT_.out (by kernel_rfl)) ?_
     refine pureQ 39 (some 4) (tk 40 0) (any_of HT_.out (by kernel_rfl)) ?_
     refine done_ (done_of HT_.out (by kernel_rfl)) ?_
     try go_wp2
     go_ret
     exact ⟨by first | rfl | (simp [errW_none, errW_some] <;> rfl) | (simp [*, errW_none, errW_some] <;> rfl), hn HB⟩
  ·rw [if_neg c9] at H
   have c9b0 : (t379 == 0) = false := beq_eq_false_iff_ne.mpr c9
   have c9b1 : (t379 != 0) = true := bne_iff_ne.mpr c9
   by_cases c67 : t378.toList = ([] : List UInt8)
   ·rw [if_pos c67] at H
    have c67b0 : (t378.toList == ([] : List UInt8)) = true := beq_iff_eq.mpr c67
    have c67b1 : (t378.toList != ([] : List UInt8)) = false := bne_eq_false_iff_eq.mpr c67
    clear c67
    replace H := Option.bind_eq_some_iff.mp H
    obtain ⟨t383, A680, H⟩ := H
    replace H : (some t383) = some r := H
    have A68 := Aside0.mk A680
    clear A680
    first
    |exact absurd (Option.some.inj H) (by rw [hr_.out]; decide)
    |obtain rfl := Option.some.inj H
     go_enter Try.func24, Try.ntmps24
     go_wp2_with (first | ((with_reducible refine gate_dst (N := 2) rfl ?_); (try (refine gate_guard (by rfl) ?_; dsimp only)); refine boxQ 2 #[.int .i64 a0_0, .int .i64 a0_1, .int .i64 a0_2, .slice A0_3 l0_3.length c0_3] 76 ?_; intro gb376 hg w69 hbox hb; have n0_ := hs HB hb; have n1_ := Aside0.mk (hbox); have n2_ := gs HB hg; have n3_ := gs HB hg; clear HB; have HB := n0_; have BK376 := n1_; have GW376 := n2_; have GE376 := n3_; clear n0_ n1_ n2_ n3_; clear hb hbox hg; obtain ⟨hcz70_0, hcz70_1, hcz70_2, hcz70_3⟩ := cc4 BK376; obtain ⟨hfz70_0, hfz70_1, hfz70_2, hfz70_3⟩ := ff4 BK376) | ((with_reducible refine gate_callee (f := 50) rfl ?_); refine goesQ (some 16) Try.func50 #[.agg #[.int .i64 a0_0, .int .i64 a0_1, .int .i64 a0_2, .slice A0_3 l0_3.length c0_3]] ?_; (with_reducible refine (pixel_Put.calls k a0_0 a0_1 a0_2 _ _ l0_3 t378 t379 _ ?side1 ?side2 A8.out).mono ?_); (case side1 => repeat (first | exact (Kd.C_below HR0_3.out HB.out) | (with_reducible refine Kd.C_alloc ?_ _) | (with_reducible refine Kd.C_drewN ?_ _) | (with_reducible refine Kd.C_drew ?_))); (case side2 => exact HC0_3.out); rintro e w71 ⟨rfl, hb⟩; refine ⟨_, rfl, ?_⟩; have n0_ := bb BK376 hb; have n1_ := hs HB hb; clear BK376; clear HB; have BK376 := n0_; have HB := n1_; clear n0_ n1_; (try clear hb)) | (go_at_call 49; (with_reducible refine (celluloidlaw11_awake.calls k  t383 _ A68.out).mono ?_); rintro e w72 ⟨rfl, hb⟩; have n0_ := bb BK376 hb; have n1_ := hs HB hb; clear BK376; clear HB; have BK376 := n0_; have HB := n1_; clear n0_ n1_; (try clear hb)))
     go_ret
     exact ⟨by first | rfl | (simp [errW_none, errW_some] <;> rfl) | (simp [*, errW_none, errW_some] <;> rfl), hn HB⟩
   ·rw [if_neg c67] at H
    have c67b0 : (t378.toList == ([] : List UInt8)) = false := beq_eq_false_iff_ne.mpr c67
    have c67b1 : (t378.toList != ([] : List UInt8)) = true := bne_iff_ne.mpr c67
    first
    |exact absurd (Option.some.inj H) (by rw [hr_.out]; decide)
    |obtain rfl := Option.some.inj H
     go_enter Try.func24, Try.ntmps24
     go_wp2_with (first | ((with_reducible refine gate_dst (N := 2) rfl ?_); (try (refine gate_guard (by rfl) ?_; dsimp only)); refine boxQ 2 #[.int .i64 a0_0, .int .i64 a0_1, .int .i64 a0_2, .slice A0_3 l0_3.length c0_3] 76 ?_; intro gb376 hg w73 hbox hb; have n0_ := hs HB hb; have n1_ := Aside0.mk (hbox); have n2_ := gs HB hg; have n3_ := gs HB hg; clear HB; have HB := n0_; have BK376 := n1_; have GW376 := n2_; have GE376 := n3_; clear n0_ n1_ n2_ n3_; clear hb hbox hg; obtain ⟨hcz74_0, hcz74_1, hcz74_2, hcz74_3⟩ := cc4 BK376; obtain ⟨hfz74_0, hfz74_1, hfz74_2, hfz74_3⟩ := ff4 BK376) | ((with_reducible refine gate_callee (f := 50) rfl ?_); refine goesQ (some 16) Try.func50 #[.agg #[.int .i64 a0_0, .int .i64 a0_1, .int .i64 a0_2, .slice A0_3 l0_3.length c0_3]] ?_; (with_reducible refine (pixel_Put.calls k a0_0 a0_1 a0_2 _ _ l0_3 t378 t379 _ ?side1 ?side2 A8.out).mono ?_); (case side1 => repeat (first | exact (Kd.C_below HR0_3.out HB.out) | (with_reducible refine Kd.C_alloc ?_ _) | (with_reducible refine Kd.C_drewN ?_ _) | (with_reducible refine Kd.C_drew ?_))); (case side2 => exact HC0_3.out); rintro e w75 ⟨rfl, hb⟩; refine ⟨_, rfl, ?_⟩; have n0_ := bb BK376 hb; have n1_ := hs HB hb; clear BK376; clear HB; have BK376 := n0_; have HB := n1_; clear n0_ n1_; (try clear hb)))
     go_ret
     exact ⟨by first | rfl | (simp [errW_none, errW_some] <;> rfl) | (simp [*, errW_none, errW_some] <;> rfl), hn HB⟩
  
end Go.Proofs.Ytpbhkdamkbopkaa.GPixb
/- A bitmap of another ID is written with its first two bmp other, and no more. -/
namespace Go.Proofs.Ytpbhkdamkbopkaa.Pure
set_option linter.unusedSimpArgs false
set_option linter.unusedVariables false
open Go.RowKit Go.Proofs.Ytpbhkdamkbopkaa.Opens Go.Proofs.Ytpbhkdamkbopkaa.GPix Go.Proofs.Ytpbhkdamkbopkaa.GPixb Go.Proofs.Ytpbhkdamkbopkaa.PR Go.Proofs.YtpbhkdamkbopkaaW.PrintWords Go.Proofs.YtpbhkdamkbopkaaW.PrintLast Go.Proofs.YtpbhkdamkbopkaaW.PrintMore
open Go.Proofs.Ytpbhkdamkbopkaa.Px (two nb3 rb put_is bmp hd7 px)
open Go.Proofs.Ytpbhkdamkbopkaa.Inf (strOfNums_append bt_left bt_nums)

theorem u16_rng (c : Int) (h : (Lit.int .u16 c).wf = true) : 0 ≤ c ∧ c ≤ 65535 := by
  simp [Lit.wf, IntKind.min, IntKind.max, IntKind.signed, IntKind.bits] at h
  omega
theorem pix_awake (k : Nat) (h : 300 ≤ k) : celluloidlaw11_awake.f k = some true := by
  obtain ⟨d, rfl⟩ : ∃ d, k = 300 + d := ⟨k - 300, by omega⟩
  exact celluloidlaw11_awake.more _ _ celluloidlaw11_awake.at_ d
theorem cut_two (v : Int) (R : ByteArray) : (strOfNums (two v) ++ R).extract 2 (strOfNums (two v) ++ R).size = R := by
  have h2 : (strOfNums (two v)).size = 2 := rfl
  rw [ByteArray.size_append, h2]
  exact ByteArray.extract_append_eq_right (by rw [h2]) (by rw [h2])
theorem two_at (v : Int) (R : ByteArray) : bt (strOfNums (two v) ++ R) 0 = v % 256 ∧ bt (strOfNums (two v) ++ R) 1 = v / 256 % 256 := by
  have h2 : (strOfNums (two v)).size = 2 := rfl
  have hl : ∀ x ∈ two v, 0 ≤ x ∧ x ≤ 255 := by
    intro x hx
    unfold two at hx
    simp only [List.mem_cons, List.not_mem_nil, or_false] at hx
    rcases hx with rfl | rfl <;> omega
  rw [bt_left _ _ 0 (by decide) (by rw [h2]; decide), bt_left _ _ 1 (by decide) (by rw [h2]; decide)]
  exact ⟨bt_nums _ hl 0 (show 0 < 2 by decide), bt_nums _ hl 1 (show 1 < 2 by decide)⟩
theorem bytes_split (id w h : Int) (l : List S89) : ∃ R : ByteArray, (∀ i, bmp i w h l = strOfNums (two i) ++ R) ∧ 6 ≤ R.size := by
  refine ⟨strOfNums ([5] ++ (two w ++ two h)) ++ clo (strOfNums (px l)), fun i => ?_, ?_⟩
  · unfold bmp hd7
    rw [strOfNums_append, ByteArray.append_assoc]
  · rw [ByteArray.size_append, clo_size]; omega
def SaidPixelNames : Prop := ∀ (a0_0 : Int) (a0_1 : Int) (a0_2 : Int) (l0_3 : List S89) (a1 : Int), (Lit.int .i64 a0_0).wf = true → (Lit.int .i64 a0_1).wf = true → (Lit.int .i64 a0_2).wf = true → l0_3.length ≤ maxLen ∧ (∀ x ∈ l0_3, G89 x) → (Lit.int .u16 a1).wf = true → ∃ k, celluloidlaw11_PixelNames.f k a0_0 a0_1 a0_2 l0_3 a1 = some true
theorem names_nil : (⟨#[]⟩ : ByteArray).toList = ([] : List UInt8) := by kernel_rfl
theorem PixelNames : SaidPixelNames := by
  intro a0 a1 a2 l a3 h0 h1 h2 hl h3
  have h3 := u16_rng a3 h3
  obtain ⟨K, hK⟩ : ∃ K : Nat, K = 40000 := ⟨_, rfl⟩
  have hw := pix_awake K (by omega)
  refine ⟨K, ?_⟩
  unfold celluloidlaw11_PixelNames.f
  by_cases c0 : (l.length : Int) > 500
  · rw [if_pos c0, hw]; rfl
  rw [if_neg c0, put_is a0 a1 a2 l K (by omega), Option.bind_some]
  by_cases c : rb a0 a1 a2 l = true
  · have c2 : rb a3 a1 a2 l = true := by
      unfold rb at c ⊢
      rw [Bool.and_eq_true, decide_eq_true_eq] at c ⊢
      obtain ⟨⟨d1, d2, d3⟩, d4⟩ := c
      exact ⟨⟨h3.1, by omega, d3⟩, d4⟩
    obtain ⟨R, hR, hR6⟩ := bytes_split 0 a1 a2 l
    have hw64 : wrap64 a3 = a3 := Px.wr (by omega) (by omega)
    have hz : ∀ i, (bmp i a1 a2 l).size = 2 + R.size := fun i => by rw [hR, ByteArray.size_append]; rfl
    have e1 : (bmp a3 a1 a2 l).extract 2 (2 + R.size) = R := by
      have := cut_two a3 R
      rw [← hR, hz] at this
      exact this
    have e0 : (bmp a0 a1 a2 l).extract 2 (2 + R.size) = R := by
      have := cut_two a0 R
      rw [← hR, hz] at this
      exact this
    have eb := two_at a3 R
    rw [← hR] at eb
    rw [if_pos c]
    simp only
    rw [if_pos trivial, hw64, put_is a3 a1 a2 l K (by omega), Option.bind_some, if_pos c2]
    simp only
    rw [if_pos trivial, hz, hz, if_pos rfl, if_pos (by omega), if_pos (by omega), if_pos (by omega), e1, e0, if_pos rfl, if_pos (by omega), eb.1, if_pos rfl, if_pos (by omega), eb.2, if_pos rfl, hw]
    rfl
  · rw [if_neg c]
    simp only
    rw [if_neg (by decide), if_pos names_nil, hw]
    rfl
end Go.Proofs.Ytpbhkdamkbopkaa.Pure
