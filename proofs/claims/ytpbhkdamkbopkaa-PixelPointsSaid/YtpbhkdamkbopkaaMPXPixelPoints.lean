/- The walk and the plain law of this claim, glued by a program of this session (wip/tools/claimfit.py). -/
import Derived.Test.YtpbhkdamkbopkaaMPXH
-- Written by a program of this session (wip/tools/print2.py) for this claim.
namespace Go.Proofs.Ytpbhkdamkbopkaa.GPixb
open Go.Proofs.Ytpbhkdamkbopkaa.Sq
open Go.RowKit Go.Proofs.YtpbhkdamkbopkaaW.PrintWords Go.Proofs.YtpbhkdamkbopkaaW.PrintLast Go.Proofs.YtpbhkdamkbopkaaW.PrintMore Go.Proofs.Ytpbhkdamkbopkaa.Wr2 Go.Proofs.Ytpbhkdamkbopkaa.Wr1 Go.Proofs.Ytpbhkdamkbopkaa.GRuns Go.Proofs.Ytpbhkdamkbopkaa.GBack2 Go.Proofs.Ytpbhkdamkbopkaa.GPix Go.Proofs.Ytpbhkdamkbopkaa.PR
attribute [local go_sem] max2_int min2_int max_two min_two max_three min_three max_four min_four   -- for this text's walks alone
set_option linter.unusedVariables false
set_option linter.unusedSimpArgs false

attribute [local go_sem high] eqA89
-- walked by hand: function 51 (celluloidref11_Right)

/-- ref tells what came in. -/
theorem ref_same (a0_0 : Int) (a0_1 : Int) (a0_2 : Int) (A0_3 : Option Addr) (c0_3 : Nat) (l0_3 : List (S89)) (w : World) :
    Calls Try.prog 52 #[.agg #[.int .i64 a0_0, .int .i64 a0_1, .int .i64 a0_2, .slice A0_3 l0_3.length c0_3]] w fun e w' => e = .returned (.agg #[.int .i64 a0_0, .int .i64 a0_1, .int .i64 a0_2, .slice A0_3 l0_3.length c0_3]) ∧ Below w.heap.size w w' := by
  have hu76 := Try.underlying76
  have hu79 := Try.underlying79
  have HB := Aside0.mk (Below.refl w.heap.size w)
  go_enter Try.func52, Try.ntmps52
  go_wp2_with (first
    | ((with_reducible refine gate_dst (N := 1) rfl ?_); refine boxQ 1 #[.int .i64 a0_0, .int .i64 a0_1, .int .i64 a0_2, .slice A0_3 l0_3.length c0_3] 76 ?_; intro g1 hg w1 hbox hb; have B1 := Aside0.mk hbox; have L1 := Aside0.mk hb; clear hbox hb hg HB; have hc0 : w1.cell? ⟨g1, 0, none⟩ = some (.int .i64 a0_0) := (blk_cell B1.out 0).trans rfl; have hc1 : w1.cell? ⟨g1, 1, none⟩ = some (.int .i64 a0_1) := (blk_cell B1.out 1).trans rfl; have hc2 : w1.cell? ⟨g1, 2, none⟩ = some (.int .i64 a0_2) := (blk_cell B1.out 2).trans rfl; have hc3 : w1.cell? ⟨g1, 3, none⟩ = some (.slice A0_3 l0_3.length c0_3) := (blk_cell B1.out 3).trans rfl)
    | ((with_reducible refine gate_dst (N := 2) rfl ?_); refine boxQ 2 #[.int .i64 0, .int .i64 0, .int .i64 0, .slice none 0 0] 79 ?_; intro g2 hg w2 hbox hb; have B2 := Aside0.mk hbox; have L2 := Aside0.mk (below_step L1.out hb); have G2 := Aside0.mk ((by rw [hg]; exact below_size L1.out) : w.heap.size ≤ g2); replace hc0 := (hb.cell (World.block_lt_of_cell? _ _ hc0)).trans hc0; replace hc1 := (hb.cell (World.block_lt_of_cell? _ _ hc1)).trans hc1; replace hc2 := (hb.cell (World.block_lt_of_cell? _ _ hc2)).trans hc2; replace hc3 := (hb.cell (World.block_lt_of_cell? _ _ hc3)).trans hc3; clear hbox hb hg; have hf0 := blk_frozen B2.out 0; have hf1 := blk_frozen B2.out 1; have hf2 := blk_frozen B2.out 2; have hf3 := blk_frozen B2.out 3; have hd0 : w2.cell? ⟨g2, 0, none⟩ = some (.int .i64 0) := (blk_cell B2.out 0).trans rfl; have hd1 : w2.cell? ⟨g2, 1, none⟩ = some (.int .i64 0) := (blk_cell B2.out 1).trans rfl; have hd2 : w2.cell? ⟨g2, 2, none⟩ = some (.int .i64 0) := (blk_cell B2.out 2).trans rfl; have hd3 : w2.cell? ⟨g2, 3, none⟩ = some (.slice none 0 0) := (blk_cell B2.out 3).trans rfl))
  refine bodyPost_ret (results_cell_row rfl _ _ g2 79 #[.int .i64 a0_0, .int .i64 a0_1, .int .i64 a0_2, .slice A0_3 l0_3.length c0_3] (0, 0) _ rfl (by refine blk_put (cs := #[.int .i64 a0_0, .int .i64 a0_1, .int .i64 a0_2, .slice none 0 0]) ?_ 3 _ rfl; refine blk_put (cs := #[.int .i64 a0_0, .int .i64 a0_1, .int .i64 0, .slice none 0 0]) ?_ 2 _ rfl; refine blk_put (cs := #[.int .i64 a0_0, .int .i64 0, .int .i64 0, .slice none 0 0]) ?_ 1 _ rfl; refine blk_put (cs := #[.int .i64 0, .int .i64 0, .int .i64 0, .slice none 0 0]) ?_ 0 _ rfl; exact B2.out) Try.underlying79 rfl (by kernel_rfl)) rfl ?_
  exact ⟨rfl, below_set (below_set (below_set (below_set L2.out G2.out) G2.out) G2.out) G2.out⟩

/-! ### celluloidlaw11_PixelPoints: function 22 -/
def celluloidlaw11_PixelPoints.j0 : Nat → Int → Int → Bool → Int → Int → Int → List (S89) → Int → Int → Int → Int → Option (Bool)
  | 0, _, _, _, _, _, _, _, _, _, _, _ => none
  | k + 1, x1, x2, x40, x319000, x319001, x319002, x319003, x325000, x325001, x325002, x325003 => if x40 = true then (if (x325000 == 0 && (x325001 == 0 && (x325002 == 0 && (x325003 == 0)))) = true then ((celluloidlaw11_awake.f k).bind fun t332 => (some t332)) else (some false)) else (if 0 ≤ (wrap64 ((wrap64 (x2 * x319001)) + x1)) then (if (wrap64 ((wrap64 (x2 * x319001)) + x1)) < (x319003.length : Int) then (if (x325000 == ((rd_T89 x319003 (wrap64 ((wrap64 (x2 * x319001)) + x1))).f0) && (x325001 == ((rd_T89 x319003 (wrap64 ((wrap64 (x2 * x319001)) + x1))).f1) && (x325002 == ((rd_T89 x319003 (wrap64 ((wrap64 (x2 * x319001)) + x1))).f2) && (x325003 == ((rd_T89 x319003 (wrap64 ((wrap64 (x2 * x319001)) + x1))).f3))))) = true then ((celluloidlaw11_awake.f k).bind fun t334 => (some t334)) else (some false)) else (none)) else (none))
def celluloidlaw11_PixelPoints.f (k : Nat) (a0_0 : Int) (a0_1 : Int) (a0_2 : Int) (l0_3 : List (S89)) (a1 : Int) (a2 : Int) : Option (Bool) := if (l0_3.length : Int) > 500 then ((celluloidlaw11_awake.f k).bind fun t319 => (some t319)) else ((pixel_Pixel.f k a0_0 a0_1 a0_2 l0_3 a1 a2).bind fun bt320 => ((celluloidlaw11_ref.f a0_0 a0_1 a0_2 l0_3).bind fun bt325 => ((celluloidref11_Right.f k bt325.1 bt325.2.1 bt325.2.2.1 bt325.2.2.2).bind fun t331 => (if t331 = true then (if a1 < 0 then (celluloidlaw11_PixelPoints.j0 k a1 a2 true a0_0 a0_1 a0_2 l0_3 bt320.1 bt320.2.1 bt320.2.2.1 bt320.2.2.2) else (if a2 < 0 then (celluloidlaw11_PixelPoints.j0 k a1 a2 true a0_0 a0_1 a0_2 l0_3 bt320.1 bt320.2.1 bt320.2.2.1 bt320.2.2.2) else (if a1 ≥ a0_1 then (celluloidlaw11_PixelPoints.j0 k a1 a2 true a0_0 a0_1 a0_2 l0_3 bt320.1 bt320.2.1 bt320.2.2.1 bt320.2.2.2) else (celluloidlaw11_PixelPoints.j0 k a1 a2 (decide (a2 ≥ a0_2)) a0_0 a0_1 a0_2 l0_3 bt320.1 bt320.2.1 bt320.2.2.1 bt320.2.2.2)))) else (celluloidlaw11_PixelPoints.j0 k a1 a2 true a0_0 a0_1 a0_2 l0_3 bt320.1 bt320.2.1 bt320.2.2.1 bt320.2.2.2)))))
theorem celluloidlaw11_PixelPoints.mono_l : ∀ k, (∀ y0 y1 y2 y3 y4 y5 y6 y7 y8 y9 y10, LeO (celluloidlaw11_PixelPoints.j0 k y0 y1 y2 y3 y4 y5 y6 y7 y8 y9 y10) (celluloidlaw11_PixelPoints.j0 (k + 1) y0 y1 y2 y3 y4 y5 y6 y7 y8 y9 y10))
  | 0 => fun _ _ _ _ _ _ _ _ _ _ _ r h => by simp [celluloidlaw11_PixelPoints.j0] at h
  | k + 1 => by
    have ih0 := celluloidlaw11_PixelPoints.mono_l k
    · intro y0 y1 y2 y3 y4 y5 y6 y7 y8 y9 y10
      unfold celluloidlaw11_PixelPoints.j0
      repeat' first
      | (with_reducible exact ih0 _ _ _ _ _ _ _ _ _ _ _)
      | (with_reducible exact celluloidlaw11_awake.mono _)
      | (with_reducible exact celluloidref11_Right.mono _ _ _ _ _)
      | (with_reducible exact pixel_Pixel.mono _ _ _ _ _ _ _)
      | (with_reducible exact LeO.refl _)
      | (with_reducible exact LeO.none _)
      | (with_reducible refine LeO.ite ?_ ?_)
      | (with_reducible refine LeO.bind ?_ (fun _ => ?_))
      | exact ih0 _ _ _ _ _ _ _ _ _ _ _
      | exact celluloidlaw11_awake.mono _
      | exact celluloidref11_Right.mono _ _ _ _ _
      | exact pixel_Pixel.mono _ _ _ _ _ _ _
      | exact LeO.none _
      | refine LeO.ite ?_ ?_
      | refine LeO.bind ?_ (fun _ => ?_)
theorem celluloidlaw11_PixelPoints.mono : ∀ a0 a1 a2 a3 a4 a5 k, LeO (celluloidlaw11_PixelPoints.f k a0 a1 a2 a3 a4 a5) (celluloidlaw11_PixelPoints.f (k + 1) a0 a1 a2 a3 a4 a5) := by
  intro a0 a1 a2 a3 a4 a5 k
  have ih0 := celluloidlaw11_PixelPoints.mono_l k
  unfold celluloidlaw11_PixelPoints.f
  repeat' first
      | (with_reducible exact ih0 _ _ _ _ _ _ _ _ _ _ _)
      | (with_reducible exact celluloidlaw11_awake.mono _)
      | (with_reducible exact celluloidref11_Right.mono _ _ _ _ _)
      | (with_reducible exact pixel_Pixel.mono _ _ _ _ _ _ _)
      | (with_reducible exact LeO.refl _)
      | (with_reducible exact LeO.none _)
      | (with_reducible refine LeO.ite ?_ ?_)
      | (with_reducible refine LeO.bind ?_ (fun _ => ?_))
      | exact ih0 _ _ _ _ _ _ _ _ _ _ _
      | exact celluloidlaw11_awake.mono _
      | exact celluloidref11_Right.mono _ _ _ _ _
      | exact pixel_Pixel.mono _ _ _ _ _ _ _
      | exact LeO.none _
      | refine LeO.ite ?_ ?_
      | refine LeO.bind ?_ (fun _ => ?_)
def celluloidlaw11_PixelPoints.T6 : Bool × List (List Nat × List Nat) := (true, [([], []), ([], []), ([1], [1]), ([], []), ([], []), ([4], [4]), ([3, 5], [3, 5]), ([], []), ([6, 7], [6, 7]), ([2, 8], [2, 8]), ([9], [9]), ([0, 10], [0, 10]), ([11], [11]), ([12, 12], [12]), ([12, 13], [12, 13]), ([14, 13, 0, 1, 2, 3, 4, 5, 6, 7, 8, 9, 10, 11, 12, 13, 14], [14])])
def celluloidlaw11_PixelPoints.B6 : List Nat := [0, 0, 2, 0, 0, 16, 56, 0, 248, 510, 1022, 2047, 4095, 8191, 16383, 32767]
theorem celluloidlaw11_PixelPoints.tab6 : rtab .any (opsOf Try.f22 6) = celluloidlaw11_PixelPoints.T6 := by kernel_rfl
theorem celluloidlaw11_PixelPoints.bits6 : waitsOk celluloidlaw11_PixelPoints.T6.2 celluloidlaw11_PixelPoints.B6 = true := by kernel_rfl
set_option maxHeartbeats 8000000 in
set_option maxRecDepth 100000 in
theorem celluloidlaw11_PixelPoints.calls (k : Nat) (a0_0 : Int) (a0_1 : Int) (a0_2 : Int) (A0_3 : Option Addr) (c0_3 : Nat) (l0_3 : List (S89)) (a1 : Int) (a2 : Int) (r : Bool) (w : World) (hr0_3 : Kd.C k89 w A0_3 l0_3.length l0_3) (hc0_3 : l0_3.length ≤ c0_3) (h : celluloidlaw11_PixelPoints.f k a0_0 a0_1 a0_2 l0_3 a1 a2 = some r) (hr_ : Aside0 (r = true)) :
    Calls Try.prog 22 #[.agg #[.int .i64 a0_0, .int .i64 a0_1, .int .i64 a0_2, .slice A0_3 l0_3.length c0_3], .int .i64 a1, .int .i64 a2] w fun e w' => e = .returned (.bool r) ∧ Below w.heap.size w w' := by
  have hu76 := Try.underlying76
  have hu89 := Try.underlying89
  have HR0_3 := Aside0.mk hr0_3
  have HC0_3 := Aside0.mk hc0_3
  clear hr0_3 hc0_3
  have HB := Aside0.mk (Below.refl w.heap.size w)
  have H : (if (l0_3.length : Int) > 500 then ((celluloidlaw11_awake.f k).bind fun t319 => (some t319)) else ((pixel_Pixel.f k a0_0 a0_1 a0_2 l0_3 a1 a2).bind fun bt320 => ((celluloidlaw11_ref.f a0_0 a0_1 a0_2 l0_3).bind fun bt325 => ((celluloidref11_Right.f k bt325.1 bt325.2.1 bt325.2.2.1 bt325.2.2.2).bind fun t331 => (if t331 = true then (if a1 < 0 then (celluloidlaw11_PixelPoints.j0 k a1 a2 true a0_0 a0_1 a0_2 l0_3 bt320.1 bt320.2.1 bt320.2.2.1 bt320.2.2.2) else (if a2 < 0 then (celluloidlaw11_PixelPoints.j0 k a1 a2 true a0_0 a0_1 a0_2 l0_3 bt320.1 bt320.2.1 bt320.2.2.1 bt320.2.2.2) else (if a1 ≥ a0_1 then (celluloidlaw11_PixelPoints.j0 k a1 a2 true a0_0 a0_1 a0_2 l0_3 bt320.1 bt320.2.1 bt320.2.2.1 bt320.2.2.2) else (celluloidlaw11_PixelPoints.j0 k a1 a2 (decide (a2 ≥ a0_2)) a0_0 a0_1 a0_2 l0_3 bt320.1 bt320.2.1 bt320.2.2.1 bt320.2.2.2)))) else (celluloidlaw11_PixelPoints.j0 k a1 a2 true a0_0 a0_1 a0_2 l0_3 bt320.1 bt320.2.1 bt320.2.2.1 bt320.2.2.2)))))) = some r := h
  clear h
  by_cases c4 : (l0_3.length : Int) > 500
  · rw [if_pos c4] at H
    have c4b0 : decide (500 < (l0_3.length : Int)) = true := decide_eq_true c4
    have c4b1 : decide (500 < l0_3.length) = true := decide_eq_true (by omega)
    clear c4
    replace H := Option.bind_eq_some_iff.mp H
    obtain ⟨t319, A50, H⟩ := H
    replace H : (some t319) = some r := H
    have A5 := Aside0.mk A50
    clear A50
    first
    | exact absurd (Option.some.inj H) (by rw [hr_.out]; decide)
    | obtain rfl := Option.some.inj H
      go_enter Try.func22, Try.ntmps22
      go_wp2_with (first | ((with_reducible refine gate_dst (N := 3) rfl ?_); refine boxQ 3 #[.int .i64 a0_0, .int .i64 a0_1, .int .i64 a0_2, .slice A0_3 l0_3.length c0_3] 76 ?_; intro gb318 hg w6 hbox hb; have n0_ := hs HB hb; have n1_ := Aside0.mk (hbox); have n2_ := gs HB hg; have n3_ := gs HB hg; clear HB; have HB := n0_; have BK318 := n1_; have GW318 := n2_; have GE318 := n3_; clear n0_ n1_ n2_ n3_; clear hb hbox hg; obtain ⟨hcz7_0, hcz7_1, hcz7_2, hcz7_3⟩ := cc4 BK318; obtain ⟨hfz7_0, hfz7_1, hfz7_2, hfz7_3⟩ := ff4 BK318) | ((with_reducible refine gate_callee (f := 49) rfl ?_); refine goesQ (some 12) Try.func49 #[] ?_; (with_reducible refine (celluloidlaw11_awake.calls k  t319 _ A5.out).mono ?_); rintro e w8 ⟨rfl, hb⟩; refine ⟨_, rfl, ?_⟩; have n0_ := bb BK318 hb; have n1_ := hs HB hb; clear BK318; clear HB; have BK318 := n0_; have HB := n1_; clear n0_ n1_; (try clear hb)))
      go_ret
      exact ⟨by first | rfl | (simp [errW_none, errW_some] <;> rfl) | (simp [*, errW_none, errW_some] <;> rfl), hn HB⟩
  · rw [if_neg c4] at H
    have c4b0 : decide (500 < (l0_3.length : Int)) = false := decide_eq_false c4
    have c4b1 : decide (500 < l0_3.length) = false := decide_eq_false (by omega)
    clear c4
    replace H := Option.bind_eq_some_iff.mp H
    obtain ⟨⟨t320, t321, t322, t323⟩, A90, H⟩ := H
    replace H : ((celluloidlaw11_ref.f a0_0 a0_1 a0_2 l0_3).bind fun bt325 => ((celluloidref11_Right.f k bt325.1 bt325.2.1 bt325.2.2.1 bt325.2.2.2).bind fun t331 => (if t331 = true then (if a1 < 0 then (celluloidlaw11_PixelPoints.j0 k a1 a2 true a0_0 a0_1 a0_2 l0_3 t320 t321 t322 t323) else (if a2 < 0 then (celluloidlaw11_PixelPoints.j0 k a1 a2 true a0_0 a0_1 a0_2 l0_3 t320 t321 t322 t323) else (if a1 ≥ a0_1 then (celluloidlaw11_PixelPoints.j0 k a1 a2 true a0_0 a0_1 a0_2 l0_3 t320 t321 t322 t323) else (celluloidlaw11_PixelPoints.j0 k a1 a2 (decide (a2 ≥ a0_2)) a0_0 a0_1 a0_2 l0_3 t320 t321 t322 t323)))) else (celluloidlaw11_PixelPoints.j0 k a1 a2 true a0_0 a0_1 a0_2 l0_3 t320 t321 t322 t323)))) = some r := H
    have A9 := Aside0.mk A90
    clear A90
    have HC10 := Aside0.mk H
    clear H
    go_enter Try.func22, Try.ntmps22
    go_upto_region 4 with (first | ((with_reducible refine gate_dst (N := 3) rfl ?_); refine boxQ 3 #[.int .i64 a0_0, .int .i64 a0_1, .int .i64 a0_2, .slice A0_3 l0_3.length c0_3] 76 ?_; intro gb318 hg w11 hbox hb; have n0_ := hs HB hb; have n1_ := Aside0.mk (hbox); have n2_ := gs HB hg; have n3_ := gs HB hg; clear HB; have HB := n0_; have BK318 := n1_; have GW318 := n2_; have GE318 := n3_; clear n0_ n1_ n2_ n3_; clear hb hbox hg; obtain ⟨hcz12_0, hcz12_1, hcz12_2, hcz12_3⟩ := cc4 BK318; obtain ⟨hfz12_0, hfz12_1, hfz12_2, hfz12_3⟩ := ff4 BK318) | ((with_reducible refine gate_callee (f := 58) rfl ?_); refine goesQ (some 16) Try.func58 #[.agg #[.int .i64 a0_0, .int .i64 a0_1, .int .i64 a0_2, .slice A0_3 l0_3.length c0_3], .int .i64 a1, .int .i64 a2] ?_; (with_reducible refine (pixel_Pixel.calls k a0_0 a0_1 a0_2 _ _ l0_3 a1 a2 t320 t321 t322 t323 _ ?side1 ?side2 A9.out).mono ?_); (case side1 => repeat (first | exact (Kd.C_below HR0_3.out HB.out) | (with_reducible refine Kd.C_alloc ?_ _) | (with_reducible refine Kd.C_drewN ?_ _) | (with_reducible refine Kd.C_drew ?_))); (case side2 => exact HC0_3.out); rintro e w13 ⟨rfl, hb⟩; refine ⟨_, rfl, ?_⟩; have n0_ := bb BK318 hb; have n1_ := hs HB hb; clear BK318; clear HB; have BK318 := n0_; have HB := n1_; clear n0_ n1_; (try clear hb)) | ((with_reducible refine gate_dst (N := 7) rfl ?_); refine boxQ 7 #[.int .i64 0, .int .i64 0, .int .i64 0, .int .i64 0] 89 ?_; intro gb324 hg w14 hbox hb; have n0_ := bb BK318 hb; have n1_ := hs HB hb; have n2_ := Aside0.mk (hbox); have n3_ := gs HB hg; have n4_ := gs HB hg; have n5_ := nl BK318 hg; have n6_ := ng BK318 hg; clear BK318; clear HB; have BK318 := n0_; have HB := n1_; have BK324 := n2_; have GW324 := n3_; have GE324 := n4_; have NB318_324 := n5_; have NB324_318 := n6_; clear n0_ n1_ n2_ n3_ n4_ n5_ n6_; clear hb hbox hg; have hnb15 := NB324_318.out; have hnc15 := NB318_324.out; obtain ⟨hcz16_0, hcz16_1, hcz16_2, hcz16_3⟩ := cc4 BK324; obtain ⟨hfz16_0, hfz16_1, hfz16_2, hfz16_3⟩ := ff4 BK324))
    (try simp only [Act.put, List.setIfInBounds_toArray, List.set_cons_zero, List.set_cons_succ])
    go_cut [40] (fun v40 wc => ∃ (kq : Nat) (x40_9 : Bool), v40 = .bool x40_9 ∧ Aside0 (celluloidlaw11_PixelPoints.j0 kq a1 a2 x40_9 a0_0 a0_1 a0_2 l0_3 t320 t321 t322 t323 = some r) ∧ Aside0 (kq ≤ k) ∧ Aside0 (wc.heap[gb318]? = some (.cells #[.int .i64 a0_0, .int .i64 a0_1, .int .i64 a0_2, (.slice A0_3 l0_3.length c0_3)] 76 (0, 0))) ∧ Aside0 (wc.heap[gb324]? = some (.cells #[.int .i64 t320, .int .i64 t321, .int .i64 t322, .int .i64 t323] 89 (0, 0))) ∧ Aside0 (Below w.heap.size w wc))
    case first =>
      have H := HC10.out
      clear HC10
      replace H := Option.bind_eq_some_iff.mp H
      obtain ⟨⟨t325, t326, t327, t328⟩, A170, H⟩ := H
      simp only [celluloidlaw11_ref.f, Option.some.injEq, Prod.mk.injEq] at A170
      obtain ⟨rfl, rfl, rfl, rfl⟩ := A170
      have A170 : celluloidlaw11_ref.f a0_0 a0_1 a0_2 l0_3 = some (a0_0, a0_1, a0_2, l0_3) := rfl
      replace H : ((celluloidref11_Right.f k a0_0 a0_1 a0_2 l0_3).bind fun t331 => (if t331 = true then (if a1 < 0 then (celluloidlaw11_PixelPoints.j0 k a1 a2 true a0_0 a0_1 a0_2 l0_3 t320 t321 t322 t323) else (if a2 < 0 then (celluloidlaw11_PixelPoints.j0 k a1 a2 true a0_0 a0_1 a0_2 l0_3 t320 t321 t322 t323) else (if a1 ≥ a0_1 then (celluloidlaw11_PixelPoints.j0 k a1 a2 true a0_0 a0_1 a0_2 l0_3 t320 t321 t322 t323) else (celluloidlaw11_PixelPoints.j0 k a1 a2 (decide (a2 ≥ a0_2)) a0_0 a0_1 a0_2 l0_3 t320 t321 t322 t323)))) else (celluloidlaw11_PixelPoints.j0 k a1 a2 true a0_0 a0_1 a0_2 l0_3 t320 t321 t322 t323))) = some r := H
      have A17 := Aside0.mk A170
      clear A170
      replace H := Option.bind_eq_some_iff.mp H
      obtain ⟨t331, A180, H⟩ := H
      replace H : (if t331 = true then (if a1 < 0 then (celluloidlaw11_PixelPoints.j0 k a1 a2 true a0_0 a0_1 a0_2 l0_3 t320 t321 t322 t323) else (if a2 < 0 then (celluloidlaw11_PixelPoints.j0 k a1 a2 true a0_0 a0_1 a0_2 l0_3 t320 t321 t322 t323) else (if a1 ≥ a0_1 then (celluloidlaw11_PixelPoints.j0 k a1 a2 true a0_0 a0_1 a0_2 l0_3 t320 t321 t322 t323) else (celluloidlaw11_PixelPoints.j0 k a1 a2 (decide (a2 ≥ a0_2)) a0_0 a0_1 a0_2 l0_3 t320 t321 t322 t323)))) else (celluloidlaw11_PixelPoints.j0 k a1 a2 true a0_0 a0_1 a0_2 l0_3 t320 t321 t322 t323)) = some r := H
      have A18 := Aside0.mk A180
      clear A180
      by_cases c19 : t331 = true
      · subst c19
        have H1 : (if a1 < 0 then (celluloidlaw11_PixelPoints.j0 k a1 a2 true a0_0 a0_1 a0_2 l0_3 t320 t321 t322 t323) else (if a2 < 0 then (celluloidlaw11_PixelPoints.j0 k a1 a2 true a0_0 a0_1 a0_2 l0_3 t320 t321 t322 t323) else (if a1 ≥ a0_1 then (celluloidlaw11_PixelPoints.j0 k a1 a2 true a0_0 a0_1 a0_2 l0_3 t320 t321 t322 t323) else (celluloidlaw11_PixelPoints.j0 k a1 a2 (decide (a2 ≥ a0_2)) a0_0 a0_1 a0_2 l0_3 t320 t321 t322 t323)))) = some r := by rw [if_pos rfl] at H; exact H
        clear H
        have H := H1
        clear H1
        by_cases c20 : a1 < 0
        · rw [if_pos c20] at H
          have c20b0 : decide (a1 < 0) = true := decide_eq_true c20
          clear c20
          (first | rw [c20b0] | (simp only [i64_w, i32_w]; rw [c20b0]) | skip)
          have H' := Aside0.mk H
          clear H
          have hnb21 := NB318_324.out
          have hnc21 := NB324_318.out
          obtain ⟨hcz22_0, hcz22_1, hcz22_2, hcz22_3⟩ := cc4 BK318
          obtain ⟨hfz22_0, hfz22_1, hfz22_2, hfz22_3⟩ := ff4 BK318
          go_wp2_with (first | ((with_reducible refine gate_callee (f := 52) rfl ?_); refine goesQ (some 18) Try.func52 #[.agg #[.int .i64 a0_0, .int .i64 a0_1, .int .i64 a0_2, .slice A0_3 l0_3.length c0_3]] ?_; (with_reducible refine (ref_same a0_0 a0_1 a0_2 A0_3 c0_3 l0_3 _).mono ?_); rintro e w23 ⟨rfl, hb⟩; refine ⟨_, rfl, ?_⟩; have n1_ := bb BK318 hb; have n2_ := bp #[.int .i64 t320, .int .i64 t321, .int .i64 t322, .int .i64 t323] BK324 hb; have n3_ := hs HB hb; clear BK318; clear BK324; clear HB; have BK318 := n1_; have BK324 := n2_; have HB := n3_; clear n1_ n2_ n3_; (try clear hb)) | ((with_reducible refine gate_callee (f := 51) rfl ?_); refine goesQ (some 19) Try.func51 #[.agg #[.int .i64 a0_0, .int .i64 a0_1, .int .i64 a0_2, .slice A0_3 l0_3.length c0_3]] ?_; (with_reducible refine (celluloidref11_Right.calls k a0_0 a0_1 a0_2 _ _ l0_3 true _ ?side1 ?side2 A18.out).mono ?_); (case side1 => exact Kd.C_below HR0_3.out (hn HB)); (case side2 => exact HC0_3.out); rintro e w25 ⟨rfl, hb⟩; refine ⟨_, rfl, ?_⟩; have n1_ := bb BK318 hb; have n2_ := bb BK324 hb; have n3_ := hs HB hb; clear BK318; clear BK324; clear HB; have BK318 := n1_; have BK324 := n2_; have HB := n3_; clear n1_ n2_ n3_; (try clear hb)))
          go_meet
          case rel => exact ⟨_, (true), (by first | rfl | (simp; done) | (simp [*]; done)), H', ⟨by first | omega | exact Nat.le_refl _⟩, ⟨by (with_reducible repeat (first | refine blk_drewN ?_ _ | refine blk_drew ?_ | refine blk_alloc ?_ _)); exact BK318.out⟩, ⟨by (with_reducible repeat (first | refine blk_drewN ?_ _ | refine blk_drew ?_ | refine blk_alloc ?_ _)); exact BK324.out⟩, ⟨hn HB⟩⟩
        · rw [if_neg c20] at H
          have c20b0 : decide (a1 < 0) = false := decide_eq_false c20
          clear c20
          (first | rw [c20b0] | (simp only [i64_w, i32_w]; rw [c20b0]) | skip)
          by_cases c26 : a2 < 0
          · rw [if_pos c26] at H
            have c26b0 : decide (a2 < 0) = true := decide_eq_true c26
            clear c26
            have H' := Aside0.mk H
            clear H
            have hnb27 := NB318_324.out
            have hnc27 := NB324_318.out
            obtain ⟨hcz28_0, hcz28_1, hcz28_2, hcz28_3⟩ := cc4 BK318
            obtain ⟨hfz28_0, hfz28_1, hfz28_2, hfz28_3⟩ := ff4 BK318
            go_wp2_with (first | ((with_reducible refine gate_callee (f := 52) rfl ?_); refine goesQ (some 18) Try.func52 #[.agg #[.int .i64 a0_0, .int .i64 a0_1, .int .i64 a0_2, .slice A0_3 l0_3.length c0_3]] ?_; (with_reducible refine (ref_same a0_0 a0_1 a0_2 A0_3 c0_3 l0_3 _).mono ?_); rintro e w29 ⟨rfl, hb⟩; refine ⟨_, rfl, ?_⟩; have n1_ := bb BK318 hb; have n2_ := bp #[.int .i64 t320, .int .i64 t321, .int .i64 t322, .int .i64 t323] BK324 hb; have n3_ := hs HB hb; clear BK318; clear BK324; clear HB; have BK318 := n1_; have BK324 := n2_; have HB := n3_; clear n1_ n2_ n3_; (try clear hb)) | ((with_reducible refine gate_callee (f := 51) rfl ?_); refine goesQ (some 19) Try.func51 #[.agg #[.int .i64 a0_0, .int .i64 a0_1, .int .i64 a0_2, .slice A0_3 l0_3.length c0_3]] ?_; (with_reducible refine (celluloidref11_Right.calls k a0_0 a0_1 a0_2 _ _ l0_3 true _ ?side1 ?side2 A18.out).mono ?_); (case side1 => exact Kd.C_below HR0_3.out (hn HB)); (case side2 => exact HC0_3.out); rintro e w31 ⟨rfl, hb⟩; refine ⟨_, rfl, ?_⟩; have n1_ := bb BK318 hb; have n2_ := bb BK324 hb; have n3_ := hs HB hb; clear BK318; clear BK324; clear HB; have BK318 := n1_; have BK324 := n2_; have HB := n3_; clear n1_ n2_ n3_; (try clear hb)))
            go_meet
            case rel => exact ⟨_, (true), (by first | rfl | (simp; done) | (simp [*]; done)), H', ⟨by first | omega | exact Nat.le_refl _⟩, ⟨by (with_reducible repeat (first | refine blk_drewN ?_ _ | refine blk_drew ?_ | refine blk_alloc ?_ _)); exact BK318.out⟩, ⟨by (with_reducible repeat (first | refine blk_drewN ?_ _ | refine blk_drew ?_ | refine blk_alloc ?_ _)); exact BK324.out⟩, ⟨hn HB⟩⟩
          · rw [if_neg c26] at H
            have c26b0 : decide (a2 < 0) = false := decide_eq_false c26
            clear c26
            by_cases c32 : a1 ≥ a0_1
            · rw [if_pos c32] at H
              have c32b0 : decide (a0_1 ≤ a1) = true := decide_eq_true c32
              clear c32
              have H' := Aside0.mk H
              clear H
              have hnb33 := NB318_324.out
              have hnc33 := NB324_318.out
              obtain ⟨hcz34_0, hcz34_1, hcz34_2, hcz34_3⟩ := cc4 BK318
              obtain ⟨hfz34_0, hfz34_1, hfz34_2, hfz34_3⟩ := ff4 BK318
              go_wp2_with (first | ((with_reducible refine gate_callee (f := 52) rfl ?_); refine goesQ (some 18) Try.func52 #[.agg #[.int .i64 a0_0, .int .i64 a0_1, .int .i64 a0_2, .slice A0_3 l0_3.length c0_3]] ?_; (with_reducible refine (ref_same a0_0 a0_1 a0_2 A0_3 c0_3 l0_3 _).mono ?_); rintro e w35 ⟨rfl, hb⟩; refine ⟨_, rfl, ?_⟩; have n1_ := bb BK318 hb; have n2_ := bp #[.int .i64 t320, .int .i64 t321, .int .i64 t322, .int .i64 t323] BK324 hb; have n3_ := hs HB hb; clear BK318; clear BK324; clear HB; have BK318 := n1_; have BK324 := n2_; have HB := n3_; clear n1_ n2_ n3_; (try clear hb)) | ((with_reducible refine gate_callee (f := 51) rfl ?_); refine goesQ (some 19) Try.func51 #[.agg #[.int .i64 a0_0, .int .i64 a0_1, .int .i64 a0_2, .slice A0_3 l0_3.length c0_3]] ?_; (with_reducible refine (celluloidref11_Right.calls k a0_0 a0_1 a0_2 _ _ l0_3 true _ ?side1 ?side2 A18.out).mono ?_); (case side1 => exact Kd.C_below HR0_3.out (hn HB)); (case side2 => exact HC0_3.out); rintro e w37 ⟨rfl, hb⟩; refine ⟨_, rfl, ?_⟩; have n1_ := bb BK318 hb; have n2_ := bb BK324 hb; have n3_ := hs HB hb; clear BK318; clear BK324; clear HB; have BK318 := n1_; have BK324 := n2_; have HB := n3_; clear n1_ n2_ n3_; (try clear hb); obtain ⟨hcz38_0, hcz38_1, hcz38_2, hcz38_3⟩ := cc4 BK318; obtain ⟨hfz38_0, hfz38_1, hfz38_2, hfz38_3⟩ := ff4 BK318))
              go_meet
              case rel => exact ⟨_, (true), (by first | rfl | (simp; done) | (simp [*]; done)), H', ⟨by first | omega | exact Nat.le_refl _⟩, ⟨by (with_reducible repeat (first | refine blk_drewN ?_ _ | refine blk_drew ?_ | refine blk_alloc ?_ _)); exact BK318.out⟩, ⟨by (with_reducible repeat (first | refine blk_drewN ?_ _ | refine blk_drew ?_ | refine blk_alloc ?_ _)); exact BK324.out⟩, ⟨hn HB⟩⟩
            · rw [if_neg c32] at H
              have c32b0 : decide (a0_1 ≤ a1) = false := decide_eq_false c32
              clear c32
              have H' := Aside0.mk H
              clear H
              have hnb39 := NB318_324.out
              have hnc39 := NB324_318.out
              obtain ⟨hcz40_0, hcz40_1, hcz40_2, hcz40_3⟩ := cc4 BK318
              obtain ⟨hfz40_0, hfz40_1, hfz40_2, hfz40_3⟩ := ff4 BK318
              go_wp2_with (first | ((with_reducible refine gate_callee (f := 52) rfl ?_); refine goesQ (some 18) Try.func52 #[.agg #[.int .i64 a0_0, .int .i64 a0_1, .int .i64 a0_2, .slice A0_3 l0_3.length c0_3]] ?_; (with_reducible refine (ref_same a0_0 a0_1 a0_2 A0_3 c0_3 l0_3 _).mono ?_); rintro e w41 ⟨rfl, hb⟩; refine ⟨_, rfl, ?_⟩; have n1_ := bb BK318 hb; have n2_ := bp #[.int .i64 t320, .int .i64 t321, .int .i64 t322, .int .i64 t323] BK324 hb; have n3_ := hs HB hb; clear BK318; clear BK324; clear HB; have BK318 := n1_; have BK324 := n2_; have HB := n3_; clear n1_ n2_ n3_; (try clear hb)) | ((with_reducible refine gate_callee (f := 51) rfl ?_); refine goesQ (some 19) Try.func51 #[.agg #[.int .i64 a0_0, .int .i64 a0_1, .int .i64 a0_2, .slice A0_3 l0_3.length c0_3]] ?_; (with_reducible refine (celluloidref11_Right.calls k a0_0 a0_1 a0_2 _ _ l0_3 true _ ?side1 ?side2 A18.out).mono ?_); (case side1 => exact Kd.C_below HR0_3.out (hn HB)); (case side2 => exact HC0_3.out); rintro e w43 ⟨rfl, hb⟩; refine ⟨_, rfl, ?_⟩; have n1_ := bb BK318 hb; have n2_ := bb BK324 hb; have n3_ := hs HB hb; clear BK318; clear BK324; clear HB; have BK318 := n1_; have BK324 := n2_; have HB := n3_; clear n1_ n2_ n3_; (try clear hb); obtain ⟨hcz44_0, hcz44_1, hcz44_2, hcz44_3⟩ := cc4 BK318; obtain ⟨hfz44_0, hfz44_1, hfz44_2, hfz44_3⟩ := ff4 BK318))
              go_meet
              case rel => exact ⟨_, (decide (a2 ≥ a0_2)), (by first | rfl | (simp; done) | (simp [*]; done)), H', ⟨by first | omega | exact Nat.le_refl _⟩, ⟨by (with_reducible repeat (first | refine blk_drewN ?_ _ | refine blk_drew ?_ | refine blk_alloc ?_ _)); exact BK318.out⟩, ⟨by (with_reducible repeat (first | refine blk_drewN ?_ _ | refine blk_drew ?_ | refine blk_alloc ?_ _)); exact BK324.out⟩, ⟨hn HB⟩⟩
      · replace c19 := Bool.eq_false_iff.mpr c19
        subst c19
        have H1 : (celluloidlaw11_PixelPoints.j0 k a1 a2 true a0_0 a0_1 a0_2 l0_3 t320 t321 t322 t323) = some r := by rw [if_neg (show ¬ (false = true) by decide)] at H; exact H
        clear H
        have H := H1
        clear H1
        have H' := Aside0.mk H
        clear H
        have hnb45 := NB318_324.out
        have hnc45 := NB324_318.out
        obtain ⟨hcz46_0, hcz46_1, hcz46_2, hcz46_3⟩ := cc4 BK318
        obtain ⟨hfz46_0, hfz46_1, hfz46_2, hfz46_3⟩ := ff4 BK318
        go_wp2_with (first | ((with_reducible refine gate_callee (f := 52) rfl ?_); refine goesQ (some 18) Try.func52 #[.agg #[.int .i64 a0_0, .int .i64 a0_1, .int .i64 a0_2, .slice A0_3 l0_3.length c0_3]] ?_; (with_reducible refine (ref_same a0_0 a0_1 a0_2 A0_3 c0_3 l0_3 _).mono ?_); rintro e w47 ⟨rfl, hb⟩; refine ⟨_, rfl, ?_⟩; have n1_ := bb BK318 hb; have n2_ := bp #[.int .i64 t320, .int .i64 t321, .int .i64 t322, .int .i64 t323] BK324 hb; have n3_ := hs HB hb; clear BK318; clear BK324; clear HB; have BK318 := n1_; have BK324 := n2_; have HB := n3_; clear n1_ n2_ n3_; (try clear hb)) | ((with_reducible refine gate_callee (f := 51) rfl ?_); refine goesQ (some 19) Try.func51 #[.agg #[.int .i64 a0_0, .int .i64 a0_1, .int .i64 a0_2, .slice A0_3 l0_3.length c0_3]] ?_; (with_reducible refine (celluloidref11_Right.calls k a0_0 a0_1 a0_2 _ _ l0_3 false _ ?side1 ?side2 A18.out).mono ?_); (case side1 => exact Kd.C_below HR0_3.out (hn HB)); (case side2 => exact HC0_3.out); rintro e w49 ⟨rfl, hb⟩; refine ⟨_, rfl, ?_⟩; have n1_ := bb BK318 hb; have n2_ := bb BK324 hb; have n3_ := hs HB hb; clear BK318; clear BK324; clear HB; have BK318 := n1_; have BK324 := n2_; have HB := n3_; clear n1_ n2_ n3_; (try clear hb)))
        go_meet
        case rel => exact ⟨_, (true), (by first | rfl | (simp; done) | (simp [*]; done)), H', ⟨by first | omega | exact Nat.le_refl _⟩, ⟨by (with_reducible repeat (first | refine blk_drewN ?_ _ | refine blk_drew ?_ | refine blk_alloc ?_ _)); exact BK318.out⟩, ⟨by (with_reducible repeat (first | refine blk_drewN ?_ _ | refine blk_drew ?_ | refine blk_alloc ?_ _)); exact BK324.out⟩, ⟨hn HB⟩⟩
    case rest =>
      clear HC10
      try clear c1
      try clear c2
      try clear p2
      try clear c3
      try clear c4
      try clear c4b0
      try clear c4b1
      try clear c5
      try clear c15
      try clear c19
      try clear c20
      try clear c20b0
      try clear c21
      try clear c22
      try clear c26
      try clear c26b0
      try clear c27
      try clear c32
      try clear c32b0
      try clear c33
      try clear c39
      try clear c45
      try clear c49
      try clear hcz12_0
      try clear hcz12_1
      try clear hcz12_2
      try clear hcz12_3
      try clear hcz16_0
      try clear hcz16_1
      try clear hcz16_2
      try clear hcz16_3
      try clear hcz22_0
      try clear hcz22_1
      try clear hcz22_2
      try clear hcz22_3
      try clear hcz28_0
      try clear hcz28_1
      try clear hcz28_2
      try clear hcz28_3
      try clear hcz34_0
      try clear hcz34_1
      try clear hcz34_2
      try clear hcz34_3
      try clear hcz38_0
      try clear hcz38_1
      try clear hcz38_2
      try clear hcz38_3
      try clear hcz40_0
      try clear hcz40_1
      try clear hcz40_2
      try clear hcz40_3
      try clear hcz44_0
      try clear hcz44_1
      try clear hcz44_2
      try clear hcz44_3
      try clear hcz46_0
      try clear hcz46_1
      try clear hcz46_2
      try clear hcz46_3
      try clear hcz7_0
      try clear hcz7_1
      try clear hcz7_2
      try clear hcz7_3
      try clear hfz12_0
      try clear hfz12_1
      try clear hfz12_2
      try clear hfz12_3
      try clear hfz16_0
      try clear hfz16_1
      try clear hfz16_2
      try clear hfz16_3
      try clear hfz22_0
      try clear hfz22_1
      try clear hfz22_2
      try clear hfz22_3
      try clear hfz28_0
      try clear hfz28_1
      try clear hfz28_2
      try clear hfz28_3
      try clear hfz34_0
      try clear hfz34_1
      try clear hfz34_2
      try clear hfz34_3
      try clear hfz38_0
      try clear hfz38_1
      try clear hfz38_2
      try clear hfz38_3
      try clear hfz40_0
      try clear hfz40_1
      try clear hfz40_2
      try clear hfz40_3
      try clear hfz44_0
      try clear hfz44_1
      try clear hfz44_2
      try clear hfz44_3
      try clear hfz46_0
      try clear hfz46_1
      try clear hfz46_2
      try clear hfz46_3
      try clear hfz7_0
      try clear hfz7_1
      try clear hfz7_2
      try clear hfz7_3
      obtain ⟨kq, x40_9, rfl, HA, HJ9, BK318, BK324, HB⟩ := hcut
      cases kq with
      | zero => exact absurd HA.out (by simp [celluloidlaw11_PixelPoints.j0])
      | succ kj9 =>
        have H := HA.out
        clear HA
        simp only [celluloidlaw11_PixelPoints.j0] at H
        by_cases c50 : x40_9 = true
        · subst c50
          have H1 : (if (t320 == 0 && (t321 == 0 && (t322 == 0 && (t323 == 0)))) = true then ((celluloidlaw11_awake.f kj9).bind fun t332 => (some t332)) else (some false)) = some r := by rw [if_pos rfl] at H; exact H
          clear H
          have H := H1
          clear H1
          by_cases c51 : (t320 == 0 && (t321 == 0 && (t322 == 0 && (t323 == 0)))) = true
          · rw [if_pos c51] at H
            have c51b0 : (t320 == 0 && (t321 == 0 && (t322 == 0 && (t323 == 0)))) = true := c51
            (try (have c51b1 : decide (t320 = 0 && (t321 == 0 && (t322 == 0 && (t323 == 0)))) = true := by simpa using c51))
            (try (have c51b2 : (t320 == 0 && (t321 == 0 && (t322 == 0 && (t323 == 0)))) = true := by simpa using c51))
            clear c51
            replace H := Option.bind_eq_some_iff.mp H
            obtain ⟨t332, A520, H⟩ := H
            replace H : (some t332) = some r := H
            have A52 := Aside0.mk A520
            clear A520
            first
            | exact absurd (Option.some.inj H) (by rw [hr_.out]; decide)
            | obtain rfl := Option.some.inj H
              have hnb53 := NB324_318.out
              have hnc53 := NB318_324.out
              obtain ⟨hcz54_0, hcz54_1, hcz54_2, hcz54_3⟩ := cc4 BK324
              obtain ⟨hfz54_0, hfz54_1, hfz54_2, hfz54_3⟩ := ff4 BK324
              go_wp2_with (first | (go_at_call 49; (with_reducible refine (celluloidlaw11_awake.calls kj9  t332 _ A52.out).mono ?_); rintro e w55 ⟨rfl, hb⟩; have n0_ := bb BK318 hb; have n1_ := bb BK324 hb; have n2_ := hs HB hb; clear BK318; clear BK324; clear HB; have BK318 := n0_; have BK324 := n1_; have HB := n2_; clear n0_ n1_ n2_; (try clear hb)))
              go_ret
              exact ⟨by first | rfl | (simp [errW_none, errW_some] <;> rfl) | (simp [*, errW_none, errW_some] <;> rfl), hn HB⟩
          · rw [if_neg c51] at H
            have c51b0 : (t320 == 0 && (t321 == 0 && (t322 == 0 && (t323 == 0)))) = false := by simpa using c51
            (try (have c51b1 : decide (t320 = 0 && (t321 == 0 && (t322 == 0 && (t323 == 0)))) = false := by simpa using c51))
            (try (have c51b2 : (t320 == 0 && (t321 == 0 && (t322 == 0 && (t323 == 0)))) = false := by simpa using c51))
            (try (have c51b3 : ¬ (t320 = 0 && (t321 == 0 && (t322 == 0 && (t323 == 0)))) := by simpa using c51))
            clear c51
            first
            | exact absurd (Option.some.inj H) (by rw [hr_.out]; decide)
            | obtain rfl := Option.some.inj H
              have hnb56 := NB324_318.out
              have hnc56 := NB318_324.out
              obtain ⟨hcz57_0, hcz57_1, hcz57_2, hcz57_3⟩ := cc4 BK324
              obtain ⟨hfz57_0, hfz57_1, hfz57_2, hfz57_3⟩ := ff4 BK324
              go_wp2
              go_ret
              exact ⟨by first | rfl | (simp [errW_none, errW_some] <;> rfl) | (simp [*, errW_none, errW_some] <;> rfl), hn HB⟩
        · replace c50 := Bool.eq_false_iff.mpr c50
          subst c50
          have H1 : (if 0 ≤ (wrap64 ((wrap64 (a2 * a0_1)) + a1)) then (if (wrap64 ((wrap64 (a2 * a0_1)) + a1)) < (l0_3.length : Int) then (if (t320 == ((rd_T89 l0_3 (wrap64 ((wrap64 (a2 * a0_1)) + a1))).f0) && (t321 == ((rd_T89 l0_3 (wrap64 ((wrap64 (a2 * a0_1)) + a1))).f1) && (t322 == ((rd_T89 l0_3 (wrap64 ((wrap64 (a2 * a0_1)) + a1))).f2) && (t323 == ((rd_T89 l0_3 (wrap64 ((wrap64 (a2 * a0_1)) + a1))).f3))))) = true then ((celluloidlaw11_awake.f kj9).bind fun t334 => (some t334)) else (some false)) else (none)) else (none)) = some r := by rw [if_neg (show ¬ (false = true) by decide)] at H; exact H
          clear H
          have H := H1
          clear H1
          obtain ⟨ji58, hji58⟩ : ∃ j_ : Int, (wrap64 ((wrap64 (a2 * a0_1)) + a1)) = j_ := ⟨_, rfl⟩
          replace H : (if 0 ≤ (ji58) then (if (ji58) < (l0_3.length : Int) then (if (t320 == ((rd_T89 l0_3 (ji58)).f0) && (t321 == ((rd_T89 l0_3 (ji58)).f1) && (t322 == ((rd_T89 l0_3 (ji58)).f2) && (t323 == ((rd_T89 l0_3 (ji58)).f3))))) = true then ((celluloidlaw11_awake.f kj9).bind fun t334 => (some t334)) else (some false)) else (none)) else (none)) = some r := by first | (rw [hji58] at H; exact H) | (simp only [hji58] at H ⊢; exact H)
          have hji58w : (IntKind.i64.wrap ((wrap64 (a2 * a0_1)) + a1)) = ji58 := (i64_w _).trans hji58
          by_cases c59 : 0 ≤ (ji58)
          · rw [if_pos c59] at H
            have c59b0 : decide (0 ≤ (ji58)) = true := decide_eq_true c59
            clear c59
            by_cases c60 : (ji58) < (l0_3.length : Int)
            · rw [if_pos c60] at H
              have c60b0 : decide ((ji58) < (l0_3.length : Int)) = true := decide_eq_true c60
              clear c60
              by_cases c61 : (t320 == ((rd_T89 l0_3 (ji58)).f0) && (t321 == ((rd_T89 l0_3 (ji58)).f1) && (t322 == ((rd_T89 l0_3 (ji58)).f2) && (t323 == ((rd_T89 l0_3 (ji58)).f3))))) = true
              · rw [if_pos c61] at H
                have c61b0 : (t320 == ((rd_T89 l0_3 (ji58)).f0) && (t321 == ((rd_T89 l0_3 (ji58)).f1) && (t322 == ((rd_T89 l0_3 (ji58)).f2) && (t323 == ((rd_T89 l0_3 (ji58)).f3))))) = true := c61
                (try (have c61b1 : decide (t320 = ((rd_T89 l0_3 (ji58)).f0) && (t321 == ((rd_T89 l0_3 (ji58)).f1) && (t322 == ((rd_T89 l0_3 (ji58)).f2) && (t323 == ((rd_T89 l0_3 (ji58)).f3))))) = true := by simpa using c61))
                (try (have c61b2 : (t320 == ((rd_T89 l0_3 (ji58)).f0) && (t321 == ((rd_T89 l0_3 (ji58)).f1) && (t322 == ((rd_T89 l0_3 (ji58)).f2) && (t323 == ((rd_T89 l0_3 (ji58)).f3))))) = true := by simpa using c61))
                clear c61
                replace H := Option.bind_eq_some_iff.mp H
                obtain ⟨t334, A620, H⟩ := H
                replace H : (some t334) = some r := H
                have A62 := Aside0.mk A620
                clear A620
                first
                | exact absurd (Option.some.inj H) (by rw [hr_.out]; decide)
                | obtain rfl := Option.some.inj H
                  try go_wp2
                  have n0_ := Aside0.mk (blk_drew BK318.out)
                  have n1_ := Aside0.mk (blk_drew BK324.out)
                  have n2_ := Aside0.mk (below_drew1 HB.out)
                  clear BK318
                  clear BK324
                  clear HB
                  have BK318 := n0_
                  have BK324 := n1_
                  have HB := n2_
                  clear n0_ n1_ n2_
                  have p333 : 0 ≤ ((ji58) : Int) := of_decide_eq_true (by first | (with_reducible assumption) | assumption)
                  have q333 : (ji58) < (l0_3.length : Int) := of_decide_eq_true (by first | (with_reducible assumption) | assumption)
                  obtain ⟨ad333, e333, hx333_0, hx333_1, hx333_2, hx333_3⟩ := at_T89 HR0_3.out (ji58) p333 q333
                  have hw333_3 := hx333_3
                  have hw333_2 := hx333_2
                  have hw333_1 := hx333_1
                  have hw333_0 := hx333_0
                  cases e333
                  replace hx333_0 := (HB.out.cell (World.block_lt_of_cell? w _ hx333_0)).trans hx333_0
                  replace hx333_1 := (HB.out.cell (World.block_lt_of_cell? w _ hx333_1)).trans hx333_1
                  replace hx333_2 := (HB.out.cell (World.block_lt_of_cell? w _ hx333_2)).trans hx333_2
                  replace hx333_3 := (HB.out.cell (World.block_lt_of_cell? w _ hx333_3)).trans hx333_3
                  replace p333 := eq_true p333
                  replace q333 := eq_true q333
                  refine start_ (n := 16) (S := fun w' => w'.cell? ⟨gb324, 0, none⟩ = some (.int .i64 t320) ∧ w'.cell? ⟨gb324, 1, none⟩ = some (.int .i64 t321) ∧ w'.cell? ⟨gb324, 2, none⟩ = some (.int .i64 t322) ∧ w'.cell? ⟨gb324, 3, none⟩ = some (.int .i64 t323) ∧ w'.cell? ⟨gb318, 0, none⟩ = some (.int .i64 a0_0) ∧ w'.cell? ⟨gb318, 1, none⟩ = some (.int .i64 a0_1) ∧ w'.cell? ⟨gb318, 2, none⟩ = some (.int .i64 a0_2) ∧ w'.cell? ⟨gb318, 3, none⟩ = some (.slice (some ad333) l0_3.length c0_3) ∧ w'.cell? (ad333.add (((ji58)).toNat * 4)) = some (.int .i64 ((rd_T89 l0_3 (ji58)).f0)) ∧ w'.cell? ⟨(ad333.add (((ji58)).toNat * 4)).block, (ad333.add (((ji58)).toNat * 4)).off + 1, none⟩ = some (.int .i64 ((rd_T89 l0_3 (ji58)).f1)) ∧ w'.cell? ⟨(ad333.add (((ji58)).toNat * 4)).block, (ad333.add (((ji58)).toNat * 4)).off + 2, none⟩ = some (.int .i64 ((rd_T89 l0_3 (ji58)).f2)) ∧ w'.cell? ⟨(ad333.add (((ji58)).toNat * 4)).block, (ad333.add (((ji58)).toNat * 4)).off + 3, none⟩ = some (.int .i64 ((rd_T89 l0_3 (ji58)).f3))) (ds := []) #[false, false, false, false, false, false, false, false, false, false, false, false, false, false, false, false] (by kernel_rfl) rfl rfl ⟨(blk_cell BK324.out 0).trans rfl, (blk_cell BK324.out 1).trans rfl, (blk_cell BK324.out 2).trans rfl, (blk_cell BK324.out 3).trans rfl, (blk_cell BK318.out 0).trans rfl, (blk_cell BK318.out 1).trans rfl, (blk_cell BK318.out 2).trans rfl, (blk_cell BK318.out 3).trans rfl, ((HB.out.cell (World.block_lt_of_cell? w _ hw333_0)).trans hw333_0), ((HB.out.cell (World.block_lt_of_cell? w _ hw333_1)).trans hw333_1), ((HB.out.cell (World.block_lt_of_cell? w _ hw333_2)).trans hw333_2), ((HB.out.cell (World.block_lt_of_cell? w _ hw333_3)).trans hw333_3)⟩ (fun hHeld => ?_); refine with_tabW celluloidlaw11_PixelPoints.tab6 celluloidlaw11_PixelPoints.bits6 (fun HT_ HW_ => ?_)
                  generalize wc.drew = w63 at BK318 BK324 HB hx333_0 hx333_1 hx333_2 hx333_3 hHeld ⊢
                  refine pureQ 1 (some 48) #[false, true, false, false, false, false, false, false, false, false, false, false, false, false, false, false] (any_of HT_.out (by kernel_rfl)) ?_
                  refine pureQ 3 (some 50) #[false, true, false, true, false, false, false, false, false, false, false, false, false, false, false, false] (any_of HT_.out (by kernel_rfl)) ?_
                  refine pureQ 4 (some 51) #[false, true, false, true, true, false, false, false, false, false, false, false, false, false, false, false] (any_of HT_.out (by kernel_rfl)) ?_
                  refine pureQ 7 (some 54) #[false, true, false, true, true, false, false, true, false, false, false, false, false, false, false, false] (any_of HT_.out (by kernel_rfl)) ?_
                  refine take_ (i := 0) (N := some 47) (v := ?_) (a' := ?_) #[true, true, false, true, true, false, false, true, false, false, false, false, false, false, false, false] rfl rfl (take_ofW HT_.out HW_.out (by kernel_rfl)) (fun _ _ _ h => h) (Or.inl ⟨by rfl, ?_⟩) hHeld ?_ ?_
                  rotate_left
                  · rintro w' ⟨s0, s1, s2, s3, s4, s5, s6, s7, s8, s9, s10, s11⟩
                    go_simp
                    with_reducible rfl
                  rotate_left
                  · simp only [Act.put, List.setIfInBounds_toArray, List.set_cons_zero, List.set_cons_succ, i64_w, i32_w]
                    rfl
                  refine take_ (i := 2) (N := some 49) (v := ?_) (a' := ?_) #[true, true, true, true, true, false, false, true, false, false, false, false, false, false, false, false] rfl rfl (take_ofW HT_.out HW_.out (by kernel_rfl)) (fun _ _ _ h => h) (Or.inl ⟨by rfl, ?_⟩) hHeld ?_ ?_
                  rotate_left
                  · rintro w' ⟨s0, s1, s2, s3, s4, s5, s6, s7, s8, s9, s10, s11⟩
                    go_simp
                    with_reducible rfl
                  rotate_left
                  · simp only [Act.put, List.setIfInBounds_toArray, List.set_cons_zero, List.set_cons_succ, i64_w, i32_w]
                    rfl
                  refine take_ (i := 5) (N := some 52) (v := ?_) (a' := ?_) #[true, true, true, true, true, true, false, true, false, false, false, false, false, false, false, false] rfl rfl (take_ofW HT_.out HW_.out (by kernel_rfl)) (fun _ _ _ h => h) (Or.inl ⟨by rfl, ?_⟩) hHeld ?_ ?_
                  rotate_left
                  · rintro w' ⟨s0, s1, s2, s3, s4, s5, s6, s7, s8, s9, s10, s11⟩
                    go_simp
                    with_reducible rfl
                  rotate_left
                  · simp only [Act.put, List.setIfInBounds_toArray, List.set_cons_zero, List.set_cons_succ, i64_w, i32_w]
                    rfl
                  refine pureQ 6 (some 53) (tk 8 8) (any_of HT_.out (by kernel_rfl)) ?_
                  refine pureQ 8 (some 55) (tk 9 7) (any_of HT_.out (by kernel_rfl)) ?_
                  refine pureQ 9 (some 56) (tk 10 6) (any_of HT_.out (by kernel_rfl)) ?_
                  refine take_ (i := 10) (N := some 57) (v := ?_) (a' := ?_) (tk 11 5) rfl rfl (take_ofW HT_.out HW_.out (by kernel_rfl)) (fun _ _ _ h => h) (Or.inl ⟨by rfl, ?_⟩) hHeld ?_ ?_
                  rotate_left
                  · rintro w' ⟨s0, s1, s2, s3, s4, s5, s6, s7, s8, s9, s10, s11⟩
                    go_simp
                    with_reducible rfl
                  rotate_left
                  · simp only [Act.put, List.setIfInBounds_toArray, List.set_cons_zero, List.set_cons_succ, i64_w, i32_w]
                    rfl
                  refine pureQ 11 (some 58) (tk 12 4) (any_of HT_.out (by kernel_rfl)) ?_
                  refine pureQ 12 (some 59) (tk 13 3) (any_of HT_.out (by kernel_rfl)) ?_
                  refine one_ (i := 13) (N := some 60) (tk 14 2) rfl rfl (one_of HT_.out (by kernel_rfl)) (by decide) (fun K hK => ?_)
                  refine goes_ Try.func49 (by kernel_rfl) rfl #[] (by rfl) rfl rfl (by (try simp only [List.map_toArray, List.map_cons, List.map_nil]); first | done | rfl | (simp only [List.length_drop, List.length_take]; rfl)) ?_
                  with_reducible refine (celluloidlaw11_awake.calls kj9  t334 _ A62.out).mono ?_
                  rintro e w64 ⟨rfl, hb⟩
                  refine ⟨_, rfl, ?_⟩
                  have n0_ := bb BK318 hb
                  have n1_ := bb BK324 hb
                  have n2_ := hs HB hb
                  clear BK318
                  clear BK324
                  clear HB
                  have BK318 := n0_
                  have BK324 := n1_
                  have HB := n2_
                  clear n0_ n1_ n2_
                  (try clear hb)
                  (try clear hb2)
                  (try clear hk)
                  (try clear hi)
                  refine hK.out _ _ ⟨(blk_cell BK324.out 0).trans rfl, (blk_cell BK324.out 1).trans rfl, (blk_cell BK324.out 2).trans rfl, (blk_cell BK324.out 3).trans rfl, (blk_cell BK318.out 0).trans rfl, (blk_cell BK318.out 1).trans rfl, (blk_cell BK318.out 2).trans rfl, (blk_cell BK318.out 3).trans rfl, ((HB.out.cell (World.block_lt_of_cell? w _ hw333_0)).trans hw333_0), ((HB.out.cell (World.block_lt_of_cell? w _ hw333_1)).trans hw333_1), ((HB.out.cell (World.block_lt_of_cell? w _ hw333_2)).trans hw333_2), ((HB.out.cell (World.block_lt_of_cell? w _ hw333_3)).trans hw333_3)⟩ (fun hHeld => ?_)
                  clear hK K
                  refine norm_ (a' := ?_) ?_ ?_
                  rotate_left
                  · show Act.put _ (some 60) _ = _
                    simp only [Act.put, List.setIfInBounds_toArray, List.set_cons_zero, List.set_cons_succ, i64_w, i32_w]
                    rfl
                  refine pureQ 14 (some 61) (tk 15 1) (any_of HT_.out (by kernel_rfl)) ?_
                  refine pureQ 15 (some 6) (tk 16 0) (any_of HT_.out (by kernel_rfl)) ?_
                  refine done_ (done_of HT_.out (by kernel_rfl)) ?_
                  try go_wp2
                  go_ret
                  exact ⟨by first | rfl | (simp [errW_none, errW_some] <;> rfl) | (simp only [← hji58]; first | rfl | (simp [errW_none, errW_some] <;> rfl)) | (simp [*, errW_none, errW_some] <;> rfl), hn HB⟩
              · rw [if_neg c61] at H
                have c61b0 : (t320 == ((rd_T89 l0_3 (ji58)).f0) && (t321 == ((rd_T89 l0_3 (ji58)).f1) && (t322 == ((rd_T89 l0_3 (ji58)).f2) && (t323 == ((rd_T89 l0_3 (ji58)).f3))))) = false := by simpa using c61
                (try (have c61b1 : decide (t320 = ((rd_T89 l0_3 (ji58)).f0) && (t321 == ((rd_T89 l0_3 (ji58)).f1) && (t322 == ((rd_T89 l0_3 (ji58)).f2) && (t323 == ((rd_T89 l0_3 (ji58)).f3))))) = false := by simpa using c61))
                (try (have c61b2 : (t320 == ((rd_T89 l0_3 (ji58)).f0) && (t321 == ((rd_T89 l0_3 (ji58)).f1) && (t322 == ((rd_T89 l0_3 (ji58)).f2) && (t323 == ((rd_T89 l0_3 (ji58)).f3))))) = false := by simpa using c61))
                (try (have c61b3 : ¬ (t320 = ((rd_T89 l0_3 (ji58)).f0) && (t321 == ((rd_T89 l0_3 (ji58)).f1) && (t322 == ((rd_T89 l0_3 (ji58)).f2) && (t323 == ((rd_T89 l0_3 (ji58)).f3))))) := by simpa using c61))
                clear c61
                first
                | exact absurd (Option.some.inj H) (by rw [hr_.out]; decide)
                | obtain rfl := Option.some.inj H
                  try go_wp2
                  have n0_ := Aside0.mk (blk_drew BK318.out)
                  have n1_ := Aside0.mk (blk_drew BK324.out)
                  have n2_ := Aside0.mk (below_drew1 HB.out)
                  clear BK318
                  clear BK324
                  clear HB
                  have BK318 := n0_
                  have BK324 := n1_
                  have HB := n2_
                  clear n0_ n1_ n2_
                  have p333 : 0 ≤ ((ji58) : Int) := of_decide_eq_true (by first | (with_reducible assumption) | assumption)
                  have q333 : (ji58) < (l0_3.length : Int) := of_decide_eq_true (by first | (with_reducible assumption) | assumption)
                  obtain ⟨ad333, e333, hx333_0, hx333_1, hx333_2, hx333_3⟩ := at_T89 HR0_3.out (ji58) p333 q333
                  have hw333_3 := hx333_3
                  have hw333_2 := hx333_2
                  have hw333_1 := hx333_1
                  have hw333_0 := hx333_0
                  cases e333
                  replace hx333_0 := (HB.out.cell (World.block_lt_of_cell? w _ hx333_0)).trans hx333_0
                  replace hx333_1 := (HB.out.cell (World.block_lt_of_cell? w _ hx333_1)).trans hx333_1
                  replace hx333_2 := (HB.out.cell (World.block_lt_of_cell? w _ hx333_2)).trans hx333_2
                  replace hx333_3 := (HB.out.cell (World.block_lt_of_cell? w _ hx333_3)).trans hx333_3
                  replace p333 := eq_true p333
                  replace q333 := eq_true q333
                  refine start_ (n := 16) (S := fun w' => w'.cell? ⟨gb324, 0, none⟩ = some (.int .i64 t320) ∧ w'.cell? ⟨gb324, 1, none⟩ = some (.int .i64 t321) ∧ w'.cell? ⟨gb324, 2, none⟩ = some (.int .i64 t322) ∧ w'.cell? ⟨gb324, 3, none⟩ = some (.int .i64 t323) ∧ w'.cell? ⟨gb318, 0, none⟩ = some (.int .i64 a0_0) ∧ w'.cell? ⟨gb318, 1, none⟩ = some (.int .i64 a0_1) ∧ w'.cell? ⟨gb318, 2, none⟩ = some (.int .i64 a0_2) ∧ w'.cell? ⟨gb318, 3, none⟩ = some (.slice (some ad333) l0_3.length c0_3) ∧ w'.cell? (ad333.add (((ji58)).toNat * 4)) = some (.int .i64 ((rd_T89 l0_3 (ji58)).f0)) ∧ w'.cell? ⟨(ad333.add (((ji58)).toNat * 4)).block, (ad333.add (((ji58)).toNat * 4)).off + 1, none⟩ = some (.int .i64 ((rd_T89 l0_3 (ji58)).f1)) ∧ w'.cell? ⟨(ad333.add (((ji58)).toNat * 4)).block, (ad333.add (((ji58)).toNat * 4)).off + 2, none⟩ = some (.int .i64 ((rd_T89 l0_3 (ji58)).f2)) ∧ w'.cell? ⟨(ad333.add (((ji58)).toNat * 4)).block, (ad333.add (((ji58)).toNat * 4)).off + 3, none⟩ = some (.int .i64 ((rd_T89 l0_3 (ji58)).f3))) (ds := []) #[false, false, false, false, false, false, false, false, false, false, false, false, false, false, false, false] (by kernel_rfl) rfl rfl ⟨(blk_cell BK324.out 0).trans rfl, (blk_cell BK324.out 1).trans rfl, (blk_cell BK324.out 2).trans rfl, (blk_cell BK324.out 3).trans rfl, (blk_cell BK318.out 0).trans rfl, (blk_cell BK318.out 1).trans rfl, (blk_cell BK318.out 2).trans rfl, (blk_cell BK318.out 3).trans rfl, ((HB.out.cell (World.block_lt_of_cell? w _ hw333_0)).trans hw333_0), ((HB.out.cell (World.block_lt_of_cell? w _ hw333_1)).trans hw333_1), ((HB.out.cell (World.block_lt_of_cell? w _ hw333_2)).trans hw333_2), ((HB.out.cell (World.block_lt_of_cell? w _ hw333_3)).trans hw333_3)⟩ (fun hHeld => ?_); refine with_tabW celluloidlaw11_PixelPoints.tab6 celluloidlaw11_PixelPoints.bits6 (fun HT_ HW_ => ?_)
                  generalize wc.drew = w65 at BK318 BK324 HB hx333_0 hx333_1 hx333_2 hx333_3 hHeld ⊢
                  refine pureQ 1 (some 48) #[false, true, false, false, false, false, false, false, false, false, false, false, false, false, false, false] (any_of HT_.out (by kernel_rfl)) ?_
                  refine pureQ 3 (some 50) #[false, true, false, true, false, false, false, false, false, false, false, false, false, false, false, false] (any_of HT_.out (by kernel_rfl)) ?_
                  refine pureQ 4 (some 51) #[false, true, false, true, true, false, false, false, false, false, false, false, false, false, false, false] (any_of HT_.out (by kernel_rfl)) ?_
                  refine pureQ 7 (some 54) #[false, true, false, true, true, false, false, true, false, false, false, false, false, false, false, false] (any_of HT_.out (by kernel_rfl)) ?_
                  refine take_ (i := 0) (N := some 47) (v := ?_) (a' := ?_) #[true, true, false, true, true, false, false, true, false, false, false, false, false, false, false, false] rfl rfl (take_ofW HT_.out HW_.out (by kernel_rfl)) (fun _ _ _ h => h) (Or.inl ⟨by rfl, ?_⟩) hHeld ?_ ?_
                  rotate_left
                  · rintro w' ⟨s0, s1, s2, s3, s4, s5, s6, s7, s8, s9, s10, s11⟩
                    go_simp
                    with_reducible rfl
                  rotate_left
                  · simp only [Act.put, List.setIfInBounds_toArray, List.set_cons_zero, List.set_cons_succ, i64_w, i32_w]
                    rfl
                  refine take_ (i := 2) (N := some 49) (v := ?_) (a' := ?_) #[true, true, true, true, true, false, false, true, false, false, false, false, false, false, false, false] rfl rfl (take_ofW HT_.out HW_.out (by kernel_rfl)) (fun _ _ _ h => h) (Or.inl ⟨by rfl, ?_⟩) hHeld ?_ ?_
                  rotate_left
                  · rintro w' ⟨s0, s1, s2, s3, s4, s5, s6, s7, s8, s9, s10, s11⟩
                    go_simp
                    with_reducible rfl
                  rotate_left
                  · simp only [Act.put, List.setIfInBounds_toArray, List.set_cons_zero, List.set_cons_succ, i64_w, i32_w]
                    rfl
                  refine take_ (i := 5) (N := some 52) (v := ?_) (a' := ?_) #[true, true, true, true, true, true, false, true, false, false, false, false, false, false, false, false] rfl rfl (take_ofW HT_.out HW_.out (by kernel_rfl)) (fun _ _ _ h => h) (Or.inl ⟨by rfl, ?_⟩) hHeld ?_ ?_
                  rotate_left
                  · rintro w' ⟨s0, s1, s2, s3, s4, s5, s6, s7, s8, s9, s10, s11⟩
                    go_simp
                    with_reducible rfl
                  rotate_left
                  · simp only [Act.put, List.setIfInBounds_toArray, List.set_cons_zero, List.set_cons_succ, i64_w, i32_w]
                    rfl
                  refine pureQ 6 (some 53) (tk 8 8) (any_of HT_.out (by kernel_rfl)) ?_
                  refine pureQ 8 (some 55) (tk 9 7) (any_of HT_.out (by kernel_rfl)) ?_
                  refine pureQ 9 (some 56) (tk 10 6) (any_of HT_.out (by kernel_rfl)) ?_
                  refine take_ (i := 10) (N := some 57) (v := ?_) (a' := ?_) (tk 11 5) rfl rfl (take_ofW HT_.out HW_.out (by kernel_rfl)) (fun _ _ _ h => h) (Or.inl ⟨by rfl, ?_⟩) hHeld ?_ ?_
                  rotate_left
                  · rintro w' ⟨s0, s1, s2, s3, s4, s5, s6, s7, s8, s9, s10, s11⟩
                    go_simp
                    with_reducible rfl
                  rotate_left
                  · simp only [Act.put, List.setIfInBounds_toArray, List.set_cons_zero, List.set_cons_succ, i64_w, i32_w]
                    rfl
                  refine pureQ 11 (some 58) (tk 12 4) (any_of HT_.out (by kernel_rfl)) ?_
                  refine pureQ 12 (some 59) (tk 13 3) (any_of HT_.out (by kernel_rfl)) ?_
                  refine pureU 13 (some 60) (tk 14 2) (any_of HT_.out (by kernel_rfl)) ?_
                  refine pureQ 14 (some 61) (tk 15 1) (any_of HT_.out (by kernel_rfl)) ?_
                  refine pureQ 15 (some 6) (tk 16 0) (any_of HT_.out (by kernel_rfl)) ?_
                  refine done_ (done_of HT_.out (by kernel_rfl)) ?_
                  try go_wp2
                  go_ret
                  exact ⟨by first | rfl | (simp [errW_none, errW_some] <;> rfl) | (simp only [← hji58]; first | rfl | (simp [errW_none, errW_some] <;> rfl)) | (simp [*, errW_none, errW_some] <;> rfl), hn HB⟩
            · rw [if_neg c60] at H
              exact absurd H (by simp)
          · rw [if_neg c59] at H
            exact absurd H (by simp)

end Go.Proofs.Ytpbhkdamkbopkaa.GPixb
/- Each pixel is told where it stands, and none beside. -/
namespace Go.Proofs.Ytpbhkdamkbopkaa.Pure
set_option linter.unusedSimpArgs false
set_option linter.unusedVariables false
open Go.RowKit Go.Proofs.Ytpbhkdamkbopkaa.Opens Go.Proofs.Ytpbhkdamkbopkaa.GPix Go.Proofs.Ytpbhkdamkbopkaa.GPixb Go.Proofs.Ytpbhkdamkbopkaa.PR Go.Proofs.YtpbhkdamkbopkaaW.PrintWords Go.Proofs.YtpbhkdamkbopkaaW.PrintLast Go.Proofs.YtpbhkdamkbopkaaW.PrintMore
open Go.Proofs.Ytpbhkdamkbopkaa.Px (fb nb3 rb right_is rd_drop side_mul wr)

theorem pts_awake (k : Nat) (h : 300 ≤ k) : celluloidlaw11_awake.f k = some true := by
  obtain ⟨d, rfl⟩ : ∃ d, k = 300 + d := ⟨k - 300, by omega⟩
  exact celluloidlaw11_awake.more _ _ celluloidlaw11_awake.at_ d
theorem refright_l0 (id w h : Int) (l : List S89) (hl : l.length ≤ 1000000) (d : Nat) : ∀ (i k : Nat), i + d = l.length → celluloidref11_Right.l0 (k + d + 1) (i : Int) id w h l = some ((l.drop i).all fb) := by
  induction d with
  | zero =>
    intro i k hi
    rw [celluloidref11_Right.l0, if_neg (by omega), List.drop_eq_nil_of_le (by omega)]
    rfl
  | succ d ih =>
    intro i k hi
    have h1 := ih (i + 1) k (by omega)
    have e : wrap64 ((i : Int) + 1) = ((i + 1 : Nat) : Int) := by rw [wr (by omega) (by omega)]; omega
    rw [show k + (d + 1) + 1 = (k + d + 1) + 1 by omega, celluloidref11_Right.l0, if_pos (by omega), if_pos (by omega), e, h1, rd_drop l i (by omega), List.all_cons]
    generalize rd_T89 l (i : Int) = x
    generalize (l.drop (i + 1)).all fb = b
    unfold fb
    (repeat' split) <;> first | rw [decide_eq_false (by omega), Bool.false_and] | rw [decide_eq_true (by omega), Bool.true_and]
theorem refright_is (id w h : Int) (l : List S89) (hl : l.length ≤ 1000000) (k : Nat) (hk : l.length + 5 ≤ k) : celluloidref11_Right.f k id w h l = some (rb id w h l) := by
  obtain ⟨k2, rfl⟩ : ∃ k2, k = k2 + l.length + 1 + 1 := ⟨k - l.length - 2, by omega⟩
  have hj : celluloidref11_Right.j0 (k2 + l.length + 1 + 1) true id w h l = some false := by rw [celluloidref11_Right.j0, if_pos rfl]
  have h0 := refright_l0 id w h l hl l.length 0 k2 (by omega)
  have hn : ∀ p : nb3 id w h l.length → False, rb id w h l = false := fun p => by
    unfold rb
    rw [decide_eq_false (fun q => p q), Bool.false_and]
  unfold celluloidref11_Right.f
  rw [hj]
  by_cases c1 : id < 0
  · rw [if_pos c1, hn (fun q => by obtain ⟨q1, _⟩ := q; omega)]
  · by_cases c2 : id > 65535
    · rw [if_neg c1, if_pos c2, hn (fun q => by obtain ⟨_, q2, _⟩ := q; omega)]
    · by_cases c3 : w < 1
      · rw [if_neg c1, if_neg c2, if_pos c3, hn (fun q => by obtain ⟨_, _, q3, _⟩ := q; omega)]
      · by_cases c4 : w > 64
        · rw [if_neg c1, if_neg c2, if_neg c3, if_pos c4, hn (fun q => by obtain ⟨_, _, _, q4, _⟩ := q; omega)]
        · by_cases c5 : h < 1
          · rw [if_neg c1, if_neg c2, if_neg c3, if_neg c4, if_pos c5, hn (fun q => by obtain ⟨_, _, _, _, q5, _⟩ := q; omega)]
          · by_cases c6 : h > 64
            · rw [if_neg c1, if_neg c2, if_neg c3, if_neg c4, if_neg c5, if_pos c6, hn (fun q => by obtain ⟨_, _, _, _, _, q6, _⟩ := q; omega)]
            · have hm := side_mul (w := w) (h := h) ⟨by omega, by omega⟩ ⟨by omega, by omega⟩
              rw [if_neg c1, if_neg c2, if_neg c3, if_neg c4, if_neg c5, if_neg c6, wr (by omega) (by omega)]
              by_cases c7 : (l.length : Int) = w * h
              · have e7 : ((l.length : Int) != w * h) = false := bne_eq_false_iff_eq.mpr c7
                rw [e7, celluloidref11_Right.j0, if_neg (by decide)]
                refine h0.trans ?_
                unfold rb
                rw [decide_eq_true ⟨by omega, by omega, by omega, by omega, by omega, by omega, c7⟩, Bool.true_and, List.drop_zero]
              · have e7 : ((l.length : Int) != w * h) = true := by simpa using c7
                rw [e7, hj, hn (fun q => by obtain ⟨_, _, _, _, _, _, q7⟩ := q; exact c7 q7)]
theorem at_rng {w h x y : Int} (hw : 1 ≤ w ∧ w ≤ 64) (hh : 1 ≤ h ∧ h ≤ 64) (hx : 0 ≤ x ∧ x < w) (hy : 0 ≤ y ∧ y < h) : 0 ≤ y * w + x ∧ y * w + x < w * h ∧ y * w ≤ 4096 ∧ 0 ≤ y * w := by
  have h1 : y * w ≤ (h - 1) * w := Int.mul_le_mul_of_nonneg_right (by omega) (by omega)
  have h2 : 0 ≤ y * w := Int.mul_nonneg hy.1 (by omega)
  have h3 : (h - 1) * w = w * h - w := by rw [Int.sub_mul, Int.one_mul, Int.mul_comm h w]
  have hm := side_mul hw hh
  omega
def SaidPixelPoints : Prop := ∀ (a0_0 : Int) (a0_1 : Int) (a0_2 : Int) (l0_3 : List S89) (a1 : Int) (a2 : Int), (Lit.int .i64 a0_0).wf = true → (Lit.int .i64 a0_1).wf = true → (Lit.int .i64 a0_2).wf = true → l0_3.length ≤ maxLen ∧ (∀ x ∈ l0_3, G89 x) → (Lit.int .i64 a1).wf = true → (Lit.int .i64 a2).wf = true → ∃ k, celluloidlaw11_PixelPoints.f k a0_0 a0_1 a0_2 l0_3 a1 a2 = some true
theorem PixelPoints : SaidPixelPoints := by
  intro id w h l x y _ _ _ _ _ _
  obtain ⟨K, hK⟩ : ∃ K : Nat, K = 2000 := ⟨_, rfl⟩
  have hw1 := pts_awake K (by omega)
  have hw2 := pts_awake (K + 1) (by omega)
  refine ⟨K + 1, ?_⟩
  unfold celluloidlaw11_PixelPoints.f
  by_cases c0 : (l.length : Int) > 500
  · rw [if_pos c0, hw2]; rfl
  have hbeside : celluloidlaw11_PixelPoints.j0 (K + 1) x y true id w h l 0 0 0 0 = some true := by
    rw [celluloidlaw11_PixelPoints.j0, if_pos rfl, if_pos (by decide), hw1]; rfl
  rw [if_neg c0]
  unfold pixel_Pixel.f Go.Proofs.Ytpbhkdamkbopkaa.GPixb.celluloidlaw11_ref.f
  rw [show K + 1 = (K - 4) + 5 by omega, right_is, show (K - 4) + 5 = K + 1 by omega, Option.bind_some]
  by_cases c : rb id w h l = true
  · rw [c, if_pos rfl]
    have c2 := c
    unfold rb at c2
    rw [Bool.and_eq_true, decide_eq_true_eq] at c2
    obtain ⟨_, _, c3, c4, c5, c6, c7⟩ := c2.1
    by_cases d1 : x < 0
    · rw [if_pos d1, Option.bind_some, Option.bind_some]
      simp only
      rw [refright_is id w h l (by omega) _ (by omega), Option.bind_some, if_pos c, if_pos d1]
      exact hbeside
    · by_cases d2 : y < 0
      · rw [if_neg d1, if_pos d2, Option.bind_some, Option.bind_some]
        simp only
        rw [refright_is id w h l (by omega) _ (by omega), Option.bind_some, if_pos c, if_neg d1, if_pos d2]
        exact hbeside
      · by_cases d3 : x ≥ w
        · rw [if_neg d1, if_neg d2, if_pos d3, Option.bind_some, Option.bind_some]
          simp only
          rw [refright_is id w h l (by omega) _ (by omega), Option.bind_some, if_pos c, if_neg d1, if_neg d2, if_pos d3]
          exact hbeside
        · by_cases d4 : y ≥ h
          · rw [if_neg d1, if_neg d2, if_neg d3, if_pos d4, Option.bind_some, Option.bind_some]
            simp only
            rw [refright_is id w h l (by omega) _ (by omega), Option.bind_some, if_pos c, if_neg d1, if_neg d2, if_neg d3, decide_eq_true d4]
            exact hbeside
          · obtain ⟨r1, r2, r3, r4⟩ := at_rng ⟨c3, c4⟩ ⟨c5, c6⟩ (x := x) (y := y) ⟨by omega, by omega⟩ ⟨by omega, by omega⟩
            have hm := side_mul ⟨c3, c4⟩ ⟨c5, c6⟩
            rw [if_neg d1, if_neg d2, if_neg d3, if_neg d4, wr (n := y * w) (by omega) (by omega), wr (n := y * w + x) (by omega) (by omega), if_pos r1, if_pos (by omega), Option.bind_some, Option.bind_some]
            simp only
            rw [refright_is id w h l (by omega) _ (by omega), Option.bind_some, if_pos c, if_neg d1, if_neg d2, if_neg d3, decide_eq_false d4, celluloidlaw11_PixelPoints.j0, if_neg (by decide), wr (n := y * w) (by omega) (by omega), wr (n := y * w + x) (by omega) (by omega), if_pos r1, if_pos (by omega), if_pos (by simp), hw1]
            rfl
  · rw [if_neg c, Option.bind_some, Option.bind_some]
    simp only
    rw [refright_is id w h l (by omega) _ (by omega), Option.bind_some, if_neg c]
    exact hbeside
end Go.Proofs.Ytpbhkdamkbopkaa.Pure
