/- Parts of the proof, glued by a program of this session (wip/tools/claimfit.py). -/
import Derived.Test.YtpbhkdamkbopkaaMPAG
namespace Go.Proofs.Ytpbhkdamkbopkaa.GPixb
open Go.Proofs.Ytpbhkdamkbopkaa.Sq
open Go.RowKit Go.Proofs.YtpbhkdamkbopkaaW.PrintWords Go.Proofs.YtpbhkdamkbopkaaW.PrintLast Go.Proofs.YtpbhkdamkbopkaaW.PrintMore Go.Proofs.Ytpbhkdamkbopkaa.Wr2 Go.Proofs.Ytpbhkdamkbopkaa.Wr1 Go.Proofs.Ytpbhkdamkbopkaa.GRuns Go.Proofs.Ytpbhkdamkbopkaa.GBack2 Go.Proofs.Ytpbhkdamkbopkaa.GPix Go.Proofs.Ytpbhkdamkbopkaa.PR
attribute [local go_sem] max2_int min2_int max_two min_two max_three min_three max_four min_four
set_option linter.unusedVariables false
set_option linter.unusedSimpArgs false
def celluloidlaw11_PixelAgain.f (k : Nat) (a0 : ByteArray) : Option (Bool) := if (a0.size : Int) > 1024 then ((celluloidlaw11_awake.f k).bind fun t278 => (some t278)) else ((pixel_Take.f k a0).bind fun bt279 => (if bt279.2.2.2.2 = 0 then ((pixel_Put.f k bt279.1 bt279.2.1 bt279.2.2.1 bt279.2.2.2.1).bind fun bt295 => ((pixel_Take.f k bt295.1).bind fun bt297 => ((pixel_Right.f k bt279.1 bt279.2.1 bt279.2.2.1 bt279.2.2.2.1).bind fun t305 => (if t305 = true then (if bt295.2 = 0 then (if bt297.2.2.2.2 = 0 then ((celluloidlaw11_ref.f bt279.1 bt279.2.1 bt279.2.2.1 bt279.2.2.2.1).bind fun bt306 => ((celluloidlaw11_ref.f bt297.1 bt297.2.1 bt297.2.2.1 bt297.2.2.2.1).bind fun bt312 => ((celluloidref11_Equal.f k bt306.1 bt306.2.1 bt306.2.2.1 bt306.2.2.2 bt312.1 bt312.2.1 bt312.2.2.1 bt312.2.2.2).bind fun t318 => (if t318 = true then ((celluloidlaw11_awake.f k).bind fun t319 => (some t319)) else (some false))))) else (some false)) else (some false)) else (some false))))) else ((celluloidlaw11_ref.f bt279.1 bt279.2.1 bt279.2.2.1 bt279.2.2.2.1).bind fun bt287 => ((celluloidref11_Equal.f k bt287.1 bt287.2.1 bt287.2.2.1 bt287.2.2.2 0 0 0 ([] : List (S89))).bind fun t293 => (if t293 = true then ((celluloidlaw11_awake.f k).bind fun t294 => (some t294)) else (some false))))))
def celluloidlaw11_PixelAgain.T8 : Bool × List (List Nat × List Nat) := (true, [([], []), ([0], [0]), ([1, 1], [1]), ([2], [2]), ([3, 2], [2, 3]), ([2, 4], [2, 4]), ([5, 2], [5]), ([6], [6]), ([7, 6], [6, 7]), ([6, 8], [6, 8]), ([9, 6], [9]), ([10], [10]), ([11, 10, 10], [10, 11]), ([10], [10]), ([13, 12, 10], [10, 13]), ([12, 14, 14, 10], [10, 12, 14]), ([10, 15], [10, 15]), ([16, 15], [16]), ([17, 17], [17]), ([17, 18], [17, 18]), ([19, 18, 0, 1, 2, 3, 4, 5, 6, 7, 8, 9, 10, 11, 12, 13, 14, 15, 16, 17, 18, 19], [19])])
def celluloidlaw11_PixelAgain.B8 : List Nat := [0, 1, 3, 7, 15, 31, 63, 127, 255, 511, 1023, 2047, 4095, 2047, 16383, 32767, 65535, 131071, 262143, 524287, 1048575]
theorem celluloidlaw11_PixelAgain.tab8 : rtab .any (opsOf Try.f21 8) = celluloidlaw11_PixelAgain.T8 := by kernel_rfl
theorem celluloidlaw11_PixelAgain.bits8 : waitsOk celluloidlaw11_PixelAgain.T8.2 celluloidlaw11_PixelAgain.B8 = true := by kernel_rfl
set_option maxHeartbeats 8000000 in
set_option maxRecDepth 100000 in
theorem celluloidlaw11_PixelAgain.calls (k : Nat) (a0 : ByteArray) (r : Bool) (w : World) (h : celluloidlaw11_PixelAgain.f k a0 = some r) (hr_ : Aside0 (r = true)) :
  Calls Try.prog 21 #[.string a0] w fun e w' => e = .returned (.bool r) ∧ Below w.heap.size w w' := by
 have hu76 := Try.underlying76
 have hu79 := Try.underlying79
 have HB := Aside0.mk (Below.refl w.heap.size w)
 have H : (if (a0.size : Int) > 1024 then ((celluloidlaw11_awake.f k).bind fun t278 => (some t278)) else ((pixel_Take.f k a0).bind fun bt279 => (if bt279.2.2.2.2 = 0 then ((pixel_Put.f k bt279.1 bt279.2.1 bt279.2.2.1 bt279.2.2.2.1).bind fun bt295 => ((pixel_Take.f k bt295.1).bind fun bt297 => ((pixel_Right.f k bt279.1 bt279.2.1 bt279.2.2.1 bt279.2.2.2.1).bind fun t305 => (if t305 = true then (if bt295.2 = 0 then (if bt297.2.2.2.2 = 0 then ((celluloidlaw11_ref.f bt279.1 bt279.2.1 bt279.2.2.1 bt279.2.2.2.1).bind fun bt306 => ((celluloidlaw11_ref.f bt297.1 bt297.2.1 bt297.2.2.1 bt297.2.2.2.1).bind fun bt312 => ((celluloidref11_Equal.f k bt306.1 bt306.2.1 bt306.2.2.1 bt306.2.2.2 bt312.1 bt312.2.1 bt312.2.2.1 bt312.2.2.2).bind fun t318 => (if t318 = true then ((celluloidlaw11_awake.f k).bind fun t319 => (some t319)) else (some false))))) else (some false)) else (some false)) else (some false))))) else ((celluloidlaw11_ref.f bt279.1 bt279.2.1 bt279.2.2.1 bt279.2.2.2.1).bind fun bt287 => ((celluloidref11_Equal.f k bt287.1 bt287.2.1 bt287.2.2.1 bt287.2.2.2 0 0 0 ([] : List (S89))).bind fun t293 => (if t293 = true then ((celluloidlaw11_awake.f k).bind fun t294 => (some t294)) else (some false))))))) = some r := h
 clear h
 by_cases c2 : (a0.size : Int) > 1024
 ·rw [if_pos c2] at H
  have c2b0 : decide (1024 < (a0.size : Int)) = true := decide_eq_true c2
  have c2b1 : decide (1024 < a0.size) = true := decide_eq_true (by omega)
  clear c2
  replace H := Option.bind_eq_some_iff.mp H
  obtain ⟨t278, A30, H⟩ := H
  replace H : (some t278) = some r := H
  have A3 := Aside0.mk A30
  clear A30
  first
  |exact absurd (Option.some.inj H) (by rw [hr_.out]; decide)
  |obtain rfl := Option.some.inj H
   go_enter Try.func21, Try.ntmps21
   go_wp2_with (first | ((with_reducible refine gate_callee (f := 49) rfl ?_); refine goesQ (some 12) Try.func49 #[] ?_; (with_reducible refine (celluloidlaw11_awake.calls k  t278 _ A3.out).mono ?_); rintro e w4 ⟨rfl, hb⟩; refine ⟨_, rfl, ?_⟩; have n0_ := hs HB hb; clear HB; have HB := n0_; clear n0_; (try clear hb)))
   go_ret
   exact ⟨by first | rfl | (simp [errW_none, errW_some] <;> rfl) | (simp [*, errW_none, errW_some] <;> rfl), hn HB⟩
 ·rw [if_neg c2] at H
  have c2b0 : decide (1024 < (a0.size : Int)) = false := decide_eq_false c2
  have c2b1 : decide (1024 < a0.size) = false := decide_eq_false (by omega)
  clear c2
  replace H := Option.bind_eq_some_iff.mp H
  obtain ⟨⟨t279, t280, t281, t282, t285⟩, A50, H⟩ := H
  replace H : (if t285 = 0 then ((pixel_Put.f k t279 t280 t281 t282).bind fun bt295 => ((pixel_Take.f k bt295.1).bind fun bt297 => ((pixel_Right.f k t279 t280 t281 t282).bind fun t305 => (if t305 = true then (if bt295.2 = 0 then (if bt297.2.2.2.2 = 0 then ((celluloidlaw11_ref.f t279 t280 t281 t282).bind fun bt306 => ((celluloidlaw11_ref.f bt297.1 bt297.2.1 bt297.2.2.1 bt297.2.2.2.1).bind fun bt312 => ((celluloidref11_Equal.f k bt306.1 bt306.2.1 bt306.2.2.1 bt306.2.2.2 bt312.1 bt312.2.1 bt312.2.2.1 bt312.2.2.2).bind fun t318 => (if t318 = true then ((celluloidlaw11_awake.f k).bind fun t319 => (some t319)) else (some false))))) else (some false)) else (some false)) else (some false))))) else ((celluloidlaw11_ref.f t279 t280 t281 t282).bind fun bt287 => ((celluloidref11_Equal.f k bt287.1 bt287.2.1 bt287.2.2.1 bt287.2.2.2 0 0 0 ([] : List (S89))).bind fun t293 => (if t293 = true then ((celluloidlaw11_awake.f k).bind fun t294 => (some t294)) else (some false))))) = some r := H
  have A5 := Aside0.mk A50
  clear A50
  by_cases c6 : t285 = 0
  ·rw [if_pos c6] at H
   have c6b0 : (t285 == 0) = true := beq_iff_eq.mpr c6
   have c6b1 : (t285 != 0) = false := bne_eq_false_iff_eq.mpr c6
   clear c6
   replace H := Option.bind_eq_some_iff.mp H
   obtain ⟨⟨t295, t296⟩, A70, H⟩ := H
   replace H : ((pixel_Take.f k t295).bind fun bt297 => ((pixel_Right.f k t279 t280 t281 t282).bind fun t305 => (if t305 = true then (if t296 = 0 then (if bt297.2.2.2.2 = 0 then ((celluloidlaw11_ref.f t279 t280 t281 t282).bind fun bt306 => ((celluloidlaw11_ref.f bt297.1 bt297.2.1 bt297.2.2.1 bt297.2.2.2.1).bind fun bt312 => ((celluloidref11_Equal.f k bt306.1 bt306.2.1 bt306.2.2.1 bt306.2.2.2 bt312.1 bt312.2.1 bt312.2.2.1 bt312.2.2.2).bind fun t318 => (if t318 = true then ((celluloidlaw11_awake.f k).bind fun t319 => (some t319)) else (some false))))) else (some false)) else (some false)) else (some false)))) = some r := H
   have A7 := Aside0.mk A70
   clear A70
   replace H := Option.bind_eq_some_iff.mp H
   obtain ⟨⟨t297, t298, t299, t300, t303⟩, A80, H⟩ := H
   replace H : ((pixel_Right.f k t279 t280 t281 t282).bind fun t305 => (if t305 = true then (if t296 = 0 then (if t303 = 0 then ((celluloidlaw11_ref.f t279 t280 t281 t282).bind fun bt306 => ((celluloidlaw11_ref.f t297 t298 t299 t300).bind fun bt312 => ((celluloidref11_Equal.f k bt306.1 bt306.2.1 bt306.2.2.1 bt306.2.2.2 bt312.1 bt312.2.1 bt312.2.2.1 bt312.2.2.2).bind fun t318 => (if t318 = true then ((celluloidlaw11_awake.f k).bind fun t319 => (some t319)) else (some false))))) else (some false)) else (some false)) else (some false))) = some r := H
   have A8 := Aside0.mk A80
   clear A80
   replace H := Option.bind_eq_some_iff.mp H
   obtain ⟨t305, A90, H⟩ := H
   replace H : (if t305 = true then (if t296 = 0 then (if t303 = 0 then ((celluloidlaw11_ref.f t279 t280 t281 t282).bind fun bt306 => ((celluloidlaw11_ref.f t297 t298 t299 t300).bind fun bt312 => ((celluloidref11_Equal.f k bt306.1 bt306.2.1 bt306.2.2.1 bt306.2.2.2 bt312.1 bt312.2.1 bt312.2.2.1 bt312.2.2.2).bind fun t318 => (if t318 = true then ((celluloidlaw11_awake.f k).bind fun t319 => (some t319)) else (some false))))) else (some false)) else (some false)) else (some false)) = some r := H
   have A9 := Aside0.mk A90
   clear A90
   by_cases c10 : t305 = true
   ·subst c10
    have H1 : (if t296 = 0 then (if t303 = 0 then ((celluloidlaw11_ref.f t279 t280 t281 t282).bind fun bt306 => ((celluloidlaw11_ref.f t297 t298 t299 t300).bind fun bt312 => ((celluloidref11_Equal.f k bt306.1 bt306.2.1 bt306.2.2.1 bt306.2.2.2 bt312.1 bt312.2.1 bt312.2.2.1 bt312.2.2.2).bind fun t318 => (if t318 = true then ((celluloidlaw11_awake.f k).bind fun t319 => (some t319)) else (some false))))) else (some false)) else (some false)) = some r := by rw [if_pos rfl] at H; exact H
    clear H
    have H := H1
    clear H1
    by_cases c11 : t296 = 0
    ·rw [if_pos c11] at H
     have c11b0 : (t296 == 0) = true := beq_iff_eq.mpr c11
     have c11b1 : (t296 != 0) = false := bne_eq_false_iff_eq.mpr c11
     clear c11
     by_cases c12 : t303 = 0
     ·rw [if_pos c12] at H
      have c12b0 : (t303 == 0) = true := beq_iff_eq.mpr c12
      have c12b1 : (t303 != 0) = false := bne_eq_false_iff_eq.mpr c12
      clear c12
      replace H := Option.bind_eq_some_iff.mp H
      obtain ⟨⟨t306, t307, t308, t309⟩, A130, H⟩ := H
      replace H : ((celluloidlaw11_ref.f t297 t298 t299 t300).bind fun bt312 => ((celluloidref11_Equal.f k t306 t307 t308 t309 bt312.1 bt312.2.1 bt312.2.2.1 bt312.2.2.2).bind fun t318 => (if t318 = true then ((celluloidlaw11_awake.f k).bind fun t319 => (some t319)) else (some false)))) = some r := H
      have A13 := Aside0.mk A130
      clear A130
      replace H := Option.bind_eq_some_iff.mp H
      obtain ⟨⟨t312, t313, t314, t315⟩, A140, H⟩ := H
      replace H : ((celluloidref11_Equal.f k t306 t307 t308 t309 t312 t313 t314 t315).bind fun t318 => (if t318 = true then ((celluloidlaw11_awake.f k).bind fun t319 => (some t319)) else (some false))) = some r := H
      have A14 := Aside0.mk A140
      clear A140
      replace H := Option.bind_eq_some_iff.mp H
      obtain ⟨t318, A150, H⟩ := H
      replace H : (if t318 = true then ((celluloidlaw11_awake.f k).bind fun t319 => (some t319)) else (some false)) = some r := H
      have A15 := Aside0.mk A150
      clear A150
      by_cases c16 : t318 = true
      ·subst c16
       have H1 : ((celluloidlaw11_awake.f k).bind fun t319 => (some t319)) = some r := by rw [if_pos rfl] at H; exact H
       clear H
       have H := H1
       clear H1
       replace H := Option.bind_eq_some_iff.mp H
       obtain ⟨t319, A170, H⟩ := H
       replace H : (some t319) = some r := H
       have A17 := Aside0.mk A170
       clear A170
       first
       |exact absurd (Option.some.inj H) (by rw [hr_.out]; decide)
       |obtain rfl := Option.some.inj H
        go_enter Try.func21, Try.ntmps21
        try go_wp2_with (first | ((with_reducible refine gate_callee (f := 54) rfl ?_); refine goesQ (some 15) Try.func54 #[.string a0] ?_; (with_reducible refine (pixel_Take.calls k a0 t279 t280 t281 t282 t285 _ A5.out).mono ?_); rintro e w18 ⟨v283, rfl, ho0, hb⟩; refine ⟨_, rfl, ?_⟩; have n0_ := Aside0.mk (Kd.R_lower ho0 (below_size (hn HB))); have n1_ := hs HB hb; clear HB; have HO284 := n0_; have HB := n1_; clear n0_ n1_; (try clear hb); (try clear ho0)) | ((with_reducible refine gate_dst (N := 3) rfl ?_); refine boxQ 3 #[.int .i64 0, .int .i64 0, .int .i64 0, .slice none 0 0] 76 ?_; intro gb286 hg w19 hbox hb; have n0_ := rk HO284 hb; have n1_ := hs HB hb; have n2_ := Aside0.mk (hbox); have n3_ := gs HB hg; have n4_ := gs HB hg; clear HO284; clear HB; have HO284 := n0_; have HB := n1_; have BK286 := n2_; have GW286 := n3_; have GE286 := n4_; clear n0_ n1_ n2_ n3_ n4_; clear hb hbox hg; obtain ⟨hcz20_0, hcz20_1, hcz20_2, hcz20_3⟩ := cc4 BK286; obtain ⟨hfz20_0, hfz20_1, hfz20_2, hfz20_3⟩ := ff4 BK286; obtain ⟨Ao21, co21, eo21⟩ := Kd.R_slice HO284.out; subst eo21) | ((with_reducible refine gate_callee (f := 50) rfl ?_); refine goesQ (some 29) Try.func50 #[.agg #[.int .i64 t279, .int .i64 t280, .int .i64 t281, .slice Ao21 t282.length co21]] ?_; (with_reducible refine (pixel_Put.calls k t279 t280 t281 _ _ t282 t295 t296 _ ?side1 ?side2 A7.out).mono ?_); (case side1 => refine (Kd.R_reads' (e := 89) (base := w.heap.size) (ok := fun k_ => True) (n := t282.length) (c := co21) ?_).2.2; exact (by (with_reducible repeat (first | apply Kd.R_alloc | apply Kd.R_drewN | apply Kd.R_drew)); exact (Kd.R_mono (Kd.R_far (p := ⟨gb286, 3, none⟩) (Kd.R_far (p := ⟨gb286, 2, none⟩) (Kd.R_far (p := ⟨gb286, 1, none⟩) (Kd.R_far (p := ⟨gb286, 0, none⟩) (Kd.R_types HO284.out BK286.out (by decide)) (fun _ hk => hk.2) (.int .i64 t279)) (fun _ hk => hk.2) (.int .i64 t280)) (fun _ hk => hk.2) (.int .i64 t281)) (fun _ hk => hk.2) (.slice Ao21 t282.length co21)) (fun _ h_ => h_.1)))); (case side2 => exact (Kd.R_reads' HO284.out).2.1); rintro e w22 ⟨rfl, hb⟩; refine ⟨_, rfl, ?_⟩; have n0_ := Aside0.mk (Kd.R_below (by (with_reducible repeat (first | apply Kd.R_alloc | apply Kd.R_drewN | apply Kd.R_drew)); exact (Kd.R_mono (Kd.R_far (p := ⟨gb286, 3, none⟩) (Kd.R_far (p := ⟨gb286, 2, none⟩) (Kd.R_far (p := ⟨gb286, 1, none⟩) (Kd.R_far (p := ⟨gb286, 0, none⟩) (Kd.R_types HO284.out BK286.out (by decide)) (fun _ hk => hk.2) (.int .i64 t279)) (fun _ hk => hk.2) (.int .i64 t280)) (fun _ hk => hk.2) (.int .i64 t281)) (fun _ hk => hk.2) (.slice Ao21 t282.length co21)) (fun _ h_ => h_.1))) hb); have n1_ := bp #[.int .i64 t279, .int .i64 t280, .int .i64 t281, .slice Ao21 t282.length co21] BK286 hb; have n2_ := hs HB hb; clear HO284; clear BK286; clear HB; have HO284 := n0_; have BK286 := n1_; have HB := n2_; clear n0_ n1_ n2_; (try clear hb)) | ((with_reducible refine gate_callee (f := 54) rfl ?_); refine goesQ (some 34) Try.func54 #[.string t295] ?_; (with_reducible refine (pixel_Take.calls k t295 t297 t298 t299 t300 t303 _ A8.out).mono ?_); rintro e w23 ⟨v301, rfl, ho0, hb⟩; refine ⟨_, rfl, ?_⟩; have n0_ := Aside0.mk (Kd.R_elder' (by (with_reducible repeat (first | apply Kd.R_alloc | apply Kd.R_drewN | apply Kd.R_drew)); exact HO284.out) (Kd.R_base ho0) hb); have n1_ := Aside0.mk (Kd.R_lower (Kd.R_new' ho0 (Kd.R_lt (by (with_reducible repeat (first | apply Kd.R_alloc | apply Kd.R_drewN | apply Kd.R_drew)); exact HO284.out))) (below_size (hn HB))); have n2_ := bb BK286 hb; have n3_ := hs HB hb; clear HO284; clear BK286; clear HB; have HO284 := n0_; have HO302 := n1_; have BK286 := n2_; have HB := n3_; clear n0_ n1_ n2_ n3_; (try clear hb); (try clear ho0)) | ((with_reducible refine gate_dst (N := 7) rfl ?_); refine boxQ 7 #[.int .i64 0, .int .i64 0, .int .i64 0, .slice none 0 0] 76 ?_; intro gb304 hg w24 hbox hb; have n0_ := rk HO284 hb; have n1_ := rk HO302 hb; have n2_ := bb BK286 hb; have n3_ := hs HB hb; have n4_ := Aside0.mk (hbox); have n5_ := gs HB hg; have n6_ := gs HB hg; have n7_ := nl BK286 hg; have n8_ := ng BK286 hg; clear HO284; clear HO302; clear BK286; clear HB; have HO284 := n0_; have HO302 := n1_; have BK286 := n2_; have HB := n3_; have BK304 := n4_; have GW304 := n5_; have GE304 := n6_; have NB286_304 := n7_; have NB304_286 := n8_; clear n0_ n1_ n2_ n3_ n4_ n5_ n6_ n7_ n8_; clear hb hbox hg; have hnb25 := NB304_286.out; have hnc25 := NB286_304.out; obtain ⟨hcz26_0, hcz26_1, hcz26_2, hcz26_3⟩ := cc4 BK304; obtain ⟨hfz26_0, hfz26_1, hfz26_2, hfz26_3⟩ := ff4 BK304; obtain ⟨Ao27, co27, eo27⟩ := Kd.R_slice HO302.out; subst eo27))
        have n0_ : Aside0 (Kd.R k89 89 ((((w24.setCell ⟨gb304, 0, none⟩ (.int .i64 t297)).setCell ⟨gb304, 1, none⟩ (.int .i64 t298)).setCell ⟨gb304, 2, none⟩ (.int .i64 t299)).setCell ⟨gb304, 3, none⟩ (.slice Ao27 t300.length co27)) w.heap.size (fun k_ => some k_ ≠ (.slice Ao27 t300.length co27 : Value).ownBlock) (.slice Ao21 t282.length co21) t282) := ⟨by (with_reducible repeat (first | apply Kd.R_alloc | apply Kd.R_drewN | apply Kd.R_drew)); exact Kd.R_mono (Kd.R_far (p := ⟨gb304, 3, none⟩) (Kd.R_far (p := ⟨gb304, 2, none⟩) (Kd.R_far (p := ⟨gb304, 1, none⟩) (Kd.R_far (p := ⟨gb304, 0, none⟩) (Kd.R_types HO284.out BK304.out (by decide)) (fun _ hk => hk.2) (.int .i64 t297)) (fun _ hk => hk.2) (.int .i64 t298)) (fun _ hk => hk.2) (.int .i64 t299)) (fun _ hk => hk.2) (.slice Ao27 t300.length co27)) (fun _ hk => hk.1.2)⟩
        have n1_ : Aside0 (Kd.R k89 89 ((((w24.setCell ⟨gb304, 0, none⟩ (.int .i64 t297)).setCell ⟨gb304, 1, none⟩ (.int .i64 t298)).setCell ⟨gb304, 2, none⟩ (.int .i64 t299)).setCell ⟨gb304, 3, none⟩ (.slice Ao27 t300.length co27)) w.heap.size (fun k_ => some k_ ≠ (.slice Ao21 t282.length co21 : Value).ownBlock) (.slice Ao27 t300.length co27) t300) := ⟨by (with_reducible repeat (first | apply Kd.R_alloc | apply Kd.R_drewN | apply Kd.R_drew)); exact Kd.R_mono (Kd.R_far (p := ⟨gb304, 3, none⟩) (Kd.R_far (p := ⟨gb304, 2, none⟩) (Kd.R_far (p := ⟨gb304, 1, none⟩) (Kd.R_far (p := ⟨gb304, 0, none⟩) (Kd.R_types HO302.out BK304.out (by decide)) (fun _ hk => hk.2) (.int .i64 t297)) (fun _ hk => hk.2) (.int .i64 t298)) (fun _ hk => hk.2) (.int .i64 t299)) (fun _ hk => hk.2) (.slice Ao27 t300.length co27)) (fun _ hk => hk.1.2)⟩
        have n2_ : Aside0 (((((w24.setCell ⟨gb304, 0, none⟩ (.int .i64 t297)).setCell ⟨gb304, 1, none⟩ (.int .i64 t298)).setCell ⟨gb304, 2, none⟩ (.int .i64 t299)).setCell ⟨gb304, 3, none⟩ (.slice Ao27 t300.length co27)).heap[gb286]? = some (.cells #[.int .i64 t279, .int .i64 t280, .int .i64 t281, .slice Ao21 t282.length co21] 76 (0, 0))) := ⟨by (with_reducible repeat (first | refine blk_drewN ?_ _ | refine blk_drew ?_ | refine blk_alloc ?_ _)); refine blk_far ?_ NB286_304.out _; (with_reducible repeat (first | refine blk_drewN ?_ _ | refine blk_drew ?_ | refine blk_alloc ?_ _)); refine blk_far ?_ NB286_304.out _; (with_reducible repeat (first | refine blk_drewN ?_ _ | refine blk_drew ?_ | refine blk_alloc ?_ _)); refine blk_far ?_ NB286_304.out _; (with_reducible repeat (first | refine blk_drewN ?_ _ | refine blk_drew ?_ | refine blk_alloc ?_ _)); refine blk_far ?_ NB286_304.out _; (with_reducible repeat (first | refine blk_drewN ?_ _ | refine blk_drew ?_ | refine blk_alloc ?_ _)); exact BK286.out⟩
        have n3_ : Aside0 (((((w24.setCell ⟨gb304, 0, none⟩ (.int .i64 t297)).setCell ⟨gb304, 1, none⟩ (.int .i64 t298)).setCell ⟨gb304, 2, none⟩ (.int .i64 t299)).setCell ⟨gb304, 3, none⟩ (.slice Ao27 t300.length co27)).heap[gb304]? = some (.cells #[.int .i64 t297, .int .i64 t298, .int .i64 t299, .slice Ao27 t300.length co27] 76 (0, 0))) := ⟨by (with_reducible repeat (first | refine blk_drewN ?_ _ | refine blk_drew ?_ | refine blk_alloc ?_ _)); refine blk_put (cs := #[.int .i64 t297, .int .i64 t298, .int .i64 t299, .slice none 0 0]) ?_ 3 _ rfl; (with_reducible repeat (first | refine blk_drewN ?_ _ | refine blk_drew ?_ | refine blk_alloc ?_ _)); refine blk_put (cs := #[.int .i64 t297, .int .i64 t298, .int .i64 0, .slice none 0 0]) ?_ 2 _ rfl; (with_reducible repeat (first | refine blk_drewN ?_ _ | refine blk_drew ?_ | refine blk_alloc ?_ _)); refine blk_put (cs := #[.int .i64 t297, .int .i64 0, .int .i64 0, .slice none 0 0]) ?_ 1 _ rfl; (with_reducible repeat (first | refine blk_drewN ?_ _ | refine blk_drew ?_ | refine blk_alloc ?_ _)); refine blk_put (cs := #[.int .i64 0, .int .i64 0, .int .i64 0, .slice none 0 0]) ?_ 0 _ rfl; (with_reducible repeat (first | refine blk_drewN ?_ _ | refine blk_drew ?_ | refine blk_alloc ?_ _)); exact BK304.out⟩
        have n4_ : Aside0 (Below w.heap.size w ((((w24.setCell ⟨gb304, 0, none⟩ (.int .i64 t297)).setCell ⟨gb304, 1, none⟩ (.int .i64 t298)).setCell ⟨gb304, 2, none⟩ (.int .i64 t299)).setCell ⟨gb304, 3, none⟩ (.slice Ao27 t300.length co27))) := ⟨hn HB⟩
        (try clear HO284)
        (try clear HO302)
        (try clear BK286)
        (try clear BK304)
        (try clear HB)
        generalize ((((w24.setCell ⟨gb304, 0, none⟩ (.int .i64 t297)).setCell ⟨gb304, 1, none⟩ (.int .i64 t298)).setCell ⟨gb304, 2, none⟩ (.int .i64 t299)).setCell ⟨gb304, 3, none⟩ (.slice Ao27 t300.length co27)) = w28 at n0_ n1_ n2_ n3_ n4_ ⊢
        have HO284 := n0_
        have HO302 := n1_
        have BK286 := n2_
        have BK304 := n3_
        have HB := n4_
        clear n0_ n1_ n2_ n3_ n4_
        have n0_ := Aside0.mk (Kd.R_drew HO284.out)
        have n1_ := Aside0.mk (Kd.R_drew HO302.out)
        have n2_ := Aside0.mk (blk_drew BK286.out)
        have n3_ := Aside0.mk (blk_drew BK304.out)
        have n4_ := Aside0.mk (below_drew1 HB.out)
        clear HO284
        clear HO302
        clear BK286
        clear BK304
        clear HB
        have HO284 := n0_
        have HO302 := n1_
        have BK286 := n2_
        have BK304 := n3_
        have HB := n4_
        clear n0_ n1_ n2_ n3_ n4_
        refine start_ (n := 21) (S := fun w' => w'.cell? ⟨gb286, 0, none⟩ = some (.int .i64 t279) ∧ w'.cell? ⟨gb286, 1, none⟩ = some (.int .i64 t280) ∧ w'.cell? ⟨gb286, 2, none⟩ = some (.int .i64 t281) ∧ w'.cell? ⟨gb286, 3, none⟩ = some (.slice Ao21 t282.length co21) ∧ w'.cell? ⟨gb304, 0, none⟩ = some (.int .i64 t297) ∧ w'.cell? ⟨gb304, 1, none⟩ = some (.int .i64 t298) ∧ w'.cell? ⟨gb304, 2, none⟩ = some (.int .i64 t299) ∧ w'.cell? ⟨gb304, 3, none⟩ = some (.slice Ao27 t300.length co27)) (ds := []) #[false, false, false, false, false, false, false, false, false, false, false, false, false, false, false, false, false, false, false, false, false] (by kernel_rfl) rfl rfl ⟨(blk_cell BK286.out 0).trans rfl, (blk_cell BK286.out 1).trans rfl, (blk_cell BK286.out 2).trans rfl, (blk_cell BK286.out 3).trans rfl, (blk_cell BK304.out 0).trans rfl, (blk_cell BK304.out 1).trans rfl, (blk_cell BK304.out 2).trans rfl, (blk_cell BK304.out 3).trans rfl⟩ (fun hHeld => ?_); refine with_tabW celluloidlaw11_PixelAgain.tab8 celluloidlaw11_PixelAgain.bits8 (fun HT_ HW_ => ?_)
        generalize w28.drew = w29 at HO284 HO302 BK286 BK304 HB hHeld ⊢
        refine take_ (i := 0) (N := some 37) (v := ?_) (a' := ?_) (tk 1 20) rfl rfl (take_ofW HT_.out HW_.out (by kernel_rfl)) (fun _ _ _ h => h) (Or.inl ⟨by rfl, ?_⟩) hHeld ?_ ?_
        rotate_left
        ·rintro w' ⟨s0, s1, s2, s3, s4, s5, s6, s7⟩
         go_simp
         with_reducible rfl
        rotate_left
        ·simp only [Act.put, List.setIfInBounds_toArray, List.set_cons_zero, List.set_cons_succ, i64_w, i32_w]
         rfl
        refine one_ (i := 1) (N := some 38) (tk 2 19) rfl rfl (one_of HT_.out (by kernel_rfl)) (by decide) (fun K hK => ?_)
        refine goes_ Try.func53 (by kernel_rfl) rfl #[.agg #[.int .i64 t279, .int .i64 t280, .int .i64 t281, .slice Ao21 t282.length co21]] (by rfl) rfl rfl (by (try simp only [List.map_toArray, List.map_cons, List.map_nil]); first | done | rfl | (simp only [List.length_drop, List.length_take]; rfl)) ?_
        with_reducible refine (pixel_Right.calls k t279 t280 t281 _ _ t282 true _ ?side1 ?side2 A9.out).mono ?_
        (case side1 => repeat (first | exact (Kd.R_reads' HO284.out).2.2 | (with_reducible refine Kd.C_alloc ?_ _) | (with_reducible refine Kd.C_drewN ?_ _) | (with_reducible refine Kd.C_drew ?_)))
        (case side2 => exact (Kd.R_reads' HO284.out).2.1)
        rintro e w30 ⟨rfl, hb⟩
        refine ⟨_, rfl, ?_⟩
        have n0_ := rk HO284 hb
        have n1_ := rk HO302 hb
        have n2_ := bb BK286 hb
        have n3_ := bb BK304 hb
        have n4_ := hs HB hb
        clear HO284
        clear HO302
        clear BK286
        clear BK304
        clear HB
        have HO284 := n0_
        have HO302 := n1_
        have BK286 := n2_
        have BK304 := n3_
        have HB := n4_
        clear n0_ n1_ n2_ n3_ n4_
        (try clear hb)
        (try clear hb2)
        (try clear hk)
        (try clear hi)
        refine hK.out _ _ ⟨(blk_cell BK286.out 0).trans rfl, (blk_cell BK286.out 1).trans rfl, (blk_cell BK286.out 2).trans rfl, (blk_cell BK286.out 3).trans rfl, (blk_cell BK304.out 0).trans rfl, (blk_cell BK304.out 1).trans rfl, (blk_cell BK304.out 2).trans rfl, (blk_cell BK304.out 3).trans rfl⟩ (fun hHeld => ?_)
        clear hK K
        refine norm_ (a' := ?_) ?_ ?_
        rotate_left
        ·show Act.put _ (some 38) _ = _
         simp only [Act.put, List.setIfInBounds_toArray, List.set_cons_zero, List.set_cons_succ, i64_w, i32_w]
         rfl
        refine pureQ 2 (some 39) (tk 3 18) (any_of HT_.out (by kernel_rfl)) ?_
        refine pureQ 3 (some 40) (tk 4 17) (any_of HT_.out (by kernel_rfl)) ?_
        refine pureQ 4 (some 41) (tk 5 16) (any_of HT_.out (by kernel_rfl)) ?_
        refine pureQ 5 (some 42) (tk 6 15) (any_of HT_.out (by kernel_rfl)) ?_
        refine pureQ 6 (some 43) (tk 7 14) (any_of HT_.out (by kernel_rfl)) ?_
        refine pureQ 7 (some 44) (tk 8 13) (any_of HT_.out (by kernel_rfl)) ?_
        refine pureQ 8 (some 45) (tk 9 12) (any_of HT_.out (by kernel_rfl)) ?_
        refine pureQ 9 (some 46) (tk 10 11) (any_of HT_.out (by kernel_rfl)) ?_
        refine pureQ 10 (some 47) (tk 11 10) (any_of HT_.out (by kernel_rfl)) ?_
        refine take_ (i := 11) (N := some 48) (v := ?_) (a' := ?_) (tk 12 9) rfl rfl (take_ofW HT_.out HW_.out (by kernel_rfl)) (fun _ _ _ h => h) (Or.inl ⟨by rfl, ?_⟩) hHeld ?_ ?_
        rotate_left
        ·rintro w' ⟨s0, s1, s2, s3, s4, s5, s6, s7⟩
         go_simp
         with_reducible rfl
        rotate_left
        ·simp only [Act.put, List.setIfInBounds_toArray, List.set_cons_zero, List.set_cons_succ, i64_w, i32_w]
         rfl
        refine take_ (i := 13) (N := some 50) (v := ?_) (a' := ?_) #[true, true, true, true, true, true, true, true, true, true, true, true, false, true, false, false, false, false, false, false, false] rfl rfl (take_ofW HT_.out HW_.out (by kernel_rfl)) (fun _ _ _ h => h) (Or.inl ⟨by rfl, ?_⟩) hHeld ?_ ?_
        rotate_left
        ·rintro w' ⟨s0, s1, s2, s3, s4, s5, s6, s7⟩
         go_simp
         with_reducible rfl
        rotate_left
        ·simp only [Act.put, List.setIfInBounds_toArray, List.set_cons_zero, List.set_cons_succ, i64_w, i32_w]
         rfl
        refine one_ (i := 12) (N := some 49) (tk 14 7) rfl rfl (one_of HT_.out (by kernel_rfl)) (by decide) (fun K hK => ?_)
        refine goes_ Try.func52 (by kernel_rfl) rfl #[.agg #[.int .i64 t279, .int .i64 t280, .int .i64 t281, .slice Ao21 t282.length co21]] (by rfl) rfl rfl (by (try simp only [List.map_toArray, List.map_cons, List.map_nil]); first | done | rfl | (simp only [List.length_drop, List.length_take]; rfl)) ?_
        with_reducible refine (celluloidlaw11_ref.calls t279 t280 t281 (fun k_ => some k_ = (.slice Ao21 t282.length co21 : Value).ownBlock) (.slice Ao21 t282.length co21) t282 t306 t307 t308 t309 w _ ?side1 ?side2 A13.out).mono ?_
        (case side1 => repeat (first | (with_reducible first | exact HB.out | apply below_alloc | apply pw_below_drewN | apply below_drew1 | refine below_set ?_ GE286.out | refine below_set ?_ GE304.out) | exact HB.out))
        (case side2 => exact Kd.R_tight rfl HO284.out)
        rintro e w31 ⟨v310, rfl, ho0, hb, hkp⟩
        refine ⟨_, rfl, ?_⟩
        have n0_ := Aside0.mk (blk_kept (by (with_reducible repeat (first | refine blk_drewN ?_ _ | refine blk_drew ?_ | refine blk_alloc ?_ _)); exact BK286.out) hkp (fun hs_ => (fun e_ => (Kd.R_ne HO284.out BK286.out (by decide)) e_) hs_))
        have n1_ := Aside0.mk (Kd.R_mono (ok' := fun k_ => some k_ ≠ (v310 : Value).ownBlock) (Kd.R_keptB (HO302.out) hkp (fun k_ hk_ hs_ => (hk_) hs_)) (fun k_ hk_ => fun e_ => Or.elim (ho0.1 k_ e_.symm) (fun hs_ => hk_.2.1 hs_) (fun hn_ => Nat.not_le.2 hk_.2.2 hn_)))
        have n2_ := Aside0.mk (blk_kept (by (with_reducible repeat (first | refine blk_drewN ?_ _ | refine blk_drew ?_ | refine blk_alloc ?_ _)); exact BK304.out) hkp (fun hs_ => (fun e_ => (Kd.R_ne HO284.out BK304.out (by decide)) e_) hs_))
        have n3_ := Aside0.mk (Kd.R_mono (ok' := fun k_ => some k_ ≠ (.slice Ao27 t300.length co27 : Value).ownBlock) ho0 (fun k_ hk_ => Or.elim hk_ (fun hs_ => fun e_ => (((HO302.out).1 k_ e_.symm)) hs_) (fun hn_ => (Kd.fresh' (Kd.R_lt (by (with_reducible repeat (first | apply Kd.R_alloc | apply Kd.R_drewN | apply Kd.R_drew)); exact HO302.out)) k_ hn_))))
        have n4_ := Aside0.mk (hb)
        clear BK286
        clear HO302
        clear BK304
        clear HB
        clear HO284
        have BK286 := n0_
        have HO302 := n1_
        have BK304 := n2_
        have HO311 := n3_
        have HB := n4_
        clear n0_ n1_ n2_ n3_ n4_
        (try clear hb)
        (try clear hkp)
        (try clear ho0)
        refine hK.out _ _ ⟨(blk_cell BK286.out 0).trans rfl, (blk_cell BK286.out 1).trans rfl, (blk_cell BK286.out 2).trans rfl, (blk_cell BK286.out 3).trans rfl, (blk_cell BK304.out 0).trans rfl, (blk_cell BK304.out 1).trans rfl, (blk_cell BK304.out 2).trans rfl, (blk_cell BK304.out 3).trans rfl⟩ (fun hHeld => ?_)
        clear hK K
        refine norm_ (a' := ?_) ?_ ?_
        rotate_left
        ·show Act.put _ (some 49) _ = _
         simp only [Act.put, List.setIfInBounds_toArray, List.set_cons_zero, List.set_cons_succ, i64_w, i32_w]
         rfl
        refine one_ (i := 14) (N := some 51) (tk 15 6) rfl rfl (one_of HT_.out (by kernel_rfl)) (by decide) (fun K hK => ?_)
        refine goes_ Try.func52 (by kernel_rfl) rfl #[.agg #[.int .i64 t297, .int .i64 t298, .int .i64 t299, .slice Ao27 t300.length co27]] (by rfl) rfl rfl (by (try simp only [List.map_toArray, List.map_cons, List.map_nil]); first | done | rfl | (simp only [List.length_drop, List.length_take]; rfl)) ?_
        with_reducible refine (celluloidlaw11_ref.calls t297 t298 t299 (fun k_ => some k_ = (.slice Ao27 t300.length co27 : Value).ownBlock) (.slice Ao27 t300.length co27) t300 t312 t313 t314 t315 w _ ?side1 ?side2 A14.out).mono ?_
        (case side1 => repeat (first | (with_reducible first | exact HB.out | apply below_alloc | apply pw_below_drewN | apply below_drew1 | refine below_set ?_ GE286.out | refine below_set ?_ GE304.out) | exact HB.out))
        (case side2 => exact Kd.R_tight rfl HO302.out)
        rintro e w32 ⟨v316, rfl, ho0, hb, hkp⟩
        refine ⟨_, rfl, ?_⟩
        have n0_ := Aside0.mk (blk_kept (by (with_reducible repeat (first | refine blk_drewN ?_ _ | refine blk_drew ?_ | refine blk_alloc ?_ _)); exact BK286.out) hkp (fun hs_ => (fun e_ => (Kd.R_ne HO302.out BK286.out (by decide)) e_) hs_))
        have n1_ := Aside0.mk (blk_kept (by (with_reducible repeat (first | refine blk_drewN ?_ _ | refine blk_drew ?_ | refine blk_alloc ?_ _)); exact BK304.out) hkp (fun hs_ => (fun e_ => (Kd.R_ne HO302.out BK304.out (by decide)) e_) hs_))
        have n2_ := Aside0.mk (Kd.R_mono (ok' := fun k_ => some k_ ≠ (v316 : Value).ownBlock) (Kd.R_keptB (HO311.out) hkp (fun k_ hk_ hs_ => (hk_) hs_)) (fun k_ hk_ => fun e_ => Or.elim (ho0.1 k_ e_.symm) (fun hs_ => hk_.2.1 hs_) (fun hn_ => Nat.not_le.2 hk_.2.2 hn_)))
        have n3_ := Aside0.mk (Kd.R_mono (ok' := fun k_ => some k_ ≠ (v310 : Value).ownBlock) ho0 (fun k_ hk_ => Or.elim hk_ (fun hs_ => fun e_ => (((HO311.out).1 k_ e_.symm)) hs_) (fun hn_ => (Kd.fresh' (Kd.R_lt (by (with_reducible repeat (first | apply Kd.R_alloc | apply Kd.R_drewN | apply Kd.R_drew)); exact HO311.out)) k_ hn_))))
        have n4_ := Aside0.mk (hb)
        clear BK286
        clear BK304
        clear HO311
        clear HB
        clear HO302
        have BK286 := n0_
        have BK304 := n1_
        have HO311 := n2_
        have HO317 := n3_
        have HB := n4_
        clear n0_ n1_ n2_ n3_ n4_
        (try clear hb)
        (try clear hkp)
        (try clear ho0)
        obtain ⟨Ao33, co33, eo33⟩ := Kd.R_slice HO311.out
        (first | subst eo33 | (injection eo33 with f1_ f2_ f3_; have f4_ := f1_.symm; have f5_ := f3_.symm; clear f1_ f2_ f3_; subst f4_; subst f5_))
        obtain ⟨Ao34, co34, eo34⟩ := Kd.R_slice HO317.out
        (first | subst eo34 | (injection eo34 with f1_ f2_ f3_; have f4_ := f1_.symm; have f5_ := f3_.symm; clear f1_ f2_ f3_; subst f4_; subst f5_))
        refine hK.out _ _ ⟨(blk_cell BK286.out 0).trans rfl, (blk_cell BK286.out 1).trans rfl, (blk_cell BK286.out 2).trans rfl, (blk_cell BK286.out 3).trans rfl, (blk_cell BK304.out 0).trans rfl, (blk_cell BK304.out 1).trans rfl, (blk_cell BK304.out 2).trans rfl, (blk_cell BK304.out 3).trans rfl⟩ (fun hHeld => ?_)
        clear hK K
        refine norm_ (a' := ?_) ?_ ?_
        rotate_left
        ·show Act.put _ (some 51) _ = _
         simp only [Act.put, List.setIfInBounds_toArray, List.set_cons_zero, List.set_cons_succ, i64_w, i32_w]
         rfl
        refine one_ (i := 15) (N := some 52) (tk 16 5) rfl rfl (one_of HT_.out (by kernel_rfl)) (by decide) (fun K hK => ?_)
        refine goes_ Try.func56 (by kernel_rfl) rfl #[.agg #[.int .i64 t306, .int .i64 t307, .int .i64 t308, .slice Ao33 t309.length co33], .agg #[.int .i64 t312, .int .i64 t313, .int .i64 t314, .slice Ao34 t315.length co34]] (by rfl) rfl rfl (by (try simp only [List.map_toArray, List.map_cons, List.map_nil]); first | done | rfl | (simp only [List.length_drop, List.length_take]; rfl)) ?_
        with_reducible refine (celluloidref11_Equal.calls k t306 t307 t308 _ _ t309 t312 t313 t314 _ _ t315 true _ ?side1 ?side2 ?side3 ?side4 A15.out).mono ?_
        (case side1 => repeat (first | exact (Kd.R_reads' HO311.out).2.2 | (with_reducible refine Kd.C_alloc ?_ _) | (with_reducible refine Kd.C_drewN ?_ _) | (with_reducible refine Kd.C_drew ?_)))
        (case side2 => exact (Kd.R_reads' HO311.out).2.1)
        (case side3 => repeat (first | exact (Kd.R_reads' HO317.out).2.2 | (with_reducible refine Kd.C_alloc ?_ _) | (with_reducible refine Kd.C_drewN ?_ _) | (with_reducible refine Kd.C_drew ?_)))
        (case side4 => exact (Kd.R_reads' HO317.out).2.1)
        rintro e w35 ⟨rfl, hb⟩
        refine ⟨_, rfl, ?_⟩
        have n0_ := rk HO311 hb
        have n1_ := rk HO317 hb
        have n2_ := bb BK286 hb
        have n3_ := bb BK304 hb
        have n4_ := hs HB hb
        clear HO311
        clear HO317
        clear BK286
        clear BK304
        clear HB
        have HO311 := n0_
        have HO317 := n1_
        have BK286 := n2_
        have BK304 := n3_
        have HB := n4_
        clear n0_ n1_ n2_ n3_ n4_
        (try clear hb)
        (try clear hb2)
        (try clear hk)
        (try clear hi)
        refine hK.out _ _ ⟨(blk_cell BK286.out 0).trans rfl, (blk_cell BK286.out 1).trans rfl, (blk_cell BK286.out 2).trans rfl, (blk_cell BK286.out 3).trans rfl, (blk_cell BK304.out 0).trans rfl, (blk_cell BK304.out 1).trans rfl, (blk_cell BK304.out 2).trans rfl, (blk_cell BK304.out 3).trans rfl⟩ (fun hHeld => ?_)
        clear hK K
        refine norm_ (a' := ?_) ?_ ?_
        rotate_left
        ·show Act.put _ (some 52) _ = _
         simp only [Act.put, List.setIfInBounds_toArray, List.set_cons_zero, List.set_cons_succ, i64_w, i32_w]
         rfl
        refine pureQ 16 (some 53) (tk 17 4) (any_of HT_.out (by kernel_rfl)) ?_
        refine pureQ 17 (some 54) (tk 18 3) (any_of HT_.out (by kernel_rfl)) ?_
        refine one_ (i := 18) (N := some 55) (tk 19 2) rfl rfl (one_of HT_.out (by kernel_rfl)) (by decide) (fun K hK => ?_)
        refine goes_ Try.func49 (by kernel_rfl) rfl #[] (by rfl) rfl rfl (by (try simp only [List.map_toArray, List.map_cons, List.map_nil]); first | done | rfl | (simp only [List.length_drop, List.length_take]; rfl)) ?_
        with_reducible refine (celluloidlaw11_awake.calls k  t319 _ A17.out).mono ?_
        rintro e w36 ⟨rfl, hb⟩
        refine ⟨_, rfl, ?_⟩
        have n0_ := rk HO311 hb
        have n1_ := rk HO317 hb
        have n2_ := bb BK286 hb
        have n3_ := bb BK304 hb
        have n4_ := hs HB hb
        clear HO311
        clear HO317
        clear BK286
        clear BK304
        clear HB
        have HO311 := n0_
        have HO317 := n1_
        have BK286 := n2_
        have BK304 := n3_
        have HB := n4_
        clear n0_ n1_ n2_ n3_ n4_
        (try clear hb)
        (try clear hb2)
        (try clear hk)
        (try clear hi)
        refine hK.out _ _ ⟨(blk_cell BK286.out 0).trans rfl, (blk_cell BK286.out 1).trans rfl, (blk_cell BK286.out 2).trans rfl, (blk_cell BK286.out 3).trans rfl, (blk_cell BK304.out 0).trans rfl, (blk_cell BK304.out 1).trans rfl, (blk_cell BK304.out 2).trans rfl, (blk_cell BK304.out 3).trans rfl⟩ (fun hHeld => ?_)
        clear hK K
        refine norm_ (a' := ?_) ?_ ?_
        rotate_left
        ·show Act.put _ (some 55) _ = _
         simp only [Act.put, List.setIfInBounds_toArray, List.set_cons_zero, List.set_cons_succ, i64_w, i32_w]
         rfl
        refine pureQ 19 (some 56) (tk 20 1) (any_of HT_.out (by kernel_rfl)) ?_
        refine pureQ 20 (some 2) (tk 21 0) (any_of HT_.out (by kernel_rfl)) ?_
        refine done_ (done_of HT_.out (by kernel_rfl)) ?_
        try go_wp2
        go_ret
        exact ⟨by first | rfl | (simp [errW_none, errW_some] <;> rfl) | (simp [*, errW_none, errW_some] <;> rfl), hn HB⟩
      ·replace c16 := Bool.eq_false_iff.mpr c16
       subst c16
       have H1 : (some false) = some r := by rw [if_neg (show ¬ (false = true) by decide)] at H; exact H
       clear H
       have H := H1
       clear H1
       first
       |exact absurd (Option.some.inj H) (by rw [hr_.out]; decide)
       |obtain rfl := Option.some.inj H
        go_enter Try.func21, Try.ntmps21
        try go_wp2_with (first | ((with_reducible refine gate_callee (f := 54) rfl ?_); refine goesQ (some 15) Try.func54 #[.string a0] ?_; (with_reducible refine (pixel_Take.calls k a0 t279 t280 t281 t282 t285 _ A5.out).mono ?_); rintro e w37 ⟨v283, rfl, ho0, hb⟩; refine ⟨_, rfl, ?_⟩; have n0_ := Aside0.mk (Kd.R_lower ho0 (below_size (hn HB))); have n1_ := hs HB hb; clear HB; have HO284 := n0_; have HB := n1_; clear n0_ n1_; (try clear hb); (try clear ho0)) | ((with_reducible refine gate_dst (N := 3) rfl ?_); refine boxQ 3 #[.int .i64 0, .int .i64 0, .int .i64 0, .slice none 0 0] 76 ?_; intro gb286 hg w38 hbox hb; have n0_ := rk HO284 hb; have n1_ := hs HB hb; have n2_ := Aside0.mk (hbox); have n3_ := gs HB hg; have n4_ := gs HB hg; clear HO284; clear HB; have HO284 := n0_; have HB := n1_; have BK286 := n2_; have GW286 := n3_; have GE286 := n4_; clear n0_ n1_ n2_ n3_ n4_; clear hb hbox hg; obtain ⟨hcz39_0, hcz39_1, hcz39_2, hcz39_3⟩ := cc4 BK286; obtain ⟨hfz39_0, hfz39_1, hfz39_2, hfz39_3⟩ := ff4 BK286; obtain ⟨Ao40, co40, eo40⟩ := Kd.R_slice HO284.out; subst eo40) | ((with_reducible refine gate_callee (f := 50) rfl ?_); refine goesQ (some 29) Try.func50 #[.agg #[.int .i64 t279, .int .i64 t280, .int .i64 t281, .slice Ao40 t282.length co40]] ?_; (with_reducible refine (pixel_Put.calls k t279 t280 t281 _ _ t282 t295 t296 _ ?side1 ?side2 A7.out).mono ?_); (case side1 => refine (Kd.R_reads' (e := 89) (base := w.heap.size) (ok := fun k_ => True) (n := t282.length) (c := co40) ?_).2.2; exact (by (with_reducible repeat (first | apply Kd.R_alloc | apply Kd.R_drewN | apply Kd.R_drew)); exact (Kd.R_mono (Kd.R_far (p := ⟨gb286, 3, none⟩) (Kd.R_far (p := ⟨gb286, 2, none⟩) (Kd.R_far (p := ⟨gb286, 1, none⟩) (Kd.R_far (p := ⟨gb286, 0, none⟩) (Kd.R_types HO284.out BK286.out (by decide)) (fun _ hk => hk.2) (.int .i64 t279)) (fun _ hk => hk.2) (.int .i64 t280)) (fun _ hk => hk.2) (.int .i64 t281)) (fun _ hk => hk.2) (.slice Ao40 t282.length co40)) (fun _ h_ => h_.1)))); (case side2 => exact (Kd.R_reads' HO284.out).2.1); rintro e w41 ⟨rfl, hb⟩; refine ⟨_, rfl, ?_⟩; have n0_ := Aside0.mk (Kd.R_below (by (with_reducible repeat (first | apply Kd.R_alloc | apply Kd.R_drewN | apply Kd.R_drew)); exact (Kd.R_mono (Kd.R_far (p := ⟨gb286, 3, none⟩) (Kd.R_far (p := ⟨gb286, 2, none⟩) (Kd.R_far (p := ⟨gb286, 1, none⟩) (Kd.R_far (p := ⟨gb286, 0, none⟩) (Kd.R_types HO284.out BK286.out (by decide)) (fun _ hk => hk.2) (.int .i64 t279)) (fun _ hk => hk.2) (.int .i64 t280)) (fun _ hk => hk.2) (.int .i64 t281)) (fun _ hk => hk.2) (.slice Ao40 t282.length co40)) (fun _ h_ => h_.1))) hb); have n1_ := bp #[.int .i64 t279, .int .i64 t280, .int .i64 t281, .slice Ao40 t282.length co40] BK286 hb; have n2_ := hs HB hb; clear HO284; clear BK286; clear HB; have HO284 := n0_; have BK286 := n1_; have HB := n2_; clear n0_ n1_ n2_; (try clear hb)) | ((with_reducible refine gate_callee (f := 54) rfl ?_); refine goesQ (some 34) Try.func54 #[.string t295] ?_; (with_reducible refine (pixel_Take.calls k t295 t297 t298 t299 t300 t303 _ A8.out).mono ?_); rintro e w42 ⟨v301, rfl, ho0, hb⟩; refine ⟨_, rfl, ?_⟩; have n0_ := Aside0.mk (Kd.R_elder' (by (with_reducible repeat (first | apply Kd.R_alloc | apply Kd.R_drewN | apply Kd.R_drew)); exact HO284.out) (Kd.R_base ho0) hb); have n1_ := Aside0.mk (Kd.R_lower (Kd.R_new' ho0 (Kd.R_lt (by (with_reducible repeat (first | apply Kd.R_alloc | apply Kd.R_drewN | apply Kd.R_drew)); exact HO284.out))) (below_size (hn HB))); have n2_ := bb BK286 hb; have n3_ := hs HB hb; clear HO284; clear BK286; clear HB; have HO284 := n0_; have HO302 := n1_; have BK286 := n2_; have HB := n3_; clear n0_ n1_ n2_ n3_; (try clear hb); (try clear ho0)) | ((with_reducible refine gate_dst (N := 7) rfl ?_); refine boxQ 7 #[.int .i64 0, .int .i64 0, .int .i64 0, .slice none 0 0] 76 ?_; intro gb304 hg w43 hbox hb; have n0_ := rk HO284 hb; have n1_ := rk HO302 hb; have n2_ := bb BK286 hb; have n3_ := hs HB hb; have n4_ := Aside0.mk (hbox); have n5_ := gs HB hg; have n6_ := gs HB hg; have n7_ := nl BK286 hg; have n8_ := ng BK286 hg; clear HO284; clear HO302; clear BK286; clear HB; have HO284 := n0_; have HO302 := n1_; have BK286 := n2_; have HB := n3_; have BK304 := n4_; have GW304 := n5_; have GE304 := n6_; have NB286_304 := n7_; have NB304_286 := n8_; clear n0_ n1_ n2_ n3_ n4_ n5_ n6_ n7_ n8_; clear hb hbox hg; have hnb44 := NB304_286.out; have hnc44 := NB286_304.out; obtain ⟨hcz45_0, hcz45_1, hcz45_2, hcz45_3⟩ := cc4 BK304; obtain ⟨hfz45_0, hfz45_1, hfz45_2, hfz45_3⟩ := ff4 BK304; obtain ⟨Ao46, co46, eo46⟩ := Kd.R_slice HO302.out; subst eo46))
        have n0_ : Aside0 (Kd.R k89 89 ((((w43.setCell ⟨gb304, 0, none⟩ (.int .i64 t297)).setCell ⟨gb304, 1, none⟩ (.int .i64 t298)).setCell ⟨gb304, 2, none⟩ (.int .i64 t299)).setCell ⟨gb304, 3, none⟩ (.slice Ao46 t300.length co46)) w.heap.size (fun k_ => some k_ ≠ (.slice Ao46 t300.length co46 : Value).ownBlock) (.slice Ao40 t282.length co40) t282) := ⟨by (with_reducible repeat (first | apply Kd.R_alloc | apply Kd.R_drewN | apply Kd.R_drew)); exact Kd.R_mono (Kd.R_far (p := ⟨gb304, 3, none⟩) (Kd.R_far (p := ⟨gb304, 2, none⟩) (Kd.R_far (p := ⟨gb304, 1, none⟩) (Kd.R_far (p := ⟨gb304, 0, none⟩) (Kd.R_types HO284.out BK304.out (by decide)) (fun _ hk => hk.2) (.int .i64 t297)) (fun _ hk => hk.2) (.int .i64 t298)) (fun _ hk => hk.2) (.int .i64 t299)) (fun _ hk => hk.2) (.slice Ao46 t300.length co46)) (fun _ hk => hk.1.2)⟩
        have n1_ : Aside0 (Kd.R k89 89 ((((w43.setCell ⟨gb304, 0, none⟩ (.int .i64 t297)).setCell ⟨gb304, 1, none⟩ (.int .i64 t298)).setCell ⟨gb304, 2, none⟩ (.int .i64 t299)).setCell ⟨gb304, 3, none⟩ (.slice Ao46 t300.length co46)) w.heap.size (fun k_ => some k_ ≠ (.slice Ao40 t282.length co40 : Value).ownBlock) (.slice Ao46 t300.length co46) t300) := ⟨by (with_reducible repeat (first | apply Kd.R_alloc | apply Kd.R_drewN | apply Kd.R_drew)); exact Kd.R_mono (Kd.R_far (p := ⟨gb304, 3, none⟩) (Kd.R_far (p := ⟨gb304, 2, none⟩) (Kd.R_far (p := ⟨gb304, 1, none⟩) (Kd.R_far (p := ⟨gb304, 0, none⟩) (Kd.R_types HO302.out BK304.out (by decide)) (fun _ hk => hk.2) (.int .i64 t297)) (fun _ hk => hk.2) (.int .i64 t298)) (fun _ hk => hk.2) (.int .i64 t299)) (fun _ hk => hk.2) (.slice Ao46 t300.length co46)) (fun _ hk => hk.1.2)⟩
        have n2_ : Aside0 (((((w43.setCell ⟨gb304, 0, none⟩ (.int .i64 t297)).setCell ⟨gb304, 1, none⟩ (.int .i64 t298)).setCell ⟨gb304, 2, none⟩ (.int .i64 t299)).setCell ⟨gb304, 3, none⟩ (.slice Ao46 t300.length co46)).heap[gb286]? = some (.cells #[.int .i64 t279, .int .i64 t280, .int .i64 t281, .slice Ao40 t282.length co40] 76 (0, 0))) := ⟨by (with_reducible repeat (first | refine blk_drewN ?_ _ | refine blk_drew ?_ | refine blk_alloc ?_ _)); refine blk_far ?_ NB286_304.out _; (with_reducible repeat (first | refine blk_drewN ?_ _ | refine blk_drew ?_ | refine blk_alloc ?_ _)); refine blk_far ?_ NB286_304.out _; (with_reducible repeat (first | refine blk_drewN ?_ _ | refine blk_drew ?_ | refine blk_alloc ?_ _)); refine blk_far ?_ NB286_304.out _; (with_reducible repeat (first | refine blk_drewN ?_ _ | refine blk_drew ?_ | refine blk_alloc ?_ _)); refine blk_far ?_ NB286_304.out _; (with_reducible repeat (first | refine blk_drewN ?_ _ | refine blk_drew ?_ | refine blk_alloc ?_ _)); exact BK286.out⟩
        have n3_ : Aside0 (((((w43.setCell ⟨gb304, 0, none⟩ (.int .i64 t297)).setCell ⟨gb304, 1, none⟩ (.int .i64 t298)).setCell ⟨gb304, 2, none⟩ (.int .i64 t299)).setCell ⟨gb304, 3, none⟩ (.slice Ao46 t300.length co46)).heap[gb304]? = some (.cells #[.int .i64 t297, .int .i64 t298, .int .i64 t299, .slice Ao46 t300.length co46] 76 (0, 0))) := ⟨by (with_reducible repeat (first | refine blk_drewN ?_ _ | refine blk_drew ?_ | refine blk_alloc ?_ _)); refine blk_put (cs := #[.int .i64 t297, .int .i64 t298, .int .i64 t299, .slice none 0 0]) ?_ 3 _ rfl; (with_reducible repeat (first | refine blk_drewN ?_ _ | refine blk_drew ?_ | refine blk_alloc ?_ _)); refine blk_put (cs := #[.int .i64 t297, .int .i64 t298, .int .i64 0, .slice none 0 0]) ?_ 2 _ rfl; (with_reducible repeat (first | refine blk_drewN ?_ _ | refine blk_drew ?_ | refine blk_alloc ?_ _)); refine blk_put (cs := #[.int .i64 t297, .int .i64 0, .int .i64 0, .slice none 0 0]) ?_ 1 _ rfl; (with_reducible repeat (first | refine blk_drewN ?_ _ | refine blk_drew ?_ | refine blk_alloc ?_ _)); refine blk_put (cs := #[.int .i64 0, .int .i64 0, .int .i64 0, .slice none 0 0]) ?_ 0 _ rfl; (with_reducible repeat (first | refine blk_drewN ?_ _ | refine blk_drew ?_ | refine blk_alloc ?_ _)); exact BK304.out⟩
        have n4_ : Aside0 (Below w.heap.size w ((((w43.setCell ⟨gb304, 0, none⟩ (.int .i64 t297)).setCell ⟨gb304, 1, none⟩ (.int .i64 t298)).setCell ⟨gb304, 2, none⟩ (.int .i64 t299)).setCell ⟨gb304, 3, none⟩ (.slice Ao46 t300.length co46))) := ⟨hn HB⟩
        (try clear HO284)
        (try clear HO302)
        (try clear BK286)
        (try clear BK304)
        (try clear HB)
        generalize ((((w43.setCell ⟨gb304, 0, none⟩ (.int .i64 t297)).setCell ⟨gb304, 1, none⟩ (.int .i64 t298)).setCell ⟨gb304, 2, none⟩ (.int .i64 t299)).setCell ⟨gb304, 3, none⟩ (.slice Ao46 t300.length co46)) = w47 at n0_ n1_ n2_ n3_ n4_ ⊢
        have HO284 := n0_
        have HO302 := n1_
        have BK286 := n2_
        have BK304 := n3_
        have HB := n4_
        clear n0_ n1_ n2_ n3_ n4_
        have n0_ := Aside0.mk (Kd.R_drew HO284.out)
        have n1_ := Aside0.mk (Kd.R_drew HO302.out)
        have n2_ := Aside0.mk (blk_drew BK286.out)
        have n3_ := Aside0.mk (blk_drew BK304.out)
        have n4_ := Aside0.mk (below_drew1 HB.out)
        clear HO284
        clear HO302
        clear BK286
        clear BK304
        clear HB
        have HO284 := n0_
        have HO302 := n1_
        have BK286 := n2_
        have BK304 := n3_
        have HB := n4_
        clear n0_ n1_ n2_ n3_ n4_
        refine start_ (n := 21) (S := fun w' => w'.cell? ⟨gb286, 0, none⟩ = some (.int .i64 t279) ∧ w'.cell? ⟨gb286, 1, none⟩ = some (.int .i64 t280) ∧ w'.cell? ⟨gb286, 2, none⟩ = some (.int .i64 t281) ∧ w'.cell? ⟨gb286, 3, none⟩ = some (.slice Ao40 t282.length co40) ∧ w'.cell? ⟨gb304, 0, none⟩ = some (.int .i64 t297) ∧ w'.cell? ⟨gb304, 1, none⟩ = some (.int .i64 t298) ∧ w'.cell? ⟨gb304, 2, none⟩ = some (.int .i64 t299) ∧ w'.cell? ⟨gb304, 3, none⟩ = some (.slice Ao46 t300.length co46)) (ds := []) #[false, false, false, false, false, false, false, false, false, false, false, false, false, false, false, false, false, false, false, false, false] (by kernel_rfl) rfl rfl ⟨(blk_cell BK286.out 0).trans rfl, (blk_cell BK286.out 1).trans rfl, (blk_cell BK286.out 2).trans rfl, (blk_cell BK286.out 3).trans rfl, (blk_cell BK304.out 0).trans rfl, (blk_cell BK304.out 1).trans rfl, (blk_cell BK304.out 2).trans rfl, (blk_cell BK304.out 3).trans rfl⟩ (fun hHeld => ?_); refine with_tabW celluloidlaw11_PixelAgain.tab8 celluloidlaw11_PixelAgain.bits8 (fun HT_ HW_ => ?_)
        generalize w47.drew = w48 at HO284 HO302 BK286 BK304 HB hHeld ⊢
        refine take_ (i := 0) (N := some 37) (v := ?_) (a' := ?_) (tk 1 20) rfl rfl (take_ofW HT_.out HW_.out (by kernel_rfl)) (fun _ _ _ h => h) (Or.inl ⟨by rfl, ?_⟩) hHeld ?_ ?_
        rotate_left
        ·rintro w' ⟨s0, s1, s2, s3, s4, s5, s6, s7⟩
         go_simp
         with_reducible rfl
        rotate_left
        ·simp only [Act.put, List.setIfInBounds_toArray, List.set_cons_zero, List.set_cons_succ, i64_w, i32_w]
         rfl
        refine one_ (i := 1) (N := some 38) (tk 2 19) rfl rfl (one_of HT_.out (by kernel_rfl)) (by decide) (fun K hK => ?_)
        refine goes_ Try.func53 (by kernel_rfl) rfl #[.agg #[.int .i64 t279, .int .i64 t280, .int .i64 t281, .slice Ao40 t282.length co40]] (by rfl) rfl rfl (by (try simp only [List.map_toArray, List.map_cons, List.map_nil]); first | done | rfl | (simp only [List.length_drop, List.length_take]; rfl)) ?_
        with_reducible refine (pixel_Right.calls k t279 t280 t281 _ _ t282 true _ ?side1 ?side2 A9.out).mono ?_
        (case side1 => repeat (first | exact (Kd.R_reads' HO284.out).2.2 | (with_reducible refine Kd.C_alloc ?_ _) | (with_reducible refine Kd.C_drewN ?_ _) | (with_reducible refine Kd.C_drew ?_)))
        (case side2 => exact (Kd.R_reads' HO284.out).2.1)
        rintro e w49 ⟨rfl, hb⟩
        refine ⟨_, rfl, ?_⟩
        have n0_ := rk HO284 hb
        have n1_ := rk HO302 hb
        have n2_ := bb BK286 hb
        have n3_ := bb BK304 hb
        have n4_ := hs HB hb
        clear HO284
        clear HO302
        clear BK286
        clear BK304
        clear HB
        have HO284 := n0_
        have HO302 := n1_
        have BK286 := n2_
        have BK304 := n3_
        have HB := n4_
        clear n0_ n1_ n2_ n3_ n4_
        (try clear hb)
        (try clear hb2)
        (try clear hk)
        (try clear hi)
        refine hK.out _ _ ⟨(blk_cell BK286.out 0).trans rfl, (blk_cell BK286.out 1).trans rfl, (blk_cell BK286.out 2).trans rfl, (blk_cell BK286.out 3).trans rfl, (blk_cell BK304.out 0).trans rfl, (blk_cell BK304.out 1).trans rfl, (blk_cell BK304.out 2).trans rfl, (blk_cell BK304.out 3).trans rfl⟩ (fun hHeld => ?_)
        clear hK K
        refine norm_ (a' := ?_) ?_ ?_
        rotate_left
        ·show Act.put _ (some 38) _ = _
         simp only [Act.put, List.setIfInBounds_toArray, List.set_cons_zero, List.set_cons_succ, i64_w, i32_w]
         rfl
        refine pureQ 2 (some 39) (tk 3 18) (any_of HT_.out (by kernel_rfl)) ?_
        refine pureQ 3 (some 40) (tk 4 17) (any_of HT_.out (by kernel_rfl)) ?_
        refine pureQ 4 (some 41) (tk 5 16) (any_of HT_.out (by kernel_rfl)) ?_
        refine pureQ 5 (some 42) (tk 6 15) (any_of HT_.out (by kernel_rfl)) ?_
        refine pureQ 6 (some 43) (tk 7 14) (any_of HT_.out (by kernel_rfl)) ?_
        refine pureQ 7 (some 44) (tk 8 13) (any_of HT_.out (by kernel_rfl)) ?_
        refine pureQ 8 (some 45) (tk 9 12) (any_of HT_.out (by kernel_rfl)) ?_
        refine pureQ 9 (some 46) (tk 10 11) (any_of HT_.out (by kernel_rfl)) ?_
        refine pureQ 10 (some 47) (tk 11 10) (any_of HT_.out (by kernel_rfl)) ?_
        refine take_ (i := 11) (N := some 48) (v := ?_) (a' := ?_) (tk 12 9) rfl rfl (take_ofW HT_.out HW_.out (by kernel_rfl)) (fun _ _ _ h => h) (Or.inl ⟨by rfl, ?_⟩) hHeld ?_ ?_
        rotate_left
        ·rintro w' ⟨s0, s1, s2, s3, s4, s5, s6, s7⟩
         go_simp
         with_reducible rfl
        rotate_left
        ·simp only [Act.put, List.setIfInBounds_toArray, List.set_cons_zero, List.set_cons_succ, i64_w, i32_w]
         rfl
        refine take_ (i := 13) (N := some 50) (v := ?_) (a' := ?_) #[true, true, true, true, true, true, true, true, true, true, true, true, false, true, false, false, false, false, false, false, false] rfl rfl (take_ofW HT_.out HW_.out (by kernel_rfl)) (fun _ _ _ h => h) (Or.inl ⟨by rfl, ?_⟩) hHeld ?_ ?_
        rotate_left
        ·rintro w' ⟨s0, s1, s2, s3, s4, s5, s6, s7⟩
         go_simp
         with_reducible rfl
        rotate_left
        ·simp only [Act.put, List.setIfInBounds_toArray, List.set_cons_zero, List.set_cons_succ, i64_w, i32_w]
         rfl
        refine one_ (i := 12) (N := some 49) (tk 14 7) rfl rfl (one_of HT_.out (by kernel_rfl)) (by decide) (fun K hK => ?_)
        refine goes_ Try.func52 (by kernel_rfl) rfl #[.agg #[.int .i64 t279, .int .i64 t280, .int .i64 t281, .slice Ao40 t282.length co40]] (by rfl) rfl rfl (by (try simp only [List.map_toArray, List.map_cons, List.map_nil]); first | done | rfl | (simp only [List.length_drop, List.length_take]; rfl)) ?_
        with_reducible refine (celluloidlaw11_ref.calls t279 t280 t281 (fun k_ => some k_ = (.slice Ao40 t282.length co40 : Value).ownBlock) (.slice Ao40 t282.length co40) t282 t306 t307 t308 t309 w _ ?side1 ?side2 A13.out).mono ?_
        (case side1 => repeat (first | (with_reducible first | exact HB.out | apply below_alloc | apply pw_below_drewN | apply below_drew1 | refine below_set ?_ GE286.out | refine below_set ?_ GE304.out) | exact HB.out))
        (case side2 => exact Kd.R_tight rfl HO284.out)
        rintro e w50 ⟨v310, rfl, ho0, hb, hkp⟩
        refine ⟨_, rfl, ?_⟩
        have n0_ := Aside0.mk (blk_kept (by (with_reducible repeat (first | refine blk_drewN ?_ _ | refine blk_drew ?_ | refine blk_alloc ?_ _)); exact BK286.out) hkp (fun hs_ => (fun e_ => (Kd.R_ne HO284.out BK286.out (by decide)) e_) hs_))
        have n1_ := Aside0.mk (Kd.R_mono (ok' := fun k_ => some k_ ≠ (v310 : Value).ownBlock) (Kd.R_keptB (HO302.out) hkp (fun k_ hk_ hs_ => (hk_) hs_)) (fun k_ hk_ => fun e_ => Or.elim (ho0.1 k_ e_.symm) (fun hs_ => hk_.2.1 hs_) (fun hn_ => Nat.not_le.2 hk_.2.2 hn_)))
        have n2_ := Aside0.mk (blk_kept (by (with_reducible repeat (first | refine blk_drewN ?_ _ | refine blk_drew ?_ | refine blk_alloc ?_ _)); exact BK304.out) hkp (fun hs_ => (fun e_ => (Kd.R_ne HO284.out BK304.out (by decide)) e_) hs_))
        have n3_ := Aside0.mk (Kd.R_mono (ok' := fun k_ => some k_ ≠ (.slice Ao46 t300.length co46 : Value).ownBlock) ho0 (fun k_ hk_ => Or.elim hk_ (fun hs_ => fun e_ => (((HO302.out).1 k_ e_.symm)) hs_) (fun hn_ => (Kd.fresh' (Kd.R_lt (by (with_reducible repeat (first | apply Kd.R_alloc | apply Kd.R_drewN | apply Kd.R_drew)); exact HO302.out)) k_ hn_))))
        have n4_ := Aside0.mk (hb)
        clear BK286
        clear HO302
        clear BK304
        clear HB
        clear HO284
        have BK286 := n0_
        have HO302 := n1_
        have BK304 := n2_
        have HO311 := n3_
        have HB := n4_
        clear n0_ n1_ n2_ n3_ n4_
        (try clear hb)
        (try clear hkp)
        (try clear ho0)
        refine hK.out _ _ ⟨(blk_cell BK286.out 0).trans rfl, (blk_cell BK286.out 1).trans rfl, (blk_cell BK286.out 2).trans rfl, (blk_cell BK286.out 3).trans rfl, (blk_cell BK304.out 0).trans rfl, (blk_cell BK304.out 1).trans rfl, (blk_cell BK304.out 2).trans rfl, (blk_cell BK304.out 3).trans rfl⟩ (fun hHeld => ?_)
        clear hK K
        refine norm_ (a' := ?_) ?_ ?_
        rotate_left
        ·show Act.put _ (some 49) _ = _
         simp only [Act.put, List.setIfInBounds_toArray, List.set_cons_zero, List.set_cons_succ, i64_w, i32_w]
         rfl
        refine one_ (i := 14) (N := some 51) (tk 15 6) rfl rfl (one_of HT_.out (by kernel_rfl)) (by decide) (fun K hK => ?_)
        refine goes_ Try.func52 (by kernel_rfl) rfl #[.agg #[.int .i64 t297, .int .i64 t298, .int .i64 t299, .slice Ao46 t300.length co46]] (by rfl) rfl rfl (by (try simp only [List.map_toArray, List.map_cons, List.map_nil]); first | done | rfl | (simp only [List.length_drop, List.length_take]; rfl)) ?_
        with_reducible refine (celluloidlaw11_ref.calls t297 t298 t299 (fun k_ => some k_ = (.slice Ao46 t300.length co46 : Value).ownBlock) (.slice Ao46 t300.length co46) t300 t312 t313 t314 t315 w _ ?side1 ?side2 A14.out).mono ?_
        (case side1 => repeat (first | (with_reducible first | exact HB.out | apply below_alloc | apply pw_below_drewN | apply below_drew1 | refine below_set ?_ GE286.out | refine below_set ?_ GE304.out) | exact HB.out))
        (case side2 => exact Kd.R_tight rfl HO302.out)
        rintro e w51 ⟨v316, rfl, ho0, hb, hkp⟩
        refine ⟨_, rfl, ?_⟩
        have n0_ := Aside0.mk (blk_kept (by (with_reducible repeat (first | refine blk_drewN ?_ _ | refine blk_drew ?_ | refine blk_alloc ?_ _)); exact BK286.out) hkp (fun hs_ => (fun e_ => (Kd.R_ne HO302.out BK286.out (by decide)) e_) hs_))
        have n1_ := Aside0.mk (blk_kept (by (with_reducible repeat (first | refine blk_drewN ?_ _ | refine blk_drew ?_ | refine blk_alloc ?_ _)); exact BK304.out) hkp (fun hs_ => (fun e_ => (Kd.R_ne HO302.out BK304.out (by decide)) e_) hs_))
        have n2_ := Aside0.mk (Kd.R_mono (ok' := fun k_ => some k_ ≠ (v316 : Value).ownBlock) (Kd.R_keptB (HO311.out) hkp (fun k_ hk_ hs_ => (hk_) hs_)) (fun k_ hk_ => fun e_ => Or.elim (ho0.1 k_ e_.symm) (fun hs_ => hk_.2.1 hs_) (fun hn_ => Nat.not_le.2 hk_.2.2 hn_)))
        have n3_ := Aside0.mk (Kd.R_mono (ok' := fun k_ => some k_ ≠ (v310 : Value).ownBlock) ho0 (fun k_ hk_ => Or.elim hk_ (fun hs_ => fun e_ => (((HO311.out).1 k_ e_.symm)) hs_) (fun hn_ => (Kd.fresh' (Kd.R_lt (by (with_reducible repeat (first | apply Kd.R_alloc | apply Kd.R_drewN | apply Kd.R_drew)); exact HO311.out)) k_ hn_))))
        have n4_ := Aside0.mk (hb)
        clear BK286
        clear BK304
        clear HO311
        clear HB
        clear HO302
        have BK286 := n0_
        have BK304 := n1_
        have HO311 := n2_
        have HO317 := n3_
        have HB := n4_
        clear n0_ n1_ n2_ n3_ n4_
        (try clear hb)
        (try clear hkp)
        (try clear ho0)
        obtain ⟨Ao52, co52, eo52⟩ := Kd.R_slice HO311.out
        (first | subst eo52 | (injection eo52 with f1_ f2_ f3_; have f4_ := f1_.symm; have f5_ := f3_.symm; clear f1_ f2_ f3_; subst f4_; subst f5_))
        obtain ⟨Ao53, co53, eo53⟩ := Kd.R_slice HO317.out
        (first | subst eo53 | (injection eo53 with f1_ f2_ f3_; have f4_ := f1_.symm; have f5_ := f3_.symm; clear f1_ f2_ f3_; subst f4_; subst f5_))
        refine hK.out _ _ ⟨(blk_cell BK286.out 0).trans rfl, (blk_cell BK286.out 1).trans rfl, (blk_cell BK286.out 2).trans rfl, (blk_cell BK286.out 3).trans rfl, (blk_cell BK304.out 0).trans rfl, (blk_cell BK304.out 1).trans rfl, (blk_cell BK304.out 2).trans rfl, (blk_cell BK304.out 3).trans rfl⟩ (fun hHeld => ?_)
        clear hK K
        refine norm_ (a' := ?_) ?_ ?_
        rotate_left
        ·show Act.put _ (some 51) _ = _
         simp only [Act.put, List.setIfInBounds_toArray, List.set_cons_zero, List.set_cons_succ, i64_w, i32_w]
         rfl
        refine one_ (i := 15) (N := some 52) (tk 16 5) rfl rfl (one_of HT_.out (by kernel_rfl)) (by decide) (fun K hK => ?_)
        refine goes_ Try.func56 (by kernel_rfl) rfl #[.agg #[.int .i64 t306, .int .i64 t307, .int .i64 t308, .slice Ao52 t309.length co52], .agg #[.int .i64 t312, .int .i64 t313, .int .i64 t314, .slice Ao53 t315.length co53]] (by rfl) rfl rfl (by (try simp only [List.map_toArray, List.map_cons, List.map_nil]); first | done | rfl | (simp only [List.length_drop, List.length_take]; rfl)) ?_
        with_reducible refine (celluloidref11_Equal.calls k t306 t307 t308 _ _ t309 t312 t313 t314 _ _ t315 false _ ?side1 ?side2 ?side3 ?side4 A15.out).mono ?_
        (case side1 => repeat (first | exact (Kd.R_reads' HO311.out).2.2 | (with_reducible refine Kd.C_alloc ?_ _) | (with_reducible refine Kd.C_drewN ?_ _) | (with_reducible refine Kd.C_drew ?_)))
        (case side2 => exact (Kd.R_reads' HO311.out).2.1)
        (case side3 => repeat (first | exact (Kd.R_reads' HO317.out).2.2 | (with_reducible refine Kd.C_alloc ?_ _) | (with_reducible refine Kd.C_drewN ?_ _) | (with_reducible refine Kd.C_drew ?_)))
        (case side4 => exact (Kd.R_reads' HO317.out).2.1)
        rintro e w54 ⟨rfl, hb⟩
        refine ⟨_, rfl, ?_⟩
        have n0_ := rk HO311 hb
        have n1_ := rk HO317 hb
        have n2_ := bb BK286 hb
        have n3_ := bb BK304 hb
        have n4_ := hs HB hb
        clear HO311
        clear HO317
        clear BK286
        clear BK304
        clear HB
        have HO311 := n0_
        have HO317 := n1_
        have BK286 := n2_
        have BK304 := n3_
        have HB := n4_
        clear n0_ n1_ n2_ n3_ n4_
        (try clear hb)
        (try clear hb2)
        (try clear hk)
        (try clear hi)
        refine hK.out _ _ ⟨(blk_cell BK286.out 0).trans rfl, (blk_cell BK286.out 1).trans rfl, (blk_cell BK286.out 2).trans rfl, (blk_cell BK286.out 3).trans rfl, (blk_cell BK304.out 0).trans rfl, (blk_cell BK304.out 1).trans rfl, (blk_cell BK304.out 2).trans rfl, (blk_cell BK304.out 3).trans rfl⟩ (fun hHeld => ?_)
        clear hK K
        refine norm_ (a' := ?_) ?_ ?_
        rotate_left
        ·show Act.put _ (some 52) _ = _
         simp only [Act.put, List.setIfInBounds_toArray, List.set_cons_zero, List.set_cons_succ, i64_w, i32_w]
         rfl
        refine pureQ 16 (some 53) (tk 17 4) (any_of HT_.out (by kernel_rfl)) ?_
        refine pureQ 17 (some 54) (tk 18 3) (any_of HT_.out (by kernel_rfl)) ?_
        refine pureU 18 (some 55) (tk 19 2) (any_of HT_.out (by kernel_rfl)) ?_
        refine pureQ 19 (some 56) (tk 20 1) (any_of HT_.out (by kernel_rfl)) ?_
        refine pureQ 20 (some 2) (tk 21 0) (any_of HT_.out (by kernel_rfl)) ?_
        refine done_ (done_of HT_.out (by kernel_rfl)) ?_
        try go_wp2
        go_ret
        exact ⟨by first | rfl | (simp [errW_none, errW_some] <;> rfl) | (simp [*, errW_none, errW_some] <;> rfl), hn HB⟩
     ·rw [if_neg c12] at H
      have c12b0 : (t303 == 0) = false := beq_eq_false_iff_ne.mpr c12
      have c12b1 : (t303 != 0) = true := bne_iff_ne.mpr c12
      first
      |exact absurd (Option.some.inj H) (by rw [hr_.out]; decide)
      |obtain rfl := Option.some.inj H
       go_enter Try.func21, Try.ntmps21
       try go_wp2_with (first | ((with_reducible refine gate_callee (f := 54) rfl ?_); refine goesQ (some 15) Try.func54 #[.string a0] ?_; (with_reducible refine (pixel_Take.calls k a0 t279 t280 t281 t282 t285 _ A5.out).mono ?_); rintro e w55 ⟨v283, rfl, ho0, hb⟩; refine ⟨_, rfl, ?_⟩; have n0_ := Aside0.mk (Kd.R_lower ho0 (below_size (hn HB))); have n1_ := hs HB hb; clear HB; have HO284 := n0_; have HB := n1_; clear n0_ n1_; (try clear hb); (try clear ho0)) | ((with_reducible refine gate_dst (N := 3) rfl ?_); refine boxQ 3 #[.int .i64 0, .int .i64 0, .int .i64 0, .slice none 0 0] 76 ?_; intro gb286 hg w56 hbox hb; have n0_ := rk HO284 hb; have n1_ := hs HB hb; have n2_ := Aside0.mk (hbox); have n3_ := gs HB hg; have n4_ := gs HB hg; clear HO284; clear HB; have HO284 := n0_; have HB := n1_; have BK286 := n2_; have GW286 := n3_; have GE286 := n4_; clear n0_ n1_ n2_ n3_ n4_; clear hb hbox hg; obtain ⟨hcz57_0, hcz57_1, hcz57_2, hcz57_3⟩ := cc4 BK286; obtain ⟨hfz57_0, hfz57_1, hfz57_2, hfz57_3⟩ := ff4 BK286; obtain ⟨Ao58, co58, eo58⟩ := Kd.R_slice HO284.out; subst eo58) | ((with_reducible refine gate_callee (f := 50) rfl ?_); refine goesQ (some 29) Try.func50 #[.agg #[.int .i64 t279, .int .i64 t280, .int .i64 t281, .slice Ao58 t282.length co58]] ?_; (with_reducible refine (pixel_Put.calls k t279 t280 t281 _ _ t282 t295 t296 _ ?side1 ?side2 A7.out).mono ?_); (case side1 => refine (Kd.R_reads' (e := 89) (base := w.heap.size) (ok := fun k_ => True) (n := t282.length) (c := co58) ?_).2.2; exact (by (with_reducible repeat (first | apply Kd.R_alloc | apply Kd.R_drewN | apply Kd.R_drew)); exact (Kd.R_mono (Kd.R_far (p := ⟨gb286, 3, none⟩) (Kd.R_far (p := ⟨gb286, 2, none⟩) (Kd.R_far (p := ⟨gb286, 1, none⟩) (Kd.R_far (p := ⟨gb286, 0, none⟩) (Kd.R_types HO284.out BK286.out (by decide)) (fun _ hk => hk.2) (.int .i64 t279)) (fun _ hk => hk.2) (.int .i64 t280)) (fun _ hk => hk.2) (.int .i64 t281)) (fun _ hk => hk.2) (.slice Ao58 t282.length co58)) (fun _ h_ => h_.1)))); (case side2 => exact (Kd.R_reads' HO284.out).2.1); rintro e w59 ⟨rfl, hb⟩; refine ⟨_, rfl, ?_⟩; have n0_ := Aside0.mk (Kd.R_below (by (with_reducible repeat (first | apply Kd.R_alloc | apply Kd.R_drewN | apply Kd.R_drew)); exact (Kd.R_mono (Kd.R_far (p := ⟨gb286, 3, none⟩) (Kd.R_far (p := ⟨gb286, 2, none⟩) (Kd.R_far (p := ⟨gb286, 1, none⟩) (Kd.R_far (p := ⟨gb286, 0, none⟩) (Kd.R_types HO284.out BK286.out (by decide)) (fun _ hk => hk.2) (.int .i64 t279)) (fun _ hk => hk.2) (.int .i64 t280)) (fun _ hk => hk.2) (.int .i64 t281)) (fun _ hk => hk.2) (.slice Ao58 t282.length co58)) (fun _ h_ => h_.1))) hb); have n1_ := bp #[.int .i64 t279, .int .i64 t280, .int .i64 t281, .slice Ao58 t282.length co58] BK286 hb; have n2_ := hs HB hb; clear HO284; clear BK286; clear HB; have HO284 := n0_; have BK286 := n1_; have HB := n2_; clear n0_ n1_ n2_; (try clear hb)) | ((with_reducible refine gate_callee (f := 54) rfl ?_); refine goesQ (some 34) Try.func54 #[.string t295] ?_; (with_reducible refine (pixel_Take.calls k t295 t297 t298 t299 t300 t303 _ A8.out).mono ?_); rintro e w60 ⟨v301, rfl, ho0, hb⟩; refine ⟨_, rfl, ?_⟩; have n0_ := Aside0.mk (Kd.R_elder' (by (with_reducible repeat (first | apply Kd.R_alloc | apply Kd.R_drewN | apply Kd.R_drew)); exact HO284.out) (Kd.R_base ho0) hb); have n1_ := Aside0.mk (Kd.R_lower (Kd.R_new' ho0 (Kd.R_lt (by (with_reducible repeat (first | apply Kd.R_alloc | apply Kd.R_drewN | apply Kd.R_drew)); exact HO284.out))) (below_size (hn HB))); have n2_ := bb BK286 hb; have n3_ := hs HB hb; clear HO284; clear BK286; clear HB; have HO284 := n0_; have HO302 := n1_; have BK286 := n2_; have HB := n3_; clear n0_ n1_ n2_ n3_; (try clear hb); (try clear ho0)) | ((with_reducible refine gate_dst (N := 7) rfl ?_); refine boxQ 7 #[.int .i64 0, .int .i64 0, .int .i64 0, .slice none 0 0] 76 ?_; intro gb304 hg w61 hbox hb; have n0_ := rk HO284 hb; have n1_ := rk HO302 hb; have n2_ := bb BK286 hb; have n3_ := hs HB hb; have n4_ := Aside0.mk (hbox); have n5_ := gs HB hg; have n6_ := gs HB hg; have n7_ := nl BK286 hg; have n8_ := ng BK286 hg; clear HO284; clear HO302; clear BK286; clear HB; have HO284 := n0_; have HO302 := n1_; have BK286 := n2_; have HB := n3_; have BK304 := n4_; have GW304 := n5_; have GE304 := n6_; have NB286_304 := n7_; have NB304_286 := n8_; clear n0_ n1_ n2_ n3_ n4_ n5_ n6_ n7_ n8_; clear hb hbox hg; have hnb62 := NB304_286.out; have hnc62 := NB286_304.out; obtain ⟨hcz63_0, hcz63_1, hcz63_2, hcz63_3⟩ := cc4 BK304; obtain ⟨hfz63_0, hfz63_1, hfz63_2, hfz63_3⟩ := ff4 BK304; obtain ⟨Ao64, co64, eo64⟩ := Kd.R_slice HO302.out; subst eo64))
       have n0_ : Aside0 (Kd.R k89 89 ((((w61.setCell ⟨gb304, 0, none⟩ (.int .i64 t297)).setCell ⟨gb304, 1, none⟩ (.int .i64 t298)).setCell ⟨gb304, 2, none⟩ (.int .i64 t299)).setCell ⟨gb304, 3, none⟩ (.slice Ao64 t300.length co64)) w.heap.size (fun k_ => some k_ ≠ (.slice Ao64 t300.length co64 : Value).ownBlock) (.slice Ao58 t282.length co58) t282) := ⟨by (with_reducible repeat (first | apply Kd.R_alloc | apply Kd.R_drewN | apply Kd.R_drew)); exact Kd.R_mono (Kd.R_far (p := ⟨gb304, 3, none⟩) (Kd.R_far (p := ⟨gb304, 2, none⟩) (Kd.R_far (p := ⟨gb304, 1, none⟩) (Kd.R_far (p := ⟨gb304, 0, none⟩) (Kd.R_types HO284.out BK304.out (by decide)) (fun _ hk => hk.2) (.int .i64 t297)) (fun _ hk => hk.2) (.int .i64 t298)) (fun _ hk => hk.2) (.int .i64 t299)) (fun _ hk => hk.2) (.slice Ao64 t300.length co64)) (fun _ hk => hk.1.2)⟩
       have n1_ : Aside0 (Kd.R k89 89 ((((w61.setCell ⟨gb304, 0, none⟩ (.int .i64 t297)).setCell ⟨gb304, 1, none⟩ (.int .i64 t298)).setCell ⟨gb304, 2, none⟩ (.int .i64 t299)).setCell ⟨gb304, 3, none⟩ (.slice Ao64 t300.length co64)) w.heap.size (fun k_ => some k_ ≠ (.slice Ao58 t282.length co58 : Value).ownBlock) (.slice Ao64 t300.length co64) t300) := ⟨by (with_reducible repeat (first | apply Kd.R_alloc | apply Kd.R_drewN | apply Kd.R_drew)); exact Kd.R_mono (Kd.R_far (p := ⟨gb304, 3, none⟩) (Kd.R_far (p := ⟨gb304, 2, none⟩) (Kd.R_far (p := ⟨gb304, 1, none⟩) (Kd.R_far (p := ⟨gb304, 0, none⟩) (Kd.R_types HO302.out BK304.out (by decide)) (fun _ hk => hk.2) (.int .i64 t297)) (fun _ hk => hk.2) (.int .i64 t298)) (fun _ hk => hk.2) (.int .i64 t299)) (fun _ hk => hk.2) (.slice Ao64 t300.length co64)) (fun _ hk => hk.1.2)⟩
       have n2_ : Aside0 (((((w61.setCell ⟨gb304, 0, none⟩ (.int .i64 t297)).setCell ⟨gb304, 1, none⟩ (.int .i64 t298)).setCell ⟨gb304, 2, none⟩ (.int .i64 t299)).setCell ⟨gb304, 3, none⟩ (.slice Ao64 t300.length co64)).heap[gb286]? = some (.cells #[.int .i64 t279, .int .i64 t280, .int .i64 t281, .slice Ao58 t282.length co58] 76 (0, 0))) := ⟨by (with_reducible repeat (first | refine blk_drewN ?_ _ | refine blk_drew ?_ | refine blk_alloc ?_ _)); refine blk_far ?_ NB286_304.out _; (with_reducible repeat (first | refine blk_drewN ?_ _ | refine blk_drew ?_ | refine blk_alloc ?_ _)); refine blk_far ?_ NB286_304.out _; (with_reducible repeat (first | refine blk_drewN ?_ _ | refine blk_drew ?_ | refine blk_alloc ?_ _)); refine blk_far ?_ NB286_304.out _; (with_reducible repeat (first | refine blk_drewN ?_ _ | refine blk_drew ?_ | refine blk_alloc ?_ _)); refine blk_far ?_ NB286_304.out _; (with_reducible repeat (first | refine blk_drewN ?_ _ | refine blk_drew ?_ | refine blk_alloc ?_ _)); exact BK286.out⟩
       have n3_ : Aside0 (((((w61.setCell ⟨gb304, 0, none⟩ (.int .i64 t297)).setCell ⟨gb304, 1, none⟩ (.int .i64 t298)).setCell ⟨gb304, 2, none⟩ (.int .i64 t299)).setCell ⟨gb304, 3, none⟩ (.slice Ao64 t300.length co64)).heap[gb304]? = some (.cells #[.int .i64 t297, .int .i64 t298, .int .i64 t299, .slice Ao64 t300.length co64] 76 (0, 0))) := ⟨by (with_reducible repeat (first | refine blk_drewN ?_ _ | refine blk_drew ?_ | refine blk_alloc ?_ _)); refine blk_put (cs := #[.int .i64 t297, .int .i64 t298, .int .i64 t299, .slice none 0 0]) ?_ 3 _ rfl; (with_reducible repeat (first | refine blk_drewN ?_ _ | refine blk_drew ?_ | refine blk_alloc ?_ _)); refine blk_put (cs := #[.int .i64 t297, .int .i64 t298, .int .i64 0, .slice none 0 0]) ?_ 2 _ rfl; (with_reducible repeat (first | refine blk_drewN ?_ _ | refine blk_drew ?_ | refine blk_alloc ?_ _)); refine blk_put (cs := #[.int .i64 t297, .int .i64 0, .int .i64 0, .slice none 0 0]) ?_ 1 _ rfl; (with_reducible repeat (first | refine blk_drewN ?_ _ | refine blk_drew ?_ | refine blk_alloc ?_ _)); refine blk_put (cs := #[.int .i64 0, .int .i64 0, .int .i64 0, .slice none 0 0]) ?_ 0 _ rfl; (with_reducible repeat (first | refine blk_drewN ?_ _ | refine blk_drew ?_ | refine blk_alloc ?_ _)); exact BK304.out⟩
       have n4_ : Aside0 (Below w.heap.size w ((((w61.setCell ⟨gb304, 0, none⟩ (.int .i64 t297)).setCell ⟨gb304, 1, none⟩ (.int .i64 t298)).setCell ⟨gb304, 2, none⟩ (.int .i64 t299)).setCell ⟨gb304, 3, none⟩ (.slice Ao64 t300.length co64))) := ⟨hn HB⟩
       (try clear HO284)
       (try clear HO302)
       (try clear BK286)
       (try clear BK304)
       (try clear HB)
       generalize ((((w61.setCell ⟨gb304, 0, none⟩ (.int .i64 t297)).setCell ⟨gb304, 1, none⟩ (.int .i64 t298)).setCell ⟨gb304, 2, none⟩ (.int .i64 t299)).setCell ⟨gb304, 3, none⟩ (.slice Ao64 t300.length co64)) = w65 at n0_ n1_ n2_ n3_ n4_ ⊢
       have HO284 := n0_
       have HO302 := n1_
       have BK286 := n2_
       have BK304 := n3_
       have HB := n4_
       clear n0_ n1_ n2_ n3_ n4_
       have n0_ := Aside0.mk (Kd.R_drew HO284.out)
       have n1_ := Aside0.mk (Kd.R_drew HO302.out)
       have n2_ := Aside0.mk (blk_drew BK286.out)
       have n3_ := Aside0.mk (blk_drew BK304.out)
       have n4_ := Aside0.mk (below_drew1 HB.out)
       clear HO284
       clear HO302
       clear BK286
       clear BK304
       clear HB
       have HO284 := n0_
       have HO302 := n1_
       have BK286 := n2_
       have BK304 := n3_
       have HB := n4_
       clear n0_ n1_ n2_ n3_ n4_
       refine start_ (n := 21) (S := fun w' => w'.cell? ⟨gb286, 0, none⟩ = some (.int .i64 t279) ∧ w'.cell? ⟨gb286, 1, none⟩ = some (.int .i64 t280) ∧ w'.cell? ⟨gb286, 2, none⟩ = some (.int .i64 t281) ∧ w'.cell? ⟨gb286, 3, none⟩ = some (.slice Ao58 t282.length co58)) (ds := []) #[false, false, false, false, false, false, false, false, false, false, false, false, false, false, false, false, false, false, false, false, false] (by kernel_rfl) rfl rfl ⟨(blk_cell BK286.out 0).trans rfl, (blk_cell BK286.out 1).trans rfl, (blk_cell BK286.out 2).trans rfl, (blk_cell BK286.out 3).trans rfl⟩ (fun hHeld => ?_); refine with_tabW celluloidlaw11_PixelAgain.tab8 celluloidlaw11_PixelAgain.bits8 (fun HT_ HW_ => ?_)
       generalize w65.drew = w66 at HO284 HO302 BK286 BK304 HB hHeld ⊢
       refine take_ (i := 0) (N := some 37) (v := ?_) (a' := ?_) (tk 1 20) rfl rfl (take_ofW HT_.out HW_.out (by kernel_rfl)) (fun _ _ _ h => h) (Or.inl ⟨by rfl, ?_⟩) hHeld ?_ ?_
       rotate_left
       ·rintro w' ⟨s0, s1, s2, s3⟩
        go_simp
        with_reducible rfl
       rotate_left
       ·simp only [Act.put, List.setIfInBounds_toArray, List.set_cons_zero, List.set_cons_succ, i64_w, i32_w]
        rfl
       refine one_ (i := 1) (N := some 38) (tk 2 19) rfl rfl (one_of HT_.out (by kernel_rfl)) (by decide) (fun K hK => ?_)
       refine goes_ Try.func53 (by kernel_rfl) rfl #[.agg #[.int .i64 t279, .int .i64 t280, .int .i64 t281, .slice Ao58 t282.length co58]] (by rfl) rfl rfl (by (try simp only [List.map_toArray, List.map_cons, List.map_nil]); first | done | rfl | (simp only [List.length_drop, List.length_take]; rfl)) ?_
       with_reducible refine (pixel_Right.calls k t279 t280 t281 _ _ t282 true _ ?side1 ?side2 A9.out).mono ?_
       (case side1 => repeat (first | exact (Kd.R_reads' HO284.out).2.2 | (with_reducible refine Kd.C_alloc ?_ _) | (with_reducible refine Kd.C_drewN ?_ _) | (with_reducible refine Kd.C_drew ?_)))
       (case side2 => exact (Kd.R_reads' HO284.out).2.1)
       rintro e w67 ⟨rfl, hb⟩
       refine ⟨_, rfl, ?_⟩
       have n0_ := rk HO284 hb
       have n1_ := rk HO302 hb
       have n2_ := bb BK286 hb
       have n3_ := bb BK304 hb
       have n4_ := hs HB hb
       clear HO284
       clear HO302
       clear BK286
       clear BK304
       clear HB
       have HO284 := n0_
       have HO302 := n1_
       have BK286 := n2_
       have BK304 := n3_
       have HB := n4_
       clear n0_ n1_ n2_ n3_ n4_
       (try clear hb)
       (try clear hb2)
       (try clear hk)
       (try clear hi)
       refine hK.out _ _ ⟨(blk_cell BK286.out 0).trans rfl, (blk_cell BK286.out 1).trans rfl, (blk_cell BK286.out 2).trans rfl, (blk_cell BK286.out 3).trans rfl⟩ (fun hHeld => ?_)
       clear hK K
       refine norm_ (a' := ?_) ?_ ?_
       rotate_left
       ·show Act.put _ (some 38) _ = _
        simp only [Act.put, List.setIfInBounds_toArray, List.set_cons_zero, List.set_cons_succ, i64_w, i32_w]
        rfl
       refine pureQ 2 (some 39) (tk 3 18) (any_of HT_.out (by kernel_rfl)) ?_
       refine pureQ 3 (some 40) (tk 4 17) (any_of HT_.out (by kernel_rfl)) ?_
       refine pureQ 4 (some 41) (tk 5 16) (any_of HT_.out (by kernel_rfl)) ?_
       refine pureQ 5 (some 42) (tk 6 15) (any_of HT_.out (by kernel_rfl)) ?_
       refine pureQ 6 (some 43) (tk 7 14) (any_of HT_.out (by kernel_rfl)) ?_
       refine pureQ 7 (some 44) (tk 8 13) (any_of HT_.out (by kernel_rfl)) ?_
       refine pureQ 8 (some 45) (tk 9 12) (any_of HT_.out (by kernel_rfl)) ?_
       refine pureQ 9 (some 46) (tk 10 11) (any_of HT_.out (by kernel_rfl)) ?_
       refine pureQ 10 (some 47) (tk 11 10) (any_of HT_.out (by kernel_rfl)) ?_
       refine pureU 11 (some 48) (tk 12 9) (any_of HT_.out (by kernel_rfl)) ?_
       refine pureU 12 (some 49) (tk 13 8) (any_of HT_.out (by kernel_rfl)) ?_
       refine pureU 13 (some 50) (tk 14 7) (any_of HT_.out (by kernel_rfl)) ?_
       refine pureU 14 (some 51) (tk 15 6) (any_of HT_.out (by kernel_rfl)) ?_
       refine pureU 15 (some 52) (tk 16 5) (any_of HT_.out (by kernel_rfl)) ?_
       refine pureQ 16 (some 53) (tk 17 4) (any_of HT_.out (by kernel_rfl)) ?_
       refine pureQ 17 (some 54) (tk 18 3) (any_of HT_.out (by kernel_rfl)) ?_
       refine pureU 18 (some 55) (tk 19 2) (any_of HT_.out (by kernel_rfl)) ?_
       refine pureQ 19 (some 56) (tk 20 1) (any_of HT_.out (by kernel_rfl)) ?_
       refine pureQ 20 (some 2) (tk 21 0) (any_of HT_.out (by kernel_rfl)) ?_
       refine done_ (done_of HT_.out (by kernel_rfl)) ?_
       try go_wp2
       go_ret
       exact ⟨by first | rfl | (simp [errW_none, errW_some] <;> rfl) | (simp [*, errW_none, errW_some] <;> rfl), hn HB⟩
    ·rw [if_neg c11] at H
     have c11b0 : (t296 == 0) = false := beq_eq_false_iff_ne.mpr c11
     have c11b1 : (t296 != 0) = true := bne_iff_ne.mpr c11
     first
     |exact absurd (Option.some.inj H) (by rw [hr_.out]; decide)
     |obtain rfl := Option.some.inj H
      go_enter Try.func21, Try.ntmps21
      try go_wp2_with (first | ((with_reducible refine gate_callee (f := 54) rfl ?_); refine goesQ (some 15) Try.func54 #[.string a0] ?_; (with_reducible refine (pixel_Take.calls k a0 t279 t280 t281 t282 t285 _ A5.out).mono ?_); rintro e w68 ⟨v283, rfl, ho0, hb⟩; refine ⟨_, rfl, ?_⟩; have n0_ := Aside0.mk (Kd.R_lower ho0 (below_size (hn HB))); have n1_ := hs HB hb; clear HB; have HO284 := n0_; have HB := n1_; clear n0_ n1_; (try clear hb); (try clear ho0)) | ((with_reducible refine gate_dst (N := 3) rfl ?_); refine boxQ 3 #[.int .i64 0, .int .i64 0, .int .i64 0, .slice none 0 0] 76 ?_; intro gb286 hg w69 hbox hb; have n0_ := rk HO284 hb; have n1_ := hs HB hb; have n2_ := Aside0.mk (hbox); have n3_ := gs HB hg; have n4_ := gs HB hg; clear HO284; clear HB; have HO284 := n0_; have HB := n1_; have BK286 := n2_; have GW286 := n3_; have GE286 := n4_; clear n0_ n1_ n2_ n3_ n4_; clear hb hbox hg; obtain ⟨hcz70_0, hcz70_1, hcz70_2, hcz70_3⟩ := cc4 BK286; obtain ⟨hfz70_0, hfz70_1, hfz70_2, hfz70_3⟩ := ff4 BK286; obtain ⟨Ao71, co71, eo71⟩ := Kd.R_slice HO284.out; subst eo71) | ((with_reducible refine gate_callee (f := 50) rfl ?_); refine goesQ (some 29) Try.func50 #[.agg #[.int .i64 t279, .int .i64 t280, .int .i64 t281, .slice Ao71 t282.length co71]] ?_; (with_reducible refine (pixel_Put.calls k t279 t280 t281 _ _ t282 t295 t296 _ ?side1 ?side2 A7.out).mono ?_); (case side1 => refine (Kd.R_reads' (e := 89) (base := w.heap.size) (ok := fun k_ => True) (n := t282.length) (c := co71) ?_).2.2; exact (by (with_reducible repeat (first | apply Kd.R_alloc | apply Kd.R_drewN | apply Kd.R_drew)); exact (Kd.R_mono (Kd.R_far (p := ⟨gb286, 3, none⟩) (Kd.R_far (p := ⟨gb286, 2, none⟩) (Kd.R_far (p := ⟨gb286, 1, none⟩) (Kd.R_far (p := ⟨gb286, 0, none⟩) (Kd.R_types HO284.out BK286.out (by decide)) (fun _ hk => hk.2) (.int .i64 t279)) (fun _ hk => hk.2) (.int .i64 t280)) (fun _ hk => hk.2) (.int .i64 t281)) (fun _ hk => hk.2) (.slice Ao71 t282.length co71)) (fun _ h_ => h_.1)))); (case side2 => exact (Kd.R_reads' HO284.out).2.1); rintro e w72 ⟨rfl, hb⟩; refine ⟨_, rfl, ?_⟩; have n0_ := Aside0.mk (Kd.R_below (by (with_reducible repeat (first | apply Kd.R_alloc | apply Kd.R_drewN | apply Kd.R_drew)); exact (Kd.R_mono (Kd.R_far (p := ⟨gb286, 3, none⟩) (Kd.R_far (p := ⟨gb286, 2, none⟩) (Kd.R_far (p := ⟨gb286, 1, none⟩) (Kd.R_far (p := ⟨gb286, 0, none⟩) (Kd.R_types HO284.out BK286.out (by decide)) (fun _ hk => hk.2) (.int .i64 t279)) (fun _ hk => hk.2) (.int .i64 t280)) (fun _ hk => hk.2) (.int .i64 t281)) (fun _ hk => hk.2) (.slice Ao71 t282.length co71)) (fun _ h_ => h_.1))) hb); have n1_ := bp #[.int .i64 t279, .int .i64 t280, .int .i64 t281, .slice Ao71 t282.length co71] BK286 hb; have n2_ := hs HB hb; clear HO284; clear BK286; clear HB; have HO284 := n0_; have BK286 := n1_; have HB := n2_; clear n0_ n1_ n2_; (try clear hb)) | ((with_reducible refine gate_callee (f := 54) rfl ?_); refine goesQ (some 34) Try.func54 #[.string t295] ?_; (with_reducible refine (pixel_Take.calls k t295 t297 t298 t299 t300 t303 _ A8.out).mono ?_); rintro e w73 ⟨v301, rfl, ho0, hb⟩; refine ⟨_, rfl, ?_⟩; have n0_ := Aside0.mk (Kd.R_elder' (by (with_reducible repeat (first | apply Kd.R_alloc | apply Kd.R_drewN | apply Kd.R_drew)); exact HO284.out) (Kd.R_base ho0) hb); have n1_ := Aside0.mk (Kd.R_lower (Kd.R_new' ho0 (Kd.R_lt (by (with_reducible repeat (first | apply Kd.R_alloc | apply Kd.R_drewN | apply Kd.R_drew)); exact HO284.out))) (below_size (hn HB))); have n2_ := bb BK286 hb; have n3_ := hs HB hb; clear HO284; clear BK286; clear HB; have HO284 := n0_; have HO302 := n1_; have BK286 := n2_; have HB := n3_; clear n0_ n1_ n2_ n3_; (try clear hb); (try clear ho0)) | ((with_reducible refine gate_dst (N := 7) rfl ?_); refine boxQ 7 #[.int .i64 0, .int .i64 0, .int .i64 0, .slice none 0 0] 76 ?_; intro gb304 hg w74 hbox hb; have n0_ := rk HO284 hb; have n1_ := rk HO302 hb; have n2_ := bb BK286 hb; have n3_ := hs HB hb; have n4_ := Aside0.mk (hbox); have n5_ := gs HB hg; have n6_ := gs HB hg; have n7_ := nl BK286 hg; have n8_ := ng BK286 hg; clear HO284; clear HO302; clear BK286; clear HB; have HO284 := n0_; have HO302 := n1_; have BK286 := n2_; have HB := n3_; have BK304 := n4_; have GW304 := n5_; have GE304 := n6_; have NB286_304 := n7_; have NB304_286 := n8_; clear n0_ n1_ n2_ n3_ n4_ n5_ n6_ n7_ n8_; clear hb hbox hg; have hnb75 := NB304_286.out; have hnc75 := NB286_304.out; obtain ⟨hcz76_0, hcz76_1, hcz76_2, hcz76_3⟩ := cc4 BK304; obtain ⟨hfz76_0, hfz76_1, hfz76_2, hfz76_3⟩ := ff4 BK304; obtain ⟨Ao77, co77, eo77⟩ := Kd.R_slice HO302.out; subst eo77))
      have n0_ : Aside0 (Kd.R k89 89 ((((w74.setCell ⟨gb304, 0, none⟩ (.int .i64 t297)).setCell ⟨gb304, 1, none⟩ (.int .i64 t298)).setCell ⟨gb304, 2, none⟩ (.int .i64 t299)).setCell ⟨gb304, 3, none⟩ (.slice Ao77 t300.length co77)) w.heap.size (fun k_ => some k_ ≠ (.slice Ao77 t300.length co77 : Value).ownBlock) (.slice Ao71 t282.length co71) t282) := ⟨by (with_reducible repeat (first | apply Kd.R_alloc | apply Kd.R_drewN | apply Kd.R_drew)); exact Kd.R_mono (Kd.R_far (p := ⟨gb304, 3, none⟩) (Kd.R_far (p := ⟨gb304, 2, none⟩) (Kd.R_far (p := ⟨gb304, 1, none⟩) (Kd.R_far (p := ⟨gb304, 0, none⟩) (Kd.R_types HO284.out BK304.out (by decide)) (fun _ hk => hk.2) (.int .i64 t297)) (fun _ hk => hk.2) (.int .i64 t298)) (fun _ hk => hk.2) (.int .i64 t299)) (fun _ hk => hk.2) (.slice Ao77 t300.length co77)) (fun _ hk => hk.1.2)⟩
      have n1_ : Aside0 (Kd.R k89 89 ((((w74.setCell ⟨gb304, 0, none⟩ (.int .i64 t297)).setCell ⟨gb304, 1, none⟩ (.int .i64 t298)).setCell ⟨gb304, 2, none⟩ (.int .i64 t299)).setCell ⟨gb304, 3, none⟩ (.slice Ao77 t300.length co77)) w.heap.size (fun k_ => some k_ ≠ (.slice Ao71 t282.length co71 : Value).ownBlock) (.slice Ao77 t300.length co77) t300) := ⟨by (with_reducible repeat (first | apply Kd.R_alloc | apply Kd.R_drewN | apply Kd.R_drew)); exact Kd.R_mono (Kd.R_far (p := ⟨gb304, 3, none⟩) (Kd.R_far (p := ⟨gb304, 2, none⟩) (Kd.R_far (p := ⟨gb304, 1, none⟩) (Kd.R_far (p := ⟨gb304, 0, none⟩) (Kd.R_types HO302.out BK304.out (by decide)) (fun _ hk => hk.2) (.int .i64 t297)) (fun _ hk => hk.2) (.int .i64 t298)) (fun _ hk => hk.2) (.int .i64 t299)) (fun _ hk => hk.2) (.slice Ao77 t300.length co77)) (fun _ hk => hk.1.2)⟩
      have n2_ : Aside0 (((((w74.setCell ⟨gb304, 0, none⟩ (.int .i64 t297)).setCell ⟨gb304, 1, none⟩ (.int .i64 t298)).setCell ⟨gb304, 2, none⟩ (.int .i64 t299)).setCell ⟨gb304, 3, none⟩ (.slice Ao77 t300.length co77)).heap[gb286]? = some (.cells #[.int .i64 t279, .int .i64 t280, .int .i64 t281, .slice Ao71 t282.length co71] 76 (0, 0))) := ⟨by (with_reducible repeat (first | refine blk_drewN ?_ _ | refine blk_drew ?_ | refine blk_alloc ?_ _)); refine blk_far ?_ NB286_304.out _; (with_reducible repeat (first | refine blk_drewN ?_ _ | refine blk_drew ?_ | refine blk_alloc ?_ _)); refine blk_far ?_ NB286_304.out _; (with_reducible repeat (first | refine blk_drewN ?_ _ | refine blk_drew ?_ | refine blk_alloc ?_ _)); refine blk_far ?_ NB286_304.out _; (with_reducible repeat (first | refine blk_drewN ?_ _ | refine blk_drew ?_ | refine blk_alloc ?_ _)); refine blk_far ?_ NB286_304.out _; (with_reducible repeat (first | refine blk_drewN ?_ _ | refine blk_drew ?_ | refine blk_alloc ?_ _)); exact BK286.out⟩
      have n3_ : Aside0 (((((w74.setCell ⟨gb304, 0, none⟩ (.int .i64 t297)).setCell ⟨gb304, 1, none⟩ (.int .i64 t298)).setCell ⟨gb304, 2, none⟩ (.int .i64 t299)).setCell ⟨gb304, 3, none⟩ (.slice Ao77 t300.length co77)).heap[gb304]? = some (.cells #[.int .i64 t297, .int .i64 t298, .int .i64 t299, .slice Ao77 t300.length co77] 76 (0, 0))) := ⟨by (with_reducible repeat (first | refine blk_drewN ?_ _ | refine blk_drew ?_ | refine blk_alloc ?_ _)); refine blk_put (cs := #[.int .i64 t297, .int .i64 t298, .int .i64 t299, .slice none 0 0]) ?_ 3 _ rfl; (with_reducible repeat (first | refine blk_drewN ?_ _ | refine blk_drew ?_ | refine blk_alloc ?_ _)); refine blk_put (cs := #[.int .i64 t297, .int .i64 t298, .int .i64 0, .slice none 0 0]) ?_ 2 _ rfl; (with_reducible repeat (first | refine blk_drewN ?_ _ | refine blk_drew ?_ | refine blk_alloc ?_ _)); refine blk_put (cs := #[.int .i64 t297, .int .i64 0, .int .i64 0, .slice none 0 0]) ?_ 1 _ rfl; (with_reducible repeat (first | refine blk_drewN ?_ _ | refine blk_drew ?_ | refine blk_alloc ?_ _)); refine blk_put (cs := #[.int .i64 0, .int .i64 0, .int .i64 0, .slice none 0 0]) ?_ 0 _ rfl; (with_reducible repeat (first | refine blk_drewN ?_ _ | refine blk_drew ?_ | refine blk_alloc ?_ _)); exact BK304.out⟩
      have n4_ : Aside0 (Below w.heap.size w ((((w74.setCell ⟨gb304, 0, none⟩ (.int .i64 t297)).setCell ⟨gb304, 1, none⟩ (.int .i64 t298)).setCell ⟨gb304, 2, none⟩ (.int .i64 t299)).setCell ⟨gb304, 3, none⟩ (.slice Ao77 t300.length co77))) := ⟨hn HB⟩
      (try clear HO284)
      (try clear HO302)
      (try clear BK286)
      (try clear BK304)
      (try clear HB)
      generalize ((((w74.setCell ⟨gb304, 0, none⟩ (.int .i64 t297)).setCell ⟨gb304, 1, none⟩ (.int .i64 t298)).setCell ⟨gb304, 2, none⟩ (.int .i64 t299)).setCell ⟨gb304, 3, none⟩ (.slice Ao77 t300.length co77)) = w78 at n0_ n1_ n2_ n3_ n4_ ⊢
      have HO284 := n0_
      have HO302 := n1_
      have BK286 := n2_
      have BK304 := n3_
      have HB := n4_
      clear n0_ n1_ n2_ n3_ n4_
      have n0_ := Aside0.mk (Kd.R_drew HO284.out)
      have n1_ := Aside0.mk (Kd.R_drew HO302.out)
      have n2_ := Aside0.mk (blk_drew BK286.out)
      have n3_ := Aside0.mk (blk_drew BK304.out)
      have n4_ := Aside0.mk (below_drew1 HB.out)
      clear HO284
      clear HO302
      clear BK286
      clear BK304
      clear HB
      have HO284 := n0_
      have HO302 := n1_
      have BK286 := n2_
      have BK304 := n3_
      have HB := n4_
      clear n0_ n1_ n2_ n3_ n4_
      refine start_ (n := 21) (S := fun w' => w'.cell? ⟨gb286, 0, none⟩ = some (.int .i64 t279) ∧ w'.cell? ⟨gb286, 1, none⟩ = some (.int .i64 t280) ∧ w'.cell? ⟨gb286, 2, none⟩ = some (.int .i64 t281) ∧ w'.cell? ⟨gb286, 3, none⟩ = some (.slice Ao71 t282.length co71)) (ds := []) #[false, false, false, false, false, false, false, false, false, false, false, false, false, false, false, false, false, false, false, false, false] (by kernel_rfl) rfl rfl ⟨(blk_cell BK286.out 0).trans rfl, (blk_cell BK286.out 1).trans rfl, (blk_cell BK286.out 2).trans rfl, (blk_cell BK286.out 3).trans rfl⟩ (fun hHeld => ?_); refine with_tabW celluloidlaw11_PixelAgain.tab8 celluloidlaw11_PixelAgain.bits8 (fun HT_ HW_ => ?_)
      generalize w78.drew = w79 at HO284 HO302 BK286 BK304 HB hHeld ⊢
      refine take_ (i := 0) (N := some 37) (v := ?_) (a' := ?_) (tk 1 20) rfl rfl (take_ofW HT_.out HW_.out (by kernel_rfl)) (fun _ _ _ h => h) (Or.inl ⟨by rfl, ?_⟩) hHeld ?_ ?_
      rotate_left
      ·rintro w' ⟨s0, s1, s2, s3⟩
       go_simp
       with_reducible rfl
      rotate_left
      ·simp only [Act.put, List.setIfInBounds_toArray, List.set_cons_zero, List.set_cons_succ, i64_w, i32_w]
       rfl
      refine one_ (i := 1) (N := some 38) (tk 2 19) rfl rfl (one_of HT_.out (by kernel_rfl)) (by decide) (fun K hK => ?_)
      refine goes_ Try.func53 (by kernel_rfl) rfl #[.agg #[.int .i64 t279, .int .i64 t280, .int .i64 t281, .slice Ao71 t282.length co71]] (by rfl) rfl rfl (by (try simp only [List.map_toArray, List.map_cons, List.map_nil]); first | done | rfl | (simp only [List.length_drop, List.length_take]; rfl)) ?_
      with_reducible refine (pixel_Right.calls k t279 t280 t281 _ _ t282 true _ ?side1 ?side2 A9.out).mono ?_
      (case side1 => repeat (first | exact (Kd.R_reads' HO284.out).2.2 | (with_reducible refine Kd.C_alloc ?_ _) | (with_reducible refine Kd.C_drewN ?_ _) | (with_reducible refine Kd.C_drew ?_)))
      (case side2 => exact (Kd.R_reads' HO284.out).2.1)
      rintro e w80 ⟨rfl, hb⟩
      refine ⟨_, rfl, ?_⟩
      have n0_ := rk HO284 hb
      have n1_ := rk HO302 hb
      have n2_ := bb BK286 hb
      have n3_ := bb BK304 hb
      have n4_ := hs HB hb
      clear HO284
      clear HO302
      clear BK286
      clear BK304
      clear HB
      have HO284 := n0_
      have HO302 := n1_
      have BK286 := n2_
      have BK304 := n3_
      have HB := n4_
      clear n0_ n1_ n2_ n3_ n4_
      (try clear hb)
      (try clear hb2)
      (try clear hk)
      (try clear hi)
      refine hK.out _ _ ⟨(blk_cell BK286.out 0).trans rfl, (blk_cell BK286.out 1).trans rfl, (blk_cell BK286.out 2).trans rfl, (blk_cell BK286.out 3).trans rfl⟩ (fun hHeld => ?_)
      clear hK K
      refine norm_ (a' := ?_) ?_ ?_
      rotate_left
      ·show Act.put _ (some 38) _ = _
       simp only [Act.put, List.setIfInBounds_toArray, List.set_cons_zero, List.set_cons_succ, i64_w, i32_w]
       rfl
      refine pureQ 2 (some 39) (tk 3 18) (any_of HT_.out (by kernel_rfl)) ?_
      refine pureQ 3 (some 40) (tk 4 17) (any_of HT_.out (by kernel_rfl)) ?_
      refine pureQ 4 (some 41) (tk 5 16) (any_of HT_.out (by kernel_rfl)) ?_
      refine pureQ 5 (some 42) (tk 6 15) (any_of HT_.out (by kernel_rfl)) ?_
      refine pureQ 6 (some 43) (tk 7 14) (any_of HT_.out (by kernel_rfl)) ?_
      refine pureU 7 (some 44) (tk 8 13) (any_of HT_.out (by kernel_rfl)) ?_
      refine pureU 8 (some 45) (tk 9 12) (any_of HT_.out (by kernel_rfl)) ?_
      refine pureQ 9 (some 46) (tk 10 11) (any_of HT_.out (by kernel_rfl)) ?_
      refine pureQ 10 (some 47) (tk 11 10) (any_of HT_.out (by kernel_rfl)) ?_
      refine pureU 11 (some 48) (tk 12 9) (any_of HT_.out (by kernel_rfl)) ?_
      refine pureU 12 (some 49) (tk 13 8) (any_of HT_.out (by kernel_rfl)) ?_
      refine pureU 13 (some 50) (tk 14 7) (any_of HT_.out (by kernel_rfl)) ?_
      refine pureU 14 (some 51) (tk 15 6) (any_of HT_.out (by kernel_rfl)) ?_
      refine pureU 15 (some 52) (tk 16 5) (any_of HT_.out (by kernel_rfl)) ?_
      refine pureQ 16 (some 53) (tk 17 4) (any_of HT_.out (by kernel_rfl)) ?_
      refine pureQ 17 (some 54) (tk 18 3) (any_of HT_.out (by kernel_rfl)) ?_
      refine pureU 18 (some 55) (tk 19 2) (any_of HT_.out (by kernel_rfl)) ?_
      refine pureQ 19 (some 56) (tk 20 1) (any_of HT_.out (by kernel_rfl)) ?_
      refine pureQ 20 (some 2) (tk 21 0) (any_of HT_.out (by kernel_rfl)) ?_
      refine done_ (done_of HT_.out (by kernel_rfl)) ?_
      try go_wp2
      go_ret
      exact ⟨by first | rfl | (simp [errW_none, errW_some] <;> rfl) | (simp [*, errW_none, errW_some] <;> rfl), hn HB⟩
   ·replace c10 := Bool.eq_false_iff.mpr c10
    subst c10
    have H1 : (some false) = some r := by rw [if_neg (show ¬ (false = true) by decide)] at H; exact H
    clear H
    have H := H1
    clear H1
    first
    |exact absurd (Option.some.inj H) (by rw [hr_.out]; decide)
    |obtain rfl := Option.some.inj H
     go_enter Try.func21, Try.ntmps21
     try go_wp2_with (first | ((with_reducible refine gate_callee (f := 54) rfl ?_); refine goesQ (some 15) Try.func54 #[.string a0] ?_; (with_reducible refine (pixel_Take.calls k a0 t279 t280 t281 t282 t285 _ A5.out).mono ?_); rintro e w81 ⟨v283, rfl, ho0, hb⟩; refine ⟨_, rfl, ?_⟩; have n0_ := Aside0.mk (Kd.R_lower ho0 (below_size (hn HB))); have n1_ := hs HB hb; clear HB; have HO284 := n0_; have HB := n1_; clear n0_ n1_; (try clear hb); (try clear ho0)) | ((with_reducible refine gate_dst (N := 3) rfl ?_); refine boxQ 3 #[.int .i64 0, .int .i64 0, .int .i64 0, .slice none 0 0] 76 ?_; intro gb286 hg w82 hbox hb; have n0_ := rk HO284 hb; have n1_ := hs HB hb; have n2_ := Aside0.mk (hbox); have n3_ := gs HB hg; have n4_ := gs HB hg; clear HO284; clear HB; have HO284 := n0_; have HB := n1_; have BK286 := n2_; have GW286 := n3_; have GE286 := n4_; clear n0_ n1_ n2_ n3_ n4_; clear hb hbox hg; obtain ⟨hcz83_0, hcz83_1, hcz83_2, hcz83_3⟩ := cc4 BK286; obtain ⟨hfz83_0, hfz83_1, hfz83_2, hfz83_3⟩ := ff4 BK286; obtain ⟨Ao84, co84, eo84⟩ := Kd.R_slice HO284.out; subst eo84) | ((with_reducible refine gate_callee (f := 50) rfl ?_); refine goesQ (some 29) Try.func50 #[.agg #[.int .i64 t279, .int .i64 t280, .int .i64 t281, .slice Ao84 t282.length co84]] ?_; (with_reducible refine (pixel_Put.calls k t279 t280 t281 _ _ t282 t295 t296 _ ?side1 ?side2 A7.out).mono ?_); (case side1 => refine (Kd.R_reads' (e := 89) (base := w.heap.size) (ok := fun k_ => True) (n := t282.length) (c := co84) ?_).2.2; exact (by (with_reducible repeat (first | apply Kd.R_alloc | apply Kd.R_drewN | apply Kd.R_drew)); exact (Kd.R_mono (Kd.R_far (p := ⟨gb286, 3, none⟩) (Kd.R_far (p := ⟨gb286, 2, none⟩) (Kd.R_far (p := ⟨gb286, 1, none⟩) (Kd.R_far (p := ⟨gb286, 0, none⟩) (Kd.R_types HO284.out BK286.out (by decide)) (fun _ hk => hk.2) (.int .i64 t279)) (fun _ hk => hk.2) (.int .i64 t280)) (fun _ hk => hk.2) (.int .i64 t281)) (fun _ hk => hk.2) (.slice Ao84 t282.length co84)) (fun _ h_ => h_.1)))); (case side2 => exact (Kd.R_reads' HO284.out).2.1); rintro e w85 ⟨rfl, hb⟩; refine ⟨_, rfl, ?_⟩; have n0_ := Aside0.mk (Kd.R_below (by (with_reducible repeat (first | apply Kd.R_alloc | apply Kd.R_drewN | apply Kd.R_drew)); exact (Kd.R_mono (Kd.R_far (p := ⟨gb286, 3, none⟩) (Kd.R_far (p := ⟨gb286, 2, none⟩) (Kd.R_far (p := ⟨gb286, 1, none⟩) (Kd.R_far (p := ⟨gb286, 0, none⟩) (Kd.R_types HO284.out BK286.out (by decide)) (fun _ hk => hk.2) (.int .i64 t279)) (fun _ hk => hk.2) (.int .i64 t280)) (fun _ hk => hk.2) (.int .i64 t281)) (fun _ hk => hk.2) (.slice Ao84 t282.length co84)) (fun _ h_ => h_.1))) hb); have n1_ := bp #[.int .i64 t279, .int .i64 t280, .int .i64 t281, .slice Ao84 t282.length co84] BK286 hb; have n2_ := hs HB hb; clear HO284; clear BK286; clear HB; have HO284 := n0_; have BK286 := n1_; have HB := n2_; clear n0_ n1_ n2_; (try clear hb)) | ((with_reducible refine gate_callee (f := 54) rfl ?_); refine goesQ (some 34) Try.func54 #[.string t295] ?_; (with_reducible refine (pixel_Take.calls k t295 t297 t298 t299 t300 t303 _ A8.out).mono ?_); rintro e w86 ⟨v301, rfl, ho0, hb⟩; refine ⟨_, rfl, ?_⟩; have n0_ := Aside0.mk (Kd.R_elder' (by (with_reducible repeat (first | apply Kd.R_alloc | apply Kd.R_drewN | apply Kd.R_drew)); exact HO284.out) (Kd.R_base ho0) hb); have n1_ := Aside0.mk (Kd.R_lower (Kd.R_new' ho0 (Kd.R_lt (by (with_reducible repeat (first | apply Kd.R_alloc | apply Kd.R_drewN | apply Kd.R_drew)); exact HO284.out))) (below_size (hn HB))); have n2_ := bb BK286 hb; have n3_ := hs HB hb; clear HO284; clear BK286; clear HB; have HO284 := n0_; have HO302 := n1_; have BK286 := n2_; have HB := n3_; clear n0_ n1_ n2_ n3_; (try clear hb); (try clear ho0)) | ((with_reducible refine gate_dst (N := 7) rfl ?_); refine boxQ 7 #[.int .i64 0, .int .i64 0, .int .i64 0, .slice none 0 0] 76 ?_; intro gb304 hg w87 hbox hb; have n0_ := rk HO284 hb; have n1_ := rk HO302 hb; have n2_ := bb BK286 hb; have n3_ := hs HB hb; have n4_ := Aside0.mk (hbox); have n5_ := gs HB hg; have n6_ := gs HB hg; have n7_ := nl BK286 hg; have n8_ := ng BK286 hg; clear HO284; clear HO302; clear BK286; clear HB; have HO284 := n0_; have HO302 := n1_; have BK286 := n2_; have HB := n3_; have BK304 := n4_; have GW304 := n5_; have GE304 := n6_; have NB286_304 := n7_; have NB304_286 := n8_; clear n0_ n1_ n2_ n3_ n4_ n5_ n6_ n7_ n8_; clear hb hbox hg; have hnb88 := NB304_286.out; have hnc88 := NB286_304.out; obtain ⟨hcz89_0, hcz89_1, hcz89_2, hcz89_3⟩ := cc4 BK304; obtain ⟨hfz89_0, hfz89_1, hfz89_2, hfz89_3⟩ := ff4 BK304; obtain ⟨Ao90, co90, eo90⟩ := Kd.R_slice HO302.out; subst eo90))
     have n0_ : Aside0 (Kd.R k89 89 ((((w87.setCell ⟨gb304, 0, none⟩ (.int .i64 t297)).setCell ⟨gb304, 1, none⟩ (.int .i64 t298)).setCell ⟨gb304, 2, none⟩ (.int .i64 t299)).setCell ⟨gb304, 3, none⟩ (.slice Ao90 t300.length co90)) w.heap.size (fun k_ => some k_ ≠ (.slice Ao90 t300.length co90 : Value).ownBlock) (.slice Ao84 t282.length co84) t282) := ⟨by (with_reducible repeat (first | apply Kd.R_alloc | apply Kd.R_drewN | apply Kd.R_drew)); exact Kd.R_mono (Kd.R_far (p := ⟨gb304, 3, none⟩) (Kd.R_far (p := ⟨gb304, 2, none⟩) (Kd.R_far (p := ⟨gb304, 1, none⟩) (Kd.R_far (p := ⟨gb304, 0, none⟩) (Kd.R_types HO284.out BK304.out (by decide)) (fun _ hk => hk.2) (.int .i64 t297)) (fun _ hk => hk.2) (.int .i64 t298)) (fun _ hk => hk.2) (.int .i64 t299)) (fun _ hk => hk.2) (.slice Ao90 t300.length co90)) (fun _ hk => hk.1.2)⟩
     have n1_ : Aside0 (Kd.R k89 89 ((((w87.setCell ⟨gb304, 0, none⟩ (.int .i64 t297)).setCell ⟨gb304, 1, none⟩ (.int .i64 t298)).setCell ⟨gb304, 2, none⟩ (.int .i64 t299)).setCell ⟨gb304, 3, none⟩ (.slice Ao90 t300.length co90)) w.heap.size (fun k_ => some k_ ≠ (.slice Ao84 t282.length co84 : Value).ownBlock) (.slice Ao90 t300.length co90) t300) := ⟨by (with_reducible repeat (first | apply Kd.R_alloc | apply Kd.R_drewN | apply Kd.R_drew)); exact Kd.R_mono (Kd.R_far (p := ⟨gb304, 3, none⟩) (Kd.R_far (p := ⟨gb304, 2, none⟩) (Kd.R_far (p := ⟨gb304, 1, none⟩) (Kd.R_far (p := ⟨gb304, 0, none⟩) (Kd.R_types HO302.out BK304.out (by decide)) (fun _ hk => hk.2) (.int .i64 t297)) (fun _ hk => hk.2) (.int .i64 t298)) (fun _ hk => hk.2) (.int .i64 t299)) (fun _ hk => hk.2) (.slice Ao90 t300.length co90)) (fun _ hk => hk.1.2)⟩
     have n2_ : Aside0 (((((w87.setCell ⟨gb304, 0, none⟩ (.int .i64 t297)).setCell ⟨gb304, 1, none⟩ (.int .i64 t298)).setCell ⟨gb304, 2, none⟩ (.int .i64 t299)).setCell ⟨gb304, 3, none⟩ (.slice Ao90 t300.length co90)).heap[gb286]? = some (.cells #[.int .i64 t279, .int .i64 t280, .int .i64 t281, .slice Ao84 t282.length co84] 76 (0, 0))) := ⟨by (with_reducible repeat (first | refine blk_drewN ?_ _ | refine blk_drew ?_ | refine blk_alloc ?_ _)); refine blk_far ?_ NB286_304.out _; (with_reducible repeat (first | refine blk_drewN ?_ _ | refine blk_drew ?_ | refine blk_alloc ?_ _)); refine blk_far ?_ NB286_304.out _; (with_reducible repeat (first | refine blk_drewN ?_ _ | refine blk_drew ?_ | refine blk_alloc ?_ _)); refine blk_far ?_ NB286_304.out _; (with_reducible repeat (first | refine blk_drewN ?_ _ | refine blk_drew ?_ | refine blk_alloc ?_ _)); refine blk_far ?_ NB286_304.out _; (with_reducible repeat (first | refine blk_drewN ?_ _ | refine blk_drew ?_ | refine blk_alloc ?_ _)); exact BK286.out⟩
     have n3_ : Aside0 (((((w87.setCell ⟨gb304, 0, none⟩ (.int .i64 t297)).setCell ⟨gb304, 1, none⟩ (.int .i64 t298)).setCell ⟨gb304, 2, none⟩ (.int .i64 t299)).setCell ⟨gb304, 3, none⟩ (.slice Ao90 t300.length co90)).heap[gb304]? = some (.cells #[.int .i64 t297, .int .i64 t298, .int .i64 t299, .slice Ao90 t300.length co90] 76 (0, 0))) := ⟨by (with_reducible repeat (first | refine blk_drewN ?_ _ | refine blk_drew ?_ | refine blk_alloc ?_ _)); refine blk_put (cs := #[.int .i64 t297, .int .i64 t298, .int .i64 t299, .slice none 0 0]) ?_ 3 _ rfl; (with_reducible repeat (first | refine blk_drewN ?_ _ | refine blk_drew ?_ | refine blk_alloc ?_ _)); refine blk_put (cs := #[.int .i64 t297, .int .i64 t298, .int .i64 0, .slice none 0 0]) ?_ 2 _ rfl; (with_reducible repeat (first | refine blk_drewN ?_ _ | refine blk_drew ?_ | refine blk_alloc ?_ _)); refine blk_put (cs := #[.int .i64 t297, .int .i64 0, .int .i64 0, .slice none 0 0]) ?_ 1 _ rfl; (with_reducible repeat (first | refine blk_drewN ?_ _ | refine blk_drew ?_ | refine blk_alloc ?_ _)); refine blk_put (cs := #[.int .i64 0, .int .i64 0, .int .i64 0, .slice none 0 0]) ?_ 0 _ rfl; (with_reducible repeat (first | refine blk_drewN ?_ _ | refine blk_drew ?_ | refine blk_alloc ?_ _)); exact BK304.out⟩
     have n4_ : Aside0 (Below w.heap.size w ((((w87.setCell ⟨gb304, 0, none⟩ (.int .i64 t297)).setCell ⟨gb304, 1, none⟩ (.int .i64 t298)).setCell ⟨gb304, 2, none⟩ (.int .i64 t299)).setCell ⟨gb304, 3, none⟩ (.slice Ao90 t300.length co90))) := ⟨hn HB⟩
     (try clear HO284)
     (try clear HO302)
     (try clear BK286)
     (try clear BK304)
     (try clear HB)
     generalize ((((w87.setCell ⟨gb304, 0, none⟩ (.int .i64 t297)).setCell ⟨gb304, 1, none⟩ (.int .i64 t298)).setCell ⟨gb304, 2, none⟩ (.int .i64 t299)).setCell ⟨gb304, 3, none⟩ (.slice Ao90 t300.length co90)) = w91 at n0_ n1_ n2_ n3_ n4_ ⊢
     have HO284 := n0_
     have HO302 := n1_
     have BK286 := n2_
     have BK304 := n3_
     have HB := n4_
     clear n0_ n1_ n2_ n3_ n4_
     have n0_ := Aside0.mk (Kd.R_drew HO284.out)
     have n1_ := Aside0.mk (Kd.R_drew HO302.out)
     have n2_ := Aside0.mk (blk_drew BK286.out)
     have n3_ := Aside0.mk (blk_drew BK304.out)
     have n4_ := Aside0.mk (below_drew1 HB.out)
     clear HO284
     clear HO302
     clear BK286
     clear BK304
     clear HB
     have HO284 := n0_
     have HO302 := n1_
     have BK286 := n2_
     have BK304 := n3_
     have HB := n4_
     clear n0_ n1_ n2_ n3_ n4_
     refine start_ (n := 21) (S := fun w' => w'.cell? ⟨gb286, 0, none⟩ = some (.int .i64 t279) ∧ w'.cell? ⟨gb286, 1, none⟩ = some (.int .i64 t280) ∧ w'.cell? ⟨gb286, 2, none⟩ = some (.int .i64 t281) ∧ w'.cell? ⟨gb286, 3, none⟩ = some (.slice Ao84 t282.length co84)) (ds := []) #[false, false, false, false, false, false, false, false, false, false, false, false, false, false, false, false, false, false, false, false, false] (by kernel_rfl) rfl rfl ⟨(blk_cell BK286.out 0).trans rfl, (blk_cell BK286.out 1).trans rfl, (blk_cell BK286.out 2).trans rfl, (blk_cell BK286.out 3).trans rfl⟩ (fun hHeld => ?_); refine with_tabW celluloidlaw11_PixelAgain.tab8 celluloidlaw11_PixelAgain.bits8 (fun HT_ HW_ => ?_)
     generalize w91.drew = w92 at HO284 HO302 BK286 BK304 HB hHeld ⊢
     refine take_ (i := 0) (N := some 37) (v := ?_) (a' := ?_) (tk 1 20) rfl rfl (take_ofW HT_.out HW_.out (by kernel_rfl)) (fun _ _ _ h => h) (Or.inl ⟨by rfl, ?_⟩) hHeld ?_ ?_
     rotate_left
     ·rintro w' ⟨s0, s1, s2, s3⟩
      go_simp
      with_reducible rfl
     rotate_left
     ·simp only [Act.put, List.setIfInBounds_toArray, List.set_cons_zero, List.set_cons_succ, i64_w, i32_w]
      rfl
     refine one_ (i := 1) (N := some 38) (tk 2 19) rfl rfl (one_of HT_.out (by kernel_rfl)) (by decide) (fun K hK => ?_)
     refine goes_ Try.func53 (by kernel_rfl) rfl #[.agg #[.int .i64 t279, .int .i64 t280, .int .i64 t281, .slice Ao84 t282.length co84]] (by rfl) rfl rfl (by (try simp only [List.map_toArray, List.map_cons, List.map_nil]); first | done | rfl | (simp only [List.length_drop, List.length_take]; rfl)) ?_
     with_reducible refine (pixel_Right.calls k t279 t280 t281 _ _ t282 false _ ?side1 ?side2 A9.out).mono ?_
     (case side1 => repeat (first | exact (Kd.R_reads' HO284.out).2.2 | (with_reducible refine Kd.C_alloc ?_ _) | (with_reducible refine Kd.C_drewN ?_ _) | (with_reducible refine Kd.C_drew ?_)))
     (case side2 => exact (Kd.R_reads' HO284.out).2.1)
     rintro e w93 ⟨rfl, hb⟩
     refine ⟨_, rfl, ?_⟩
     have n0_ := rk HO284 hb
     have n1_ := rk HO302 hb
     have n2_ := bb BK286 hb
     have n3_ := bb BK304 hb
     have n4_ := hs HB hb
     clear HO284
     clear HO302
     clear BK286
     clear BK304
     clear HB
     have HO284 := n0_
     have HO302 := n1_
     have BK286 := n2_
     have BK304 := n3_
     have HB := n4_
     clear n0_ n1_ n2_ n3_ n4_
     (try clear hb)
     (try clear hb2)
     (try clear hk)
     (try clear hi)
     refine hK.out _ _ ⟨(blk_cell BK286.out 0).trans rfl, (blk_cell BK286.out 1).trans rfl, (blk_cell BK286.out 2).trans rfl, (blk_cell BK286.out 3).trans rfl⟩ (fun hHeld => ?_)
     clear hK K
     refine norm_ (a' := ?_) ?_ ?_
     rotate_left
     ·show Act.put _ (some 38) _ = _
      simp only [Act.put, List.setIfInBounds_toArray, List.set_cons_zero, List.set_cons_succ, i64_w, i32_w]
      rfl
     refine pureQ 2 (some 39) (tk 3 18) (any_of HT_.out (by kernel_rfl)) ?_
     refine pureU 3 (some 40) (tk 4 17) (any_of HT_.out (by kernel_rfl)) ?_
     refine pureU 4 (some 41) (tk 5 16) (any_of HT_.out (by kernel_rfl)) ?_
     refine pureQ 5 (some 42) (tk 6 15) (any_of HT_.out (by kernel_rfl)) ?_
     refine pureQ 6 (some 43) (tk 7 14) (any_of HT_.out (by kernel_rfl)) ?_
     refine pureU 7 (some 44) (tk 8 13) (any_of HT_.out (by kernel_rfl)) ?_
     refine pureU 8 (some 45) (tk 9 12) (any_of HT_.out (by kernel_rfl)) ?_
     refine pureQ 9 (some 46) (tk 10 11) (any_of HT_.out (by kernel_rfl)) ?_
     refine pureQ 10 (some 47) (tk 11 10) (any_of HT_.out (by kernel_rfl)) ?_
     refine pureU 11 (some 48) (tk 12 9) (any_of HT_.out (by kernel_rfl)) ?_
     refine pureU 12 (some 49) (tk 13 8) (any_of HT_.out (by kernel_rfl)) ?_
     refine pureU 13 (some 50) (tk 14 7) (any_of HT_.out (by kernel_rfl)) ?_
     refine pureU 14 (some 51) (tk 15 6) (any_of HT_.out (by kernel_rfl)) ?_
     refine pureU 15 (some 52) (tk 16 5) (any_of HT_.out (by kernel_rfl)) ?_
     refine pureQ 16 (some 53) (tk 17 4) (any_of HT_.out (by kernel_rfl)) ?_
     refine pureQ 17 (some 54) (tk 18 3) (any_of HT_.out (by kernel_rfl)) ?_
     refine pureU 18 (some 55) (tk 19 2) (any_of HT_.out (by kernel_rfl)) ?_
     refine pureQ 19 (some 56) (tk 20 1) (any_of HT_.out (by kernel_rfl)) ?_
     refine pureQ 20 (some 2) (tk 21 0) (any_of HT_.out (by kernel_rfl)) ?_
     refine done_ (done_of HT_.out (by kernel_rfl)) ?_
     try go_wp2
     go_ret
     exact ⟨by first | rfl | (simp [errW_none, errW_some] <;> rfl) | (simp [*, errW_none, errW_some] <;> rfl), hn HB⟩
  ·rw [if_neg c6] at H
   have c6b0 : (t285 == 0) = false := beq_eq_false_iff_ne.mpr c6
   have c6b1 : (t285 != 0) = true := bne_iff_ne.mpr c6
   replace H := Option.bind_eq_some_iff.mp H
   obtain ⟨⟨t287, t288, t289, t290⟩, A940, H⟩ := H
   replace H : ((celluloidref11_Equal.f k t287 t288 t289 t290 0 0 0 ([] : List (S89))).bind fun t293 => (if t293 = true then ((celluloidlaw11_awake.f k).bind fun t294 => (some t294)) else (some false))) = some r := H
   have A94 := Aside0.mk A940
   clear A940
   replace H := Option.bind_eq_some_iff.mp H
   obtain ⟨t293, A950, H⟩ := H
   replace H : (if t293 = true then ((celluloidlaw11_awake.f k).bind fun t294 => (some t294)) else (some false)) = some r := H
   have A95 := Aside0.mk A950
   clear A950
   by_cases c96 : t293 = true
   ·subst c96
    have H1 : ((celluloidlaw11_awake.f k).bind fun t294 => (some t294)) = some r := by rw [if_pos rfl] at H; exact H
    clear H
    have H := H1
    clear H1
    replace H := Option.bind_eq_some_iff.mp H
    obtain ⟨t294, A970, H⟩ := H
    replace H : (some t294) = some r := H
    have A97 := Aside0.mk A970
    clear A970
    first
    |exact absurd (Option.some.inj H) (by rw [hr_.out]; decide)
    |obtain rfl := Option.some.inj H
     go_enter Try.func21, Try.ntmps21
     go_wp2_with (first | ((with_reducible refine gate_callee (f := 54) rfl ?_); refine goesQ (some 15) Try.func54 #[.string a0] ?_; (with_reducible refine (pixel_Take.calls k a0 t279 t280 t281 t282 t285 _ A5.out).mono ?_); rintro e w98 ⟨v283, rfl, ho0, hb⟩; refine ⟨_, rfl, ?_⟩; have n0_ := Aside0.mk (Kd.R_lower ho0 (below_size (hn HB))); have n1_ := hs HB hb; clear HB; have HO284 := n0_; have HB := n1_; clear n0_ n1_; (try clear hb); (try clear ho0)) | ((with_reducible refine gate_dst (N := 3) rfl ?_); refine boxQ 3 #[.int .i64 0, .int .i64 0, .int .i64 0, .slice none 0 0] 76 ?_; intro gb286 hg w99 hbox hb; have n0_ := rk HO284 hb; have n1_ := hs HB hb; have n2_ := Aside0.mk (hbox); have n3_ := gs HB hg; have n4_ := gs HB hg; clear HO284; clear HB; have HO284 := n0_; have HB := n1_; have BK286 := n2_; have GW286 := n3_; have GE286 := n4_; clear n0_ n1_ n2_ n3_ n4_; clear hb hbox hg; obtain ⟨hcz100_0, hcz100_1, hcz100_2, hcz100_3⟩ := cc4 BK286; obtain ⟨hfz100_0, hfz100_1, hfz100_2, hfz100_3⟩ := ff4 BK286; obtain ⟨Ao101, co101, eo101⟩ := Kd.R_slice HO284.out; subst eo101) | ((with_reducible refine gate_store (t := 76) (p := 3) rfl ?_); refine store_event (t := 76) (p := 3) (v := ?vo_w102) (w1 := ((((w99.setCell ⟨gb286, 0, none⟩ (.int .i64 t279)).setCell ⟨gb286, 1, none⟩ (.int .i64 t280)).setCell ⟨gb286, 2, none⟩ (.int .i64 t281)).setCell ⟨gb286, 3, none⟩ (.slice Ao101 t282.length co101))) ?hg ?ho ?hn ?hr ?_; (case ho => rfl); (case hg => rfl); (case hn => rfl); (case hr => first | (go_simp; done) | (go_simp; rfl)); intro w102 hw; have n0_ : Aside0 (Kd.R k89 89 w102 w.heap.size (fun _ => True) (.slice Ao101 t282.length co101) t282) := ⟨(by rw [hw]; exact (by (with_reducible repeat (first | apply Kd.R_alloc | apply Kd.R_drewN | apply Kd.R_drew)); exact Kd.R_mono (Kd.R_far (p := ⟨gb286, 3, none⟩) (Kd.R_far (p := ⟨gb286, 2, none⟩) (Kd.R_far (p := ⟨gb286, 1, none⟩) (Kd.R_far (p := ⟨gb286, 0, none⟩) (Kd.R_types HO284.out BK286.out (by decide)) (fun _ hk => hk.2) (.int .i64 t279)) (fun _ hk => hk.2) (.int .i64 t280)) (fun _ hk => hk.2) (.int .i64 t281)) (fun _ hk => hk.2) (.slice Ao101 t282.length co101)) (fun _ hk => trivial)))⟩; have n1_ : Aside0 (w102.heap[gb286]? = some (.cells #[.int .i64 t279, .int .i64 t280, .int .i64 t281, .slice Ao101 t282.length co101] 76 (0, 0))) := ⟨(by rw [hw]; exact (bq BK286))⟩; have n2_ : Aside0 (Below w.heap.size w w102) := ⟨(by rw [hw]; exact (hn HB))⟩; clear hw; clear HO284; clear BK286; clear HB; have HO284 := n0_; have BK286 := n1_; have HB := n2_; clear n0_ n1_ n2_; obtain ⟨hcz103_0, hcz103_1, hcz103_2, hcz103_3⟩ := cc4 BK286; obtain ⟨hfz103_0, hfz103_1, hfz103_2, hfz103_3⟩ := ff4 BK286) | ((with_reducible refine gate_callee (f := 52) rfl ?_); refine goesQ (some 21) Try.func52 #[.agg #[.int .i64 t279, .int .i64 t280, .int .i64 t281, .slice Ao101 t282.length co101]] ?_; (with_reducible refine (celluloidlaw11_ref.calls t279 t280 t281 (fun k_ => some k_ = (.slice Ao101 t282.length co101 : Value).ownBlock) (.slice Ao101 t282.length co101) t282 t287 t288 t289 t290 w _ ?side1 ?side2 A94.out).mono ?_); (case side1 => repeat (first | (with_reducible first | exact HB.out | apply below_alloc | apply pw_below_drewN | apply below_drew1 | refine below_set ?_ GE286.out) | exact HB.out)); (case side2 => exact Kd.R_tight rfl HO284.out); rintro e w104 ⟨v291, rfl, ho0, hb, hkp⟩; refine ⟨_, rfl, ?_⟩; have n0_ := Aside0.mk (blk_kept (by (with_reducible repeat (first | refine blk_drewN ?_ _ | refine blk_drew ?_ | refine blk_alloc ?_ _)); exact BK286.out) hkp (fun hs_ => (fun e_ => (Kd.R_ne HO284.out BK286.out (by decide)) e_) hs_)); have n1_ := Aside0.mk (Kd.R_mono (ok' := fun k_ => True) ho0 (fun k_ hk_ => trivial)); have n2_ := Aside0.mk (hb); clear BK286; clear HB; clear HO284; have BK286 := n0_; have HO292 := n1_; have HB := n2_; clear n0_ n1_ n2_; (try clear hb); (try clear hkp); (try clear ho0); obtain ⟨Ao105, co105, eo105⟩ := Kd.R_slice HO292.out; subst eo105) | ((with_reducible refine gate_callee (f := 56) rfl ?_); refine goesQ (some 23) Try.func56 #[.agg #[.int .i64 t287, .int .i64 t288, .int .i64 t289, .slice Ao105 t290.length co105], .agg #[.int .i64 0, .int .i64 0, .int .i64 0, .slice none 0 0]] ?_; (refine (celluloidref11_Equal.calls k t287 t288 t289 _ _ t290 0 0 0 _ _ ([] : List (S89)) true _ ?side1 ?side2 ?side3 ?side4 A95.out).mono ?_); (case side1 => repeat (first | exact (Kd.R_reads' HO292.out).2.2 | (with_reducible refine Kd.C_alloc ?_ _) | (with_reducible refine Kd.C_drewN ?_ _) | (with_reducible refine Kd.C_drew ?_))); (case side2 => exact (Kd.R_reads' HO292.out).2.1); (case side3 => exact Kd.C_nil _ _); (case side4 => exact Nat.le_refl _); rintro e w106 ⟨rfl, hb⟩; refine ⟨_, rfl, ?_⟩; have n0_ := rk HO292 hb; have n1_ := bb BK286 hb; have n2_ := hs HB hb; clear HO292; clear BK286; clear HB; have HO292 := n0_; have BK286 := n1_; have HB := n2_; clear n0_ n1_ n2_; (try clear hb)) | (go_at_call 49; (with_reducible refine (celluloidlaw11_awake.calls k  t294 _ A97.out).mono ?_); rintro e w107 ⟨rfl, hb⟩; have n0_ := rk HO292 hb; have n1_ := bb BK286 hb; have n2_ := hs HB hb; clear HO292; clear BK286; clear HB; have HO292 := n0_; have BK286 := n1_; have HB := n2_; clear n0_ n1_ n2_; (try clear hb)))
     go_ret
     exact ⟨by first | rfl | (simp [errW_none, errW_some] <;> rfl) | (simp [*, errW_none, errW_some] <;> rfl), hn HB⟩
   ·replace c96 := Bool.eq_false_iff.mpr c96
    subst c96
    have H1 : (some false) = some r := by rw [if_neg (show ¬ (false = true) by decide)] at H; exact H
    clear H
    have H := H1
    clear H1
    first
    |exact absurd (Option.some.inj H) (by rw [hr_.out]; decide)
    |obtain rfl := Option.some.inj H
     go_enter Try.func21, Try.ntmps21
     go_wp2_with (first | ((with_reducible refine gate_callee (f := 54) rfl ?_); refine goesQ (some 15) Try.func54 #[.string a0] ?_; (with_reducible refine (pixel_Take.calls k a0 t279 t280 t281 t282 t285 _ A5.out).mono ?_); rintro e w108 ⟨v283, rfl, ho0, hb⟩; refine ⟨_, rfl, ?_⟩; have n0_ := Aside0.mk (Kd.R_lower ho0 (below_size (hn HB))); have n1_ := hs HB hb; clear HB; have HO284 := n0_; have HB := n1_; clear n0_ n1_; (try clear hb); (try clear ho0)) | ((with_reducible refine gate_dst (N := 3) rfl ?_); refine boxQ 3 #[.int .i64 0, .int .i64 0, .int .i64 0, .slice none 0 0] 76 ?_; intro gb286 hg w109 hbox hb; have n0_ := rk HO284 hb; have n1_ := hs HB hb; have n2_ := Aside0.mk (hbox); have n3_ := gs HB hg; have n4_ := gs HB hg; clear HO284; clear HB; have HO284 := n0_; have HB := n1_; have BK286 := n2_; have GW286 := n3_; have GE286 := n4_; clear n0_ n1_ n2_ n3_ n4_; clear hb hbox hg; obtain ⟨hcz110_0, hcz110_1, hcz110_2, hcz110_3⟩ := cc4 BK286; obtain ⟨hfz110_0, hfz110_1, hfz110_2, hfz110_3⟩ := ff4 BK286; obtain ⟨Ao111, co111, eo111⟩ := Kd.R_slice HO284.out; subst eo111) | ((with_reducible refine gate_store (t := 76) (p := 3) rfl ?_); refine store_event (t := 76) (p := 3) (v := ?vo_w112) (w1 := ((((w109.setCell ⟨gb286, 0, none⟩ (.int .i64 t279)).setCell ⟨gb286, 1, none⟩ (.int .i64 t280)).setCell ⟨gb286, 2, none⟩ (.int .i64 t281)).setCell ⟨gb286, 3, none⟩ (.slice Ao111 t282.length co111))) ?hg ?ho ?hn ?hr ?_; (case ho => rfl); (case hg => rfl); (case hn => rfl); (case hr => first | (go_simp; done) | (go_simp; rfl)); intro w112 hw; have n0_ : Aside0 (Kd.R k89 89 w112 w.heap.size (fun _ => True) (.slice Ao111 t282.length co111) t282) := ⟨(by rw [hw]; exact (by (with_reducible repeat (first | apply Kd.R_alloc | apply Kd.R_drewN | apply Kd.R_drew)); exact Kd.R_mono (Kd.R_far (p := ⟨gb286, 3, none⟩) (Kd.R_far (p := ⟨gb286, 2, none⟩) (Kd.R_far (p := ⟨gb286, 1, none⟩) (Kd.R_far (p := ⟨gb286, 0, none⟩) (Kd.R_types HO284.out BK286.out (by decide)) (fun _ hk => hk.2) (.int .i64 t279)) (fun _ hk => hk.2) (.int .i64 t280)) (fun _ hk => hk.2) (.int .i64 t281)) (fun _ hk => hk.2) (.slice Ao111 t282.length co111)) (fun _ hk => trivial)))⟩; have n1_ : Aside0 (w112.heap[gb286]? = some (.cells #[.int .i64 t279, .int .i64 t280, .int .i64 t281, .slice Ao111 t282.length co111] 76 (0, 0))) := ⟨(by rw [hw]; exact (bq BK286))⟩; have n2_ : Aside0 (Below w.heap.size w w112) := ⟨(by rw [hw]; exact (hn HB))⟩; clear hw; clear HO284; clear BK286; clear HB; have HO284 := n0_; have BK286 := n1_; have HB := n2_; clear n0_ n1_ n2_; obtain ⟨hcz113_0, hcz113_1, hcz113_2, hcz113_3⟩ := cc4 BK286; obtain ⟨hfz113_0, hfz113_1, hfz113_2, hfz113_3⟩ := ff4 BK286) | ((with_reducible refine gate_callee (f := 52) rfl ?_); refine goesQ (some 21) Try.func52 #[.agg #[.int .i64 t279, .int .i64 t280, .int .i64 t281, .slice Ao111 t282.length co111]] ?_; (with_reducible refine (celluloidlaw11_ref.calls t279 t280 t281 (fun k_ => some k_ = (.slice Ao111 t282.length co111 : Value).ownBlock) (.slice Ao111 t282.length co111) t282 t287 t288 t289 t290 w _ ?side1 ?side2 A94.out).mono ?_); (case side1 => repeat (first | (with_reducible first | exact HB.out | apply below_alloc | apply pw_below_drewN | apply below_drew1 | refine below_set ?_ GE286.out) | exact HB.out)); (case side2 => exact Kd.R_tight rfl HO284.out); rintro e w114 ⟨v291, rfl, ho0, hb, hkp⟩; refine ⟨_, rfl, ?_⟩; have n0_ := Aside0.mk (blk_kept (by (with_reducible repeat (first | refine blk_drewN ?_ _ | refine blk_drew ?_ | refine blk_alloc ?_ _)); exact BK286.out) hkp (fun hs_ => (fun e_ => (Kd.R_ne HO284.out BK286.out (by decide)) e_) hs_)); have n1_ := Aside0.mk (Kd.R_mono (ok' := fun k_ => True) ho0 (fun k_ hk_ => trivial)); have n2_ := Aside0.mk (hb); clear BK286; clear HB; clear HO284; have BK286 := n0_; have HO292 := n1_; have HB := n2_; clear n0_ n1_ n2_; (try clear hb); (try clear hkp); (try clear ho0); obtain ⟨Ao115, co115, eo115⟩ := Kd.R_slice HO292.out; subst eo115) | ((with_reducible refine gate_callee (f := 56) rfl ?_); refine goesQ (some 23) Try.func56 #[.agg #[.int .i64 t287, .int .i64 t288, .int .i64 t289, .slice Ao115 t290.length co115], .agg #[.int .i64 0, .int .i64 0, .int .i64 0, .slice none 0 0]] ?_; (refine (celluloidref11_Equal.calls k t287 t288 t289 _ _ t290 0 0 0 _ _ ([] : List (S89)) false _ ?side1 ?side2 ?side3 ?side4 A95.out).mono ?_); (case side1 => repeat (first | exact (Kd.R_reads' HO292.out).2.2 | (with_reducible refine Kd.C_alloc ?_ _) | (with_reducible refine Kd.C_drewN ?_ _) | (with_reducible refine Kd.C_drew ?_))); (case side2 => exact (Kd.R_reads' HO292.out).2.1); (case side3 => exact Kd.C_nil _ _); (case side4 => exact Nat.le_refl _); rintro e w116 ⟨rfl, hb⟩; refine ⟨_, rfl, ?_⟩; have n0_ := rk HO292 hb; have n1_ := bb BK286 hb; have n2_ := hs HB hb; clear HO292; clear BK286; clear HB; have HO292 := n0_; have BK286 := n1_; have HB := n2_; clear n0_ n1_ n2_; (try clear hb)))
     go_ret
     exact ⟨by first | rfl | (simp [errW_none, errW_some] <;> rfl) | (simp [*, errW_none, errW_some] <;> rfl), hn HB⟩
/-- THE ONE PURE STATEMENT of celluloidlaw11_PixelAgain: yours. -/
def celluloidlaw11_PixelAgain.Pure : Prop := ∀ (a0 : ByteArray), a0.size ≤ 140737488351232 → ∃ k, celluloidlaw11_PixelAgain.f k a0 = some true
theorem celluloidlaw11_PixelAgain.walk (P : celluloidlaw11_PixelAgain.Pure) (a0 : ByteArray) (w : World) (w0 : a0.size ≤ 140737488351232) :
  Calls Try.prog 21 #[.string a0] w fun e w' => e = .returned (.bool true) ∧ Below w.heap.size w w' := by
 obtain ⟨k, h⟩ := P a0 w0
 refine (celluloidlaw11_PixelAgain.calls k a0 true w h ⟨rfl⟩).mono ?_
 rintro e w' ⟨rfl, hd⟩
 exact ⟨rfl, hd⟩
end Go.Proofs.Ytpbhkdamkbopkaa.GPixb
namespace Go.Proofs.Ytpbhkdamkbopkaa.Inf
set_option linter.unusedSimpArgs false
set_option linter.unusedVariables false
open Go.RowKit Go.Proofs.Ytpbhkdamkbopkaa.Ext Go.Proofs.Ytpbhkdamkbopkaa.RefP Go.Proofs.Ytpbhkdamkbopkaa.Stage Go.Proofs.YtpbhkdamkbopkaaW.PrintWords Go.Proofs.YtpbhkdamkbopkaaW.PrintLast Go.Proofs.YtpbhkdamkbopkaaW.PrintMore
/-- Bytes that are the same as far as N. -/
structure Agr (s t : ByteArray) (N : Nat) : Prop where
 ns : N ≤ s.size
 nt : N ≤ t.size
 b : ∀ j : Int, 0 ≤ j → j < N → bt t j = bt s j
 hs : s.size ≤ 140737488351232
 ht : t.size ≤ 140737488351232
section
variable {s t : ByteArray} {N : Nat} {mx mz : Int} {x y z : St}
theorem Agr.bit (A : Agr s t N) (i : Int) (h0 : 0 ≤ i) (h1 : i < 8 * N) : bitN t i = bitN s i := by
 unfold bitN; rw [A.b (i / 8) (by omega) (by omega)]
theorem Agr.vn (A : Agr s t N) (pos : Int) (h0 : 0 ≤ pos) : ∀ n : Nat, pos + n ≤ 8 * N → Vn t pos n = Vn s pos n := by
 intro n
 induction n with
 |zero => intro _; rfl
 |succ n ih =>
  intro h
  show 2 * Vn t pos n + bitN t (pos + n) = 2 * Vn s pos n + bitN s (pos + n)
  rw [ih (by omega), A.bit (pos + n) (by omega) (by omega)]
end
end Go.Proofs.Ytpbhkdamkbopkaa.Inf
namespace Go.Proofs.Ytpbhkdamkbopkaa.Inf
set_option linter.unusedSimpArgs false
set_option linter.unusedVariables false
open Go.RowKit Go.Proofs.Ytpbhkdamkbopkaa.Ext Go.Proofs.Ytpbhkdamkbopkaa.RefP Go.Proofs.YtpbhkdamkbopkaaW.PrintWords Go.Proofs.YtpbhkdamkbopkaaW.PrintLast Go.Proofs.YtpbhkdamkbopkaaW.PrintMore
theorem strOfNums_bytes (s : ByteArray) : strOfNums (bytesOf s) = s := by
 unfold strOfNums bytesOf
 rw [List.map_map]
 have e : (fun n : Int => UInt8.ofNat n.toNat) ∘ (fun b : UInt8 => (b.toNat : Int)) = id := by
  funext b; simp
 rw [e, List.map_id]
theorem bytesOf_append (s t : ByteArray) : bytesOf (s ++ t) = bytesOf s ++ bytesOf t := by simp [bytesOf]
theorem strOfNums_append (a b : List Int) : strOfNums (a ++ b) = strOfNums a ++ strOfNums b := by
 apply ByteArray.ext
 simp [strOfNums, List.map_append]
theorem bt_left (s t : ByteArray) (j : Int) (h0 : 0 ≤ j) (h1 : j < s.size) : bt (s ++ t) j = bt s j := by
 rw [← rd_bytesOf, ← rd_bytesOf, bytesOf_append]
 unfold rd
 simp only [List.getD_eq_getElem?_getD]
 rw [List.getElem?_append_left (by rw [bytesOf_length]; omega)]
theorem bt_right (s t : ByteArray) (j : Int) (h1 : (s.size : Int) ≤ j) : bt (s ++ t) j = bt t (j - s.size) := by
 rw [← rd_bytesOf, ← rd_bytesOf, bytesOf_append]
 unfold rd
 simp only [List.getD_eq_getElem?_getD]
 rw [List.getElem?_append_right (by rw [bytesOf_length]; omega), bytesOf_length]
 have e : j.toNat - s.size = (j - (s.size : Int)).toNat := by omega
 rw [e]
theorem bt_nums (l : List Int) (hl : ∀ x ∈ l, 0 ≤ x ∧ x ≤ 255) (j : Nat) (h : j < l.length) : bt (strOfNums l) (j : Int) = l.getD j 0 := by
 rw [← rd_bytesOf]
 unfold rd bytesOf
 have hd : (strOfNums l).data.toList = l.map fun n => UInt8.ofNat n.toNat := rfl
 rw [hd, List.map_map]
 simp only [List.getD_eq_getElem?_getD, Int.toNat_natCast]
 rw [List.getElem?_map, List.getElem?_eq_getElem h]
 have := hl _ (List.getElem_mem h)
 simp
 omega
theorem bits_at (s : ByteArray) (k : Nat) (p : Int) (o : List Int) (h0 : 0 ≤ p) (hk : k ≤ 16) (h : p + k ≤ 8 * s.size) : bits s k ⟨p, o, 0⟩ = (Bn s p k, ⟨p + k, o, 0⟩) := by
 have e : bitsOf s p k = (Bn s p k, p + k, 0) := by
  unfold bitsOf
  rw [if_neg (by omega), if_pos h, Int.toNat_natCast]
 unfold bits tak
 rw [if_pos rfl]
 simp only [e]
 rfl
def run0 (s : ByteArray) (mx : Int) : St := blocks s mx (8 * s.size + 2) ⟨0, [], 0⟩
theorem ok0 (s : ByteArray) : Ok s ⟨0, [], 0⟩ := ⟨Int.le_refl _, by show (0 : Int) ≤ _; omega, .inl rfl⟩
theorem raw_is (s : ByteArray) (mx : Int) (h : 0 ≤ mx ∧ mx ≤ 262144) : raw s mx = if (run0 s mx).e = 0 then (strOfNums (run0 s mx).o, ((run0 s mx).p + 7) / 8, 0) else (⟨#[]⟩, 0, (run0 s mx).e) := by
 unfold raw; rw [if_neg (by omega)]; rfl
theorem run_aft (s : ByteArray) (hs : s.size ≤ 140737488351232) (mx : Int) : Aft s mx ⟨0, [], 0⟩ (run0 s mx) := Aft.blocks hs _ _ (ok0 s)
end Go.Proofs.Ytpbhkdamkbopkaa.Inf
namespace Go.Proofs.Ytpbhkdamkbopkaa.Bk
set_option linter.unusedSimpArgs false
set_option linter.unusedVariables false
open Go.RowKit Go.Proofs.Ytpbhkdamkbopkaa.Ext Go.Proofs.Ytpbhkdamkbopkaa.RefP Go.Proofs.Ytpbhkdamkbopkaa.Stage Go.Proofs.Ytpbhkdamkbopkaa.Inf Go.Proofs.YtpbhkdamkbopkaaW.PrintWords Go.Proofs.YtpbhkdamkbopkaaW.PrintLast Go.Proofs.YtpbhkdamkbopkaaW.PrintMore
open Go.Proofs.Ytpbhkdamkbopkaa.Wr (pk pkr put1 pkr_len pk_len pkr_rng pk_rng Bits bit nb nb_succ nb_len nb_bits cb cb_len cb_bits sc sc_bits sc_len rc rc_bits lsym dsym lsym_rng lf df lof dof lof_all dof_all RB rbits run_rng df_rng rc_len)
open Go.Proofs.Ytpbhkdamkbopkaa.Rn (run mlen mlen_spec best best_spec)
theorem getL (A B : List Int) (i : Nat) (h : i < A.length) : (A ++ B).getD i 0 = A.getD i 0 := by
 rw [List.getD_eq_getElem?_getD, List.getD_eq_getElem?_getD, List.getElem?_append_left h]
theorem getR (A B : List Int) (i : Nat) : (A ++ B).getD (A.length + i) 0 = B.getD i 0 := by
 rw [List.getD_eq_getElem?_getD, List.getD_eq_getElem?_getD, List.getElem?_append_right (by omega), Nat.add_sub_cancel_left]
theorem getS (A : List Int) (i j : Nat) (x : Int) : (A.set i x).getD j 0 = if i = j ∧ j < A.length then x else A.getD j 0 := by
 rw [List.getD_eq_getElem?_getD, List.getD_eq_getElem?_getD, List.getElem?_set]
 by_cases h : i = j
 ·subst h
  rw [if_pos rfl]
  by_cases h2 : i < A.length
  ·rw [if_pos h2, if_pos ⟨rfl, h2⟩]; rfl
  ·rw [if_neg h2, if_neg (fun h => h2 h.2), List.getElem?_eq_none (by omega)]
 ·rw [if_neg h, if_neg (fun h3 => h h3.1)]
theorem add_bit (z b : Int) (i r : Nat) (hi : i < r) : (z + b * 2 ^ r) / 2 ^ i % 2 = z / 2 ^ i % 2 := by
 have e : b * 2 ^ r = 2 * (b * 2 ^ (r - i - 1)) * 2 ^ i := by
  have : (2 : Int) ^ r = 2 ^ (r - i - 1) * 2 * 2 ^ i := by
   rw [← Int.pow_succ, ← Int.pow_add]; congr 1; omega
  rw [this]
  simp only [Int.mul_comm, Int.mul_left_comm, Int.mul_assoc]
 have hp : (2 : Int) ^ i ≠ 0 := by have := Int.pow_pos (n := 2) (m := i) (by decide); omega
 rw [e, Int.add_mul_ediv_right _ _ hp]
 omega
theorem top_bit (z b : Int) (r : Nat) (h0 : 0 ≤ z) (h1 : z < 2 ^ r) (hb : 0 ≤ b ∧ b ≤ 1) : (z + b * 2 ^ r) / 2 ^ r % 2 = b := by
 have hp : (2 : Int) ^ r ≠ 0 := by omega
 rw [Int.add_mul_ediv_right _ _ hp, Int.ediv_eq_zero_of_lt h0 h1]
 omega
theorem pkr_bit : ∀ (B : List Int), (∀ b ∈ B, 0 ≤ b ∧ b ≤ 1) → ∀ i, i < B.length → (pkr B).getD (i / 8) 0 / 2 ^ (i % 8) % 2 = B.getD (B.length - 1 - i) 0
 |[], _, i, h => absurd h (Nat.not_lt_zero _)
 |b :: t, hB, i, h => by
  have hb := hB b (by simp)
  have ht : ∀ x ∈ t, 0 ≤ x ∧ x ≤ 1 := fun x hx => hB x (by simp [hx])
  have hl := pkr_len t
  have ih := pkr_bit t ht
  have hr := (pkr_rng t ht).2
  rw [List.length_cons] at h ⊢
  simp only [pkr, put1]
  by_cases hi : i < t.length
  ·have hc : (b :: t).getD (t.length + 1 - 1 - i) 0 = t.getD (t.length - 1 - i) 0 := by
    rw [show t.length + 1 - 1 - i = (t.length - 1 - i) + 1 by omega]; rfl
   rw [hc, ← ih i hi]
   by_cases hm : t.length % 8 = 0
   ·rw [if_pos hm, getL _ _ _ (by omega)]
   ·rw [if_neg hm, getS]
    by_cases c : (pkr t).length - 1 = i / 8 ∧ i / 8 < (pkr t).length
    ·rw [if_pos c, c.1, add_bit _ _ _ _ (by omega)]
    ·rw [if_neg c]
  ·obtain rfl : i = t.length := by omega
   have hc : (b :: t).getD (t.length + 1 - 1 - t.length) 0 = b := by
    rw [show t.length + 1 - 1 - t.length = 0 by omega]; rfl
   rw [hc]
   by_cases hm : t.length % 8 = 0
   ·have e := getR (pkr t) [b] 0
    rw [if_pos hm, hm, show t.length / 8 = (pkr t).length + 0 by omega, e]
    show b / 1 % 2 = b
    omega
   ·obtain ⟨h0, h1⟩ := hr hm
    rw [if_neg hm, getS, if_pos ⟨by omega, by omega⟩]
    exact top_bit _ _ _ h0 h1 hb
theorem pk_bit (B : List Int) (hB : Bits B) (i : Nat) (h : i < B.length) : (pk B).getD (i / 8) 0 / 2 ^ (i % 8) % 2 = B.getD i 0 := by
 have e := pkr_bit B.reverse (fun b hb => hB b (by simpa using hb)) i (by rw [List.length_reverse]; exact h)
 unfold pk
 rw [e, List.getD_eq_getElem?_getD, List.getD_eq_getElem?_getD, List.length_reverse, List.getElem?_reverse (by omega)]
 congr 2
 omega
/-- These bits stand from a place on. -/
def At (T : ByteArray) (p : Nat) (L : List Int) : Prop := ∀ i, i < L.length → bitN T ((p + i : Nat) : Int) = L.getD i 0
theorem At.left {T : ByteArray} {p : Nat} {L M : List Int} (h : At T p (L ++ M)) : At T p L := fun i hi => by
 rw [h i (by rw [List.length_append]; omega), getL _ _ _ hi]
theorem At.right {T : ByteArray} {p : Nat} {L M : List Int} (h : At T p (L ++ M)) : At T (p + L.length) M := fun i hi => by
 have e := h (L.length + i) (by rw [List.length_append]; omega)
 rw [getR] at e
 rw [← e]
 congr 1
 omega
theorem pk_size (B : List Int) : (strOfNums (pk B)).size = (B.length + 7) / 8 := by rw [strOfNums_size, pk_len]
theorem at_pk (B : List Int) (hB : Bits B) (X : ByteArray) : At (strOfNums (pk B) ++ X) 0 B := fun i hi => by
 have hs := pk_size B
 unfold bitN
 rw [Nat.zero_add, bt_left _ _ _ (by omega) (by omega), show ((i : Int) / 8) = ((i / 8 : Nat) : Int) by omega, bt_nums _ (pk_rng hB).1 _ (by rw [pk_len]; omega), show ((i : Int) % 8).toNat = i % 8 by omega]
 exact pk_bit B hB i hi
theorem At.num {T : ByteArray} {p v : Nat} : ∀ {n : Nat}, At T p (nb (v : Int) n) → Bn T (p : Int) n = ((v % 2 ^ n : Nat) : Int) := by
 intro n
 induction n with
 |zero => intro _; simp [Bn, Nat.mod_one]
 |succ n ih =>
  intro h
  rw [nb_succ] at h
  have h2 := h.right 0 (by simp)
  rw [nb_len] at h2
  show Bn T p n + 2 ^ n * bitN T ((p : Int) + n) = _
  rw [ih h.left, show (p : Int) + n = ((p + n + 0 : Nat) : Int) by omega, h2, Nat.mod_pow_succ]
  show _ + 2 ^ n * bit (v : Int) n = _
  unfold bit
  push_cast
  rfl
theorem bits_back {T : ByteArray} {p n : Nat} {v : Int} {o : List Int} (h : At T p (nb v n)) (h0 : 0 ≤ v) (h1 : v < 2 ^ n) (hn : n ≤ 16) (hp : p + n ≤ 8 * T.size) : Inf.bits T (n : Int) ⟨(p : Int), o, 0⟩ = (v, ⟨((p + n : Nat) : Int), o, 0⟩) := by
 obtain ⟨w, rfl⟩ := Int.eq_ofNat_of_zero_le h0
 have e : ((2 ^ n : Nat) : Int) = 2 ^ n := by rw [Int.natCast_pow]; rfl
 rw [bits_at T n _ o (by omega) hn (by omega), h.num, Nat.mod_eq_of_lt (by omega)]
 rfl
theorem pow_half (n m : Nat) (h : m + 1 ≤ n) : (2 : Int) ^ (n - m) = 2 ^ (n - 1 - m) * 2 := by
 rw [← Int.pow_succ]; congr 1; omega
theorem At.code {T : ByteArray} {p n : Nat} {v : Int} (h : At T p (cb v n)) (h0 : 0 ≤ v) (h1 : v < 2 ^ n) : ∀ m, m ≤ n → Vn T (p : Int) m = v / 2 ^ (n - m) := by
 intro m
 induction m with
 |zero => intro _; rw [Nat.sub_zero, Int.ediv_eq_zero_of_lt h0 h1]; rfl
 |succ m ih =>
  intro hm
  have e := h m (by rw [cb_len]; omega)
  have g : (cb v n).getD m 0 = bit v (n - 1 - m) := by
   unfold cb
   rw [List.getD_eq_getElem?_getD, List.getElem?_map, List.getElem?_range (by omega)]
   rfl
  show 2 * Vn T p m + bitN T ((p : Int) + m) = _
  rw [ih (by omega), show (p : Int) + m = ((p + m : Nat) : Int) by omega, e, g, pow_half n m hm, ← Int.ediv_ediv_of_nonneg (Int.le_of_lt (Int.pow_pos (by decide)))]
  unfold bit
  rw [show n - (m + 1) = n - 1 - m by omega]
  omega
theorem below_code (l : List Int) (i n : Nat) (h0 : 1 ≤ n) (h : n < 16) (hi : i < l.length) (he : l.getD i 0 = n) (m : Nat) (hm : m < n) : Gn l m ≤ codeAt l i / 2 ^ (n - m) ∧ Sn l m ≠ (syms l).length := by
 have hs := symbol_at l i n h0 h hi he
 obtain ⟨k, rfl⟩ : ∃ k, n = k + 1 := ⟨n - 1, by omega⟩
 have hmono := Gn_mono l m k (by omega)
 rw [firstC_succ] at hs
 have hp : (0 : Int) < 2 ^ (k + 1 - m) := Int.pow_pos (by decide)
 refine ⟨?_, ?_⟩
 ·rw [Int.le_ediv_iff_mul_le hp, show k + 1 - m = (k - m) + 1 by omega, Int.pow_succ, ← Int.mul_assoc]
  omega
 ·have h1 := Sn_mono l m k (by omega) (by omega)
  have h2 := Sn_succ l k (by omega)
  have h3 := Sn_mono l (k + 1) 15 (by omega) (by omega)
  have h4 := Gn_succ l k
  have h5 := syms_Sn l
  omega
theorem sym_stage (l : List Int) (he : errOf l = 0) (i n : Nat) (h0 : 1 ≤ n) (h : n ≤ 15) (hi : i < l.length) (hl : l.getD i 0 = n) (T : ByteArray) (hT : T.size ≤ 140737488351232) (p : Nat) (hp : p + n ≤ 8 * T.size) (hV : ∀ m, m ≤ n → Vn T (p : Int) m = codeAt l i / 2 ^ (n - m)) (d : Nat) : ∀ m, m + d = n →
  stageOf l T (p : Int) m = some ((i : Int), ((p + n : Nat) : Int), 0) := by
 have hs := symbol_at l i n h0 (by omega) hi hl
 induction d with
 |zero =>
  intro m hm
  obtain rfl : m = n := by omega
  have hv := hV m (Nat.le_refl _)
  rw [Nat.sub_self, Int.pow_zero, Int.ediv_one] at hv
  unfold stageOf
  rw [hv, if_pos hs.2.1, hs.2.2]
  rfl
 |succ d ih =>
  intro m hm
  have hb := below_code l i n h0 (by omega) hi hl m (by omega)
  rw [stage_step l (errOf_ok l he).1 _ hT _ (by omega) (by omega) m (by omega) (by rw [hV m (by omega)]; exact hb.1) hb.2, if_pos (by omega)]
  exact ih (m + 1) (by omega)
theorem next_back (l : List Int) (he : errOf l = 0) (i n : Nat) (h0 : 1 ≤ n) (h : n ≤ 15) (hi : i < l.length) (hl : l.getD i 0 = n) (T : ByteArray) (hT : T.size ≤ 140737488351232) (p : Nat) (hp : p + n ≤ 8 * T.size) (hV : ∀ m, m ≤ n → Vn T (p : Int) m = codeAt l i / 2 ^ (n - m)) (o : List Int) :
  Inf.next l T ⟨(p : Int), o, 0⟩ = ((i : Int), ⟨((p + n : Nat) : Int), o, 0⟩) := by
 have e : nextL l T (p : Int) = ((i : Int), ((p + n : Nat) : Int), 0) := by
  unfold nextL
  have e1 := sym_stage l he i n h0 h hi hl T hT p hp hV n 0 (by omega)
  have e0 : Sn l 0 = 0 := rfl
  have eV : ¬ Vn T (p : Int) 0 < Gn l 0 := by rw [Gn_zero]; exact Int.lt_irrefl 0
  have hS := (below_code l i n h0 (by omega) hi hl 0 (by omega)).2
  rw [e0] at hS
  rw [nextOf_good l he T _ (by omega), if_neg (by omega)]
  unfold stageOf at e1
  rw [if_neg eV, e0, Gn_zero, if_neg hS, show (p : Int) + ((0 : Nat) : Int) = p by omega] at e1
  have e2 : nxt (cnts l) (syms l) T 15 (p : Int) 0 0 0 = some ((i : Int), ((p + n : Nat) : Int), 0) := e1
  rw [e2]
  rfl
 unfold Inf.next tak
 rw [if_pos rfl]
 simp only [e]
 rfl
end Go.Proofs.Ytpbhkdamkbopkaa.Bk
namespace Go.Proofs.Ytpbhkdamkbopkaa.Bk
set_option linter.unusedSimpArgs false
set_option linter.unusedVariables false
open Go.RowKit Go.Proofs.Ytpbhkdamkbopkaa.Ext Go.Proofs.Ytpbhkdamkbopkaa.RefP Go.Proofs.Ytpbhkdamkbopkaa.Stage Go.Proofs.Ytpbhkdamkbopkaa.Inf Go.Proofs.YtpbhkdamkbopkaaW.PrintWords Go.Proofs.YtpbhkdamkbopkaaW.PrintLast Go.Proofs.YtpbhkdamkbopkaaW.PrintMore
open Go.Proofs.Ytpbhkdamkbopkaa.Wr (pk pkr put1 pkr_len pk_len pkr_rng pk_rng Bits bit nb nb_succ nb_len nb_bits cb cb_len cb_bits sc sc_bits sc_len rc rc_bits lsym dsym lsym_rng lf df lof dof lof_all dof_all RB rbits run_rng df_rng rc_len)
open Go.Proofs.Ytpbhkdamkbopkaa.Rn (run mlen mlen_spec best best_spec)
theorem LA_len : plainA.length = 288 := by unfold plainA; simp
theorem LB_len : plainB.length = 32 := by unfold plainB; simp
theorem LA_get (i : Nat) (h : i < 288) : plainA.getD i 0 = if i < 144 then 8 else if i < 256 then 9 else if i < 280 then 7 else 8 := by
 unfold plainA
 simp [List.getD_eq_getElem?_getD, h]
theorem LB_get (i : Nat) (h : i < 32) : plainB.getD i 0 = 5 := by
 unfold plainB
 rw [List.getD_eq_getElem?_getD, List.getElem?_replicate, if_pos h]
 rfl
theorem rankA (n : Nat) : ∀ i, i ≤ 288 → (idxN plainA n i).length = if n = 8 then (if i ≤ 144 then i else if i ≤ 280 then 144 else i - 136) else if n = 9 then (if i ≤ 144 then 0 else if i ≤ 256 then i - 144 else 112) else if n = 7 then (if i ≤ 256 then 0 else if i ≤ 280 then i - 256 else 24) else 0 := by
 intro i
 induction i with
 |zero => intro _; simp [idxN]
 |succ i ih =>
  intro hi
  rw [idxN_succ, List.length_append, ih (by omega), LA_get i (by omega)]
  have e : ∀ (p : Prop) [Decidable p], (if p then [(i : Int)] else []).length = if p then 1 else 0 := fun p _ => by split <;> rfl
  rw [e]
  by_cases h1 : i < 144
  ·simp only [if_pos h1]; (repeat' split) <;> omega
  ·by_cases h2 : i < 256
   ·simp only [if_neg h1, if_pos h2]; (repeat' split) <;> omega
   ·by_cases h3 : i < 280
    ·simp only [if_neg h1, if_neg h2, if_pos h3]; (repeat' split) <;> omega
    ·simp only [if_neg h1, if_neg h2, if_neg h3]; (repeat' split) <;> omega
theorem rankB : ∀ i, i ≤ 32 → (idxN plainB 5 i).length = i := by
 intro i
 induction i with
 |zero => intro _; simp [idxN]
 |succ i ih =>
  intro hi
  rw [idxN_succ, List.length_append, ih (by omega), LB_get i (by omega), if_pos (by rfl)]
  rfl
theorem firstA7 : firstC plainA 7 = 0 := by decide +kernel
theorem firstA8 : firstC plainA 8 = 48 := by decide +kernel
theorem firstA9 : firstC plainA 9 = 400 := by decide +kernel
theorem firstB5 : firstC plainB 5 = 0 := by decide +kernel
theorem codeA (c : Nat) (h : c < 288) : (codesOf plainA).getD c 0 = if c < 144 then 48 + (c : Int) else if c < 256 then 400 + (c : Int) - 144 else if c < 280 then (c : Int) - 256 else 192 + (c : Int) - 280 := by
 have hg := LA_get c h
 have e : (codesOf plainA).getD c 0 = if plainA.getD c 0 ≤ 0 then 0 else codeAt plainA c := by
  rw [List.getD_eq_getElem?_getD]
  unfold codesOf
  simp [LA_len, h]
 rw [e]
 by_cases h1 : c < 144
 ·rw [if_pos h1] at hg
  rw [hg, if_neg (by decide), if_pos h1]
  unfold codeAt
  rw [rank_n plainA c 8 hg, hg, rankA 8 c (by omega), if_pos rfl, if_pos (by omega), show (8 : Int).toNat = 8 from rfl, firstA8]
 ·by_cases h2 : c < 256
  ·rw [if_neg h1, if_pos h2] at hg
   rw [hg, if_neg (by decide), if_neg h1, if_pos h2]
   unfold codeAt
   rw [rank_n plainA c 9 hg, hg, rankA 9 c (by omega), if_neg (by decide), if_pos rfl, show (9 : Int).toNat = 9 from rfl, firstA9]
   split
   ·omega
   ·rw [if_pos (by omega)]; omega
  ·by_cases h3 : c < 280
   ·rw [if_neg h1, if_neg h2, if_pos h3] at hg
    rw [hg, if_neg (by decide), if_neg h1, if_neg h2, if_pos h3]
    unfold codeAt
    rw [rank_n plainA c 7 hg, hg, rankA 7 c (by omega), if_neg (by decide), if_neg (by decide), if_pos rfl, show (7 : Int).toNat = 7 from rfl, firstA7]
    split
    ·omega
    ·rw [if_pos (by omega)]; omega
   ·rw [if_neg h1, if_neg h2, if_neg h3] at hg
    rw [hg, if_neg (by decide), if_neg h1, if_neg h2, if_neg h3]
    unfold codeAt
    rw [rank_n plainA c 8 hg, hg, rankA 8 c (by omega), if_pos rfl, show (8 : Int).toNat = 8 from rfl, firstA8, if_neg (by omega)]
    split <;> omega
theorem codeB (c : Nat) (h : c < 32) : (codesOf plainB).getD c 0 = (c : Int) := by
 have hg := LB_get c h
 have e : (codesOf plainB).getD c 0 = if plainB.getD c 0 ≤ 0 then 0 else codeAt plainB c := by
  rw [List.getD_eq_getElem?_getD]
  unfold codesOf
  simp [LB_len, h]
 rw [e, hg, if_neg (by decide)]
 unfold codeAt
 rw [rank_n plainB c 5 hg, hg, rankB c (by omega), show (5 : Int).toNat = 5 from rfl, firstB5]
 omega
theorem df_at (n : Int) (hn : 1 ≤ n) : ∀ k, k ≤ 30 → ∃ m : Nat, m < 30 ∧ df n k = ((m : Int), dof m) := by
 intro k
 induction k with
 |zero => intro _; exact ⟨0, by decide, by show (0, 1, 0) = _; decide +kernel⟩
 |succ k ih =>
  intro hk
  unfold df
  split
  ·exact ⟨k, by omega, rfl⟩
  ·exact ih (by omega)
theorem errA : errOf plainA = 0 := by decide +kernel
theorem errB : errOf plainB = 0 := by decide +kernel
theorem codesOf_at (l : List Int) (c : Nat) (h : c < l.length) (h0 : 0 < l.getD c 0) : (codesOf l).getD c 0 = codeAt l c := by
 rw [List.getD_eq_getElem?_getD]
 unfold codesOf
 rw [List.getElem?_map, List.getElem?_range h]
 show (if l.getD c 0 ≤ 0 then 0 else codeAt l c) = _
 rw [if_neg (by omega)]
/-- A fixed code's length. -/
def wA (c : Nat) : Nat := if c < 144 then 8 else if c < 256 then 9 else if c < 280 then 7 else 8
theorem lenA (c : Nat) (h : c < 288) : plainA.getD c 0 = (wA c : Nat) := by
 rw [LA_get c h]; unfold wA; (repeat' split) <;> rfl
theorem wA_rng (c : Nat) : 7 ≤ wA c ∧ wA c ≤ 9 := by unfold wA; (repeat' split) <;> omega
theorem sc_is (c : Nat) (h : c < 288) : sc (c : Int) = cb (codeAt plainA c) (wA c) ∧ 0 ≤ codeAt plainA c ∧ codeAt plainA c < 2 ^ wA c := by
 have e := codesOf_at plainA c (by rw [LA_len]; exact h) (by rw [lenA c h]; have := wA_rng c; omega)
 rw [codeA c h] at e
 rw [← e]
 unfold sc wA
 by_cases h1 : c < 144
 ·rw [if_pos h1, if_pos h1, if_pos (by omega)]; exact ⟨rfl, by omega, by omega⟩
 ·by_cases h2 : c < 256
  ·rw [if_neg h1, if_neg h1, if_pos h2, if_pos h2, if_neg (by omega), if_pos (by omega)]; exact ⟨rfl, by omega, by omega⟩
  ·by_cases h3 : c < 280
   ·rw [if_neg h1, if_neg h1, if_neg h2, if_neg h2, if_pos h3, if_pos h3, if_neg (by omega), if_neg (by omega), if_pos (by omega)]; exact ⟨rfl, by omega, by omega⟩
   ·rw [if_neg h1, if_neg h1, if_neg h2, if_neg h2, if_neg h3, if_neg h3, if_neg (by omega), if_neg (by omega), if_neg (by omega)]; exact ⟨rfl, by omega, by omega⟩
theorem sc_lenA (c : Nat) (h : c < 288) : (sc (c : Int)).length = wA c := by rw [(sc_is c h).1, cb_len]
theorem nextA_back {T : ByteArray} {p c : Nat} {o : List Int} (h : At T p (sc (c : Int))) (hc : c < 288) (hT : T.size ≤ 140737488351232) (hp : p + (sc (c : Int)).length ≤ 8 * T.size) :
  Inf.next plainA T ⟨(p : Int), o, 0⟩ = ((c : Int), ⟨((p + (sc (c : Int)).length : Nat) : Int), o, 0⟩) := by
 obtain ⟨e, h0, h1⟩ := sc_is c hc
 have hw := wA_rng c
 have hl := sc_lenA c hc
 rw [hl] at hp ⊢
 rw [e] at h
 exact next_back plainA errA c (wA c) (by omega) (by omega) (by rw [LA_len]; exact hc) (lenA c hc) T hT p hp (h.code h0 h1) o
theorem nextB_back {T : ByteArray} {p c : Nat} {o : List Int} (h : At T p (cb (c : Int) 5)) (hc : c < 32) (hT : T.size ≤ 140737488351232) (hp : p + 5 ≤ 8 * T.size) :
  Inf.next plainB T ⟨(p : Int), o, 0⟩ = ((c : Int), ⟨((p + 5 : Nat) : Int), o, 0⟩) := by
 have e := codesOf_at plainB c (by rw [LB_len]; exact hc) (by rw [LB_get c hc]; decide)
 rw [codeB c hc] at e
 refine next_back plainB errB c 5 (by decide) (by decide) (by rw [LB_len]; exact hc) (LB_get c hc) T hT p hp ?_ o
 rw [← e]
 exact h.code (by omega) (by show (c : Int) < 32; omega)
theorem lsym_all : ∀ n : Nat, n < 259 → 3 ≤ n → 257 ≤ (lsym n).1 ∧ (lsym n).1 ≤ 285 ∧ lenM.getD ((lsym n).1 - 257).toNat 0 = (lsym n).2.2 ∧ lenB.getD ((lsym n).1 - 257).toNat 0 = (lsym n).2.1 ∧ 0 ≤ (n : Int) - (lsym n).2.1 ∧ (n : Int) - (lsym n).2.1 < 2 ^ (lsym n).2.2.toNat ∧ 0 ≤ (lsym n).2.2 ∧ (lsym n).2.2 ≤ 5 := by decide +kernel
theorem dof_tab : ∀ k : Nat, k < 30 → disM.getD k 0 = (dof k).2 ∧ disB.getD k 0 = (dof k).1 ∧ (dof k).1 + 2 ^ (dof k).2.toNat = (if k = 29 then 32769 else (dof (k + 1)).1) := by decide +kernel
theorem df_lim (n : Int) (hn : 1 ≤ n) : ∀ k, k ≤ 30 → n < (if k = 30 then 32769 else (dof k).1) → n - (df n k).2.1 < 2 ^ (df n k).2.2.toNat := by
 intro k
 induction k with
 |zero =>
  intro _ h
  have e : (dof 0).1 = 1 := by decide +kernel
  rw [if_neg (by decide), e] at h
  omega
 |succ k ih =>
  intro hk h
  unfold df
  by_cases c : (dof k).1 ≤ n
  ·rw [if_pos c]
   obtain ⟨_, _, e⟩ := dof_tab k (by omega)
   simp only
   by_cases c2 : k = 29
   ·rw [if_pos c2] at e
    rw [if_pos (by omega)] at h
    omega
   ·rw [if_neg c2] at e
    rw [if_neg (by omega)] at h
    omega
  ·rw [if_neg c]
   refine ih (by omega) ?_
   rw [if_neg (by omega)]
   omega
theorem dsym_all (f : Int) (h1 : 1 ≤ f) (h2 : f ≤ 32768) : ∃ c : Nat, c < 30 ∧ (dsym f).1 = c ∧ disM.getD c 0 = (dsym f).2.2 ∧ disB.getD c 0 = (dsym f).2.1 ∧ 0 ≤ f - (dsym f).2.1 ∧ f - (dsym f).2.1 < 2 ^ (dsym f).2.2.toNat ∧ 0 ≤ (dsym f).2.2 ∧ (dsym f).2.2 ≤ 13 := by
 obtain ⟨m, hm, e⟩ := df_at f h1 30 (Nat.le_refl _)
 have hr := df_rng h1 30 (Nat.le_refl _)
 have hl := df_lim f h1 30 (Nat.le_refl _) (by rw [if_pos rfl]; omega)
 obtain ⟨t1, t2, _⟩ := dof_tab m hm
 unfold dsym
 rw [e] at hr hl ⊢
 exact ⟨m, hm, rfl, t1, t2, by omega, hl, by omega, by omega⟩
theorem far_back {T : ByteArray} {mx : Int} {p : Nat} {o : List Int} (n f : Nat) (hn0 : 3 ≤ n) (hn1 : n ≤ 258) (hf0 : 1 ≤ f) (hf1 : f ≤ 32768) (hT : T.size ≤ 140737488351232)
  (h : At T p (nb ((n : Int) - (lsym n).2.1) (lsym n).2.2.toNat ++ (cb (dsym f).1 5 ++ nb ((f : Int) - (dsym f).2.1) (dsym f).2.2.toNat)))
  (hp : p + ((lsym n).2.2.toNat + (5 + (dsym f).2.2.toNat)) ≤ 8 * T.size) :
  Inf.far T mx plainB ⟨(p : Int), o, 0⟩ (lsym n).1 = Inf.copy mx ⟨((p + ((lsym n).2.2.toNat + (5 + (dsym f).2.2.toNat)) : Nat) : Int), o, 0⟩ n f := by
 obtain ⟨l1, l2, l3, l4, l5, l6, l7, l8⟩ := lsym_all n (by omega) hn0
 obtain ⟨c, d1, d2, d3, d4, d5, d6, d7, d8⟩ := dsym_all f (by omega) (by omega)
 generalize lsym n = L at *
 generalize dsym f = D at *
 have b1 := bits_back (o := o) h.left l5 l6 (by omega) (by omega)
 rw [Int.toNat_of_nonneg l7] at b1
 have h2 := h.right
 rw [nb_len] at h2
 rw [d2] at h2
 have b2 := nextB_back (o := o) h2.left (by omega) hT (by omega)
 have h3 := h2.right
 rw [cb_len] at h3
 have b3 := bits_back (o := o) h3 d5 d6 (by omega) (by omega)
 rw [Int.toNat_of_nonneg d7] at b3
 unfold far
 simp only
 rw [l3, b1]
 simp only
 rw [b2]
 simp only
 have hx : ¬ (True ∧ (c : Int) ≥ 30) := fun h => absurd h.2 (by omega)
 rw [if_neg hx]
 simp only
 rw [if_pos trivial, Int.toNat_natCast, d3, b3]
 simp only
 rw [if_pos trivial, l4, d4]
 congr 1
 ·congr 1; omega
 ·omega
 ·omega
theorem pre_len (s : ByteArray) (i : Nat) (h : i ≤ s.size) : ((bytesOf s).take i).length = i := by rw [List.length_take, bytesOf_length]; omega
theorem pre_get (s : ByteArray) (i j : Nat) (h : j < i) (hi : i ≤ s.size) : ((bytesOf s).take i).getD j 0 = bt s (j : Int) := by
 rw [← rd_bytesOf]
 unfold rd
 rw [List.getD_eq_getElem?_getD, List.getD_eq_getElem?_getD, List.getElem?_take, if_pos h, Int.toNat_natCast]
theorem pre_next (s : ByteArray) (i : Nat) (h : i < s.size) : (bytesOf s).take (i + 1) = (bytesOf s).take i ++ [bt s (i : Int)] := by
 rw [List.take_succ_eq_append_getElem (by rw [bytesOf_length]; exact h), ← rd_bytesOf]
 unfold rd
 rw [List.getD_eq_getElem?_getD, Int.toNat_natCast, List.getElem?_eq_getElem (by rw [bytesOf_length]; exact h)]
 rfl
theorem again_back (s : ByteArray) (i d : Nat) (h0 : 1 ≤ d) (h1 : d ≤ i) : ∀ n, i + n ≤ s.size → (∀ t, t < n → bt s ((i + t : Nat) : Int) = bt s ((i - d + t : Nat) : Int)) → Inf.again ((bytesOf s).take i) d n = (bytesOf s).take (i + n) := by
 intro n
 induction n with
 |zero => intro _ _; rfl
 |succ n ih =>
  intro hn h
  unfold again
  rw [ih (by omega) (fun t ht => h t (by omega)), pre_len s (i + n) (by omega), pre_get s (i + n) (i + n - d) (by omega) (by omega), ← Nat.add_assoc, pre_next s (i + n) (by omega), h n (by omega)]
  congr 4
  omega
theorem rc_split (n f : Int) : rc n f = sc (lsym n).1 ++ (nb (n - (lsym n).2.1) (lsym n).2.2.toNat ++ (cb (dsym f).1 5 ++ nb (f - (dsym f).2.1) (dsym f).2.2.toNat)) := by
 unfold rc
 rw [List.append_assoc, List.append_assoc]
theorem run_back (s : ByteArray) (i : Nat) (hi : i ≤ s.size) (hr : (run s i).1 ≠ 0) : ∀ t, t < (run s i).1 → bt s ((i + t : Nat) : Int) = bt s ((i - (run s i).2 + t : Nat) : Int) := by
 obtain ⟨b0, b1⟩ := best_spec s i (min i 32768)
 unfold run at hr ⊢
 generalize best s i (min i 32768) = q at *
 unfold Rn.fin at hr ⊢
 by_cases c : q.1 < 3
 ·rw [if_pos c] at hr; exact absurd rfl hr
 ·rw [if_neg c]
  rcases b1 with ⟨z, _⟩ | ⟨_, _, e, _, _⟩
  ·omega
  ·rw [← e]
   exact (mlen_spec hi).2.2.1
theorem codes_back (T s : ByteArray) (mx : Int) (hm : (s.size : Int) ≤ mx) (hT : T.size ≤ 140737488351232) (m : Nat) : ∀ i p k, s.size ≤ i + m → i ≤ s.size → At T p (rbits s m i ++ sc 256) → p + (rbits s m i ++ sc 256).length ≤ 8 * T.size → (rbits s m i).length + 1 ≤ k →
  Inf.codes T mx plainA plainB k ⟨(p : Int), (bytesOf s).take i, 0⟩ = ⟨((p + (rbits s m i ++ sc 256).length : Nat) : Int), bytesOf s, 0⟩ := by
 have hend : ∀ i p k, s.size ≤ i → i ≤ s.size → At T p (sc 256) → p + (sc 256).length ≤ 8 * T.size → 1 ≤ k →
   Inf.codes T mx plainA plainB k ⟨(p : Int), (bytesOf s).take i, 0⟩ = ⟨((p + (sc 256).length : Nat) : Int), bytesOf s, 0⟩ := by
  intro i p k h0 h1 hA hp hk
  obtain ⟨k1, rfl⟩ : ∃ k1, k = k1 + 1 := ⟨k - 1, by omega⟩
  have e := nextA_back (T := T) (p := p) (c := 256) (o := (bytesOf s).take i) hA (by decide) hT hp
  have e1 : Inf.one T mx plainA plainB ⟨(p : Int), (bytesOf s).take i, 0⟩ = (true, ⟨((p + (sc 256).length : Nat) : Int), (bytesOf s).take i, 0⟩) := by
   unfold one
   rw [e]
   simp only
   exact if_pos (.inr rfl)
  unfold Inf.codes
  rw [if_pos rfl, e1, if_pos rfl, List.take_of_length_le (by rw [bytesOf_length]; omega)]
 induction m with
 |zero =>
  intro i p k h0 h1 hA hp hk
  have e : rbits s 0 i ++ sc 256 = sc 256 := rfl
  rw [e] at hA hp ⊢
  exact hend i p k (by omega) h1 hA hp (by omega)
 |succ m ih =>
  intro i p k h0 h1 hA hp hk
  by_cases c : i < s.size
  ·obtain ⟨k1, rfl⟩ : ∃ k1, k = k1 + 1 := ⟨k - 1, by omega⟩
   have hb := bt_range s (i : Int)
   by_cases c2 : (run s i).1 = 0
   ·have e : rbits s (m + 1) i = sc (bt s (i : Int)) ++ rbits s m (i + 1) := by
     show (if i < s.size then (if (run s i).1 = 0 then _ else _) else _) = _
     rw [if_pos c, if_pos c2]
    rw [e] at hA hp hk ⊢
    rw [List.append_assoc] at hA hp ⊢
    obtain ⟨b, hbb⟩ : ∃ b : Nat, bt s (i : Int) = b := ⟨(bt s (i : Int)).toNat, by omega⟩
    rw [hbb] at hA hp hk ⊢
    have hw := sc_lenA b (by omega)
    have hw2 := wA_rng b
    rw [List.length_append] at hp hk ⊢
    have e1 := nextA_back (o := (bytesOf s).take i) hA.left (by omega) hT (by omega)
    have e2 : Inf.one T mx plainA plainB ⟨(p : Int), (bytesOf s).take i, 0⟩ = (false, ⟨((p + (sc (b : Int)).length : Nat) : Int), (bytesOf s).take (i + 1), 0⟩) := by
     unfold one
     rw [e1]
     simp only
     rw [if_neg (by omega), if_pos (by omega), if_neg (by rw [pre_len s i h1]; omega), pre_next s i c, hbb, Int.emod_eq_of_lt (by omega) (by omega)]
    have e3 := ih (i + 1) (p + (sc (b : Int)).length) k1 (by omega) (by omega) hA.right (by omega) (by omega)
    unfold Inf.codes
    rw [if_pos rfl, e2]
    simp only
    rw [if_neg (by decide), e3]
    exact congrArg (fun q : Nat => (⟨(q : Int), bytesOf s, 0⟩ : St)) (by omega)
   ·have e : rbits s (m + 1) i = rc ((run s i).1 : Nat) ((run s i).2 : Nat) ++ rbits s m (i + (run s i).1) := by
     show (if i < s.size then (if (run s i).1 = 0 then _ else _) else _) = _
     rw [if_pos c, if_neg c2]
    have hr := run_rng s i h1
    have hbk := run_back s i h1 c2
    rw [e] at hA hp hk ⊢
    generalize run s i = r at *
    obtain ⟨n, f⟩ := r
    simp only at *
    obtain ⟨r1, r2, r3, r4, r5, r6⟩ : 3 ≤ n ∧ n ≤ 258 ∧ 1 ≤ f ∧ f ≤ i ∧ f ≤ 32768 ∧ i + n ≤ s.size := by omega
    obtain ⟨l1, l2, _⟩ := lsym_all n (by omega) r1
    obtain ⟨y, hy⟩ : ∃ y : Nat, (lsym (n : Int)).1 = y := ⟨((lsym (n : Int)).1).toNat, by omega⟩
    have hrc := rc_split (n : Int) (f : Int)
    have hrl : (rc (n : Int) (f : Int)).length = (sc (y : Int)).length + ((lsym (n : Int)).2.2.toNat + (5 + (dsym (f : Int)).2.2.toNat)) := by
     rw [hrc, hy]
     simp only [List.length_append, nb_len, cb_len]
    rw [List.append_assoc] at hA hp ⊢
    rw [List.length_append] at hp hk ⊢
    have hA2 := hA.left
    rw [hrc, hy] at hA2
    have hw := sc_lenA y (by omega)
    have hw2 := wA_rng y
    have e1 := nextA_back (o := (bytesOf s).take i) hA2.left (by omega) hT (by omega)
    have e4 := far_back (mx := mx) (o := (bytesOf s).take i) n f r1 r2 r3 r5 hT hA2.right (by omega)
    rw [hy] at e4
    have e5 : Inf.copy mx ⟨((p + (sc (y : Int)).length + ((lsym (n : Int)).2.2.toNat + (5 + (dsym (f : Int)).2.2.toNat)) : Nat) : Int), (bytesOf s).take i, 0⟩ n f = ⟨((p + (rc (n : Int) (f : Int)).length : Nat) : Int), (bytesOf s).take (i + n), 0⟩ := by
     unfold copy
     rw [if_pos (by rw [pre_len s i h1]; omega), if_pos (by rw [pre_len s i h1]; omega)]
     simp only
     rw [Int.toNat_natCast, Int.toNat_natCast, again_back s i f r3 r4 n r6 hbk, hrl]
     exact congrArg (fun q : Nat => (⟨(q : Int), (bytesOf s).take (i + n), 0⟩ : St)) (by omega)
    rw [e5] at e4
    have e2 : Inf.one T mx plainA plainB ⟨(p : Int), (bytesOf s).take i, 0⟩ = (false, ⟨((p + (rc (n : Int) (f : Int)).length : Nat) : Int), (bytesOf s).take (i + n), 0⟩) := by
     unfold one
     rw [e1]
     simp only
     rw [if_neg (by omega), if_neg (by omega), if_neg (by omega), e4]
    have e3 := ih (i + n) (p + (rc (n : Int) (f : Int)).length) k1 (by omega) (by omega) hA.right (by omega) (by omega)
    unfold Inf.codes
    rw [if_pos rfl, e2]
    simp only
    rw [if_neg (by decide), e3]
    exact congrArg (fun q : Nat => (⟨(q : Int), bytesOf s, 0⟩ : St)) (by omega)
  ·have e : rbits s (m + 1) i = [] := by
    show (if i < s.size then _ else _) = _
    rw [if_neg c]
   rw [e, List.nil_append] at hA hp ⊢
   exact hend i p k (by omega) h1 hA hp (by omega)
theorem rbits_bits (s : ByteArray) : ∀ m i, Bits (rbits s m i) := by
 intro m
 induction m with
 |zero => intro i b hb; simp [rbits] at hb
 |succ m ih =>
  intro i
  unfold rbits
  split
  ·split
   ·exact (sc_bits _).append (ih _)
   ·exact (rc_bits _ _).append (ih _)
  ·intro b hb; simp at hb
theorem RB_bits (s : ByteArray) : Bits (RB s) := by
 unfold RB
 refine Bits.append (Bits.append (Bits.append ?_ (nb_bits _ _)) (rbits_bits s _ _)) (sc_bits _)
 intro b hb
 simp at hb
 omega
theorem RB_split (s : ByteArray) : RB s = nb 1 1 ++ (nb 1 2 ++ (rbits s s.size 0 ++ sc 256)) := by
 unfold RB
 rw [List.append_assoc, List.append_assoc]
 rfl
/-- THE STAGE'S THEOREM, in plain: what is packed is unpacked to what it was, whatever stands behind. -/
theorem raw_back (s X : ByteArray) (mx : Int) (hm : (s.size : Int) ≤ mx) (h1 : mx ≤ 262144) (hT : (strOfNums (pk (RB s)) ++ X).size ≤ 140737488351232) :
  raw (strOfNums (pk (RB s)) ++ X) mx = (s, ((strOfNums (pk (RB s))).size : Int), 0) := by
 have hA := at_pk (RB s) (RB_bits s) X
 have hz : (RB s).length ≤ 8 * (strOfNums (pk (RB s)) ++ X).size := by rw [ByteArray.size_append, pk_size]; omega
 have hq := pk_size (RB s)
 generalize strOfNums (pk (RB s)) = Q at *
 generalize hQ : Q ++ X = T at *
 have hl : (RB s).length = 1 + (2 + (rbits s s.size 0 ++ sc 256).length) := by
  rw [RB_split, List.length_append, List.length_append, nb_len, nb_len]
 rw [RB_split] at hA
 have hA2 := hA.right
 rw [nb_len] at hA2
 have hA3 := hA2.right
 rw [nb_len] at hA3
 have b1 := bits_back (v := 1) (n := 1) (o := []) hA.left (by decide) (by decide) (by decide) (by omega)
 have b2 := bits_back (v := 1) (n := 2) (o := []) hA2.left (by decide) (by decide) (by decide) (by omega)
 have b3 := codes_back T s mx hm hT s.size 0 3 (left T ⟨((0 + 1 + 2 : Nat) : Int), [], 0⟩) (by omega) (by omega) hA3 (by omega) (by
  unfold left
  rw [List.length_append] at hl
  have := sc_lenA 256 (by decide)
  show _ ≤ (8 * (T.size : Int) + 1 - 3).toNat + 1
  omega)
 have e1 : block T mx ⟨0, [], 0⟩ = (true, ⟨((RB s).length : Int), bytesOf s, 0⟩) := by
  unfold block
  simp only
  rw [show (⟨0, [], 0⟩ : St) = ⟨((0 : Nat) : Int), [], 0⟩ from rfl, show (1 : Int) = ((1 : Nat) : Int) from rfl, b1]
  simp only
  rw [show (2 : Int) = ((2 : Nat) : Int) from rfl, b2]
  simp only
  rw [if_neg (by decide), if_pos (show (1 : Int) = ((1 : Nat) : Int) from rfl)]
  unfold both table fail
  rw [errA, errB]
  simp only [if_true]
  rw [show (bytesOf s).take 0 = [] from rfl] at b3
  have e3 : ((0 + 1 + 2 : Nat) : Int) = ((3 : Nat) : Int) := rfl
  rw [e3] at b3 ⊢
  rw [b3]
  exact congrArg (fun q : Int => (true, (⟨q, bytesOf s, 0⟩ : St))) (by omega)
 have er : run0 T mx = ⟨((RB s).length : Int), bytesOf s, 0⟩ := by
  unfold run0
  show blocks T mx (8 * T.size + 1 + 1) _ = _
  unfold blocks
  rw [e1]
  exact if_pos rfl
 rw [raw_is _ _ ⟨by omega, h1⟩, er]
 simp only
 rw [if_pos trivial, strOfNums_bytes]
 exact congrArg (fun q : Int => (s, q, (0 : Int))) (by omega)
/-- What is packed is not longer than it may be. -/
theorem rc_short (n f : Nat) (hn0 : 3 ≤ n) (hn1 : n ≤ 258) (hf0 : 1 ≤ f) (hf1 : f ≤ 32768) : (rc (n : Int) (f : Int)).length ≤ 9 * n := by
 obtain ⟨l1, l2, l3, l4, l5, l6, l7, l8⟩ := lsym_all n (by omega) hn0
 obtain ⟨c, d1, d2, d3, d4, d5, d6, d7, d8⟩ := dsym_all f (by omega) (by omega)
 obtain ⟨y, hy⟩ : ∃ y : Nat, (lsym (n : Int)).1 = y := ⟨((lsym (n : Int)).1).toNat, by omega⟩
 have hw := sc_lenA y (by omega)
 have hw8 : wA y ≤ 8 := by unfold wA; (repeat' split) <;> omega
 rw [rc_split, hy]
 simp only [List.length_append, nb_len, cb_len]
 rcases Nat.lt_or_ge n 4 with h | h
 ·obtain rfl : n = 3 := by omega
  have e : (lsym ((3 : Nat) : Int)) = (257, 3, 0) := by decide +kernel
  rw [e] at hy l7 ⊢
  have hy2 : y = 257 := by simp only at hy; omega
  have : wA 257 = 7 := by decide
  subst hy2
  show _ + (0 + _) ≤ _
  omega
 ·omega
theorem rbits_short (s : ByteArray) : ∀ m i, i ≤ s.size → (rbits s m i).length ≤ 9 * (s.size - i) := by
 intro m
 induction m with
 |zero => intro i _; simp [rbits]
 |succ m ih =>
  intro i hi
  unfold rbits
  have hr := run_rng s i hi
  by_cases c : i < s.size
  ·rw [if_pos c]
   by_cases hz : (run s i).1 = 0
   ·rw [if_pos hz, List.length_append]
    have h1 := ih (i + 1) (by omega)
    have h2 := sc_len (bt s (i : Int))
    omega
   ·rw [if_neg hz, List.length_append]
    have h1 := ih (i + (run s i).1) (by omega)
    have h2 := rc_short (run s i).1 (run s i).2 (by omega) (by omega) (by omega) (by omega)
    omega
  ·rw [if_neg c]; simp
theorem RB_short (s : ByteArray) : (RB s).length ≤ 9 * s.size + 10 := by
 have h := rbits_short s s.size 0 (by omega)
 have e2 : (sc 256).length = 7 := by decide
 rw [RB_split, List.length_append, List.length_append, List.length_append, nb_len, nb_len, e2]
 omega
end Go.Proofs.Ytpbhkdamkbopkaa.Bk
set_option linter.unusedSimpArgs false
set_option linter.unusedVariables false
namespace Go.Proofs.Ytpbhkdamkbopkaa.OpenB
open Go.RowKit Go.Proofs.Ytpbhkdamkbopkaa.Ext Go.Proofs.Ytpbhkdamkbopkaa.GBack2 Go.Proofs.Ytpbhkdamkbopkaa.Wr2 Go.Proofs.Ytpbhkdamkbopkaa.Inf Go.Proofs.YtpbhkdamkbopkaaW.PrintWords Go.Proofs.YtpbhkdamkbopkaaW.PrintLast
theorem raw_f (s : ByteArray) (mx : Int) (hs : s.size ≤ 17592186044416) : inflate_Raw.f s mx = some (raw s mx) := by unfold inflate_Raw.f; rw [if_pos hs]
theorem behind (a b : ByteArray) (n m : Nat) (hn : n = a.size) (hm : m = (a ++ b).size) : (a ++ b).extract n m = b := by
 subst hn; subst hm
 rw [ByteArray.size_append]
 exact ByteArray.extract_append_eq_right rfl rfl
theorem d1 : Go.bits .and .u8 120 15 = 8 := by decide +kernel
theorem d2 : ¬ ((120 : Int) / 16 > 7) := by decide +kernel
theorem d3 : Int.tmod (Go.bits .or .i64 (wrap64 (wrap64 120 * 256)) (wrap64 156)) 31 = 0 := by decide +kernel
theorem d4 : Go.bits .and .u8 156 32 = 0 := by decide +kernel
theorem or_four (b0 b1 b2 b3 : Int) (h0 : 0 ≤ b0 ∧ b0 ≤ 255) (h1 : 0 ≤ b1 ∧ b1 ≤ 255) (h2 : 0 ≤ b2 ∧ b2 ≤ 255) (h3 : 0 ≤ b3 ∧ b3 ≤ 255) :
  Go.bits .or .i64 (Go.bits .or .i64 (Go.bits .or .i64 (wrap64 (wrap64 b0 * 16777216)) (wrap64 (wrap64 b1 * 65536))) (wrap64 (wrap64 b2 * 256))) (wrap64 b3) = b0 * 16777216 + b1 * 65536 + b2 * 256 + b3 := by
 have W : ∀ n : Int, 0 ≤ n → n < 2 ^ 40 → IntKind.i64.wrap n = n := fun n h0 h1 => by
  rw [IntKind.wrap_i64]
  have : (2 : Int) ^ 40 = 1099511627776 := by decide
  omega
 rw [wrap_in (n := b0) (by omega) (by omega), wrap_in (n := b1) (by omega) (by omega), wrap_in (n := b2) (by omega) (by omega), wrap_in (n := b3) (by omega) (by omega),
  wrap_in (n := b0 * 16777216) (by omega) (by omega), wrap_in (n := b1 * 65536) (by omega) (by omega), wrap_in (n := b2 * 256) (by omega) (by omega)]
 rw [Go.bits_join .i64 40 (by decide) W 24 (b0 * 16777216) (b1 * 65536) (by omega) (by omega) (by omega) (by omega) (by omega) (by omega)]
 rw [Go.bits_join .i64 40 (by decide) W 16 (b0 * 16777216 + b1 * 65536) (b2 * 256) (by omega) (by omega) (by omega) (by omega) (by omega) (by omega)]
 rw [Go.bits_join .i64 40 (by decide) W 8 (b0 * 16777216 + b1 * 65536 + b2 * 256) b3 (by omega) (by omega) (by omega) (by omega) (by omega) (by omega)]
/-- Bytes that are wrapped: their sum's four bytes behind them. -/
theorem open_is (k : Nat) (body tail out : ByteArray) (mx v : Int) (b0 b1 b2 b3 : Int) (h0 : 0 ≤ b0 ∧ b0 ≤ 255) (h1 : 0 ≤ b1 ∧ b1 ≤ 255) (h2 : 0 ≤ b2 ∧ b2 ≤ 255) (h3 : 0 ≤ b3 ∧ b3 ≤ 255) (ht : tail = strOfNums [b0, b1, b2, b3])
  (hm : 0 ≤ mx ∧ mx ≤ 262144) (hs : body.size ≤ 1000000000) (hr : raw (body ++ tail) mx = (out, (body.size : Int), 0)) (hv : adler_Sum.f k out = some v) :
  inflate_Open.f (k + 1) ((⟨#[120, 156]⟩ ++ body) ++ tail) mx = some (if b0 * 16777216 + b1 * 65536 + b2 * 256 + b3 = v then (out, 0) else (⟨#[]⟩, 5)) := by
 have e4 : tail.size = 4 := by rw [ht]; rfl
 have hl : ∀ x ∈ [b0, b1, b2, b3], 0 ≤ x ∧ x ≤ 255 := by
  intro x hx
  simp only [List.mem_cons, List.not_mem_nil, or_false] at hx
  rcases hx with rfl | rfl | rfl | rfl <;> assumption
 have t0 : bt tail 0 = b0 := by rw [ht]; exact bt_nums _ hl 0 (by decide : 0 < 4)
 have t1 : bt tail 1 = b1 := by rw [ht]; exact bt_nums _ hl 1 (by decide : 1 < 4)
 have t2 : bt tail 2 = b2 := by rw [ht]; exact bt_nums _ hl 2 (by decide : 2 < 4)
 have t3 : bt tail 3 = b3 := by rw [ht]; exact bt_nums _ hl 3 (by decide : 3 < 4)
 have z2 : (⟨#[120, 156]⟩ : ByteArray).size = 2 := rfl
 have eA : ((⟨#[120, 156]⟩ : ByteArray) ++ body) ++ tail = ⟨#[120, 156]⟩ ++ (body ++ tail) := ByteArray.append_assoc
 obtain ⟨s, hS⟩ : ∃ s : ByteArray, s = ((⟨#[120, 156]⟩ : ByteArray) ++ body) ++ tail := ⟨_, rfl⟩
 have zs : s.size = 2 + body.size + 4 := by rw [hS, ByteArray.size_append, ByteArray.size_append, z2, e4]
 have c0 : bt s 0 = 120 := by rw [hS, eA, bt_left _ _ 0 (by decide) (by rw [z2]; decide)]; rfl
 have c1 : bt s 1 = 156 := by rw [hS, eA, bt_left _ _ 1 (by decide) (by rw [z2]; decide)]; rfl
 have x1 : s.extract 2 s.size = body ++ tail := by rw [hS, eA]; exact behind _ _ _ _ rfl rfl
 have x2 : s.extract (2 + body.size) s.size = tail := by rw [hS]; exact behind _ _ _ _ (by rw [ByteArray.size_append, z2]) rfl
 have wn : Aside0 (wrap64 (2 + (body.size : Int)) = ((2 + body.size : Nat) : Int)) := ⟨by rw [wrap_in (by omega) (by omega)]; omega⟩
 rw [← hS]
 clear hS eA ht
 unfold inflate_Open.f
 rw [if_neg (by omega), decide_eq_false (by omega), inflate_Open.j0, if_neg (by decide), if_neg (by omega), if_pos (by omega), c0, if_pos d1, if_neg d2, if_pos (by omega), c1, if_pos d3, if_pos d4, if_pos (by omega), x1, raw_f _ _ (by rw [ByteArray.size_append]; omega), hr, Option.bind_some]
 simp only
 rw [if_pos trivial, wn.out, if_pos (by omega), if_pos (by omega), Int.toNat_natCast, x2, e4, if_neg (by decide), if_pos (by decide), if_pos (by decide), if_pos (by decide), if_pos (by decide), hv, Option.bind_some, t0, t1, t2, t3, or_four b0 b1 b2 b3 h0 h1 h2 h3]
 by_cases c : b0 * 16777216 + b1 * 65536 + b2 * 256 + b3 = v
 ·rw [if_pos c, if_pos c, if_neg (by decide)]
 ·rw [if_neg c, if_neg c]
end Go.Proofs.Ytpbhkdamkbopkaa.OpenB
set_option linter.unusedSimpArgs false
set_option linter.unusedVariables false
namespace Go.Proofs.Ytpbhkdamkbopkaa.ASumB
open Go.RowKit Go.Proofs.Ytpbhkdamkbopkaa.GBack2 Go.Proofs.YtpbhkdamkbopkaaW.PrintWords Go.Proofs.YtpbhkdamkbopkaaW.PrintLast Go.Proofs.YtpbhkdamkbopkaaW.PrintMore
/-- A byte more. -/
def stp (p : Int × Int) (c : Int) : Int × Int := ((p.1 + c) % 65521, (p.2 + (p.1 + c) % 65521) % 65521)
def run (p : Int × Int) (l : List Int) : Int × Int := l.foldl stp p
def bts (s : ByteArray) : List Int := s.data.toList.map fun c => (c.toNat : Int)
def fin (p : Int × Int) : Int := p.2 * 65536 + p.1
def Rng (p : Int × Int) : Prop := 0 ≤ p.1 ∧ p.1 < 65521 ∧ 0 ≤ p.2 ∧ p.2 < 65521
theorem bts_length (s : ByteArray) : (bts s).length = s.size := by unfold bts; rw [List.length_map, Array.length_toList]; rfl
theorem bts_get (s : ByteArray) (i : Nat) (h : i < s.size) : (bts s)[i]'(by rw [bts_length]; exact h) = bt s i := by
 have h2 : (Int.toNat (i : Int)) < s.size := by simpa using h
 unfold bt
 rw [dif_pos h2]
 simp [bts]
 rfl
theorem bts_drop (s : ByteArray) (i : Nat) (h : i < s.size) : (bts s).drop i = bt s i :: (bts s).drop (i + 1) := by
 rw [List.drop_eq_getElem_cons (by rw [bts_length]; exact h), bts_get s i h]
theorem stp_rng (p : Int × Int) (c : Int) : Rng (stp p c) := by unfold stp Rng; refine ⟨?_, ?_, ?_, ?_⟩ <;> simp only <;> omega
theorem run_nil (p : Int × Int) : run p [] = p := rfl
theorem run_cons (p : Int × Int) (c : Int) (l : List Int) : run p (c :: l) = run (stp p c) l := rfl
theorem run_rng (l : List Int) : ∀ p, Rng p → Rng (run p l) := by
 induction l with
 |nil => intro p h; exact h
 |cons c l ih => intro p _; rw [run_cons]; exact ih _ (stp_rng p c)
theorem rng_one : Rng (1, 0) := by unfold Rng; simp
theorem wrap_in {n : Int} (h0 : -9223372036854775808 ≤ n) (h1 : n ≤ 9223372036854775807) : wrap64 n = n := by unfold wrap64; omega
theorem wraps_i64 (j : Nat) (hj : j ≤ 62) (n : Int) (h₀ : 0 ≤ n) (h₁ : n < 2 ^ j) : IntKind.i64.wrap n = n := by
 have : (2 : Int) ^ j ≤ 2 ^ 62 := by
  have := Nat.pow_le_pow_right (n := 2) (by decide) hj
  exact_mod_cast this
 have h2 : (2 : Int) ^ 62 = 4611686018427387904 := by decide
 rw [IntKind.wrap_i64]; omega
theorem wraps_u32 (n : Int) (h₀ : 0 ≤ n) (h₁ : n < 2 ^ 32) : IntKind.u32.wrap n = n := by rw [IntKind.wrap_u32]; omega
theorem or_16 {x y : Int} (hx₀ : 0 ≤ x) (hx₁ : x < 65536) (h₀ : 0 ≤ y) (h₁ : y < 65536) : Go.bits .or .i64 (x * 65536) y = x * 65536 + y :=
 Go.bits_join .i64 40 (by decide) (wraps_i64 40 (by decide)) 16 _ _ (by omega) (by omega) (by omega) h₀ (by omega) (by omega)
theorem and_16u {x : Int} (hx₀ : 0 ≤ x) (hx₁ : x < 4294967296) : Go.bits .and .u32 x 65535 = x % 65536 :=
 Go.bits_mask .u32 32 (by decide) wraps_u32 16 (by decide) x hx₀ (by omega)
/-- What the sum's parts are. -/
def prt (n : Int) : Int × Int := (n % 4294967296 % 65536 % 65521, n % 4294967296 / 65536 % 65521)
theorem prt_rng (n : Int) : Rng (prt n) := by unfold prt Rng; refine ⟨?_, ?_, ?_, ?_⟩ <;> simp only <;> omega
theorem prt_one : prt 1 = (1, 0) := by decide
theorem parts_is (n : Int) : adler_parts.f n = some (prt n) := by
 unfold adler_parts.f
 rw [and_16u (by omega) (by omega), wrap_in (by omega) (by omega), Int.tmod_eq_emod_of_nonneg (by omega)]
 rfl
theorem more_l (s : ByteArray) (hn : s.size ≤ 140737488351232) (d : Nat) : ∀ (k i : Nat) (p : Int × Int), Rng p → i + d = s.size → d < k →
  adler_More.l0 k s p.1 p.2 s.size i = some (fin (run p ((bts s).drop i))) := by
 induction d with
 |zero =>
  intro k i p hp hi hk
  obtain ⟨k, rfl⟩ : ∃ m, k = m + 1 := ⟨k - 1, by omega⟩
  simp only [adler_More.l0]
  rw [if_neg (by omega), List.drop_of_length_le (by rw [bts_length]; omega), run_nil]
  obtain ⟨h0, h1, h2, h3⟩ := hp
  rw [wrap_in (by omega) (by omega), or_16 h2 (by omega) h0 (by omega)]; rfl
 |succ d ih =>
  intro k i p hp hi hk
  obtain ⟨k, rfl⟩ : ∃ m, k = m + 1 := ⟨k - 1, by omega⟩
  have hb := bt_range s i
  obtain ⟨h0, h1, h2, h3⟩ := hp
  simp only [adler_More.l0]
  rw [if_pos (by omega), if_pos (by omega), if_pos (by omega)]
  have e := ih k (i + 1) (stp p (bt s i)) (stp_rng _ _) (by omega) (by omega)
  rw [bts_drop s i (by omega), run_cons, ← e]
  have w1 : wrap64 (bt s i) = bt s i := wrap_in (by omega) (by omega)
  have w2 : wrap64 (p.1 + bt s i) = p.1 + bt s i := wrap_in (by omega) (by omega)
  have w3 : wrap64 (p.2 + (p.1 + bt s i) % 65521) = p.2 + (p.1 + bt s i) % 65521 := wrap_in (by omega) (by omega)
  have w4 : wrap64 ((i : Int) + 1) = ((i + 1 : Nat) : Int) := by rw [wrap_in (by omega) (by omega)]; omega
  rw [w1, w2, Int.tmod_eq_emod_of_nonneg (by omega), w3, Int.tmod_eq_emod_of_nonneg (by omega), w4]
  rfl
theorem more_is (n : Int) (s : ByteArray) (hn : s.size ≤ 140737488351232) (k : Nat) (hk : s.size < k) :
  adler_More.f k n s = some (fin (run (prt n) (bts s))) := by
 unfold adler_More.f
 rw [parts_is]
 have e := more_l s hn s.size k 0 (prt n) (prt_rng n) (by omega) hk
 rw [List.drop_zero] at e
 exact e
theorem sum_is (s : ByteArray) (hn : s.size ≤ 140737488351232) (k : Nat) (hk : s.size < k) :
  adler_Sum.f k s = some (fin (run (1, 0) (bts s))) := by
 unfold adler_Sum.f
 rw [more_is 1 s hn k hk, prt_one]; rfl
end Go.Proofs.Ytpbhkdamkbopkaa.ASumB
namespace Go.Proofs.Ytpbhkdamkbopkaa.Pure
open Go.RowKit Go.Proofs.Ytpbhkdamkbopkaa.Ext Go.Proofs.Ytpbhkdamkbopkaa.GBack2 Go.Proofs.Ytpbhkdamkbopkaa.Wr1 Go.Proofs.Ytpbhkdamkbopkaa.Wr2 Go.Proofs.Ytpbhkdamkbopkaa.Inf Go.Proofs.Ytpbhkdamkbopkaa.Bk Go.Proofs.YtpbhkdamkbopkaaW.PrintWords Go.Proofs.YtpbhkdamkbopkaaW.PrintLast
open Go.Proofs.Ytpbhkdamkbopkaa.Wr (pk RB)
/-- The sum of bytes. -/
def sm (s : ByteArray) : Int := ASumB.fin (ASumB.run (1, 0) (ASumB.bts s))
theorem sm_rng (s : ByteArray) : 0 ≤ sm s ∧ sm s < 4294967296 := by
 have hrng := ASumB.run_rng (ASumB.bts s) (1, 0) ASumB.rng_one
 unfold sm ASumB.fin
 obtain ⟨r1, r2, r3, r4⟩ := hrng
 omega
def packed (s : ByteArray) : ByteArray := strOfNums (pk (RB s))
def tail4 (t : Int) : ByteArray := strOfNums [t / 16777216 % 256, t / 65536 % 256, t / 256 % 256, t % 256]
def clo (s : ByteArray) : ByteArray := (⟨#[120, 156]⟩ ++ packed s) ++ tail4 (sm s)
theorem packed_size (s : ByteArray) : (packed s).size = ((RB s).length + 7) / 8 := pk_size _
theorem packed_short (s : ByteArray) : (packed s).size ≤ (9 * s.size + 17) / 8 := by
 have := RB_short s
 rw [packed_size]; omega
theorem tail4_size (t : Int) : (tail4 t).size = 4 := rfl
theorem clo_size (s : ByteArray) : (clo s).size = (packed s).size + 6 := by
 unfold clo
 rw [ByteArray.size_append, ByteArray.size_append, tail4_size, show (⟨#[120, 156]⟩ : ByteArray).size = 2 from rfl]
 omega
theorem raw_is0 (s : ByteArray) (hs : s.size ≤ 262144) : deflate_Raw.f s = some (packed s, 0) := by unfold deflate_Raw.f; rw [if_pos hs]; rfl
theorem close_is (s : ByteArray) (hs : s.size ≤ 262144) (k : Nat) (hk : s.size < k) : deflate_Close.f k s = some (clo s, 0) := by
 have hR := packed_short s
 have e2 : adler_Sum.f k s = some (sm s) := ASumB.sum_is s (by omega) k (by omega)
 have z4 : ∀ a b c d : Int, (strOfNums [a, b, c, d]).size = 4 := fun _ _ _ _ => rfl
 unfold deflate_Close.f
 rw [raw_is0 s hs, Option.bind_some]
 simp only
 rw [if_pos trivial, e2, Option.bind_some, if_pos (by omega), Option.bind_some, z4, ByteArray.size_append, show (⟨#[120, 156]⟩ : ByteArray).size = 2 from rfl, if_pos (by omega)]
 rfl
theorem back_raw (s X : ByteArray) (hs : s.size ≤ 262144) (hX : X.size ≤ 1000000) : inflate_Raw.f (packed s ++ X) 262144 = some (s, ((packed s).size : Int), 0) := by
 have hR := packed_short s
 have hz : (packed s ++ X).size ≤ 17592186044416 := by rw [ByteArray.size_append]; omega
 unfold inflate_Raw.f
 rw [if_pos hz]
 exact congrArg some (raw_back s X 262144 (by omega) (by omega) (Nat.le_trans hz (by decide)))
theorem back_open (s : ByteArray) (hs : s.size ≤ 262144) (k : Nat) (hk : s.size + 1 < k) : inflate_Open.f k (clo s) 262144 = some (s, 0) := by
 obtain ⟨k1, rfl⟩ : ∃ k1, k = k1 + 1 := ⟨k - 1, by omega⟩
 have hR := packed_short s
 have hv := sm_rng s
 have e2 : adler_Sum.f k1 s = some (sm s) := ASumB.sum_is s (by omega) k1 (by omega)
 have h := back_raw s (tail4 (sm s)) hs (by rw [tail4_size]; omega)
 have hz : (packed s ++ tail4 (sm s)).size ≤ 17592186044416 := by rw [ByteArray.size_append, tail4_size]; omega
 unfold inflate_Raw.f at h
 rw [if_pos hz] at h
 have ho := OpenB.open_is k1 (packed s) (tail4 (sm s)) s 262144 (sm s) _ _ _ _ (by omega) (by omega) (by omega) (by omega) rfl (by decide) (by omega) (Option.some.inj h) e2
 rw [if_pos (by omega)] at ho
 exact ho
end Go.Proofs.Ytpbhkdamkbopkaa.Pure
namespace Go.Proofs.Ytpbhkdamkbopkaa.Px
set_option linter.unusedSimpArgs false
set_option linter.unusedVariables false
open Go.RowKit Go.Proofs.Ytpbhkdamkbopkaa.GPix Go.Proofs.Ytpbhkdamkbopkaa.GPixb Go.Proofs.Ytpbhkdamkbopkaa.PR Go.Proofs.YtpbhkdamkbopkaaW.PrintWords Go.Proofs.YtpbhkdamkbopkaaW.PrintLast Go.Proofs.YtpbhkdamkbopkaaW.PrintMore
open Go.Proofs.Ytpbhkdamkbopkaa.Pure (clo clo_size close_is packed packed_short)
open Go.Proofs.Ytpbhkdamkbopkaa.GBack2 (deflate_Close.f)
open Go.Proofs.Ytpbhkdamkbopkaa.Inf (strOfNums_append)
theorem wr {n : Int} (h0 : -9223372036854775808 ≤ n) (h1 : n ≤ 9223372036854775807) : wrap64 n = n := by unfold wrap64; omega
/-- A colour is right, and no part above its alpha. -/
def fb (x : S89) : Bool := decide (0 ≤ x.f0 ∧ x.f0 ≤ x.f3 ∧ 0 ≤ x.f1 ∧ x.f1 ≤ x.f3 ∧ 0 ≤ x.f2 ∧ x.f2 ≤ x.f3 ∧ x.f3 ≤ 255)
theorem within_step (l : List Int) (i n : Nat) (hn : l.length = n) (hi : i < n) (hb : n ≤ 1000) (k : Nat) (x : Int) (hx : l.getD i 0 = x) :
  field_within.l0 (k + 1) 0 255 l (n : Int) (i : Int) = if x < 0 then some false else if x > 255 then some false else field_within.l0 k 0 255 l (n : Int) ((i + 1 : Nat) : Int) := by
 have e : rd l (i : Int) = x := by unfold rd; rw [Int.toNat_natCast]; exact hx
 rw [field_within.l0, if_pos (by omega), if_pos (by omega), if_pos (by omega), e, wr (by omega) (by omega)]
 rfl
theorem within_is (a b c d : Int) (k : Nat) : field_within.f (k + 5) 0 255 [a, b, c, d] = some (decide (0 ≤ a ∧ a ≤ 255 ∧ 0 ≤ b ∧ b ≤ 255 ∧ 0 ≤ c ∧ c ≤ 255 ∧ 0 ≤ d ∧ d ≤ 255)) := by
 have h0 := within_step [a, b, c, d] 0 4 rfl (by decide) (by decide) (k + 4) a rfl
 have h1 := within_step [a, b, c, d] 1 4 rfl (by decide) (by decide) (k + 3) b rfl
 have h2 := within_step [a, b, c, d] 2 4 rfl (by decide) (by decide) (k + 2) c rfl
 have h3 := within_step [a, b, c, d] 3 4 rfl (by decide) (by decide) (k + 1) d rfl
 have h4 : field_within.l0 (k + 1) 0 255 [a, b, c, d] ((4 : Nat) : Int) ((3 + 1 : Nat) : Int) = some true := by rw [field_within.l0, if_neg (by omega)]
 show field_within.l0 (k + 4 + 1) 0 255 [a, b, c, d] ((4 : Nat) : Int) ((0 : Nat) : Int) = _
 rw [h0, show k + 4 = k + 3 + 1 from rfl, show (0 + 1 : Nat) = 1 from rfl, h1, show k + 3 = k + 2 + 1 from rfl, show (1 + 1 : Nat) = 2 from rfl, h2, show k + 2 = k + 1 + 1 from rfl, show (2 + 1 : Nat) = 3 from rfl, h3, h4]
 (repeat' split) <;> first | rw [decide_eq_false (by omega)] | rw [decide_eq_true (by omega)]
theorem faint_is (x : S89) (k : Nat) : pixel_faint.f (k + 5) x.f0 x.f1 x.f2 x.f3 = some (fb x) := by
 unfold pixel_faint.f field_RightRGBA.f
 rw [within_is, Option.bind_some, Option.bind_some]
 unfold fb mx
 by_cases p : 0 ≤ x.f0 ∧ x.f0 ≤ 255 ∧ 0 ≤ x.f1 ∧ x.f1 ≤ 255 ∧ 0 ≤ x.f2 ∧ x.f2 ≤ 255 ∧ 0 ≤ x.f3 ∧ x.f3 ≤ 255
 ·rw [decide_eq_true p, if_pos rfl]
  (repeat' split) <;> exact congrArg some (decide_eq_decide.2 (by omega))
 ·rw [decide_eq_false p, if_neg (by decide), decide_eq_false (by omega)]
theorem allF_is (k : Nat) (l : List S89) : allF (k + 5) l = some (l.all fb) := by
 induction l with
 |nil => rfl
 |cons x l ih =>
  show ((pixel_faint.f (k + 5) x.f0 x.f1 x.f2 x.f3).bind fun b => if b = true then allF (k + 5) l else some false) = _
  rw [faint_is, Option.bind_some, ih, List.all_cons]
  cases fb x <;> rfl
/-- A bitmap's numbers are right. -/
def nb3 (id w h : Int) (n : Nat) : Prop := 0 ≤ id ∧ id < 65536 ∧ 1 ≤ w ∧ w ≤ 64 ∧ 1 ≤ h ∧ h ≤ 64 ∧ (n : Int) = w * h
instance (id w h : Int) (n : Nat) : Decidable (nb3 id w h n) := by unfold nb3; infer_instance
def rb (id w h : Int) (l : List S89) : Bool := decide (nb3 id w h l.length) && l.all fb
theorem side_mul {w h : Int} (hw : 1 ≤ w ∧ w ≤ 64) (hh : 1 ≤ h ∧ h ≤ 64) : 1 ≤ w * h ∧ w * h ≤ 4096 := by
 have h1 : w * h ≤ 64 * 64 := Int.mul_le_mul hw.2 hh.2 (by omega) (by omega)
 have h2 : 1 * 1 ≤ w * h := Int.mul_le_mul hw.1 hh.1 (by omega) (by omega)
 omega
theorem right_is (k : Nat) (id w h : Int) (l : List S89) : pixel_Right.f (k + 5) id w h l = some (rb id w h l) := by
 unfold pixel_Right.f rb
 rw [allF_is]
 by_cases c : nb3 id w h l.length
 ·obtain ⟨c1, c2, c3, c4, c5, c6, c7⟩ := c
  have hm := side_mul ⟨c3, c4⟩ ⟨c5, c6⟩
  rw [if_pos c1, if_pos c2, if_pos c3, if_pos c4, if_pos c5, if_pos c6, if_pos (by rw [wr (by omega) (by omega)]; exact c7), decide_eq_true ⟨c1, c2, c3, c4, c5, c6, c7⟩, Bool.true_and]
 ·rw [decide_eq_false c, Bool.false_and]
  by_cases c1 : 0 ≤ id
  ·by_cases c2 : id < 65536
   ·by_cases c3 : 1 ≤ w
    ·by_cases c4 : w ≤ 64
     ·by_cases c5 : 1 ≤ h
      ·by_cases c6 : h ≤ 64
       ·have hm := side_mul ⟨c3, c4⟩ ⟨c5, c6⟩
        rw [if_pos c1, if_pos c2, if_pos c3, if_pos c4, if_pos c5, if_pos c6, if_neg]
        rw [wr (by omega) (by omega)]
        exact fun c7 => c ⟨c1, c2, c3, c4, c5, c6, c7⟩
       ·rw [if_pos c1, if_pos c2, if_pos c3, if_pos c4, if_pos c5, if_neg c6]
      ·rw [if_pos c1, if_pos c2, if_pos c3, if_pos c4, if_neg c5]
     ·rw [if_pos c1, if_pos c2, if_pos c3, if_neg c4]
    ·rw [if_pos c1, if_pos c2, if_neg c3]
   ·rw [if_pos c1, if_neg c2]
  ·rw [if_neg c1]
def two (v : Int) : List Int := [v % 256, v / 256 % 256]
theorem put2 (k : Nat) (s : ByteArray) (fr v : Int) (h0 : 0 ≤ v) (h1 : v < 65536) (hs : s.size ≤ 1000000) : bits_PutLittle.f (k + 4) s fr v 2 = some (s ++ strOfNums (two v), 0, 0) := by
 have e16 : shr .i64 v (wrap64 (8 * 2)) = 0 := by
  rw [wr (by decide) (by decide)]
  show v / 2 ^ 16 = 0
  exact Int.ediv_eq_zero_of_lt h0 h1
 have e0 : shr .i64 v (wrap64 (8 * 0)) = v := by
  rw [wr (by decide) (by decide)]
  show v / 2 ^ 0 = v
  rw [Int.pow_zero, Int.ediv_one]
 have e8 : shr .i64 v (wrap64 (8 * 1)) = v / 256 := by
  rw [wr (by decide) (by decide)]
  rfl
 unfold bits_PutLittle.f
 have w0 : wrap64 (8 * 0) = 0 := wr (by decide) (by decide)
 have w1 : wrap64 (8 * 1) = 8 := wr (by decide) (by decide)
 have w2 : wrap64 (8 * 2) = 16 := wr (by decide) (by decide)
 have w3 : wrap64 (0 + 1) = 1 := wr (by decide) (by decide)
 have w4 : wrap64 (1 + 1) = 2 := wr (by decide) (by decide)
 rw [if_neg (by decide), if_neg (by decide), if_neg (by omega), if_pos (by rw [w2]; decide), e16]
 show bits_PutLittle.j0 (k + 3 + 1) v 2 false s fr = _
 rw [bits_PutLittle.j0, if_neg (by decide), if_pos (by decide), if_pos (by decide), Option.bind_some]
 show bits_PutLittle.l0 (k + 2 + 1) v [0, 0] 2 0 s fr = _
 rw [bits_PutLittle.l0, if_pos (by decide), if_pos (by rw [w0]; decide), if_pos (by decide), if_pos (by decide), e0, w3]
 show bits_PutLittle.l0 (k + 1 + 1) v [v % 256, 0] 2 1 s fr = _
 rw [bits_PutLittle.l0, if_pos (by decide), if_pos (by rw [w1]; decide), if_pos (by decide), if_pos (show (1 : Int) < (([v % 256, 0] : List Int).length : Int) by show (1 : Int) < ((2 : Nat) : Int); decide), e8, w4]
 show bits_PutLittle.l0 (k + 1) v [v % 256, v / 256 % 256] 2 2 s fr = _
 rw [bits_PutLittle.l0, if_neg (by decide)]
 unfold bits_PutBytes.f
 rw [if_pos (by rw [strOfNums_size]; show s.size + 2 ≤ _; omega)]
 rfl
/-- The bmp of colours, their alpha first. -/
def px (l : List S89) : List Int := l.flatMap fun c => [c.f3 % 256, c.f0 % 256, c.f1 % 256, c.f2 % 256]
theorem px_len (l : List S89) : (px l).length = 4 * l.length := by
 induction l with
 |nil => rfl
 |cons c l ih => show (px l).length + 4 = _; rw [ih, List.length_cons]; omega
theorem rd_drop (l : List S89) (i : Nat) (h : i < l.length) : l.drop i = rd_T89 l (i : Int) :: l.drop (i + 1) := by
 rw [List.drop_eq_getElem_cons h]
 unfold rd_T89
 rw [Int.toNat_natCast, List.getD_eq_getElem?_getD, List.getElem?_eq_getElem h]
 rfl
theorem put_loop (l : List S89) (hl : l.length ≤ 4096) (A : ByteArray) (hA : A.size ≤ 1000) (B : Int) (d : Nat) : ∀ (i : Nat) (x : List Int), i + d = l.length → x.length = 4 * i → ∀ k, 20000 ≤ k →
  pixel_Put.l0 (k + d + 1) x l (l.length : Int) (i : Int) A B = some (A ++ clo (strOfNums (x ++ px (l.drop i))), 0) := by
 induction d with
 |zero =>
  intro i x hi hx k hk
  have hz : (strOfNums x).size = 4 * i := by rw [strOfNums_size, hx]
  have hp := packed_short (strOfNums x)
  have hc := clo_size (strOfNums x)
  rw [pixel_Put.l0, if_neg (by omega), close_is (strOfNums x) (by omega) _ (by omega), Option.bind_some]
  simp only
  rw [if_pos (by omega), List.drop_eq_nil_of_le (by omega), show px [] = [] from rfl, List.append_nil]
 |succ d ih =>
  intro i x hi hx k hk
  have hi1 : i < l.length := by omega
  have h := ih (i + 1) (x ++ [(rd_T89 l (i : Int)).f3 % 256, (rd_T89 l (i : Int)).f0 % 256, (rd_T89 l (i : Int)).f1 % 256, (rd_T89 l (i : Int)).f2 % 256]) (by omega) (by rw [List.length_append, hx]; show 4 * i + 4 = _; omega) k hk
  rw [show k + (d + 1) + 1 = (k + d + 1) + 1 by omega, pixel_Put.l0, if_pos (by omega), if_pos (by omega), if_pos (by omega), Option.bind_some, if_pos (by rw [hx]; show 4 * i + 4 < _; omega), wr (by omega) (by omega)]
  have e : (i : Int) + 1 = ((i + 1 : Nat) : Int) := by omega
  rw [e, h, rd_drop l i hi1, List.append_assoc]
  rfl
def hd7 (id w h : Int) : List Int := two id ++ ([5] ++ (two w ++ two h))
/-- The bmp of a right bitmap. -/
def bmp (id w h : Int) (l : List S89) : ByteArray := strOfNums (hd7 id w h) ++ clo (strOfNums (px l))
theorem put_is (id w h : Int) (l : List S89) (k : Nat) (hk : 30000 ≤ k) : pixel_Put.f k id w h l = some (if rb id w h l = true then (bmp id w h l, 0) else (⟨#[]⟩, 1)) := by
 obtain ⟨k1, rfl⟩ : ∃ k1, k = k1 + 5 := ⟨k - 5, by omega⟩
 unfold pixel_Put.f
 rw [right_is, Option.bind_some]
 by_cases c : rb id w h l = true
 ·rw [if_pos c, if_pos c]
  have c2 := c
  unfold rb at c2
  rw [Bool.and_eq_true, decide_eq_true_eq] at c2
  obtain ⟨c1, c2, c3, c4, c5, c6, c7⟩ := c2.1
  have hm := side_mul ⟨c3, c4⟩ ⟨c5, c6⟩
  have z0 : (⟨#[]⟩ : ByteArray).size = 0 := rfl
  have z2 : ∀ v, (strOfNums (two v)).size = 2 := fun v => by rw [strOfNums_size]; rfl
  have z1 : (strOfNums [5]).size = 1 := rfl
  have en : (⟨#[]⟩ : ByteArray) ++ strOfNums (two id) = strOfNums (two id) := ByteArray.empty_append
  rw [show k1 + 5 = k1 + 1 + 4 from rfl, put2 (k1 + 1) _ 0 id c1 c2 (by rw [z0]; decide), Option.bind_some, en]
  simp only
  unfold bits_PutBytes.f
  rw [z2, z1, if_pos (by decide), Option.bind_some]
  simp only
  rw [← strOfNums_append, put2 (k1 + 1) _ 0 w (by omega) (by omega) (by rw [strOfNums_size]; show (3 : Nat) ≤ _; decide), Option.bind_some]
  simp only
  rw [← strOfNums_append, put2 (k1 + 1) _ 0 h (by omega) (by omega) (by rw [strOfNums_size]; show (5 : Nat) ≤ _; decide), Option.bind_some]
  simp only
  rw [← strOfNums_append]
  have hl := put_loop l (by omega) (strOfNums (two id ++ [5] ++ two w ++ two h)) (by rw [strOfNums_size]; show (7 : Nat) ≤ _; decide) 0 l.length 0 [] (by omega) rfl (k1 + 4 - l.length) (by omega)
  rw [show k1 + 4 - l.length + l.length + 1 = k1 + 1 + 4 by omega, List.drop_zero, List.nil_append] at hl
  refine Eq.trans hl ?_
  unfold bmp hd7
  rw [List.append_assoc, List.append_assoc]
 ·rw [if_neg c, if_neg c]
end Go.Proofs.Ytpbhkdamkbopkaa.Px
