/- Parts of the proof, glued by a program of this session (wip/tools/claimfit.py). -/
import Derived.Test.YtpbhkdamkbopkaaMDBC
namespace Go.Proofs.Ytpbhkdamkbopkaa.GBack2
open Go.RowKit Go.Proofs.YtpbhkdamkbopkaaW.PrintWords Go.Proofs.YtpbhkdamkbopkaaW.PrintLast Go.Proofs.YtpbhkdamkbopkaaW.PrintMore Go.Proofs.Ytpbhkdamkbopkaa.Wr2 Go.Proofs.Ytpbhkdamkbopkaa.Wr1 Go.Proofs.Ytpbhkdamkbopkaa.GRuns
attribute [local go_sem] max2_int min2_int max_two min_two max_three min_three max_four min_four
set_option linter.unusedVariables false
set_option linter.unusedSimpArgs false
def celluloidlaw06_DeflateLong.f (k : Nat) (a0 : Int) : Option (Bool) := if 0 ≤ (wrap64 (262144 + (wrap64 (a0)))) then (if (wrap64 (262144 + (wrap64 (a0))) : Int).toNat ≤ 281474976710656 then ((some (List.replicate (wrap64 (262144 + (wrap64 (a0))) : Int).toNat 0 : List Int)).bind fun y227 => ((deflate_Raw.f (strOfNums y227)).bind fun bt230 => ((deflate_Close.f k (strOfNums y227)).bind fun bt232 => (if a0 > 0 then (if bt230.1.toList = ([] : List UInt8) then (if bt230.2 = 7 then (if bt232.1.toList = ([] : List UInt8) then (if bt232.2 = 7 then ((celluloidlaw06_awake.f k).bind fun t234 => (some t234)) else (some false)) else (some false)) else (some false)) else (some false)) else ((inflate_Open.f k bt232.1 262144).bind fun bt235 => (if bt230.2 = 0 then (if bt232.2 = 0 then (if (bt232.1.size : Int) = (wrap64 ((bt230.1.size : Int) + 6)) then (if bt235.1.toList = (strOfNums y227).toList then (if bt235.2 = 0 then ((celluloidlaw06_awake.f k).bind fun t237 => (some t237)) else (some false)) else (some false)) else (some false)) else (some false)) else (some false))))))) else (none)) else (none)
set_option maxHeartbeats 8000000 in
set_option maxRecDepth 100000 in
theorem celluloidlaw06_DeflateLong.calls (k : Nat) (a0 : Int) (r : Bool) (w : World) (h : celluloidlaw06_DeflateLong.f k a0 = some r) (hr_ : Aside0 (r = true)) :
    Calls Try.prog 18 #[.int .i8 a0] w fun e w' => e = .returned (.bool r) ∧ Below w.heap.size w w' := by
  have HB := Aside0.mk (Below.refl w.heap.size w)
  have H : (if 0 ≤ (wrap64 (262144 + (wrap64 (a0)))) then (if (wrap64 (262144 + (wrap64 (a0))) : Int).toNat ≤ 281474976710656 then ((some (List.replicate (wrap64 (262144 + (wrap64 (a0))) : Int).toNat 0 : List Int)).bind fun y227 => ((deflate_Raw.f (strOfNums y227)).bind fun bt230 => ((deflate_Close.f k (strOfNums y227)).bind fun bt232 => (if a0 > 0 then (if bt230.1.toList = ([] : List UInt8) then (if bt230.2 = 7 then (if bt232.1.toList = ([] : List UInt8) then (if bt232.2 = 7 then ((celluloidlaw06_awake.f k).bind fun t234 => (some t234)) else (some false)) else (some false)) else (some false)) else (some false)) else ((inflate_Open.f k bt232.1 262144).bind fun bt235 => (if bt230.2 = 0 then (if bt232.2 = 0 then (if (bt232.1.size : Int) = (wrap64 ((bt230.1.size : Int) + 6)) then (if bt235.1.toList = (strOfNums y227).toList then (if bt235.2 = 0 then ((celluloidlaw06_awake.f k).bind fun t237 => (some t237)) else (some false)) else (some false)) else (some false)) else (some false)) else (some false))))))) else (none)) else (none)) = some r := h
  clear h
  obtain ⟨ji2, hji2⟩ : ∃ j_ : Int, (wrap64 (262144 + (wrap64 (a0)))) = j_ := ⟨_, rfl⟩
  replace H : (if 0 ≤ (ji2) then (if (ji2 : Int).toNat ≤ 281474976710656 then ((some (List.replicate (ji2 : Int).toNat 0 : List Int)).bind fun y227 => ((deflate_Raw.f (strOfNums y227)).bind fun bt230 => ((deflate_Close.f k (strOfNums y227)).bind fun bt232 => (if a0 > 0 then (if bt230.1.toList = ([] : List UInt8) then (if bt230.2 = 7 then (if bt232.1.toList = ([] : List UInt8) then (if bt232.2 = 7 then ((celluloidlaw06_awake.f k).bind fun t234 => (some t234)) else (some false)) else (some false)) else (some false)) else (some false)) else ((inflate_Open.f k bt232.1 262144).bind fun bt235 => (if bt230.2 = 0 then (if bt232.2 = 0 then (if (bt232.1.size : Int) = (wrap64 ((bt230.1.size : Int) + 6)) then (if bt235.1.toList = (strOfNums y227).toList then (if bt235.2 = 0 then ((celluloidlaw06_awake.f k).bind fun t237 => (some t237)) else (some false)) else (some false)) else (some false)) else (some false)) else (some false))))))) else (none)) else (none)) = some r := by first | (rw [hji2] at H; exact H) | (simp only [hji2] at H ⊢; exact H)
  have hji2w : (IntKind.i64.wrap (262144 + (wrap64 (a0)))) = ji2 := (i64_w _).trans hji2
  by_cases c3 : 0 ≤ (ji2)
  · rw [if_pos c3] at H
    have c3b0 := eq_true c3
    have c3b1 : decide (0 ≤ (ji2)) = true := decide_eq_true c3
    clear c3
    by_cases c4 : (ji2 : Int).toNat ≤ 281474976710656
    · rw [if_pos c4] at H
      have c4b0 := eq_true c4
      have c4b1 : decide ((ji2 : Int).toNat ≤ 281474976710656) = true := decide_eq_true c4
      clear c4
      obtain ⟨y227, hy227⟩ : ∃ y_ : List Int, y_ = (List.replicate (ji2 : Int).toNat 0) := ⟨_, rfl⟩
      replace H : ((deflate_Raw.f (strOfNums y227)).bind fun bt230 => ((deflate_Close.f k (strOfNums y227)).bind fun bt232 => (if a0 > 0 then (if bt230.1.toList = ([] : List UInt8) then (if bt230.2 = 7 then (if bt232.1.toList = ([] : List UInt8) then (if bt232.2 = 7 then ((celluloidlaw06_awake.f k).bind fun t234 => (some t234)) else (some false)) else (some false)) else (some false)) else (some false)) else ((inflate_Open.f k bt232.1 262144).bind fun bt235 => (if bt230.2 = 0 then (if bt232.2 = 0 then (if (bt232.1.size : Int) = (wrap64 ((bt230.1.size : Int) + 6)) then (if bt235.1.toList = (strOfNums y227).toList then (if bt235.2 = 0 then ((celluloidlaw06_awake.f k).bind fun t237 => (some t237)) else (some false)) else (some false)) else (some false)) else (some false)) else (some false)))))) = some r := by first | (rw [hy227]; with_reducible exact H) | (have H2_ := (Option.bind_some _ _).symm.trans H; rw [hy227]; with_reducible exact H2_) | (have H2_ := (Option.bind_some _ _).symm.trans H; with_reducible exact H2_) | with_reducible exact H | (rw [hy227]; exact H) | exact H
      have Ny227 := Aside0.mk hy227
      clear hy227
      replace H := Option.bind_eq_some_iff.mp H
      obtain ⟨⟨t230, t231⟩, A50, H⟩ := H
      replace H : ((deflate_Close.f k (strOfNums y227)).bind fun bt232 => (if a0 > 0 then (if t230.toList = ([] : List UInt8) then (if t231 = 7 then (if bt232.1.toList = ([] : List UInt8) then (if bt232.2 = 7 then ((celluloidlaw06_awake.f k).bind fun t234 => (some t234)) else (some false)) else (some false)) else (some false)) else (some false)) else ((inflate_Open.f k bt232.1 262144).bind fun bt235 => (if t231 = 0 then (if bt232.2 = 0 then (if (bt232.1.size : Int) = (wrap64 ((t230.size : Int) + 6)) then (if bt235.1.toList = (strOfNums y227).toList then (if bt235.2 = 0 then ((celluloidlaw06_awake.f k).bind fun t237 => (some t237)) else (some false)) else (some false)) else (some false)) else (some false)) else (some false))))) = some r := H
      have A5 := Aside0.mk A50
      clear A50
      replace H := Option.bind_eq_some_iff.mp H
      obtain ⟨⟨t232, t233⟩, A60, H⟩ := H
      replace H : (if a0 > 0 then (if t230.toList = ([] : List UInt8) then (if t231 = 7 then (if t232.toList = ([] : List UInt8) then (if t233 = 7 then ((celluloidlaw06_awake.f k).bind fun t234 => (some t234)) else (some false)) else (some false)) else (some false)) else (some false)) else ((inflate_Open.f k t232 262144).bind fun bt235 => (if t231 = 0 then (if t233 = 0 then (if (t232.size : Int) = (wrap64 ((t230.size : Int) + 6)) then (if bt235.1.toList = (strOfNums y227).toList then (if bt235.2 = 0 then ((celluloidlaw06_awake.f k).bind fun t237 => (some t237)) else (some false)) else (some false)) else (some false)) else (some false)) else (some false)))) = some r := H
      have A6 := Aside0.mk A60
      clear A60
      by_cases c7 : a0 > 0
      · rw [if_pos c7] at H
        have c7b0 : decide (0 < a0) = true := decide_eq_true c7
        clear c7
        by_cases c8 : t230.toList = ([] : List UInt8)
        · rw [if_pos c8] at H
          have c8b0 : (t230.toList == ([] : List UInt8)) = true := beq_iff_eq.mpr c8
          have c8b1 : (t230.toList != ([] : List UInt8)) = false := bne_eq_false_iff_eq.mpr c8
          clear c8
          by_cases c9 : t231 = 7
          · rw [if_pos c9] at H
            have c9b0 : (t231 == 7) = true := beq_iff_eq.mpr c9
            have c9b1 : (t231 != 7) = false := bne_eq_false_iff_eq.mpr c9
            clear c9
            by_cases c10 : t232.toList = ([] : List UInt8)
            · rw [if_pos c10] at H
              have c10b0 : (t232.toList == ([] : List UInt8)) = true := beq_iff_eq.mpr c10
              have c10b1 : (t232.toList != ([] : List UInt8)) = false := bne_eq_false_iff_eq.mpr c10
              clear c10
              by_cases c11 : t233 = 7
              · rw [if_pos c11] at H
                have c11b0 : (t233 == 7) = true := beq_iff_eq.mpr c11
                have c11b1 : (t233 != 7) = false := bne_eq_false_iff_eq.mpr c11
                clear c11
                replace H := Option.bind_eq_some_iff.mp H
                obtain ⟨t234, A120, H⟩ := H
                replace H : (some t234) = some r := H
                have A12 := Aside0.mk A120
                clear A120
                first
                | exact absurd (Option.some.inj H) (by rw [hr_.out]; decide)
                | obtain rfl := Option.some.inj H
                  go_enter Try.func18, Try.ntmps18
                  go_wp2_with (first | ((with_reducible refine gate_dst (N := 15) rfl ?_); (try (refine gate_guard (by rfl) ?_; dsimp only)); refine Kd.R_make (Kd.int .u8) _ 5 rfl (N := 15) rfl 40 _ _ rfl ji2 rfl rfl Try.underlying40 (.int .u8 0) 1 info5 rfl (by decide) (by omega) 0 (ok := fun _ => True) (okp := fun _ => True) rfl (fun _ hk => hk) trivial (of_decide_eq_true (by first | (with_reducible assumption) | assumption)) (Nat.le_trans (Nat.mul_le_mul_right _ (of_decide_eq_true (by first | (with_reducible assumption) | assumption) : ji2.toNat ≤ 281474976710656)) (by omega)) (Below.refl _ _) (Nat.le_refl _) ?_; intro v228 w13 ho14 hb hg_ hnew_; clear hg_ hnew_; (first | rw [← Ny227.out] at ho14 | (simp only [Int.reduceToNat] at ho14; rw [← Ny227.out] at ho14)); have n0_ := Aside0.mk (Kd.R_lower ho14 (below_size (by repeat (first | (with_reducible first | exact HB.out | apply below_alloc | apply pw_below_drewN | apply below_drew1) | exact HB.out)))); have n1_ := Aside0.mk (below_step (by repeat (first | (with_reducible first | exact HB.out | apply below_alloc | apply pw_below_drewN | apply below_drew1) | exact HB.out)) hb); clear HB; have HO229 := n0_; have HB := n1_; clear n0_ n1_; clear hb ho14; have hcv15 := own_string (P := Try.prog) Try.underlying40 Try.underlying5 Try.underlying9 (Kd.own_of_R HO229.out)) | ((with_reducible refine gate_callee (f := 39) rfl ?_); refine goesL_ (some 19) rfl rfl Try.func39 (by kernel_rfl) rfl #[.string (strOfNums y227)] rfl (by (try simp only [List.map_toArray, List.map_cons, List.map_nil]); first | done | rfl | (simp only [List.length_drop, List.length_take]; rfl)) ?_; (with_reducible refine (deflate_Raw.calls (strOfNums y227) t230 t231 _ A5.out).mono ?_); rintro e w16 ⟨rfl, hb⟩; refine ⟨_, rfl, ?_⟩; have n0_ := Aside0.mk (Kd.R_below (by (with_reducible repeat (first | apply Kd.R_alloc | apply Kd.R_drewN | apply Kd.R_drew)); exact HO229.out) hb); have n1_ := Aside0.mk (below_step (by repeat (first | (with_reducible first | exact HB.out | apply below_alloc | apply pw_below_drewN | apply below_drew1) | exact HB.out)) hb); clear HO229; clear HB; have HO229 := n0_; have HB := n1_; clear n0_ n1_; (try clear hb); (try clear hb2); (try clear hk); (try clear hi)) | ((with_reducible refine gate_callee (f := 40) rfl ?_); refine goesL_ (some 24) rfl rfl Try.func40 (by kernel_rfl) rfl #[.string (strOfNums y227)] rfl (by (try simp only [List.map_toArray, List.map_cons, List.map_nil]); first | done | rfl | (simp only [List.length_drop, List.length_take]; rfl)) ?_; (with_reducible refine (deflate_Close.calls k (strOfNums y227) t232 t233 _ A6.out).mono ?_); rintro e w17 ⟨rfl, hb⟩; refine ⟨_, rfl, ?_⟩; have n0_ := Aside0.mk (Kd.R_below (by (with_reducible repeat (first | apply Kd.R_alloc | apply Kd.R_drewN | apply Kd.R_drew)); exact HO229.out) hb); have n1_ := Aside0.mk (below_step (by repeat (first | (with_reducible first | exact HB.out | apply below_alloc | apply pw_below_drewN | apply below_drew1) | exact HB.out)) hb); clear HO229; clear HB; have HO229 := n0_; have HB := n1_; clear n0_ n1_; (try clear hb); (try clear hb2); (try clear hk); (try clear hi)) | (go_at_call 36; (with_reducible refine (celluloidlaw06_awake.calls k  t234 _ A12.out).mono ?_); rintro e w18 ⟨rfl, hb⟩; have n0_ := Aside0.mk (Kd.R_below (by (with_reducible repeat (first | apply Kd.R_alloc | apply Kd.R_drewN | apply Kd.R_drew)); exact HO229.out) hb); have n1_ := Aside0.mk (below_step (by repeat (first | (with_reducible first | exact HB.out | apply below_alloc | apply pw_below_drewN | apply below_drew1) | exact HB.out)) hb); clear HO229; clear HB; have HO229 := n0_; have HB := n1_; clear n0_ n1_; (try clear hb); (try clear hb2); (try clear hk); (try clear hi)))
                  go_ret
                  exact ⟨by first | rfl | (simp [errW_none, errW_some] <;> rfl) | (simp only [← hji2]; first | rfl | (simp [errW_none, errW_some] <;> rfl)) | (simp [*, errW_none, errW_some] <;> rfl), by repeat (first | (with_reducible first | exact HB.out | apply below_alloc | apply pw_below_drewN | apply below_drew1) | exact HB.out)⟩
              · rw [if_neg c11] at H
                have c11b0 : (t233 == 7) = false := beq_eq_false_iff_ne.mpr c11
                have c11b1 : (t233 != 7) = true := bne_iff_ne.mpr c11
                first
                | exact absurd (Option.some.inj H) (by rw [hr_.out]; decide)
                | obtain rfl := Option.some.inj H
                  go_enter Try.func18, Try.ntmps18
                  go_wp2_with (first | ((with_reducible refine gate_dst (N := 15) rfl ?_); (try (refine gate_guard (by rfl) ?_; dsimp only)); refine Kd.R_make (Kd.int .u8) _ 5 rfl (N := 15) rfl 40 _ _ rfl ji2 rfl rfl Try.underlying40 (.int .u8 0) 1 info5 rfl (by decide) (by omega) 0 (ok := fun _ => True) (okp := fun _ => True) rfl (fun _ hk => hk) trivial (of_decide_eq_true (by first | (with_reducible assumption) | assumption)) (Nat.le_trans (Nat.mul_le_mul_right _ (of_decide_eq_true (by first | (with_reducible assumption) | assumption) : ji2.toNat ≤ 281474976710656)) (by omega)) (Below.refl _ _) (Nat.le_refl _) ?_; intro v228 w19 ho20 hb hg_ hnew_; clear hg_ hnew_; (first | rw [← Ny227.out] at ho20 | (simp only [Int.reduceToNat] at ho20; rw [← Ny227.out] at ho20)); have n0_ := Aside0.mk (Kd.R_lower ho20 (below_size (by repeat (first | (with_reducible first | exact HB.out | apply below_alloc | apply pw_below_drewN | apply below_drew1) | exact HB.out)))); have n1_ := Aside0.mk (below_step (by repeat (first | (with_reducible first | exact HB.out | apply below_alloc | apply pw_below_drewN | apply below_drew1) | exact HB.out)) hb); clear HB; have HO229 := n0_; have HB := n1_; clear n0_ n1_; clear hb ho20; have hcv21 := own_string (P := Try.prog) Try.underlying40 Try.underlying5 Try.underlying9 (Kd.own_of_R HO229.out)) | ((with_reducible refine gate_callee (f := 39) rfl ?_); refine goesL_ (some 19) rfl rfl Try.func39 (by kernel_rfl) rfl #[.string (strOfNums y227)] rfl (by (try simp only [List.map_toArray, List.map_cons, List.map_nil]); first | done | rfl | (simp only [List.length_drop, List.length_take]; rfl)) ?_; (with_reducible refine (deflate_Raw.calls (strOfNums y227) t230 t231 _ A5.out).mono ?_); rintro e w22 ⟨rfl, hb⟩; refine ⟨_, rfl, ?_⟩; have n0_ := Aside0.mk (Kd.R_below (by (with_reducible repeat (first | apply Kd.R_alloc | apply Kd.R_drewN | apply Kd.R_drew)); exact HO229.out) hb); have n1_ := Aside0.mk (below_step (by repeat (first | (with_reducible first | exact HB.out | apply below_alloc | apply pw_below_drewN | apply below_drew1) | exact HB.out)) hb); clear HO229; clear HB; have HO229 := n0_; have HB := n1_; clear n0_ n1_; (try clear hb); (try clear hb2); (try clear hk); (try clear hi)) | ((with_reducible refine gate_callee (f := 40) rfl ?_); refine goesL_ (some 24) rfl rfl Try.func40 (by kernel_rfl) rfl #[.string (strOfNums y227)] rfl (by (try simp only [List.map_toArray, List.map_cons, List.map_nil]); first | done | rfl | (simp only [List.length_drop, List.length_take]; rfl)) ?_; (with_reducible refine (deflate_Close.calls k (strOfNums y227) t232 t233 _ A6.out).mono ?_); rintro e w23 ⟨rfl, hb⟩; refine ⟨_, rfl, ?_⟩; have n0_ := Aside0.mk (Kd.R_below (by (with_reducible repeat (first | apply Kd.R_alloc | apply Kd.R_drewN | apply Kd.R_drew)); exact HO229.out) hb); have n1_ := Aside0.mk (below_step (by repeat (first | (with_reducible first | exact HB.out | apply below_alloc | apply pw_below_drewN | apply below_drew1) | exact HB.out)) hb); clear HO229; clear HB; have HO229 := n0_; have HB := n1_; clear n0_ n1_; (try clear hb); (try clear hb2); (try clear hk); (try clear hi)))
                  go_ret
                  exact ⟨by first | rfl | (simp [errW_none, errW_some] <;> rfl) | (simp only [← hji2]; first | rfl | (simp [errW_none, errW_some] <;> rfl)) | (simp [*, errW_none, errW_some] <;> rfl), by repeat (first | (with_reducible first | exact HB.out | apply below_alloc | apply pw_below_drewN | apply below_drew1) | exact HB.out)⟩
            · rw [if_neg c10] at H
              have c10b0 : (t232.toList == ([] : List UInt8)) = false := beq_eq_false_iff_ne.mpr c10
              have c10b1 : (t232.toList != ([] : List UInt8)) = true := bne_iff_ne.mpr c10
              first
              | exact absurd (Option.some.inj H) (by rw [hr_.out]; decide)
              | obtain rfl := Option.some.inj H
                go_enter Try.func18, Try.ntmps18
                go_wp2_with (first | ((with_reducible refine gate_dst (N := 15) rfl ?_); (try (refine gate_guard (by rfl) ?_; dsimp only)); refine Kd.R_make (Kd.int .u8) _ 5 rfl (N := 15) rfl 40 _ _ rfl ji2 rfl rfl Try.underlying40 (.int .u8 0) 1 info5 rfl (by decide) (by omega) 0 (ok := fun _ => True) (okp := fun _ => True) rfl (fun _ hk => hk) trivial (of_decide_eq_true (by first | (with_reducible assumption) | assumption)) (Nat.le_trans (Nat.mul_le_mul_right _ (of_decide_eq_true (by first | (with_reducible assumption) | assumption) : ji2.toNat ≤ 281474976710656)) (by omega)) (Below.refl _ _) (Nat.le_refl _) ?_; intro v228 w24 ho25 hb hg_ hnew_; clear hg_ hnew_; (first | rw [← Ny227.out] at ho25 | (simp only [Int.reduceToNat] at ho25; rw [← Ny227.out] at ho25)); have n0_ := Aside0.mk (Kd.R_lower ho25 (below_size (by repeat (first | (with_reducible first | exact HB.out | apply below_alloc | apply pw_below_drewN | apply below_drew1) | exact HB.out)))); have n1_ := Aside0.mk (below_step (by repeat (first | (with_reducible first | exact HB.out | apply below_alloc | apply pw_below_drewN | apply below_drew1) | exact HB.out)) hb); clear HB; have HO229 := n0_; have HB := n1_; clear n0_ n1_; clear hb ho25; have hcv26 := own_string (P := Try.prog) Try.underlying40 Try.underlying5 Try.underlying9 (Kd.own_of_R HO229.out)) | ((with_reducible refine gate_callee (f := 39) rfl ?_); refine goesL_ (some 19) rfl rfl Try.func39 (by kernel_rfl) rfl #[.string (strOfNums y227)] rfl (by (try simp only [List.map_toArray, List.map_cons, List.map_nil]); first | done | rfl | (simp only [List.length_drop, List.length_take]; rfl)) ?_; (with_reducible refine (deflate_Raw.calls (strOfNums y227) t230 t231 _ A5.out).mono ?_); rintro e w27 ⟨rfl, hb⟩; refine ⟨_, rfl, ?_⟩; have n0_ := Aside0.mk (Kd.R_below (by (with_reducible repeat (first | apply Kd.R_alloc | apply Kd.R_drewN | apply Kd.R_drew)); exact HO229.out) hb); have n1_ := Aside0.mk (below_step (by repeat (first | (with_reducible first | exact HB.out | apply below_alloc | apply pw_below_drewN | apply below_drew1) | exact HB.out)) hb); clear HO229; clear HB; have HO229 := n0_; have HB := n1_; clear n0_ n1_; (try clear hb); (try clear hb2); (try clear hk); (try clear hi)) | ((with_reducible refine gate_callee (f := 40) rfl ?_); refine goesL_ (some 24) rfl rfl Try.func40 (by kernel_rfl) rfl #[.string (strOfNums y227)] rfl (by (try simp only [List.map_toArray, List.map_cons, List.map_nil]); first | done | rfl | (simp only [List.length_drop, List.length_take]; rfl)) ?_; (with_reducible refine (deflate_Close.calls k (strOfNums y227) t232 t233 _ A6.out).mono ?_); rintro e w28 ⟨rfl, hb⟩; refine ⟨_, rfl, ?_⟩; have n0_ := Aside0.mk (Kd.R_below (by (with_reducible repeat (first | apply Kd.R_alloc | apply Kd.R_drewN | apply Kd.R_drew)); exact HO229.out) hb); have n1_ := Aside0.mk (below_step (by repeat (first | (with_reducible first | exact HB.out | apply below_alloc | apply pw_below_drewN | apply below_drew1) | exact HB.out)) hb); clear HO229; clear HB; have HO229 := n0_; have HB := n1_; clear n0_ n1_; (try clear hb); (try clear hb2); (try clear hk); (try clear hi)))
                go_ret
                exact ⟨by first | rfl | (simp [errW_none, errW_some] <;> rfl) | (simp only [← hji2]; first | rfl | (simp [errW_none, errW_some] <;> rfl)) | (simp [*, errW_none, errW_some] <;> rfl), by repeat (first | (with_reducible first | exact HB.out | apply below_alloc | apply pw_below_drewN | apply below_drew1) | exact HB.out)⟩
          · rw [if_neg c9] at H
            have c9b0 : (t231 == 7) = false := beq_eq_false_iff_ne.mpr c9
            have c9b1 : (t231 != 7) = true := bne_iff_ne.mpr c9
            first
            | exact absurd (Option.some.inj H) (by rw [hr_.out]; decide)
            | obtain rfl := Option.some.inj H
              go_enter Try.func18, Try.ntmps18
              go_wp2_with (first | ((with_reducible refine gate_dst (N := 15) rfl ?_); (try (refine gate_guard (by rfl) ?_; dsimp only)); refine Kd.R_make (Kd.int .u8) _ 5 rfl (N := 15) rfl 40 _ _ rfl ji2 rfl rfl Try.underlying40 (.int .u8 0) 1 info5 rfl (by decide) (by omega) 0 (ok := fun _ => True) (okp := fun _ => True) rfl (fun _ hk => hk) trivial (of_decide_eq_true (by first | (with_reducible assumption) | assumption)) (Nat.le_trans (Nat.mul_le_mul_right _ (of_decide_eq_true (by first | (with_reducible assumption) | assumption) : ji2.toNat ≤ 281474976710656)) (by omega)) (Below.refl _ _) (Nat.le_refl _) ?_; intro v228 w29 ho30 hb hg_ hnew_; clear hg_ hnew_; (first | rw [← Ny227.out] at ho30 | (simp only [Int.reduceToNat] at ho30; rw [← Ny227.out] at ho30)); have n0_ := Aside0.mk (Kd.R_lower ho30 (below_size (by repeat (first | (with_reducible first | exact HB.out | apply below_alloc | apply pw_below_drewN | apply below_drew1) | exact HB.out)))); have n1_ := Aside0.mk (below_step (by repeat (first | (with_reducible first | exact HB.out | apply below_alloc | apply pw_below_drewN | apply below_drew1) | exact HB.out)) hb); clear HB; have HO229 := n0_; have HB := n1_; clear n0_ n1_; clear hb ho30; have hcv31 := own_string (P := Try.prog) Try.underlying40 Try.underlying5 Try.underlying9 (Kd.own_of_R HO229.out)) | ((with_reducible refine gate_callee (f := 39) rfl ?_); refine goesL_ (some 19) rfl rfl Try.func39 (by kernel_rfl) rfl #[.string (strOfNums y227)] rfl (by (try simp only [List.map_toArray, List.map_cons, List.map_nil]); first | done | rfl | (simp only [List.length_drop, List.length_take]; rfl)) ?_; (with_reducible refine (deflate_Raw.calls (strOfNums y227) t230 t231 _ A5.out).mono ?_); rintro e w32 ⟨rfl, hb⟩; refine ⟨_, rfl, ?_⟩; have n0_ := Aside0.mk (Kd.R_below (by (with_reducible repeat (first | apply Kd.R_alloc | apply Kd.R_drewN | apply Kd.R_drew)); exact HO229.out) hb); have n1_ := Aside0.mk (below_step (by repeat (first | (with_reducible first | exact HB.out | apply below_alloc | apply pw_below_drewN | apply below_drew1) | exact HB.out)) hb); clear HO229; clear HB; have HO229 := n0_; have HB := n1_; clear n0_ n1_; (try clear hb); (try clear hb2); (try clear hk); (try clear hi)) | ((with_reducible refine gate_callee (f := 40) rfl ?_); refine goesL_ (some 24) rfl rfl Try.func40 (by kernel_rfl) rfl #[.string (strOfNums y227)] rfl (by (try simp only [List.map_toArray, List.map_cons, List.map_nil]); first | done | rfl | (simp only [List.length_drop, List.length_take]; rfl)) ?_; (with_reducible refine (deflate_Close.calls k (strOfNums y227) t232 t233 _ A6.out).mono ?_); rintro e w33 ⟨rfl, hb⟩; refine ⟨_, rfl, ?_⟩; have n0_ := Aside0.mk (Kd.R_below (by (with_reducible repeat (first | apply Kd.R_alloc | apply Kd.R_drewN | apply Kd.R_drew)); exact HO229.out) hb); have n1_ := Aside0.mk (below_step (by repeat (first | (with_reducible first | exact HB.out | apply below_alloc | apply pw_below_drewN | apply below_drew1) | exact HB.out)) hb); clear HO229; clear HB; have HO229 := n0_; have HB := n1_; clear n0_ n1_; (try clear hb); (try clear hb2); (try clear hk); (try clear hi)))
              go_ret
              exact ⟨by first | rfl | (simp [errW_none, errW_some] <;> rfl) | (simp only [← hji2]; first | rfl | (simp [errW_none, errW_some] <;> rfl)) | (simp [*, errW_none, errW_some] <;> rfl), by repeat (first | (with_reducible first | exact HB.out | apply below_alloc | apply pw_below_drewN | apply below_drew1) | exact HB.out)⟩
        · rw [if_neg c8] at H
          have c8b0 : (t230.toList == ([] : List UInt8)) = false := beq_eq_false_iff_ne.mpr c8
          have c8b1 : (t230.toList != ([] : List UInt8)) = true := bne_iff_ne.mpr c8
          first
          | exact absurd (Option.some.inj H) (by rw [hr_.out]; decide)
          | obtain rfl := Option.some.inj H
            go_enter Try.func18, Try.ntmps18
            go_wp2_with (first | ((with_reducible refine gate_dst (N := 15) rfl ?_); (try (refine gate_guard (by rfl) ?_; dsimp only)); refine Kd.R_make (Kd.int .u8) _ 5 rfl (N := 15) rfl 40 _ _ rfl ji2 rfl rfl Try.underlying40 (.int .u8 0) 1 info5 rfl (by decide) (by omega) 0 (ok := fun _ => True) (okp := fun _ => True) rfl (fun _ hk => hk) trivial (of_decide_eq_true (by first | (with_reducible assumption) | assumption)) (Nat.le_trans (Nat.mul_le_mul_right _ (of_decide_eq_true (by first | (with_reducible assumption) | assumption) : ji2.toNat ≤ 281474976710656)) (by omega)) (Below.refl _ _) (Nat.le_refl _) ?_; intro v228 w34 ho35 hb hg_ hnew_; clear hg_ hnew_; (first | rw [← Ny227.out] at ho35 | (simp only [Int.reduceToNat] at ho35; rw [← Ny227.out] at ho35)); have n0_ := Aside0.mk (Kd.R_lower ho35 (below_size (by repeat (first | (with_reducible first | exact HB.out | apply below_alloc | apply pw_below_drewN | apply below_drew1) | exact HB.out)))); have n1_ := Aside0.mk (below_step (by repeat (first | (with_reducible first | exact HB.out | apply below_alloc | apply pw_below_drewN | apply below_drew1) | exact HB.out)) hb); clear HB; have HO229 := n0_; have HB := n1_; clear n0_ n1_; clear hb ho35; have hcv36 := own_string (P := Try.prog) Try.underlying40 Try.underlying5 Try.underlying9 (Kd.own_of_R HO229.out)) | ((with_reducible refine gate_callee (f := 39) rfl ?_); refine goesL_ (some 19) rfl rfl Try.func39 (by kernel_rfl) rfl #[.string (strOfNums y227)] rfl (by (try simp only [List.map_toArray, List.map_cons, List.map_nil]); first | done | rfl | (simp only [List.length_drop, List.length_take]; rfl)) ?_; (with_reducible refine (deflate_Raw.calls (strOfNums y227) t230 t231 _ A5.out).mono ?_); rintro e w37 ⟨rfl, hb⟩; refine ⟨_, rfl, ?_⟩; have n0_ := Aside0.mk (Kd.R_below (by (with_reducible repeat (first | apply Kd.R_alloc | apply Kd.R_drewN | apply Kd.R_drew)); exact HO229.out) hb); have n1_ := Aside0.mk (below_step (by repeat (first | (with_reducible first | exact HB.out | apply below_alloc | apply pw_below_drewN | apply below_drew1) | exact HB.out)) hb); clear HO229; clear HB; have HO229 := n0_; have HB := n1_; clear n0_ n1_; (try clear hb); (try clear hb2); (try clear hk); (try clear hi)) | ((with_reducible refine gate_callee (f := 40) rfl ?_); refine goesL_ (some 24) rfl rfl Try.func40 (by kernel_rfl) rfl #[.string (strOfNums y227)] rfl (by (try simp only [List.map_toArray, List.map_cons, List.map_nil]); first | done | rfl | (simp only [List.length_drop, List.length_take]; rfl)) ?_; (with_reducible refine (deflate_Close.calls k (strOfNums y227) t232 t233 _ A6.out).mono ?_); rintro e w38 ⟨rfl, hb⟩; refine ⟨_, rfl, ?_⟩; have n0_ := Aside0.mk (Kd.R_below (by (with_reducible repeat (first | apply Kd.R_alloc | apply Kd.R_drewN | apply Kd.R_drew)); exact HO229.out) hb); have n1_ := Aside0.mk (below_step (by repeat (first | (with_reducible first | exact HB.out | apply below_alloc | apply pw_below_drewN | apply below_drew1) | exact HB.out)) hb); clear HO229; clear HB; have HO229 := n0_; have HB := n1_; clear n0_ n1_; (try clear hb); (try clear hb2); (try clear hk); (try clear hi)))
            go_ret
            exact ⟨by first | rfl | (simp [errW_none, errW_some] <;> rfl) | (simp only [← hji2]; first | rfl | (simp [errW_none, errW_some] <;> rfl)) | (simp [*, errW_none, errW_some] <;> rfl), by repeat (first | (with_reducible first | exact HB.out | apply below_alloc | apply pw_below_drewN | apply below_drew1) | exact HB.out)⟩
      · rw [if_neg c7] at H
        have c7b0 : decide (0 < a0) = false := decide_eq_false c7
        clear c7
        replace H := Option.bind_eq_some_iff.mp H
        obtain ⟨⟨t235, t236⟩, A390, H⟩ := H
        replace H : (if t231 = 0 then (if t233 = 0 then (if (t232.size : Int) = (wrap64 ((t230.size : Int) + 6)) then (if t235.toList = (strOfNums y227).toList then (if t236 = 0 then ((celluloidlaw06_awake.f k).bind fun t237 => (some t237)) else (some false)) else (some false)) else (some false)) else (some false)) else (some false)) = some r := H
        have A39 := Aside0.mk A390
        clear A390
        by_cases c40 : t231 = 0
        · rw [if_pos c40] at H
          have c40b0 : (t231 == 0) = true := beq_iff_eq.mpr c40
          have c40b1 : (t231 != 0) = false := bne_eq_false_iff_eq.mpr c40
          clear c40
          by_cases c41 : t233 = 0
          · rw [if_pos c41] at H
            have c41b0 : (t233 == 0) = true := beq_iff_eq.mpr c41
            have c41b1 : (t233 != 0) = false := bne_eq_false_iff_eq.mpr c41
            clear c41
            by_cases c42 : (t232.size : Int) = (wrap64 ((t230.size : Int) + 6))
            · rw [if_pos c42] at H
              have c42b0 : ((t232.size : Int) == (wrap64 ((t230.size : Int) + 6))) = true := beq_iff_eq.mpr c42
              have c42b1 : ((t232.size : Int) != (wrap64 ((t230.size : Int) + 6))) = false := bne_eq_false_iff_eq.mpr c42
              clear c42
              by_cases c43 : t235.toList = (strOfNums y227).toList
              · rw [if_pos c43] at H
                have c43b0 : (t235.toList == (strOfNums y227).toList) = true := beq_iff_eq.mpr c43
                have c43b1 : (t235.toList != (strOfNums y227).toList) = false := bne_eq_false_iff_eq.mpr c43
                clear c43
                by_cases c44 : t236 = 0
                · rw [if_pos c44] at H
                  have c44b0 : (t236 == 0) = true := beq_iff_eq.mpr c44
                  have c44b1 : (t236 != 0) = false := bne_eq_false_iff_eq.mpr c44
                  clear c44
                  replace H := Option.bind_eq_some_iff.mp H
                  obtain ⟨t237, A450, H⟩ := H
                  replace H : (some t237) = some r := H
                  have A45 := Aside0.mk A450
                  clear A450
                  first
                  | exact absurd (Option.some.inj H) (by rw [hr_.out]; decide)
                  | obtain rfl := Option.some.inj H
                    go_enter Try.func18, Try.ntmps18
                    go_wp2_with (first | ((with_reducible refine gate_dst (N := 15) rfl ?_); (try (refine gate_guard (by rfl) ?_; dsimp only)); refine Kd.R_make (Kd.int .u8) _ 5 rfl (N := 15) rfl 40 _ _ rfl ji2 rfl rfl Try.underlying40 (.int .u8 0) 1 info5 rfl (by decide) (by omega) 0 (ok := fun _ => True) (okp := fun _ => True) rfl (fun _ hk => hk) trivial (of_decide_eq_true (by first | (with_reducible assumption) | assumption)) (Nat.le_trans (Nat.mul_le_mul_right _ (of_decide_eq_true (by first | (with_reducible assumption) | assumption) : ji2.toNat ≤ 281474976710656)) (by omega)) (Below.refl _ _) (Nat.le_refl _) ?_; intro v228 w46 ho47 hb hg_ hnew_; clear hg_ hnew_; (first | rw [← Ny227.out] at ho47 | (simp only [Int.reduceToNat] at ho47; rw [← Ny227.out] at ho47)); have n0_ := Aside0.mk (Kd.R_lower ho47 (below_size (by repeat (first | (with_reducible first | exact HB.out | apply below_alloc | apply pw_below_drewN | apply below_drew1) | exact HB.out)))); have n1_ := Aside0.mk (below_step (by repeat (first | (with_reducible first | exact HB.out | apply below_alloc | apply pw_below_drewN | apply below_drew1) | exact HB.out)) hb); clear HB; have HO229 := n0_; have HB := n1_; clear n0_ n1_; clear hb ho47; have hcv48 := own_string (P := Try.prog) Try.underlying40 Try.underlying5 Try.underlying9 (Kd.own_of_R HO229.out)) | ((with_reducible refine gate_callee (f := 39) rfl ?_); refine goesL_ (some 19) rfl rfl Try.func39 (by kernel_rfl) rfl #[.string (strOfNums y227)] rfl (by (try simp only [List.map_toArray, List.map_cons, List.map_nil]); first | done | rfl | (simp only [List.length_drop, List.length_take]; rfl)) ?_; (with_reducible refine (deflate_Raw.calls (strOfNums y227) t230 t231 _ A5.out).mono ?_); rintro e w49 ⟨rfl, hb⟩; refine ⟨_, rfl, ?_⟩; have n0_ := Aside0.mk (Kd.R_below (by (with_reducible repeat (first | apply Kd.R_alloc | apply Kd.R_drewN | apply Kd.R_drew)); exact HO229.out) hb); have n1_ := Aside0.mk (below_step (by repeat (first | (with_reducible first | exact HB.out | apply below_alloc | apply pw_below_drewN | apply below_drew1) | exact HB.out)) hb); clear HO229; clear HB; have HO229 := n0_; have HB := n1_; clear n0_ n1_; (try clear hb); (try clear hb2); (try clear hk); (try clear hi)) | ((with_reducible refine gate_callee (f := 40) rfl ?_); refine goesL_ (some 24) rfl rfl Try.func40 (by kernel_rfl) rfl #[.string (strOfNums y227)] rfl (by (try simp only [List.map_toArray, List.map_cons, List.map_nil]); first | done | rfl | (simp only [List.length_drop, List.length_take]; rfl)) ?_; (with_reducible refine (deflate_Close.calls k (strOfNums y227) t232 t233 _ A6.out).mono ?_); rintro e w50 ⟨rfl, hb⟩; refine ⟨_, rfl, ?_⟩; have n0_ := Aside0.mk (Kd.R_below (by (with_reducible repeat (first | apply Kd.R_alloc | apply Kd.R_drewN | apply Kd.R_drew)); exact HO229.out) hb); have n1_ := Aside0.mk (below_step (by repeat (first | (with_reducible first | exact HB.out | apply below_alloc | apply pw_below_drewN | apply below_drew1) | exact HB.out)) hb); clear HO229; clear HB; have HO229 := n0_; have HB := n1_; clear n0_ n1_; (try clear hb); (try clear hb2); (try clear hk); (try clear hi)) | ((with_reducible refine gate_callee (f := 46) rfl ?_); refine goesL_ (some 48) rfl rfl Try.func46 (by kernel_rfl) rfl #[.string t232, .int .i64 262144] rfl (by (try simp only [List.map_toArray, List.map_cons, List.map_nil]); first | done | rfl | (simp only [List.length_drop, List.length_take]; rfl)) ?_; (with_reducible refine (inflate_Open.calls k t232 262144 t235 t236 _ A39.out).mono ?_); rintro e w51 ⟨rfl, hb⟩; refine ⟨_, rfl, ?_⟩; have n0_ := Aside0.mk (Kd.R_below (by (with_reducible repeat (first | apply Kd.R_alloc | apply Kd.R_drewN | apply Kd.R_drew)); exact HO229.out) hb); have n1_ := Aside0.mk (below_step (by repeat (first | (with_reducible first | exact HB.out | apply below_alloc | apply pw_below_drewN | apply below_drew1) | exact HB.out)) hb); clear HO229; clear HB; have HO229 := n0_; have HB := n1_; clear n0_ n1_; (try clear hb); (try clear hb2); (try clear hk); (try clear hi)) | (go_at_call 36; (with_reducible refine (celluloidlaw06_awake.calls k  t237 _ A45.out).mono ?_); rintro e w52 ⟨rfl, hb⟩; have n0_ := Aside0.mk (Kd.R_below (by (with_reducible repeat (first | apply Kd.R_alloc | apply Kd.R_drewN | apply Kd.R_drew)); exact HO229.out) hb); have n1_ := Aside0.mk (below_step (by repeat (first | (with_reducible first | exact HB.out | apply below_alloc | apply pw_below_drewN | apply below_drew1) | exact HB.out)) hb); clear HO229; clear HB; have HO229 := n0_; have HB := n1_; clear n0_ n1_; (try clear hb); (try clear hb2); (try clear hk); (try clear hi)))
                    go_ret
                    exact ⟨by first | rfl | (simp [errW_none, errW_some] <;> rfl) | (simp only [← hji2]; first | rfl | (simp [errW_none, errW_some] <;> rfl)) | (simp [*, errW_none, errW_some] <;> rfl), by repeat (first | (with_reducible first | exact HB.out | apply below_alloc | apply pw_below_drewN | apply below_drew1) | exact HB.out)⟩
                · rw [if_neg c44] at H
                  have c44b0 : (t236 == 0) = false := beq_eq_false_iff_ne.mpr c44
                  have c44b1 : (t236 != 0) = true := bne_iff_ne.mpr c44
                  first
                  | exact absurd (Option.some.inj H) (by rw [hr_.out]; decide)
                  | obtain rfl := Option.some.inj H
                    go_enter Try.func18, Try.ntmps18
                    go_wp2_with (first | ((with_reducible refine gate_dst (N := 15) rfl ?_); (try (refine gate_guard (by rfl) ?_; dsimp only)); refine Kd.R_make (Kd.int .u8) _ 5 rfl (N := 15) rfl 40 _ _ rfl ji2 rfl rfl Try.underlying40 (.int .u8 0) 1 info5 rfl (by decide) (by omega) 0 (ok := fun _ => True) (okp := fun _ => True) rfl (fun _ hk => hk) trivial (of_decide_eq_true (by first | (with_reducible assumption) | assumption)) (Nat.le_trans (Nat.mul_le_mul_right _ (of_decide_eq_true (by first | (with_reducible assumption) | assumption) : ji2.toNat ≤ 281474976710656)) (by omega)) (Below.refl _ _) (Nat.le_refl _) ?_; intro v228 w53 ho54 hb hg_ hnew_; clear hg_ hnew_; (first | rw [← Ny227.out] at ho54 | (simp only [Int.reduceToNat] at ho54; rw [← Ny227.out] at ho54)); have n0_ := Aside0.mk (Kd.R_lower ho54 (below_size (by repeat (first | (with_reducible first | exact HB.out | apply below_alloc | apply pw_below_drewN | apply below_drew1) | exact HB.out)))); have n1_ := Aside0.mk (below_step (by repeat (first | (with_reducible first | exact HB.out | apply below_alloc | apply pw_below_drewN | apply below_drew1) | exact HB.out)) hb); clear HB; have HO229 := n0_; have HB := n1_; clear n0_ n1_; clear hb ho54; have hcv55 := own_string (P := Try.prog) Try.underlying40 Try.underlying5 Try.underlying9 (Kd.own_of_R HO229.out)) | ((with_reducible refine gate_callee (f := 39) rfl ?_); refine goesL_ (some 19) rfl rfl Try.func39 (by kernel_rfl) rfl #[.string (strOfNums y227)] rfl (by (try simp only [List.map_toArray, List.map_cons, List.map_nil]); first | done | rfl | (simp only [List.length_drop, List.length_take]; rfl)) ?_; (with_reducible refine (deflate_Raw.calls (strOfNums y227) t230 t231 _ A5.out).mono ?_); rintro e w56 ⟨rfl, hb⟩; refine ⟨_, rfl, ?_⟩; have n0_ := Aside0.mk (Kd.R_below (by (with_reducible repeat (first | apply Kd.R_alloc | apply Kd.R_drewN | apply Kd.R_drew)); exact HO229.out) hb); have n1_ := Aside0.mk (below_step (by repeat (first | (with_reducible first | exact HB.out | apply below_alloc | apply pw_below_drewN | apply below_drew1) | exact HB.out)) hb); clear HO229; clear HB; have HO229 := n0_; have HB := n1_; clear n0_ n1_; (try clear hb); (try clear hb2); (try clear hk); (try clear hi)) | ((with_reducible refine gate_callee (f := 40) rfl ?_); refine goesL_ (some 24) rfl rfl Try.func40 (by kernel_rfl) rfl #[.string (strOfNums y227)] rfl (by (try simp only [List.map_toArray, List.map_cons, List.map_nil]); first | done | rfl | (simp only [List.length_drop, List.length_take]; rfl)) ?_; (with_reducible refine (deflate_Close.calls k (strOfNums y227) t232 t233 _ A6.out).mono ?_); rintro e w57 ⟨rfl, hb⟩; refine ⟨_, rfl, ?_⟩; have n0_ := Aside0.mk (Kd.R_below (by (with_reducible repeat (first | apply Kd.R_alloc | apply Kd.R_drewN | apply Kd.R_drew)); exact HO229.out) hb); have n1_ := Aside0.mk (below_step (by repeat (first | (with_reducible first | exact HB.out | apply below_alloc | apply pw_below_drewN | apply below_drew1) | exact HB.out)) hb); clear HO229; clear HB; have HO229 := n0_; have HB := n1_; clear n0_ n1_; (try clear hb); (try clear hb2); (try clear hk); (try clear hi)) | ((with_reducible refine gate_callee (f := 46) rfl ?_); refine goesL_ (some 48) rfl rfl Try.func46 (by kernel_rfl) rfl #[.string t232, .int .i64 262144] rfl (by (try simp only [List.map_toArray, List.map_cons, List.map_nil]); first | done | rfl | (simp only [List.length_drop, List.length_take]; rfl)) ?_; (with_reducible refine (inflate_Open.calls k t232 262144 t235 t236 _ A39.out).mono ?_); rintro e w58 ⟨rfl, hb⟩; refine ⟨_, rfl, ?_⟩; have n0_ := Aside0.mk (Kd.R_below (by (with_reducible repeat (first | apply Kd.R_alloc | apply Kd.R_drewN | apply Kd.R_drew)); exact HO229.out) hb); have n1_ := Aside0.mk (below_step (by repeat (first | (with_reducible first | exact HB.out | apply below_alloc | apply pw_below_drewN | apply below_drew1) | exact HB.out)) hb); clear HO229; clear HB; have HO229 := n0_; have HB := n1_; clear n0_ n1_; (try clear hb); (try clear hb2); (try clear hk); (try clear hi)))
                    go_ret
                    exact ⟨by first | rfl | (simp [errW_none, errW_some] <;> rfl) | (simp only [← hji2]; first | rfl | (simp [errW_none, errW_some] <;> rfl)) | (simp [*, errW_none, errW_some] <;> rfl), by repeat (first | (with_reducible first | exact HB.out | apply below_alloc | apply pw_below_drewN | apply below_drew1) | exact HB.out)⟩
              · rw [if_neg c43] at H
                have c43b0 : (t235.toList == (strOfNums y227).toList) = false := beq_eq_false_iff_ne.mpr c43
                have c43b1 : (t235.toList != (strOfNums y227).toList) = true := bne_iff_ne.mpr c43
                first
                | exact absurd (Option.some.inj H) (by rw [hr_.out]; decide)
                | obtain rfl := Option.some.inj H
                  go_enter Try.func18, Try.ntmps18
                  go_wp2_with (first | ((with_reducible refine gate_dst (N := 15) rfl ?_); (try (refine gate_guard (by rfl) ?_; dsimp only)); refine Kd.R_make (Kd.int .u8) _ 5 rfl (N := 15) rfl 40 _ _ rfl ji2 rfl rfl Try.underlying40 (.int .u8 0) 1 info5 rfl (by decide) (by omega) 0 (ok := fun _ => True) (okp := fun _ => True) rfl (fun _ hk => hk) trivial (of_decide_eq_true (by first | (with_reducible assumption) | assumption)) (Nat.le_trans (Nat.mul_le_mul_right _ (of_decide_eq_true (by first | (with_reducible assumption) | assumption) : ji2.toNat ≤ 281474976710656)) (by omega)) (Below.refl _ _) (Nat.le_refl _) ?_; intro v228 w59 ho60 hb hg_ hnew_; clear hg_ hnew_; (first | rw [← Ny227.out] at ho60 | (simp only [Int.reduceToNat] at ho60; rw [← Ny227.out] at ho60)); have n0_ := Aside0.mk (Kd.R_lower ho60 (below_size (by repeat (first | (with_reducible first | exact HB.out | apply below_alloc | apply pw_below_drewN | apply below_drew1) | exact HB.out)))); have n1_ := Aside0.mk (below_step (by repeat (first | (with_reducible first | exact HB.out | apply below_alloc | apply pw_below_drewN | apply below_drew1) | exact HB.out)) hb); clear HB; have HO229 := n0_; have HB := n1_; clear n0_ n1_; clear hb ho60; have hcv61 := own_string (P := Try.prog) Try.underlying40 Try.underlying5 Try.underlying9 (Kd.own_of_R HO229.out)) | ((with_reducible refine gate_callee (f := 39) rfl ?_); refine goesL_ (some 19) rfl rfl Try.func39 (by kernel_rfl) rfl #[.string (strOfNums y227)] rfl (by (try simp only [List.map_toArray, List.map_cons, List.map_nil]); first | done | rfl | (simp only [List.length_drop, List.length_take]; rfl)) ?_; (with_reducible refine (deflate_Raw.calls (strOfNums y227) t230 t231 _ A5.out).mono ?_); rintro e w62 ⟨rfl, hb⟩; refine ⟨_, rfl, ?_⟩; have n0_ := Aside0.mk (Kd.R_below (by (with_reducible repeat (first | apply Kd.R_alloc | apply Kd.R_drewN | apply Kd.R_drew)); exact HO229.out) hb); have n1_ := Aside0.mk (below_step (by repeat (first | (with_reducible first | exact HB.out | apply below_alloc | apply pw_below_drewN | apply below_drew1) | exact HB.out)) hb); clear HO229; clear HB; have HO229 := n0_; have HB := n1_; clear n0_ n1_; (try clear hb); (try clear hb2); (try clear hk); (try clear hi)) | ((with_reducible refine gate_callee (f := 40) rfl ?_); refine goesL_ (some 24) rfl rfl Try.func40 (by kernel_rfl) rfl #[.string (strOfNums y227)] rfl (by (try simp only [List.map_toArray, List.map_cons, List.map_nil]); first | done | rfl | (simp only [List.length_drop, List.length_take]; rfl)) ?_; (with_reducible refine (deflate_Close.calls k (strOfNums y227) t232 t233 _ A6.out).mono ?_); rintro e w63 ⟨rfl, hb⟩; refine ⟨_, rfl, ?_⟩; have n0_ := Aside0.mk (Kd.R_below (by (with_reducible repeat (first | apply Kd.R_alloc | apply Kd.R_drewN | apply Kd.R_drew)); exact HO229.out) hb); have n1_ := Aside0.mk (below_step (by repeat (first | (with_reducible first | exact HB.out | apply below_alloc | apply pw_below_drewN | apply below_drew1) | exact HB.out)) hb); clear HO229; clear HB; have HO229 := n0_; have HB := n1_; clear n0_ n1_; (try clear hb); (try clear hb2); (try clear hk); (try clear hi)) | ((with_reducible refine gate_callee (f := 46) rfl ?_); refine goesL_ (some 48) rfl rfl Try.func46 (by kernel_rfl) rfl #[.string t232, .int .i64 262144] rfl (by (try simp only [List.map_toArray, List.map_cons, List.map_nil]); first | done | rfl | (simp only [List.length_drop, List.length_take]; rfl)) ?_; (with_reducible refine (inflate_Open.calls k t232 262144 t235 t236 _ A39.out).mono ?_); rintro e w64 ⟨rfl, hb⟩; refine ⟨_, rfl, ?_⟩; have n0_ := Aside0.mk (Kd.R_below (by (with_reducible repeat (first | apply Kd.R_alloc | apply Kd.R_drewN | apply Kd.R_drew)); exact HO229.out) hb); have n1_ := Aside0.mk (below_step (by repeat (first | (with_reducible first | exact HB.out | apply below_alloc | apply pw_below_drewN | apply below_drew1) | exact HB.out)) hb); clear HO229; clear HB; have HO229 := n0_; have HB := n1_; clear n0_ n1_; (try clear hb); (try clear hb2); (try clear hk); (try clear hi)))
                  go_ret
                  exact ⟨by first | rfl | (simp [errW_none, errW_some] <;> rfl) | (simp only [← hji2]; first | rfl | (simp [errW_none, errW_some] <;> rfl)) | (simp [*, errW_none, errW_some] <;> rfl), by repeat (first | (with_reducible first | exact HB.out | apply below_alloc | apply pw_below_drewN | apply below_drew1) | exact HB.out)⟩
            · rw [if_neg c42] at H
              have c42b0 : ((t232.size : Int) == (wrap64 ((t230.size : Int) + 6))) = false := beq_eq_false_iff_ne.mpr c42
              have c42b1 : ((t232.size : Int) != (wrap64 ((t230.size : Int) + 6))) = true := bne_iff_ne.mpr c42
              first
              | exact absurd (Option.some.inj H) (by rw [hr_.out]; decide)
              | obtain rfl := Option.some.inj H
                go_enter Try.func18, Try.ntmps18
                go_wp2_with (first | ((with_reducible refine gate_dst (N := 15) rfl ?_); (try (refine gate_guard (by rfl) ?_; dsimp only)); refine Kd.R_make (Kd.int .u8) _ 5 rfl (N := 15) rfl 40 _ _ rfl ji2 rfl rfl Try.underlying40 (.int .u8 0) 1 info5 rfl (by decide) (by omega) 0 (ok := fun _ => True) (okp := fun _ => True) rfl (fun _ hk => hk) trivial (of_decide_eq_true (by first | (with_reducible assumption) | assumption)) (Nat.le_trans (Nat.mul_le_mul_right _ (of_decide_eq_true (by first | (with_reducible assumption) | assumption) : ji2.toNat ≤ 281474976710656)) (by omega)) (Below.refl _ _) (Nat.le_refl _) ?_; intro v228 w65 ho66 hb hg_ hnew_; clear hg_ hnew_; (first | rw [← Ny227.out] at ho66 | (simp only [Int.reduceToNat] at ho66; rw [← Ny227.out] at ho66)); have n0_ := Aside0.mk (Kd.R_lower ho66 (below_size (by repeat (first | (with_reducible first | exact HB.out | apply below_alloc | apply pw_below_drewN | apply below_drew1) | exact HB.out)))); have n1_ := Aside0.mk (below_step (by repeat (first | (with_reducible first | exact HB.out | apply below_alloc | apply pw_below_drewN | apply below_drew1) | exact HB.out)) hb); clear HB; have HO229 := n0_; have HB := n1_; clear n0_ n1_; clear hb ho66; have hcv67 := own_string (P := Try.prog) Try.underlying40 Try.underlying5 Try.underlying9 (Kd.own_of_R HO229.out)) | ((with_reducible refine gate_callee (f := 39) rfl ?_); refine goesL_ (some 19) rfl rfl Try.func39 (by kernel_rfl) rfl #[.string (strOfNums y227)] rfl (by (try simp only [List.map_toArray, List.map_cons, List.map_nil]); first | done | rfl | (simp only [List.length_drop, List.length_take]; rfl)) ?_; (with_reducible refine (deflate_Raw.calls (strOfNums y227) t230 t231 _ A5.out).mono ?_); rintro e w68 ⟨rfl, hb⟩; refine ⟨_, rfl, ?_⟩; have n0_ := Aside0.mk (Kd.R_below (by (with_reducible repeat (first | apply Kd.R_alloc | apply Kd.R_drewN | apply Kd.R_drew)); exact HO229.out) hb); have n1_ := Aside0.mk (below_step (by repeat (first | (with_reducible first | exact HB.out | apply below_alloc | apply pw_below_drewN | apply below_drew1) | exact HB.out)) hb); clear HO229; clear HB; have HO229 := n0_; have HB := n1_; clear n0_ n1_; (try clear hb); (try clear hb2); (try clear hk); (try clear hi)) | ((with_reducible refine gate_callee (f := 40) rfl ?_); refine goesL_ (some 24) rfl rfl Try.func40 (by kernel_rfl) rfl #[.string (strOfNums y227)] rfl (by (try simp only [List.map_toArray, List.map_cons, List.map_nil]); first | done | rfl | (simp only [List.length_drop, List.length_take]; rfl)) ?_; (with_reducible refine (deflate_Close.calls k (strOfNums y227) t232 t233 _ A6.out).mono ?_); rintro e w69 ⟨rfl, hb⟩; refine ⟨_, rfl, ?_⟩; have n0_ := Aside0.mk (Kd.R_below (by (with_reducible repeat (first | apply Kd.R_alloc | apply Kd.R_drewN | apply Kd.R_drew)); exact HO229.out) hb); have n1_ := Aside0.mk (below_step (by repeat (first | (with_reducible first | exact HB.out | apply below_alloc | apply pw_below_drewN | apply below_drew1) | exact HB.out)) hb); clear HO229; clear HB; have HO229 := n0_; have HB := n1_; clear n0_ n1_; (try clear hb); (try clear hb2); (try clear hk); (try clear hi)) | ((with_reducible refine gate_callee (f := 46) rfl ?_); refine goesL_ (some 48) rfl rfl Try.func46 (by kernel_rfl) rfl #[.string t232, .int .i64 262144] rfl (by (try simp only [List.map_toArray, List.map_cons, List.map_nil]); first | done | rfl | (simp only [List.length_drop, List.length_take]; rfl)) ?_; (with_reducible refine (inflate_Open.calls k t232 262144 t235 t236 _ A39.out).mono ?_); rintro e w70 ⟨rfl, hb⟩; refine ⟨_, rfl, ?_⟩; have n0_ := Aside0.mk (Kd.R_below (by (with_reducible repeat (first | apply Kd.R_alloc | apply Kd.R_drewN | apply Kd.R_drew)); exact HO229.out) hb); have n1_ := Aside0.mk (below_step (by repeat (first | (with_reducible first | exact HB.out | apply below_alloc | apply pw_below_drewN | apply below_drew1) | exact HB.out)) hb); clear HO229; clear HB; have HO229 := n0_; have HB := n1_; clear n0_ n1_; (try clear hb); (try clear hb2); (try clear hk); (try clear hi)))
                go_ret
                exact ⟨by first | rfl | (simp [errW_none, errW_some] <;> rfl) | (simp only [← hji2]; first | rfl | (simp [errW_none, errW_some] <;> rfl)) | (simp [*, errW_none, errW_some] <;> rfl), by repeat (first | (with_reducible first | exact HB.out | apply below_alloc | apply pw_below_drewN | apply below_drew1) | exact HB.out)⟩
          · rw [if_neg c41] at H
            have c41b0 : (t233 == 0) = false := beq_eq_false_iff_ne.mpr c41
            have c41b1 : (t233 != 0) = true := bne_iff_ne.mpr c41
            first
            | exact absurd (Option.some.inj H) (by rw [hr_.out]; decide)
            | obtain rfl := Option.some.inj H
              go_enter Try.func18, Try.ntmps18
              go_wp2_with (first | ((with_reducible refine gate_dst (N := 15) rfl ?_); (try (refine gate_guard (by rfl) ?_; dsimp only)); refine Kd.R_make (Kd.int .u8) _ 5 rfl (N := 15) rfl 40 _ _ rfl ji2 rfl rfl Try.underlying40 (.int .u8 0) 1 info5 rfl (by decide) (by omega) 0 (ok := fun _ => True) (okp := fun _ => True) rfl (fun _ hk => hk) trivial (of_decide_eq_true (by first | (with_reducible assumption) | assumption)) (Nat.le_trans (Nat.mul_le_mul_right _ (of_decide_eq_true (by first | (with_reducible assumption) | assumption) : ji2.toNat ≤ 281474976710656)) (by omega)) (Below.refl _ _) (Nat.le_refl _) ?_; intro v228 w71 ho72 hb hg_ hnew_; clear hg_ hnew_; (first | rw [← Ny227.out] at ho72 | (simp only [Int.reduceToNat] at ho72; rw [← Ny227.out] at ho72)); have n0_ := Aside0.mk (Kd.R_lower ho72 (below_size (by repeat (first | (with_reducible first | exact HB.out | apply below_alloc | apply pw_below_drewN | apply below_drew1) | exact HB.out)))); have n1_ := Aside0.mk (below_step (by repeat (first | (with_reducible first | exact HB.out | apply below_alloc | apply pw_below_drewN | apply below_drew1) | exact HB.out)) hb); clear HB; have HO229 := n0_; have HB := n1_; clear n0_ n1_; clear hb ho72; have hcv73 := own_string (P := Try.prog) Try.underlying40 Try.underlying5 Try.underlying9 (Kd.own_of_R HO229.out)) | ((with_reducible refine gate_callee (f := 39) rfl ?_); refine goesL_ (some 19) rfl rfl Try.func39 (by kernel_rfl) rfl #[.string (strOfNums y227)] rfl (by (try simp only [List.map_toArray, List.map_cons, List.map_nil]); first | done | rfl | (simp only [List.length_drop, List.length_take]; rfl)) ?_; (with_reducible refine (deflate_Raw.calls (strOfNums y227) t230 t231 _ A5.out).mono ?_); rintro e w74 ⟨rfl, hb⟩; refine ⟨_, rfl, ?_⟩; have n0_ := Aside0.mk (Kd.R_below (by (with_reducible repeat (first | apply Kd.R_alloc | apply Kd.R_drewN | apply Kd.R_drew)); exact HO229.out) hb); have n1_ := Aside0.mk (below_step (by repeat (first | (with_reducible first | exact HB.out | apply below_alloc | apply pw_below_drewN | apply below_drew1) | exact HB.out)) hb); clear HO229; clear HB; have HO229 := n0_; have HB := n1_; clear n0_ n1_; (try clear hb); (try clear hb2); (try clear hk); (try clear hi)) | ((with_reducible refine gate_callee (f := 40) rfl ?_); refine goesL_ (some 24) rfl rfl Try.func40 (by kernel_rfl) rfl #[.string (strOfNums y227)] rfl (by (try simp only [List.map_toArray, List.map_cons, List.map_nil]); first | done | rfl | (simp only [List.length_drop, List.length_take]; rfl)) ?_; (with_reducible refine (deflate_Close.calls k (strOfNums y227) t232 t233 _ A6.out).mono ?_); rintro e w75 ⟨rfl, hb⟩; refine ⟨_, rfl, ?_⟩; have n0_ := Aside0.mk (Kd.R_below (by (with_reducible repeat (first | apply Kd.R_alloc | apply Kd.R_drewN | apply Kd.R_drew)); exact HO229.out) hb); have n1_ := Aside0.mk (below_step (by repeat (first | (with_reducible first | exact HB.out | apply below_alloc | apply pw_below_drewN | apply below_drew1) | exact HB.out)) hb); clear HO229; clear HB; have HO229 := n0_; have HB := n1_; clear n0_ n1_; (try clear hb); (try clear hb2); (try clear hk); (try clear hi)) | ((with_reducible refine gate_callee (f := 46) rfl ?_); refine goesL_ (some 48) rfl rfl Try.func46 (by kernel_rfl) rfl #[.string t232, .int .i64 262144] rfl (by (try simp only [List.map_toArray, List.map_cons, List.map_nil]); first | done | rfl | (simp only [List.length_drop, List.length_take]; rfl)) ?_; (with_reducible refine (inflate_Open.calls k t232 262144 t235 t236 _ A39.out).mono ?_); rintro e w76 ⟨rfl, hb⟩; refine ⟨_, rfl, ?_⟩; have n0_ := Aside0.mk (Kd.R_below (by (with_reducible repeat (first | apply Kd.R_alloc | apply Kd.R_drewN | apply Kd.R_drew)); exact HO229.out) hb); have n1_ := Aside0.mk (below_step (by repeat (first | (with_reducible first | exact HB.out | apply below_alloc | apply pw_below_drewN | apply below_drew1) | exact HB.out)) hb); clear HO229; clear HB; have HO229 := n0_; have HB := n1_; clear n0_ n1_; (try clear hb); (try clear hb2); (try clear hk); (try clear hi)))
              go_ret
              exact ⟨by first | rfl | (simp [errW_none, errW_some] <;> rfl) | (simp only [← hji2]; first | rfl | (simp [errW_none, errW_some] <;> rfl)) | (simp [*, errW_none, errW_some] <;> rfl), by repeat (first | (with_reducible first | exact HB.out | apply below_alloc | apply pw_below_drewN | apply below_drew1) | exact HB.out)⟩
        · rw [if_neg c40] at H
          have c40b0 : (t231 == 0) = false := beq_eq_false_iff_ne.mpr c40
          have c40b1 : (t231 != 0) = true := bne_iff_ne.mpr c40
          first
          | exact absurd (Option.some.inj H) (by rw [hr_.out]; decide)
          | obtain rfl := Option.some.inj H
            go_enter Try.func18, Try.ntmps18
            go_wp2_with (first | ((with_reducible refine gate_dst (N := 15) rfl ?_); (try (refine gate_guard (by rfl) ?_; dsimp only)); refine Kd.R_make (Kd.int .u8) _ 5 rfl (N := 15) rfl 40 _ _ rfl ji2 rfl rfl Try.underlying40 (.int .u8 0) 1 info5 rfl (by decide) (by omega) 0 (ok := fun _ => True) (okp := fun _ => True) rfl (fun _ hk => hk) trivial (of_decide_eq_true (by first | (with_reducible assumption) | assumption)) (Nat.le_trans (Nat.mul_le_mul_right _ (of_decide_eq_true (by first | (with_reducible assumption) | assumption) : ji2.toNat ≤ 281474976710656)) (by omega)) (Below.refl _ _) (Nat.le_refl _) ?_; intro v228 w77 ho78 hb hg_ hnew_; clear hg_ hnew_; (first | rw [← Ny227.out] at ho78 | (simp only [Int.reduceToNat] at ho78; rw [← Ny227.out] at ho78)); have n0_ := Aside0.mk (Kd.R_lower ho78 (below_size (by repeat (first | (with_reducible first | exact HB.out | apply below_alloc | apply pw_below_drewN | apply below_drew1) | exact HB.out)))); have n1_ := Aside0.mk (below_step (by repeat (first | (with_reducible first | exact HB.out | apply below_alloc | apply pw_below_drewN | apply below_drew1) | exact HB.out)) hb); clear HB; have HO229 := n0_; have HB := n1_; clear n0_ n1_; clear hb ho78; have hcv79 := own_string (P := Try.prog) Try.underlying40 Try.underlying5 Try.underlying9 (Kd.own_of_R HO229.out)) | ((with_reducible refine gate_callee (f := 39) rfl ?_); refine goesL_ (some 19) rfl rfl Try.func39 (by kernel_rfl) rfl #[.string (strOfNums y227)] rfl (by (try simp only [List.map_toArray, List.map_cons, List.map_nil]); first | done | rfl | (simp only [List.length_drop, List.length_take]; rfl)) ?_; (with_reducible refine (deflate_Raw.calls (strOfNums y227) t230 t231 _ A5.out).mono ?_); rintro e w80 ⟨rfl, hb⟩; refine ⟨_, rfl, ?_⟩; have n0_ := Aside0.mk (Kd.R_below (by (with_reducible repeat (first | apply Kd.R_alloc | apply Kd.R_drewN | apply Kd.R_drew)); exact HO229.out) hb); have n1_ := Aside0.mk (below_step (by repeat (first | (with_reducible first | exact HB.out | apply below_alloc | apply pw_below_drewN | apply below_drew1) | exact HB.out)) hb); clear HO229; clear HB; have HO229 := n0_; have HB := n1_; clear n0_ n1_; (try clear hb); (try clear hb2); (try clear hk); (try clear hi)) | ((with_reducible refine gate_callee (f := 40) rfl ?_); refine goesL_ (some 24) rfl rfl Try.func40 (by kernel_rfl) rfl #[.string (strOfNums y227)] rfl (by (try simp only [List.map_toArray, List.map_cons, List.map_nil]); first | done | rfl | (simp only [List.length_drop, List.length_take]; rfl)) ?_; (with_reducible refine (deflate_Close.calls k (strOfNums y227) t232 t233 _ A6.out).mono ?_); rintro e w81 ⟨rfl, hb⟩; refine ⟨_, rfl, ?_⟩; have n0_ := Aside0.mk (Kd.R_below (by (with_reducible repeat (first | apply Kd.R_alloc | apply Kd.R_drewN | apply Kd.R_drew)); exact HO229.out) hb); have n1_ := Aside0.mk (below_step (by repeat (first | (with_reducible first | exact HB.out | apply below_alloc | apply pw_below_drewN | apply below_drew1) | exact HB.out)) hb); clear HO229; clear HB; have HO229 := n0_; have HB := n1_; clear n0_ n1_; (try clear hb); (try clear hb2); (try clear hk); (try clear hi)) | ((with_reducible refine gate_callee (f := 46) rfl ?_); refine goesL_ (some 48) rfl rfl Try.func46 (by kernel_rfl) rfl #[.string t232, .int .i64 262144] rfl (by (try simp only [List.map_toArray, List.map_cons, List.map_nil]); first | done | rfl | (simp only [List.length_drop, List.length_take]; rfl)) ?_; (with_reducible refine (inflate_Open.calls k t232 262144 t235 t236 _ A39.out).mono ?_); rintro e w82 ⟨rfl, hb⟩; refine ⟨_, rfl, ?_⟩; have n0_ := Aside0.mk (Kd.R_below (by (with_reducible repeat (first | apply Kd.R_alloc | apply Kd.R_drewN | apply Kd.R_drew)); exact HO229.out) hb); have n1_ := Aside0.mk (below_step (by repeat (first | (with_reducible first | exact HB.out | apply below_alloc | apply pw_below_drewN | apply below_drew1) | exact HB.out)) hb); clear HO229; clear HB; have HO229 := n0_; have HB := n1_; clear n0_ n1_; (try clear hb); (try clear hb2); (try clear hk); (try clear hi)))
            go_ret
            exact ⟨by first | rfl | (simp [errW_none, errW_some] <;> rfl) | (simp only [← hji2]; first | rfl | (simp [errW_none, errW_some] <;> rfl)) | (simp [*, errW_none, errW_some] <;> rfl), by repeat (first | (with_reducible first | exact HB.out | apply below_alloc | apply pw_below_drewN | apply below_drew1) | exact HB.out)⟩
    · rw [if_neg c4] at H
      exact absurd H (by simp)
  · rw [if_neg c3] at H
    exact absurd H (by simp)
/-- THE ONE PURE STATEMENT of celluloidlaw06_DeflateLong: yours. -/
def celluloidlaw06_DeflateLong.Pure : Prop := ∀ (a0 : Int), (Lit.int .i8 a0).wf = true → ∃ k, celluloidlaw06_DeflateLong.f k a0 = some true
theorem celluloidlaw06_DeflateLong.walk (P : celluloidlaw06_DeflateLong.Pure) (a0 : Int) (w : World) (w0 : (Lit.int .i8 a0).wf = true) :
    Calls Try.prog 18 #[.int .i8 a0] w fun e w' => e = .returned (.bool true) ∧ Below w.heap.size w w' := by
  obtain ⟨k, h⟩ := P a0 w0
  refine (celluloidlaw06_DeflateLong.calls k a0 true w h ⟨rfl⟩).mono ?_
  rintro e w' ⟨rfl, hd⟩
  exact ⟨rfl, hd⟩
end Go.Proofs.Ytpbhkdamkbopkaa.GBack2
namespace Go.Proofs.Ytpbhkdamkbopkaa.Inf
set_option linter.unusedSimpArgs false
set_option linter.unusedVariables false
open Go.RowKit Go.Proofs.Ytpbhkdamkbopkaa.Ext Go.Proofs.Ytpbhkdamkbopkaa.RefP Go.Proofs.Ytpbhkdamkbopkaa.Stage Go.Proofs.YtpbhkdamkbopkaaW.PrintWords Go.Proofs.YtpbhkdamkbopkaaW.PrintLast Go.Proofs.YtpbhkdamkbopkaaW.PrintMore
/-- Bytes that are the same as far as N. -/
structure Agr (s t : ByteArray) (N : Nat) : Prop where
  ns : N ≤ s.size
  nt : N ≤ t.size
  b : ∀ j : Int, 0 ≤ j → j < N → bt t j = bt s j
  hs : s.size ≤ 140737488351232
  ht : t.size ≤ 140737488351232
section
variable {s t : ByteArray} {N : Nat} {mx mz : Int} {x y z : St}
theorem Agr.bit (A : Agr s t N) (i : Int) (h0 : 0 ≤ i) (h1 : i < 8 * N) : bitN t i = bitN s i := by
  unfold bitN; rw [A.b (i / 8) (by omega) (by omega)]
theorem Agr.vn (A : Agr s t N) (pos : Int) (h0 : 0 ≤ pos) : ∀ n : Nat, pos + n ≤ 8 * N → Vn t pos n = Vn s pos n := by
  intro n
  induction n with
  | zero => intro _; rfl
  | succ n ih =>
    intro h
    show 2 * Vn t pos n + bitN t (pos + n) = 2 * Vn s pos n + bitN s (pos + n)
    rw [ih (by omega), A.bit (pos + n) (by omega) (by omega)]
end
end Go.Proofs.Ytpbhkdamkbopkaa.Inf
namespace Go.Proofs.Ytpbhkdamkbopkaa.Inf
set_option linter.unusedSimpArgs false
set_option linter.unusedVariables false
open Go.RowKit Go.Proofs.Ytpbhkdamkbopkaa.Ext Go.Proofs.Ytpbhkdamkbopkaa.RefP Go.Proofs.YtpbhkdamkbopkaaW.PrintWords Go.Proofs.YtpbhkdamkbopkaaW.PrintLast Go.Proofs.YtpbhkdamkbopkaaW.PrintMore
theorem strOfNums_bytes (s : ByteArray) : strOfNums (bytesOf s) = s := by
  unfold strOfNums bytesOf
  rw [List.map_map]
  have e : (fun n : Int => UInt8.ofNat n.toNat) ∘ (fun b : UInt8 => (b.toNat : Int)) = id := by
    funext b; simp
  rw [e, List.map_id]
theorem bytesOf_append (s t : ByteArray) : bytesOf (s ++ t) = bytesOf s ++ bytesOf t := by simp [bytesOf]
theorem bt_left (s t : ByteArray) (j : Int) (h0 : 0 ≤ j) (h1 : j < s.size) : bt (s ++ t) j = bt s j := by
  rw [← rd_bytesOf, ← rd_bytesOf, bytesOf_append]
  unfold rd
  simp only [List.getD_eq_getElem?_getD]
  rw [List.getElem?_append_left (by rw [bytesOf_length]; omega)]
theorem bt_nums (l : List Int) (hl : ∀ x ∈ l, 0 ≤ x ∧ x ≤ 255) (j : Nat) (h : j < l.length) : bt (strOfNums l) (j : Int) = l.getD j 0 := by
  rw [← rd_bytesOf]
  unfold rd bytesOf
  have hd : (strOfNums l).data.toList = l.map fun n => UInt8.ofNat n.toNat := rfl
  rw [hd, List.map_map]
  simp only [List.getD_eq_getElem?_getD, Int.toNat_natCast]
  rw [List.getElem?_map, List.getElem?_eq_getElem h]
  have := hl _ (List.getElem_mem h)
  simp
  omega
theorem bits_at (s : ByteArray) (k : Nat) (p : Int) (o : List Int) (h0 : 0 ≤ p) (hk : k ≤ 16) (h : p + k ≤ 8 * s.size) : bits s k ⟨p, o, 0⟩ = (Bn s p k, ⟨p + k, o, 0⟩) := by
  have e : bitsOf s p k = (Bn s p k, p + k, 0) := by
    unfold bitsOf
    rw [if_neg (by omega), if_pos h, Int.toNat_natCast]
  unfold bits tak
  rw [if_pos rfl]
  simp only [e]
  rfl
def run0 (s : ByteArray) (mx : Int) : St := blocks s mx (8 * s.size + 2) ⟨0, [], 0⟩
theorem raw_is (s : ByteArray) (mx : Int) (h : 0 ≤ mx ∧ mx ≤ 262144) : raw s mx = if (run0 s mx).e = 0 then (strOfNums (run0 s mx).o, ((run0 s mx).p + 7) / 8, 0) else (⟨#[]⟩, 0, (run0 s mx).e) := by
  unfold raw; rw [if_neg (by omega)]; rfl
end Go.Proofs.Ytpbhkdamkbopkaa.Inf
namespace Go.Proofs.Ytpbhkdamkbopkaa.Bk
set_option linter.unusedSimpArgs false
set_option linter.unusedVariables false
open Go.RowKit Go.Proofs.Ytpbhkdamkbopkaa.Ext Go.Proofs.Ytpbhkdamkbopkaa.RefP Go.Proofs.Ytpbhkdamkbopkaa.Stage Go.Proofs.Ytpbhkdamkbopkaa.Inf Go.Proofs.YtpbhkdamkbopkaaW.PrintWords Go.Proofs.YtpbhkdamkbopkaaW.PrintLast Go.Proofs.YtpbhkdamkbopkaaW.PrintMore
open Go.Proofs.Ytpbhkdamkbopkaa.Wr (pk pkr put1 pkr_len pk_len pkr_rng pk_rng Bits bit nb nb_succ nb_len nb_bits cb cb_len cb_bits sc sc_bits sc_len rc rc_bits lsym dsym lsym_rng lf df lof dof lof_all dof_all RB rbits run_rng df_rng rc_len)
open Go.Proofs.Ytpbhkdamkbopkaa.Rn (run mlen mlen_spec best best_spec)
theorem getL (A B : List Int) (i : Nat) (h : i < A.length) : (A ++ B).getD i 0 = A.getD i 0 := by
  rw [List.getD_eq_getElem?_getD, List.getD_eq_getElem?_getD, List.getElem?_append_left h]
theorem getR (A B : List Int) (i : Nat) : (A ++ B).getD (A.length + i) 0 = B.getD i 0 := by
  rw [List.getD_eq_getElem?_getD, List.getD_eq_getElem?_getD, List.getElem?_append_right (by omega), Nat.add_sub_cancel_left]
theorem getS (A : List Int) (i j : Nat) (x : Int) : (A.set i x).getD j 0 = if i = j ∧ j < A.length then x else A.getD j 0 := by
  rw [List.getD_eq_getElem?_getD, List.getD_eq_getElem?_getD, List.getElem?_set]
  by_cases h : i = j
  · subst h
    rw [if_pos rfl]
    by_cases h2 : i < A.length
    · rw [if_pos h2, if_pos ⟨rfl, h2⟩]; rfl
    · rw [if_neg h2, if_neg (fun h => h2 h.2), List.getElem?_eq_none (by omega)]
  · rw [if_neg h, if_neg (fun h3 => h h3.1)]
theorem add_bit (z b : Int) (i r : Nat) (hi : i < r) : (z + b * 2 ^ r) / 2 ^ i % 2 = z / 2 ^ i % 2 := by
  have e : b * 2 ^ r = 2 * (b * 2 ^ (r - i - 1)) * 2 ^ i := by
    have : (2 : Int) ^ r = 2 ^ (r - i - 1) * 2 * 2 ^ i := by
      rw [← Int.pow_succ, ← Int.pow_add]; congr 1; omega
    rw [this]
    simp only [Int.mul_comm, Int.mul_left_comm, Int.mul_assoc]
  have hp : (2 : Int) ^ i ≠ 0 := by have := Int.pow_pos (n := 2) (m := i) (by decide); omega
  rw [e, Int.add_mul_ediv_right _ _ hp]
  omega
theorem top_bit (z b : Int) (r : Nat) (h0 : 0 ≤ z) (h1 : z < 2 ^ r) (hb : 0 ≤ b ∧ b ≤ 1) : (z + b * 2 ^ r) / 2 ^ r % 2 = b := by
  have hp : (2 : Int) ^ r ≠ 0 := by omega
  rw [Int.add_mul_ediv_right _ _ hp, Int.ediv_eq_zero_of_lt h0 h1]
  omega
theorem pkr_bit : ∀ (B : List Int), (∀ b ∈ B, 0 ≤ b ∧ b ≤ 1) → ∀ i, i < B.length → (pkr B).getD (i / 8) 0 / 2 ^ (i % 8) % 2 = B.getD (B.length - 1 - i) 0
  | [], _, i, h => absurd h (Nat.not_lt_zero _)
  | b :: t, hB, i, h => by
    have hb := hB b (by simp)
    have ht : ∀ x ∈ t, 0 ≤ x ∧ x ≤ 1 := fun x hx => hB x (by simp [hx])
    have hl := pkr_len t
    have ih := pkr_bit t ht
    have hr := (pkr_rng t ht).2
    rw [List.length_cons] at h ⊢
    simp only [pkr, put1]
    by_cases hi : i < t.length
    · have hc : (b :: t).getD (t.length + 1 - 1 - i) 0 = t.getD (t.length - 1 - i) 0 := by
        rw [show t.length + 1 - 1 - i = (t.length - 1 - i) + 1 by omega]; rfl
      rw [hc, ← ih i hi]
      by_cases hm : t.length % 8 = 0
      · rw [if_pos hm, getL _ _ _ (by omega)]
      · rw [if_neg hm, getS]
        by_cases c : (pkr t).length - 1 = i / 8 ∧ i / 8 < (pkr t).length
        · rw [if_pos c, c.1, add_bit _ _ _ _ (by omega)]
        · rw [if_neg c]
    · obtain rfl : i = t.length := by omega
      have hc : (b :: t).getD (t.length + 1 - 1 - t.length) 0 = b := by
        rw [show t.length + 1 - 1 - t.length = 0 by omega]; rfl
      rw [hc]
      by_cases hm : t.length % 8 = 0
      · have e := getR (pkr t) [b] 0
        rw [if_pos hm, hm, show t.length / 8 = (pkr t).length + 0 by omega, e]
        show b / 1 % 2 = b
        omega
      · obtain ⟨h0, h1⟩ := hr hm
        rw [if_neg hm, getS, if_pos ⟨by omega, by omega⟩]
        exact top_bit _ _ _ h0 h1 hb
theorem pk_bit (B : List Int) (hB : Bits B) (i : Nat) (h : i < B.length) : (pk B).getD (i / 8) 0 / 2 ^ (i % 8) % 2 = B.getD i 0 := by
  have e := pkr_bit B.reverse (fun b hb => hB b (by simpa using hb)) i (by rw [List.length_reverse]; exact h)
  unfold pk
  rw [e, List.getD_eq_getElem?_getD, List.getD_eq_getElem?_getD, List.length_reverse, List.getElem?_reverse (by omega)]
  congr 2
  omega
/-- These bits stand from a place on. -/
def At (T : ByteArray) (p : Nat) (L : List Int) : Prop := ∀ i, i < L.length → bitN T ((p + i : Nat) : Int) = L.getD i 0
theorem At.left {T : ByteArray} {p : Nat} {L M : List Int} (h : At T p (L ++ M)) : At T p L := fun i hi => by
  rw [h i (by rw [List.length_append]; omega), getL _ _ _ hi]
theorem At.right {T : ByteArray} {p : Nat} {L M : List Int} (h : At T p (L ++ M)) : At T (p + L.length) M := fun i hi => by
  have e := h (L.length + i) (by rw [List.length_append]; omega)
  rw [getR] at e
  rw [← e]
  congr 1
  omega
theorem pk_size (B : List Int) : (strOfNums (pk B)).size = (B.length + 7) / 8 := by rw [strOfNums_size, pk_len]
theorem at_pk (B : List Int) (hB : Bits B) (X : ByteArray) : At (strOfNums (pk B) ++ X) 0 B := fun i hi => by
  have hs := pk_size B
  unfold bitN
  rw [Nat.zero_add, bt_left _ _ _ (by omega) (by omega), show ((i : Int) / 8) = ((i / 8 : Nat) : Int) by omega, bt_nums _ (pk_rng hB).1 _ (by rw [pk_len]; omega), show ((i : Int) % 8).toNat = i % 8 by omega]
  exact pk_bit B hB i hi
theorem At.num {T : ByteArray} {p v : Nat} : ∀ {n : Nat}, At T p (nb (v : Int) n) → Bn T (p : Int) n = ((v % 2 ^ n : Nat) : Int) := by
  intro n
  induction n with
  | zero => intro _; simp [Bn, Nat.mod_one]
  | succ n ih =>
    intro h
    rw [nb_succ] at h
    have h2 := h.right 0 (by simp)
    rw [nb_len] at h2
    show Bn T p n + 2 ^ n * bitN T ((p : Int) + n) = _
    rw [ih h.left, show (p : Int) + n = ((p + n + 0 : Nat) : Int) by omega, h2, Nat.mod_pow_succ]
    show _ + 2 ^ n * bit (v : Int) n = _
    unfold bit
    push_cast
    rfl
theorem bits_back {T : ByteArray} {p n : Nat} {v : Int} {o : List Int} (h : At T p (nb v n)) (h0 : 0 ≤ v) (h1 : v < 2 ^ n) (hn : n ≤ 16) (hp : p + n ≤ 8 * T.size) : Inf.bits T (n : Int) ⟨(p : Int), o, 0⟩ = (v, ⟨((p + n : Nat) : Int), o, 0⟩) := by
  obtain ⟨w, rfl⟩ := Int.eq_ofNat_of_zero_le h0
  have e : ((2 ^ n : Nat) : Int) = 2 ^ n := by rw [Int.natCast_pow]; rfl
  rw [bits_at T n _ o (by omega) hn (by omega), h.num, Nat.mod_eq_of_lt (by omega)]
  rfl
theorem pow_half (n m : Nat) (h : m + 1 ≤ n) : (2 : Int) ^ (n - m) = 2 ^ (n - 1 - m) * 2 := by
  rw [← Int.pow_succ]; congr 1; omega
theorem At.code {T : ByteArray} {p n : Nat} {v : Int} (h : At T p (cb v n)) (h0 : 0 ≤ v) (h1 : v < 2 ^ n) : ∀ m, m ≤ n → Vn T (p : Int) m = v / 2 ^ (n - m) := by
  intro m
  induction m with
  | zero => intro _; rw [Nat.sub_zero, Int.ediv_eq_zero_of_lt h0 h1]; rfl
  | succ m ih =>
    intro hm
    have e := h m (by rw [cb_len]; omega)
    have g : (cb v n).getD m 0 = bit v (n - 1 - m) := by
      unfold cb
      rw [List.getD_eq_getElem?_getD, List.getElem?_map, List.getElem?_range (by omega)]
      rfl
    show 2 * Vn T p m + bitN T ((p : Int) + m) = _
    rw [ih (by omega), show (p : Int) + m = ((p + m : Nat) : Int) by omega, e, g, pow_half n m hm, ← Int.ediv_ediv_of_nonneg (Int.le_of_lt (Int.pow_pos (by decide)))]
    unfold bit
    rw [show n - (m + 1) = n - 1 - m by omega]
    omega
theorem below_code (l : List Int) (i n : Nat) (h0 : 1 ≤ n) (h : n < 16) (hi : i < l.length) (he : l.getD i 0 = n) (m : Nat) (hm : m < n) : Gn l m ≤ codeAt l i / 2 ^ (n - m) ∧ Sn l m ≠ (syms l).length := by
  have hs := symbol_at l i n h0 h hi he
  obtain ⟨k, rfl⟩ : ∃ k, n = k + 1 := ⟨n - 1, by omega⟩
  have hmono := Gn_mono l m k (by omega)
  rw [firstC_succ] at hs
  have hp : (0 : Int) < 2 ^ (k + 1 - m) := Int.pow_pos (by decide)
  refine ⟨?_, ?_⟩
  · rw [Int.le_ediv_iff_mul_le hp, show k + 1 - m = (k - m) + 1 by omega, Int.pow_succ, ← Int.mul_assoc]
    omega
  · have h1 := Sn_mono l m k (by omega) (by omega)
    have h2 := Sn_succ l k (by omega)
    have h3 := Sn_mono l (k + 1) 15 (by omega) (by omega)
    have h4 := Gn_succ l k
    have h5 := syms_Sn l
    omega
theorem sym_stage (l : List Int) (he : errOf l = 0) (i n : Nat) (h0 : 1 ≤ n) (h : n ≤ 15) (hi : i < l.length) (hl : l.getD i 0 = n) (T : ByteArray) (hT : T.size ≤ 140737488351232) (p : Nat) (hp : p + n ≤ 8 * T.size) (hV : ∀ m, m ≤ n → Vn T (p : Int) m = codeAt l i / 2 ^ (n - m)) (d : Nat) : ∀ m, m + d = n →
    stageOf l T (p : Int) m = some ((i : Int), ((p + n : Nat) : Int), 0) := by
  have hs := symbol_at l i n h0 (by omega) hi hl
  induction d with
  | zero =>
    intro m hm
    obtain rfl : m = n := by omega
    have hv := hV m (Nat.le_refl _)
    rw [Nat.sub_self, Int.pow_zero, Int.ediv_one] at hv
    unfold stageOf
    rw [hv, if_pos hs.2.1, hs.2.2]
    rfl
  | succ d ih =>
    intro m hm
    have hb := below_code l i n h0 (by omega) hi hl m (by omega)
    rw [stage_step l (errOf_ok l he).1 _ hT _ (by omega) (by omega) m (by omega) (by rw [hV m (by omega)]; exact hb.1) hb.2, if_pos (by omega)]
    exact ih (m + 1) (by omega)
theorem next_back (l : List Int) (he : errOf l = 0) (i n : Nat) (h0 : 1 ≤ n) (h : n ≤ 15) (hi : i < l.length) (hl : l.getD i 0 = n) (T : ByteArray) (hT : T.size ≤ 140737488351232) (p : Nat) (hp : p + n ≤ 8 * T.size) (hV : ∀ m, m ≤ n → Vn T (p : Int) m = codeAt l i / 2 ^ (n - m)) (o : List Int) :
    Inf.next l T ⟨(p : Int), o, 0⟩ = ((i : Int), ⟨((p + n : Nat) : Int), o, 0⟩) := by
  have e : nextL l T (p : Int) = ((i : Int), ((p + n : Nat) : Int), 0) := by
    unfold nextL
    have e1 := sym_stage l he i n h0 h hi hl T hT p hp hV n 0 (by omega)
    have e0 : Sn l 0 = 0 := rfl
    have eV : ¬ Vn T (p : Int) 0 < Gn l 0 := by rw [Gn_zero]; exact Int.lt_irrefl 0
    have hS := (below_code l i n h0 (by omega) hi hl 0 (by omega)).2
    rw [e0] at hS
    rw [nextOf_good l he T _ (by omega), if_neg (by omega)]
    unfold stageOf at e1
    rw [if_neg eV, e0, Gn_zero, if_neg hS, show (p : Int) + ((0 : Nat) : Int) = p by omega] at e1
    have e2 : nxt (cnts l) (syms l) T 15 (p : Int) 0 0 0 = some ((i : Int), ((p + n : Nat) : Int), 0) := e1
    rw [e2]
    rfl
  unfold Inf.next tak
  rw [if_pos rfl]
  simp only [e]
  rfl
end Go.Proofs.Ytpbhkdamkbopkaa.Bk
namespace Go.Proofs.Ytpbhkdamkbopkaa.Bk
set_option linter.unusedSimpArgs false
set_option linter.unusedVariables false
open Go.RowKit Go.Proofs.Ytpbhkdamkbopkaa.Ext Go.Proofs.Ytpbhkdamkbopkaa.RefP Go.Proofs.Ytpbhkdamkbopkaa.Stage Go.Proofs.Ytpbhkdamkbopkaa.Inf Go.Proofs.YtpbhkdamkbopkaaW.PrintWords Go.Proofs.YtpbhkdamkbopkaaW.PrintLast Go.Proofs.YtpbhkdamkbopkaaW.PrintMore
open Go.Proofs.Ytpbhkdamkbopkaa.Wr (pk pkr put1 pkr_len pk_len pkr_rng pk_rng Bits bit nb nb_succ nb_len nb_bits cb cb_len cb_bits sc sc_bits sc_len rc rc_bits lsym dsym lsym_rng lf df lof dof lof_all dof_all RB rbits run_rng df_rng rc_len)
open Go.Proofs.Ytpbhkdamkbopkaa.Rn (run mlen mlen_spec best best_spec)
theorem LA_len : plainA.length = 288 := by unfold plainA; simp
theorem LB_len : plainB.length = 32 := by unfold plainB; simp
theorem LA_get (i : Nat) (h : i < 288) : plainA.getD i 0 = if i < 144 then 8 else if i < 256 then 9 else if i < 280 then 7 else 8 := by
  unfold plainA
  simp [List.getD_eq_getElem?_getD, h]
theorem LB_get (i : Nat) (h : i < 32) : plainB.getD i 0 = 5 := by
  unfold plainB
  rw [List.getD_eq_getElem?_getD, List.getElem?_replicate, if_pos h]
  rfl
theorem rankA (n : Nat) : ∀ i, i ≤ 288 → (idxN plainA n i).length = if n = 8 then (if i ≤ 144 then i else if i ≤ 280 then 144 else i - 136) else if n = 9 then (if i ≤ 144 then 0 else if i ≤ 256 then i - 144 else 112) else if n = 7 then (if i ≤ 256 then 0 else if i ≤ 280 then i - 256 else 24) else 0 := by
  intro i
  induction i with
  | zero => intro _; simp [idxN]
  | succ i ih =>
    intro hi
    rw [idxN_succ, List.length_append, ih (by omega), LA_get i (by omega)]
    have e : ∀ (p : Prop) [Decidable p], (if p then [(i : Int)] else []).length = if p then 1 else 0 := fun p _ => by split <;> rfl
    rw [e]
    by_cases h1 : i < 144
    · simp only [if_pos h1]; (repeat' split) <;> omega
    · by_cases h2 : i < 256
      · simp only [if_neg h1, if_pos h2]; (repeat' split) <;> omega
      · by_cases h3 : i < 280
        · simp only [if_neg h1, if_neg h2, if_pos h3]; (repeat' split) <;> omega
        · simp only [if_neg h1, if_neg h2, if_neg h3]; (repeat' split) <;> omega
theorem rankB : ∀ i, i ≤ 32 → (idxN plainB 5 i).length = i := by
  intro i
  induction i with
  | zero => intro _; simp [idxN]
  | succ i ih =>
    intro hi
    rw [idxN_succ, List.length_append, ih (by omega), LB_get i (by omega), if_pos (by rfl)]
    rfl
theorem firstA7 : firstC plainA 7 = 0 := by decide +kernel
theorem firstA8 : firstC plainA 8 = 48 := by decide +kernel
theorem firstA9 : firstC plainA 9 = 400 := by decide +kernel
theorem firstB5 : firstC plainB 5 = 0 := by decide +kernel
theorem codeA (c : Nat) (h : c < 288) : (codesOf plainA).getD c 0 = if c < 144 then 48 + (c : Int) else if c < 256 then 400 + (c : Int) - 144 else if c < 280 then (c : Int) - 256 else 192 + (c : Int) - 280 := by
  have hg := LA_get c h
  have e : (codesOf plainA).getD c 0 = if plainA.getD c 0 ≤ 0 then 0 else codeAt plainA c := by
    rw [List.getD_eq_getElem?_getD]
    unfold codesOf
    simp [LA_len, h]
  rw [e]
  by_cases h1 : c < 144
  · rw [if_pos h1] at hg
    rw [hg, if_neg (by decide), if_pos h1]
    unfold codeAt
    rw [rank_n plainA c 8 hg, hg, rankA 8 c (by omega), if_pos rfl, if_pos (by omega), show (8 : Int).toNat = 8 from rfl, firstA8]
  · by_cases h2 : c < 256
    · rw [if_neg h1, if_pos h2] at hg
      rw [hg, if_neg (by decide), if_neg h1, if_pos h2]
      unfold codeAt
      rw [rank_n plainA c 9 hg, hg, rankA 9 c (by omega), if_neg (by decide), if_pos rfl, show (9 : Int).toNat = 9 from rfl, firstA9]
      split
      · omega
      · rw [if_pos (by omega)]; omega
    · by_cases h3 : c < 280
      · rw [if_neg h1, if_neg h2, if_pos h3] at hg
        rw [hg, if_neg (by decide), if_neg h1, if_neg h2, if_pos h3]
        unfold codeAt
        rw [rank_n plainA c 7 hg, hg, rankA 7 c (by omega), if_neg (by decide), if_neg (by decide), if_pos rfl, show (7 : Int).toNat = 7 from rfl, firstA7]
        split
        · omega
        · rw [if_pos (by omega)]; omega
      · rw [if_neg h1, if_neg h2, if_neg h3] at hg
        rw [hg, if_neg (by decide), if_neg h1, if_neg h2, if_neg h3]
        unfold codeAt
        rw [rank_n plainA c 8 hg, hg, rankA 8 c (by omega), if_pos rfl, show (8 : Int).toNat = 8 from rfl, firstA8, if_neg (by omega)]
        split <;> omega
theorem codeB (c : Nat) (h : c < 32) : (codesOf plainB).getD c 0 = (c : Int) := by
  have hg := LB_get c h
  have e : (codesOf plainB).getD c 0 = if plainB.getD c 0 ≤ 0 then 0 else codeAt plainB c := by
    rw [List.getD_eq_getElem?_getD]
    unfold codesOf
    simp [LB_len, h]
  rw [e, hg, if_neg (by decide)]
  unfold codeAt
  rw [rank_n plainB c 5 hg, hg, rankB c (by omega), show (5 : Int).toNat = 5 from rfl, firstB5]
  omega
theorem df_at (n : Int) (hn : 1 ≤ n) : ∀ k, k ≤ 30 → ∃ m : Nat, m < 30 ∧ df n k = ((m : Int), dof m) := by
  intro k
  induction k with
  | zero => intro _; exact ⟨0, by decide, by show (0, 1, 0) = _; decide +kernel⟩
  | succ k ih =>
    intro hk
    unfold df
    split
    · exact ⟨k, by omega, rfl⟩
    · exact ih (by omega)
theorem errA : errOf plainA = 0 := by decide +kernel
theorem errB : errOf plainB = 0 := by decide +kernel
theorem codesOf_at (l : List Int) (c : Nat) (h : c < l.length) (h0 : 0 < l.getD c 0) : (codesOf l).getD c 0 = codeAt l c := by
  rw [List.getD_eq_getElem?_getD]
  unfold codesOf
  rw [List.getElem?_map, List.getElem?_range h]
  show (if l.getD c 0 ≤ 0 then 0 else codeAt l c) = _
  rw [if_neg (by omega)]
/-- A fixed code's length. -/
def wA (c : Nat) : Nat := if c < 144 then 8 else if c < 256 then 9 else if c < 280 then 7 else 8
theorem lenA (c : Nat) (h : c < 288) : plainA.getD c 0 = (wA c : Nat) := by
  rw [LA_get c h]; unfold wA; (repeat' split) <;> rfl
theorem wA_rng (c : Nat) : 7 ≤ wA c ∧ wA c ≤ 9 := by unfold wA; (repeat' split) <;> omega
theorem sc_is (c : Nat) (h : c < 288) : sc (c : Int) = cb (codeAt plainA c) (wA c) ∧ 0 ≤ codeAt plainA c ∧ codeAt plainA c < 2 ^ wA c := by
  have e := codesOf_at plainA c (by rw [LA_len]; exact h) (by rw [lenA c h]; have := wA_rng c; omega)
  rw [codeA c h] at e
  rw [← e]
  unfold sc wA
  by_cases h1 : c < 144
  · rw [if_pos h1, if_pos h1, if_pos (by omega)]; exact ⟨rfl, by omega, by omega⟩
  · by_cases h2 : c < 256
    · rw [if_neg h1, if_neg h1, if_pos h2, if_pos h2, if_neg (by omega), if_pos (by omega)]; exact ⟨rfl, by omega, by omega⟩
    · by_cases h3 : c < 280
      · rw [if_neg h1, if_neg h1, if_neg h2, if_neg h2, if_pos h3, if_pos h3, if_neg (by omega), if_neg (by omega), if_pos (by omega)]; exact ⟨rfl, by omega, by omega⟩
      · rw [if_neg h1, if_neg h1, if_neg h2, if_neg h2, if_neg h3, if_neg h3, if_neg (by omega), if_neg (by omega), if_neg (by omega)]; exact ⟨rfl, by omega, by omega⟩
theorem sc_lenA (c : Nat) (h : c < 288) : (sc (c : Int)).length = wA c := by rw [(sc_is c h).1, cb_len]
theorem nextA_back {T : ByteArray} {p c : Nat} {o : List Int} (h : At T p (sc (c : Int))) (hc : c < 288) (hT : T.size ≤ 140737488351232) (hp : p + (sc (c : Int)).length ≤ 8 * T.size) :
    Inf.next plainA T ⟨(p : Int), o, 0⟩ = ((c : Int), ⟨((p + (sc (c : Int)).length : Nat) : Int), o, 0⟩) := by
  obtain ⟨e, h0, h1⟩ := sc_is c hc
  have hw := wA_rng c
  have hl := sc_lenA c hc
  rw [hl] at hp ⊢
  rw [e] at h
  exact next_back plainA errA c (wA c) (by omega) (by omega) (by rw [LA_len]; exact hc) (lenA c hc) T hT p hp (h.code h0 h1) o
theorem nextB_back {T : ByteArray} {p c : Nat} {o : List Int} (h : At T p (cb (c : Int) 5)) (hc : c < 32) (hT : T.size ≤ 140737488351232) (hp : p + 5 ≤ 8 * T.size) :
    Inf.next plainB T ⟨(p : Int), o, 0⟩ = ((c : Int), ⟨((p + 5 : Nat) : Int), o, 0⟩) := by
  have e := codesOf_at plainB c (by rw [LB_len]; exact hc) (by rw [LB_get c hc]; decide)
  rw [codeB c hc] at e
  refine next_back plainB errB c 5 (by decide) (by decide) (by rw [LB_len]; exact hc) (LB_get c hc) T hT p hp ?_ o
  rw [← e]
  exact h.code (by omega) (by show (c : Int) < 32; omega)
theorem lsym_all : ∀ n : Nat, n < 259 → 3 ≤ n → 257 ≤ (lsym n).1 ∧ (lsym n).1 ≤ 285 ∧ lenM.getD ((lsym n).1 - 257).toNat 0 = (lsym n).2.2 ∧ lenB.getD ((lsym n).1 - 257).toNat 0 = (lsym n).2.1 ∧ 0 ≤ (n : Int) - (lsym n).2.1 ∧ (n : Int) - (lsym n).2.1 < 2 ^ (lsym n).2.2.toNat ∧ 0 ≤ (lsym n).2.2 ∧ (lsym n).2.2 ≤ 5 := by decide +kernel
theorem dof_tab : ∀ k : Nat, k < 30 → disM.getD k 0 = (dof k).2 ∧ disB.getD k 0 = (dof k).1 ∧ (dof k).1 + 2 ^ (dof k).2.toNat = (if k = 29 then 32769 else (dof (k + 1)).1) := by decide +kernel
theorem df_lim (n : Int) (hn : 1 ≤ n) : ∀ k, k ≤ 30 → n < (if k = 30 then 32769 else (dof k).1) → n - (df n k).2.1 < 2 ^ (df n k).2.2.toNat := by
  intro k
  induction k with
  | zero =>
    intro _ h
    have e : (dof 0).1 = 1 := by decide +kernel
    rw [if_neg (by decide), e] at h
    omega
  | succ k ih =>
    intro hk h
    unfold df
    by_cases c : (dof k).1 ≤ n
    · rw [if_pos c]
      obtain ⟨_, _, e⟩ := dof_tab k (by omega)
      simp only
      by_cases c2 : k = 29
      · rw [if_pos c2] at e
        rw [if_pos (by omega)] at h
        omega
      · rw [if_neg c2] at e
        rw [if_neg (by omega)] at h
        omega
    · rw [if_neg c]
      refine ih (by omega) ?_
      rw [if_neg (by omega)]
      omega
theorem dsym_all (f : Int) (h1 : 1 ≤ f) (h2 : f ≤ 32768) : ∃ c : Nat, c < 30 ∧ (dsym f).1 = c ∧ disM.getD c 0 = (dsym f).2.2 ∧ disB.getD c 0 = (dsym f).2.1 ∧ 0 ≤ f - (dsym f).2.1 ∧ f - (dsym f).2.1 < 2 ^ (dsym f).2.2.toNat ∧ 0 ≤ (dsym f).2.2 ∧ (dsym f).2.2 ≤ 13 := by
  obtain ⟨m, hm, e⟩ := df_at f h1 30 (Nat.le_refl _)
  have hr := df_rng h1 30 (Nat.le_refl _)
  have hl := df_lim f h1 30 (Nat.le_refl _) (by rw [if_pos rfl]; omega)
  obtain ⟨t1, t2, _⟩ := dof_tab m hm
  unfold dsym
  rw [e] at hr hl ⊢
  exact ⟨m, hm, rfl, t1, t2, by omega, hl, by omega, by omega⟩
theorem far_back {T : ByteArray} {mx : Int} {p : Nat} {o : List Int} (n f : Nat) (hn0 : 3 ≤ n) (hn1 : n ≤ 258) (hf0 : 1 ≤ f) (hf1 : f ≤ 32768) (hT : T.size ≤ 140737488351232)
    (h : At T p (nb ((n : Int) - (lsym n).2.1) (lsym n).2.2.toNat ++ (cb (dsym f).1 5 ++ nb ((f : Int) - (dsym f).2.1) (dsym f).2.2.toNat)))
    (hp : p + ((lsym n).2.2.toNat + (5 + (dsym f).2.2.toNat)) ≤ 8 * T.size) :
    Inf.far T mx plainB ⟨(p : Int), o, 0⟩ (lsym n).1 = Inf.copy mx ⟨((p + ((lsym n).2.2.toNat + (5 + (dsym f).2.2.toNat)) : Nat) : Int), o, 0⟩ n f := by
  obtain ⟨l1, l2, l3, l4, l5, l6, l7, l8⟩ := lsym_all n (by omega) hn0
  obtain ⟨c, d1, d2, d3, d4, d5, d6, d7, d8⟩ := dsym_all f (by omega) (by omega)
  generalize lsym n = L at *
  generalize dsym f = D at *
  have b1 := bits_back (o := o) h.left l5 l6 (by omega) (by omega)
  rw [Int.toNat_of_nonneg l7] at b1
  have h2 := h.right
  rw [nb_len] at h2
  rw [d2] at h2
  have b2 := nextB_back (o := o) h2.left (by omega) hT (by omega)
  have h3 := h2.right
  rw [cb_len] at h3
  have b3 := bits_back (o := o) h3 d5 d6 (by omega) (by omega)
  rw [Int.toNat_of_nonneg d7] at b3
  unfold far
  simp only
  rw [l3, b1]
  simp only
  rw [b2]
  simp only
  have hx : ¬ (True ∧ (c : Int) ≥ 30) := fun h => absurd h.2 (by omega)
  rw [if_neg hx]
  simp only
  rw [if_pos trivial, Int.toNat_natCast, d3, b3]
  simp only
  rw [if_pos trivial, l4, d4]
  congr 1
  · congr 1; omega
  · omega
  · omega
theorem pre_len (s : ByteArray) (i : Nat) (h : i ≤ s.size) : ((bytesOf s).take i).length = i := by rw [List.length_take, bytesOf_length]; omega
theorem pre_get (s : ByteArray) (i j : Nat) (h : j < i) (hi : i ≤ s.size) : ((bytesOf s).take i).getD j 0 = bt s (j : Int) := by
  rw [← rd_bytesOf]
  unfold rd
  rw [List.getD_eq_getElem?_getD, List.getD_eq_getElem?_getD, List.getElem?_take, if_pos h, Int.toNat_natCast]
theorem pre_next (s : ByteArray) (i : Nat) (h : i < s.size) : (bytesOf s).take (i + 1) = (bytesOf s).take i ++ [bt s (i : Int)] := by
  rw [List.take_succ_eq_append_getElem (by rw [bytesOf_length]; exact h), ← rd_bytesOf]
  unfold rd
  rw [List.getD_eq_getElem?_getD, Int.toNat_natCast, List.getElem?_eq_getElem (by rw [bytesOf_length]; exact h)]
  rfl
theorem again_back (s : ByteArray) (i d : Nat) (h0 : 1 ≤ d) (h1 : d ≤ i) : ∀ n, i + n ≤ s.size → (∀ t, t < n → bt s ((i + t : Nat) : Int) = bt s ((i - d + t : Nat) : Int)) → Inf.again ((bytesOf s).take i) d n = (bytesOf s).take (i + n) := by
  intro n
  induction n with
  | zero => intro _ _; rfl
  | succ n ih =>
    intro hn h
    unfold again
    rw [ih (by omega) (fun t ht => h t (by omega)), pre_len s (i + n) (by omega), pre_get s (i + n) (i + n - d) (by omega) (by omega), ← Nat.add_assoc, pre_next s (i + n) (by omega), h n (by omega)]
    congr 4
    omega
theorem rc_split (n f : Int) : rc n f = sc (lsym n).1 ++ (nb (n - (lsym n).2.1) (lsym n).2.2.toNat ++ (cb (dsym f).1 5 ++ nb (f - (dsym f).2.1) (dsym f).2.2.toNat)) := by
  unfold rc
  rw [List.append_assoc, List.append_assoc]
theorem run_back (s : ByteArray) (i : Nat) (hi : i ≤ s.size) (hr : (run s i).1 ≠ 0) : ∀ t, t < (run s i).1 → bt s ((i + t : Nat) : Int) = bt s ((i - (run s i).2 + t : Nat) : Int) := by
  obtain ⟨b0, b1⟩ := best_spec s i (min i 32768)
  unfold run at hr ⊢
  generalize best s i (min i 32768) = q at *
  unfold Rn.fin at hr ⊢
  by_cases c : q.1 < 3
  · rw [if_pos c] at hr; exact absurd rfl hr
  · rw [if_neg c]
    rcases b1 with ⟨z, _⟩ | ⟨_, _, e, _, _⟩
    · omega
    · rw [← e]
      exact (mlen_spec hi).2.2.1
theorem codes_back (T s : ByteArray) (mx : Int) (hm : (s.size : Int) ≤ mx) (hT : T.size ≤ 140737488351232) (m : Nat) : ∀ i p k, s.size ≤ i + m → i ≤ s.size → At T p (rbits s m i ++ sc 256) → p + (rbits s m i ++ sc 256).length ≤ 8 * T.size → (rbits s m i).length + 1 ≤ k →
    Inf.codes T mx plainA plainB k ⟨(p : Int), (bytesOf s).take i, 0⟩ = ⟨((p + (rbits s m i ++ sc 256).length : Nat) : Int), bytesOf s, 0⟩ := by
  have hend : ∀ i p k, s.size ≤ i → i ≤ s.size → At T p (sc 256) → p + (sc 256).length ≤ 8 * T.size → 1 ≤ k →
      Inf.codes T mx plainA plainB k ⟨(p : Int), (bytesOf s).take i, 0⟩ = ⟨((p + (sc 256).length : Nat) : Int), bytesOf s, 0⟩ := by
    intro i p k h0 h1 hA hp hk
    obtain ⟨k1, rfl⟩ : ∃ k1, k = k1 + 1 := ⟨k - 1, by omega⟩
    have e := nextA_back (T := T) (p := p) (c := 256) (o := (bytesOf s).take i) hA (by decide) hT hp
    have e1 : Inf.one T mx plainA plainB ⟨(p : Int), (bytesOf s).take i, 0⟩ = (true, ⟨((p + (sc 256).length : Nat) : Int), (bytesOf s).take i, 0⟩) := by
      unfold one
      rw [e]
      simp only
      exact if_pos (.inr rfl)
    unfold Inf.codes
    rw [if_pos rfl, e1, if_pos rfl, List.take_of_length_le (by rw [bytesOf_length]; omega)]
  induction m with
  | zero =>
    intro i p k h0 h1 hA hp hk
    have e : rbits s 0 i ++ sc 256 = sc 256 := rfl
    rw [e] at hA hp ⊢
    exact hend i p k (by omega) h1 hA hp (by omega)
  | succ m ih =>
    intro i p k h0 h1 hA hp hk
    by_cases c : i < s.size
    · obtain ⟨k1, rfl⟩ : ∃ k1, k = k1 + 1 := ⟨k - 1, by omega⟩
      have hb := bt_range s (i : Int)
      by_cases c2 : (run s i).1 = 0
      · have e : rbits s (m + 1) i = sc (bt s (i : Int)) ++ rbits s m (i + 1) := by
          show (if i < s.size then (if (run s i).1 = 0 then _ else _) else _) = _
          rw [if_pos c, if_pos c2]
        rw [e] at hA hp hk ⊢
        rw [List.append_assoc] at hA hp ⊢
        obtain ⟨b, hbb⟩ : ∃ b : Nat, bt s (i : Int) = b := ⟨(bt s (i : Int)).toNat, by omega⟩
        rw [hbb] at hA hp hk ⊢
        have hw := sc_lenA b (by omega)
        have hw2 := wA_rng b
        rw [List.length_append] at hp hk ⊢
        have e1 := nextA_back (o := (bytesOf s).take i) hA.left (by omega) hT (by omega)
        have e2 : Inf.one T mx plainA plainB ⟨(p : Int), (bytesOf s).take i, 0⟩ = (false, ⟨((p + (sc (b : Int)).length : Nat) : Int), (bytesOf s).take (i + 1), 0⟩) := by
          unfold one
          rw [e1]
          simp only
          rw [if_neg (by omega), if_pos (by omega), if_neg (by rw [pre_len s i h1]; omega), pre_next s i c, hbb, Int.emod_eq_of_lt (by omega) (by omega)]
        have e3 := ih (i + 1) (p + (sc (b : Int)).length) k1 (by omega) (by omega) hA.right (by omega) (by omega)
        unfold Inf.codes
        rw [if_pos rfl, e2]
        simp only
        rw [if_neg (by decide), e3]
        exact congrArg (fun q : Nat => (⟨(q : Int), bytesOf s, 0⟩ : St)) (by omega)
      · have e : rbits s (m + 1) i = rc ((run s i).1 : Nat) ((run s i).2 : Nat) ++ rbits s m (i + (run s i).1) := by
          show (if i < s.size then (if (run s i).1 = 0 then _ else _) else _) = _
          rw [if_pos c, if_neg c2]
        have hr := run_rng s i h1
        have hbk := run_back s i h1 c2
        rw [e] at hA hp hk ⊢
        generalize run s i = r at *
        obtain ⟨n, f⟩ := r
        simp only at *
        obtain ⟨r1, r2, r3, r4, r5, r6⟩ : 3 ≤ n ∧ n ≤ 258 ∧ 1 ≤ f ∧ f ≤ i ∧ f ≤ 32768 ∧ i + n ≤ s.size := by omega
        obtain ⟨l1, l2, _⟩ := lsym_all n (by omega) r1
        obtain ⟨y, hy⟩ : ∃ y : Nat, (lsym (n : Int)).1 = y := ⟨((lsym (n : Int)).1).toNat, by omega⟩
        have hrc := rc_split (n : Int) (f : Int)
        have hrl : (rc (n : Int) (f : Int)).length = (sc (y : Int)).length + ((lsym (n : Int)).2.2.toNat + (5 + (dsym (f : Int)).2.2.toNat)) := by
          rw [hrc, hy]
          simp only [List.length_append, nb_len, cb_len]
        rw [List.append_assoc] at hA hp ⊢
        rw [List.length_append] at hp hk ⊢
        have hA2 := hA.left
        rw [hrc, hy] at hA2
        have hw := sc_lenA y (by omega)
        have hw2 := wA_rng y
        have e1 := nextA_back (o := (bytesOf s).take i) hA2.left (by omega) hT (by omega)
        have e4 := far_back (mx := mx) (o := (bytesOf s).take i) n f r1 r2 r3 r5 hT hA2.right (by omega)
        rw [hy] at e4
        have e5 : Inf.copy mx ⟨((p + (sc (y : Int)).length + ((lsym (n : Int)).2.2.toNat + (5 + (dsym (f : Int)).2.2.toNat)) : Nat) : Int), (bytesOf s).take i, 0⟩ n f = ⟨((p + (rc (n : Int) (f : Int)).length : Nat) : Int), (bytesOf s).take (i + n), 0⟩ := by
          unfold copy
          rw [if_pos (by rw [pre_len s i h1]; omega), if_pos (by rw [pre_len s i h1]; omega)]
          simp only
          rw [Int.toNat_natCast, Int.toNat_natCast, again_back s i f r3 r4 n r6 hbk, hrl]
          exact congrArg (fun q : Nat => (⟨(q : Int), (bytesOf s).take (i + n), 0⟩ : St)) (by omega)
        rw [e5] at e4
        have e2 : Inf.one T mx plainA plainB ⟨(p : Int), (bytesOf s).take i, 0⟩ = (false, ⟨((p + (rc (n : Int) (f : Int)).length : Nat) : Int), (bytesOf s).take (i + n), 0⟩) := by
          unfold one
          rw [e1]
          simp only
          rw [if_neg (by omega), if_neg (by omega), if_neg (by omega), e4]
        have e3 := ih (i + n) (p + (rc (n : Int) (f : Int)).length) k1 (by omega) (by omega) hA.right (by omega) (by omega)
        unfold Inf.codes
        rw [if_pos rfl, e2]
        simp only
        rw [if_neg (by decide), e3]
        exact congrArg (fun q : Nat => (⟨(q : Int), bytesOf s, 0⟩ : St)) (by omega)
    · have e : rbits s (m + 1) i = [] := by
        show (if i < s.size then _ else _) = _
        rw [if_neg c]
      rw [e, List.nil_append] at hA hp ⊢
      exact hend i p k (by omega) h1 hA hp (by omega)
theorem rbits_bits (s : ByteArray) : ∀ m i, Bits (rbits s m i) := by
  intro m
  induction m with
  | zero => intro i b hb; simp [rbits] at hb
  | succ m ih =>
    intro i
    unfold rbits
    split
    · split
      · exact (sc_bits _).append (ih _)
      · exact (rc_bits _ _).append (ih _)
    · intro b hb; simp at hb
theorem RB_bits (s : ByteArray) : Bits (RB s) := by
  unfold RB
  refine Bits.append (Bits.append (Bits.append ?_ (nb_bits _ _)) (rbits_bits s _ _)) (sc_bits _)
  intro b hb
  simp at hb
  omega
theorem RB_split (s : ByteArray) : RB s = nb 1 1 ++ (nb 1 2 ++ (rbits s s.size 0 ++ sc 256)) := by
  unfold RB
  rw [List.append_assoc, List.append_assoc]
  rfl
/-- THE STAGE'S THEOREM, in plain: what is packed is unpacked to what it was, whatever stands behind. -/
theorem raw_back (s X : ByteArray) (mx : Int) (hm : (s.size : Int) ≤ mx) (h1 : mx ≤ 262144) (hT : (strOfNums (pk (RB s)) ++ X).size ≤ 140737488351232) :
    raw (strOfNums (pk (RB s)) ++ X) mx = (s, ((strOfNums (pk (RB s))).size : Int), 0) := by
  have hA := at_pk (RB s) (RB_bits s) X
  have hz : (RB s).length ≤ 8 * (strOfNums (pk (RB s)) ++ X).size := by rw [ByteArray.size_append, pk_size]; omega
  have hq := pk_size (RB s)
  generalize strOfNums (pk (RB s)) = Q at *
  generalize hQ : Q ++ X = T at *
  have hl : (RB s).length = 1 + (2 + (rbits s s.size 0 ++ sc 256).length) := by
    rw [RB_split, List.length_append, List.length_append, nb_len, nb_len]
  rw [RB_split] at hA
  have hA2 := hA.right
  rw [nb_len] at hA2
  have hA3 := hA2.right
  rw [nb_len] at hA3
  have b1 := bits_back (v := 1) (n := 1) (o := []) hA.left (by decide) (by decide) (by decide) (by omega)
  have b2 := bits_back (v := 1) (n := 2) (o := []) hA2.left (by decide) (by decide) (by decide) (by omega)
  have b3 := codes_back T s mx hm hT s.size 0 3 (left T ⟨((0 + 1 + 2 : Nat) : Int), [], 0⟩) (by omega) (by omega) hA3 (by omega) (by
    unfold left
    rw [List.length_append] at hl
    have := sc_lenA 256 (by decide)
    show _ ≤ (8 * (T.size : Int) + 1 - 3).toNat + 1
    omega)
  have e1 : block T mx ⟨0, [], 0⟩ = (true, ⟨((RB s).length : Int), bytesOf s, 0⟩) := by
    unfold block
    simp only
    rw [show (⟨0, [], 0⟩ : St) = ⟨((0 : Nat) : Int), [], 0⟩ from rfl, show (1 : Int) = ((1 : Nat) : Int) from rfl, b1]
    simp only
    rw [show (2 : Int) = ((2 : Nat) : Int) from rfl, b2]
    simp only
    rw [if_neg (by decide), if_pos (show (1 : Int) = ((1 : Nat) : Int) from rfl)]
    unfold both table fail
    rw [errA, errB]
    simp only [if_true]
    rw [show (bytesOf s).take 0 = [] from rfl] at b3
    have e3 : ((0 + 1 + 2 : Nat) : Int) = ((3 : Nat) : Int) := rfl
    rw [e3] at b3 ⊢
    rw [b3]
    exact congrArg (fun q : Int => (true, (⟨q, bytesOf s, 0⟩ : St))) (by omega)
  have er : run0 T mx = ⟨((RB s).length : Int), bytesOf s, 0⟩ := by
    unfold run0
    show blocks T mx (8 * T.size + 1 + 1) _ = _
    unfold blocks
    rw [e1]
    exact if_pos rfl
  rw [raw_is _ _ ⟨by omega, h1⟩, er]
  simp only
  rw [if_pos trivial, strOfNums_bytes]
  exact congrArg (fun q : Int => (s, q, (0 : Int))) (by omega)
/-- What is packed is not longer than it may be. -/
theorem rc_short (n f : Nat) (hn0 : 3 ≤ n) (hn1 : n ≤ 258) (hf0 : 1 ≤ f) (hf1 : f ≤ 32768) : (rc (n : Int) (f : Int)).length ≤ 9 * n := by
  obtain ⟨l1, l2, l3, l4, l5, l6, l7, l8⟩ := lsym_all n (by omega) hn0
  obtain ⟨c, d1, d2, d3, d4, d5, d6, d7, d8⟩ := dsym_all f (by omega) (by omega)
  obtain ⟨y, hy⟩ : ∃ y : Nat, (lsym (n : Int)).1 = y := ⟨((lsym (n : Int)).1).toNat, by omega⟩
  have hw := sc_lenA y (by omega)
  have hw8 : wA y ≤ 8 := by unfold wA; (repeat' split) <;> omega
  rw [rc_split, hy]
  simp only [List.length_append, nb_len, cb_len]
  rcases Nat.lt_or_ge n 4 with h | h
  · obtain rfl : n = 3 := by omega
    have e : (lsym ((3 : Nat) : Int)) = (257, 3, 0) := by decide +kernel
    rw [e] at hy l7 ⊢
    have hy2 : y = 257 := by simp only at hy; omega
    have : wA 257 = 7 := by decide
    subst hy2
    show _ + (0 + _) ≤ _
    omega
  · omega
theorem rbits_short (s : ByteArray) : ∀ m i, i ≤ s.size → (rbits s m i).length ≤ 9 * (s.size - i) := by
  intro m
  induction m with
  | zero => intro i _; simp [rbits]
  | succ m ih =>
    intro i hi
    unfold rbits
    have hr := run_rng s i hi
    by_cases c : i < s.size
    · rw [if_pos c]
      by_cases hz : (run s i).1 = 0
      · rw [if_pos hz, List.length_append]
        have h1 := ih (i + 1) (by omega)
        have h2 := sc_len (bt s (i : Int))
        omega
      · rw [if_neg hz, List.length_append]
        have h1 := ih (i + (run s i).1) (by omega)
        have h2 := rc_short (run s i).1 (run s i).2 (by omega) (by omega) (by omega) (by omega)
        omega
    · rw [if_neg c]; simp
theorem RB_short (s : ByteArray) : (RB s).length ≤ 9 * s.size + 10 := by
  have h := rbits_short s s.size 0 (by omega)
  have e2 : (sc 256).length = 7 := by decide
  rw [RB_split, List.length_append, List.length_append, List.length_append, nb_len, nb_len, e2]
  omega
end Go.Proofs.Ytpbhkdamkbopkaa.Bk
set_option linter.unusedSimpArgs false
set_option linter.unusedVariables false
namespace Go.Proofs.Ytpbhkdamkbopkaa.OpenB
open Go.RowKit Go.Proofs.Ytpbhkdamkbopkaa.Ext Go.Proofs.Ytpbhkdamkbopkaa.GBack2 Go.Proofs.Ytpbhkdamkbopkaa.Wr2 Go.Proofs.Ytpbhkdamkbopkaa.Inf Go.Proofs.YtpbhkdamkbopkaaW.PrintWords Go.Proofs.YtpbhkdamkbopkaaW.PrintLast
theorem raw_f (s : ByteArray) (mx : Int) (hs : s.size ≤ 17592186044416) : inflate_Raw.f s mx = some (raw s mx) := by unfold inflate_Raw.f; rw [if_pos hs]
theorem behind (a b : ByteArray) (n m : Nat) (hn : n = a.size) (hm : m = (a ++ b).size) : (a ++ b).extract n m = b := by
  subst hn; subst hm
  rw [ByteArray.size_append]
  exact ByteArray.extract_append_eq_right rfl rfl
theorem d1 : Go.bits .and .u8 120 15 = 8 := by decide +kernel
theorem d2 : ¬ ((120 : Int) / 16 > 7) := by decide +kernel
theorem d3 : Int.tmod (Go.bits .or .i64 (wrap64 (wrap64 120 * 256)) (wrap64 156)) 31 = 0 := by decide +kernel
theorem d4 : Go.bits .and .u8 156 32 = 0 := by decide +kernel
theorem or_four (b0 b1 b2 b3 : Int) (h0 : 0 ≤ b0 ∧ b0 ≤ 255) (h1 : 0 ≤ b1 ∧ b1 ≤ 255) (h2 : 0 ≤ b2 ∧ b2 ≤ 255) (h3 : 0 ≤ b3 ∧ b3 ≤ 255) :
    Go.bits .or .i64 (Go.bits .or .i64 (Go.bits .or .i64 (wrap64 (wrap64 b0 * 16777216)) (wrap64 (wrap64 b1 * 65536))) (wrap64 (wrap64 b2 * 256))) (wrap64 b3) = b0 * 16777216 + b1 * 65536 + b2 * 256 + b3 := by
  have W : ∀ n : Int, 0 ≤ n → n < 2 ^ 40 → IntKind.i64.wrap n = n := fun n h0 h1 => by
    rw [IntKind.wrap_i64]
    have : (2 : Int) ^ 40 = 1099511627776 := by decide
    omega
  rw [wrap_in (n := b0) (by omega) (by omega), wrap_in (n := b1) (by omega) (by omega), wrap_in (n := b2) (by omega) (by omega), wrap_in (n := b3) (by omega) (by omega),
    wrap_in (n := b0 * 16777216) (by omega) (by omega), wrap_in (n := b1 * 65536) (by omega) (by omega), wrap_in (n := b2 * 256) (by omega) (by omega)]
  rw [Go.bits_join .i64 40 (by decide) W 24 (b0 * 16777216) (b1 * 65536) (by omega) (by omega) (by omega) (by omega) (by omega) (by omega)]
  rw [Go.bits_join .i64 40 (by decide) W 16 (b0 * 16777216 + b1 * 65536) (b2 * 256) (by omega) (by omega) (by omega) (by omega) (by omega) (by omega)]
  rw [Go.bits_join .i64 40 (by decide) W 8 (b0 * 16777216 + b1 * 65536 + b2 * 256) b3 (by omega) (by omega) (by omega) (by omega) (by omega) (by omega)]
/-- Bytes that are wrapped: their sum's four bytes behind them. -/
theorem open_is (k : Nat) (body tail out : ByteArray) (mx v : Int) (b0 b1 b2 b3 : Int) (h0 : 0 ≤ b0 ∧ b0 ≤ 255) (h1 : 0 ≤ b1 ∧ b1 ≤ 255) (h2 : 0 ≤ b2 ∧ b2 ≤ 255) (h3 : 0 ≤ b3 ∧ b3 ≤ 255) (ht : tail = strOfNums [b0, b1, b2, b3])
    (hm : 0 ≤ mx ∧ mx ≤ 262144) (hs : body.size ≤ 1000000000) (hr : raw (body ++ tail) mx = (out, (body.size : Int), 0)) (hv : adler_Sum.f k out = some v) :
    inflate_Open.f (k + 1) ((⟨#[120, 156]⟩ ++ body) ++ tail) mx = some (if b0 * 16777216 + b1 * 65536 + b2 * 256 + b3 = v then (out, 0) else (⟨#[]⟩, 5)) := by
  have e4 : tail.size = 4 := by rw [ht]; rfl
  have hl : ∀ x ∈ [b0, b1, b2, b3], 0 ≤ x ∧ x ≤ 255 := by
    intro x hx
    simp only [List.mem_cons, List.not_mem_nil, or_false] at hx
    rcases hx with rfl | rfl | rfl | rfl <;> assumption
  have t0 : bt tail 0 = b0 := by rw [ht]; exact bt_nums _ hl 0 (by decide : 0 < 4)
  have t1 : bt tail 1 = b1 := by rw [ht]; exact bt_nums _ hl 1 (by decide : 1 < 4)
  have t2 : bt tail 2 = b2 := by rw [ht]; exact bt_nums _ hl 2 (by decide : 2 < 4)
  have t3 : bt tail 3 = b3 := by rw [ht]; exact bt_nums _ hl 3 (by decide : 3 < 4)
  have z2 : (⟨#[120, 156]⟩ : ByteArray).size = 2 := rfl
  have eA : ((⟨#[120, 156]⟩ : ByteArray) ++ body) ++ tail = ⟨#[120, 156]⟩ ++ (body ++ tail) := ByteArray.append_assoc
  obtain ⟨s, hS⟩ : ∃ s : ByteArray, s = ((⟨#[120, 156]⟩ : ByteArray) ++ body) ++ tail := ⟨_, rfl⟩
  have zs : s.size = 2 + body.size + 4 := by rw [hS, ByteArray.size_append, ByteArray.size_append, z2, e4]
  have c0 : bt s 0 = 120 := by rw [hS, eA, bt_left _ _ 0 (by decide) (by rw [z2]; decide)]; rfl
  have c1 : bt s 1 = 156 := by rw [hS, eA, bt_left _ _ 1 (by decide) (by rw [z2]; decide)]; rfl
  have x1 : s.extract 2 s.size = body ++ tail := by rw [hS, eA]; exact behind _ _ _ _ rfl rfl
  have x2 : s.extract (2 + body.size) s.size = tail := by rw [hS]; exact behind _ _ _ _ (by rw [ByteArray.size_append, z2]) rfl
  have wn : Aside0 (wrap64 (2 + (body.size : Int)) = ((2 + body.size : Nat) : Int)) := ⟨by rw [wrap_in (by omega) (by omega)]; omega⟩
  rw [← hS]
  clear hS eA ht
  unfold inflate_Open.f
  rw [if_neg (by omega), decide_eq_false (by omega), inflate_Open.j0, if_neg (by decide), if_neg (by omega), if_pos (by omega), c0, if_pos d1, if_neg d2, if_pos (by omega), c1, if_pos d3, if_pos d4, if_pos (by omega), x1, raw_f _ _ (by rw [ByteArray.size_append]; omega), hr, Option.bind_some]
  simp only
  rw [if_pos trivial, wn.out, if_pos (by omega), if_pos (by omega), Int.toNat_natCast, x2, e4, if_neg (by decide), if_pos (by decide), if_pos (by decide), if_pos (by decide), if_pos (by decide), hv, Option.bind_some, t0, t1, t2, t3, or_four b0 b1 b2 b3 h0 h1 h2 h3]
  by_cases c : b0 * 16777216 + b1 * 65536 + b2 * 256 + b3 = v
  · rw [if_pos c, if_pos c, if_neg (by decide)]
  · rw [if_neg c, if_neg c]
end Go.Proofs.Ytpbhkdamkbopkaa.OpenB
set_option linter.unusedSimpArgs false
set_option linter.unusedVariables false
namespace Go.Proofs.Ytpbhkdamkbopkaa.ASumB
open Go.RowKit Go.Proofs.Ytpbhkdamkbopkaa.GBack2 Go.Proofs.YtpbhkdamkbopkaaW.PrintWords Go.Proofs.YtpbhkdamkbopkaaW.PrintLast Go.Proofs.YtpbhkdamkbopkaaW.PrintMore
/-- A byte more. -/
def stp (p : Int × Int) (c : Int) : Int × Int := ((p.1 + c) % 65521, (p.2 + (p.1 + c) % 65521) % 65521)
def run (p : Int × Int) (l : List Int) : Int × Int := l.foldl stp p
def bts (s : ByteArray) : List Int := s.data.toList.map fun c => (c.toNat : Int)
def fin (p : Int × Int) : Int := p.2 * 65536 + p.1
def Rng (p : Int × Int) : Prop := 0 ≤ p.1 ∧ p.1 < 65521 ∧ 0 ≤ p.2 ∧ p.2 < 65521
theorem bts_length (s : ByteArray) : (bts s).length = s.size := by unfold bts; rw [List.length_map, Array.length_toList]; rfl
theorem bts_get (s : ByteArray) (i : Nat) (h : i < s.size) : (bts s)[i]'(by rw [bts_length]; exact h) = bt s i := by
  have h2 : (Int.toNat (i : Int)) < s.size := by simpa using h
  unfold bt
  rw [dif_pos h2]
  simp [bts]
  rfl
theorem bts_drop (s : ByteArray) (i : Nat) (h : i < s.size) : (bts s).drop i = bt s i :: (bts s).drop (i + 1) := by
  rw [List.drop_eq_getElem_cons (by rw [bts_length]; exact h), bts_get s i h]
theorem stp_rng (p : Int × Int) (c : Int) : Rng (stp p c) := by unfold stp Rng; refine ⟨?_, ?_, ?_, ?_⟩ <;> simp only <;> omega
theorem run_nil (p : Int × Int) : run p [] = p := rfl
theorem run_cons (p : Int × Int) (c : Int) (l : List Int) : run p (c :: l) = run (stp p c) l := rfl
theorem run_rng (l : List Int) : ∀ p, Rng p → Rng (run p l) := by
  induction l with
  | nil => intro p h; exact h
  | cons c l ih => intro p _; rw [run_cons]; exact ih _ (stp_rng p c)
theorem rng_one : Rng (1, 0) := by unfold Rng; simp
theorem wrap_in {n : Int} (h0 : -9223372036854775808 ≤ n) (h1 : n ≤ 9223372036854775807) : wrap64 n = n := by unfold wrap64; omega
theorem wraps_i64 (j : Nat) (hj : j ≤ 62) (n : Int) (h₀ : 0 ≤ n) (h₁ : n < 2 ^ j) : IntKind.i64.wrap n = n := by
  have : (2 : Int) ^ j ≤ 2 ^ 62 := by
    have := Nat.pow_le_pow_right (n := 2) (by decide) hj
    exact_mod_cast this
  have h2 : (2 : Int) ^ 62 = 4611686018427387904 := by decide
  rw [IntKind.wrap_i64]; omega
theorem wraps_u32 (n : Int) (h₀ : 0 ≤ n) (h₁ : n < 2 ^ 32) : IntKind.u32.wrap n = n := by rw [IntKind.wrap_u32]; omega
theorem or_16 {x y : Int} (hx₀ : 0 ≤ x) (hx₁ : x < 65536) (h₀ : 0 ≤ y) (h₁ : y < 65536) : Go.bits .or .i64 (x * 65536) y = x * 65536 + y :=
  Go.bits_join .i64 40 (by decide) (wraps_i64 40 (by decide)) 16 _ _ (by omega) (by omega) (by omega) h₀ (by omega) (by omega)
theorem and_16u {x : Int} (hx₀ : 0 ≤ x) (hx₁ : x < 4294967296) : Go.bits .and .u32 x 65535 = x % 65536 :=
  Go.bits_mask .u32 32 (by decide) wraps_u32 16 (by decide) x hx₀ (by omega)
/-- What the sum's parts are. -/
def prt (n : Int) : Int × Int := (n % 4294967296 % 65536 % 65521, n % 4294967296 / 65536 % 65521)
theorem prt_rng (n : Int) : Rng (prt n) := by unfold prt Rng; refine ⟨?_, ?_, ?_, ?_⟩ <;> simp only <;> omega
theorem prt_one : prt 1 = (1, 0) := by decide
theorem parts_is (n : Int) : adler_parts.f n = some (prt n) := by
  unfold adler_parts.f
  rw [and_16u (by omega) (by omega), wrap_in (by omega) (by omega), Int.tmod_eq_emod_of_nonneg (by omega)]
  rfl
theorem more_l (s : ByteArray) (hn : s.size ≤ 140737488351232) (d : Nat) : ∀ (k i : Nat) (p : Int × Int), Rng p → i + d = s.size → d < k →
    adler_More.l0 k s p.1 p.2 s.size i = some (fin (run p ((bts s).drop i))) := by
  induction d with
  | zero =>
    intro k i p hp hi hk
    obtain ⟨k, rfl⟩ : ∃ m, k = m + 1 := ⟨k - 1, by omega⟩
    simp only [adler_More.l0]
    rw [if_neg (by omega), List.drop_of_length_le (by rw [bts_length]; omega), run_nil]
    obtain ⟨h0, h1, h2, h3⟩ := hp
    rw [wrap_in (by omega) (by omega), or_16 h2 (by omega) h0 (by omega)]; rfl
  | succ d ih =>
    intro k i p hp hi hk
    obtain ⟨k, rfl⟩ : ∃ m, k = m + 1 := ⟨k - 1, by omega⟩
    have hb := bt_range s i
    obtain ⟨h0, h1, h2, h3⟩ := hp
    simp only [adler_More.l0]
    rw [if_pos (by omega), if_pos (by omega), if_pos (by omega)]
    have e := ih k (i + 1) (stp p (bt s i)) (stp_rng _ _) (by omega) (by omega)
    rw [bts_drop s i (by omega), run_cons, ← e]
    have w1 : wrap64 (bt s i) = bt s i := wrap_in (by omega) (by omega)
    have w2 : wrap64 (p.1 + bt s i) = p.1 + bt s i := wrap_in (by omega) (by omega)
    have w3 : wrap64 (p.2 + (p.1 + bt s i) % 65521) = p.2 + (p.1 + bt s i) % 65521 := wrap_in (by omega) (by omega)
    have w4 : wrap64 ((i : Int) + 1) = ((i + 1 : Nat) : Int) := by rw [wrap_in (by omega) (by omega)]; omega
    rw [w1, w2, Int.tmod_eq_emod_of_nonneg (by omega), w3, Int.tmod_eq_emod_of_nonneg (by omega), w4]
    rfl
theorem more_is (n : Int) (s : ByteArray) (hn : s.size ≤ 140737488351232) (k : Nat) (hk : s.size < k) :
    adler_More.f k n s = some (fin (run (prt n) (bts s))) := by
  unfold adler_More.f
  rw [parts_is]
  have e := more_l s hn s.size k 0 (prt n) (prt_rng n) (by omega) hk
  rw [List.drop_zero] at e
  exact e
theorem sum_is (s : ByteArray) (hn : s.size ≤ 140737488351232) (k : Nat) (hk : s.size < k) :
    adler_Sum.f k s = some (fin (run (1, 0) (bts s))) := by
  unfold adler_Sum.f
  rw [more_is 1 s hn k hk, prt_one]; rfl
end Go.Proofs.Ytpbhkdamkbopkaa.ASumB
namespace Go.Proofs.Ytpbhkdamkbopkaa.Pure
open Go.RowKit Go.Proofs.Ytpbhkdamkbopkaa.Ext Go.Proofs.Ytpbhkdamkbopkaa.GBack2 Go.Proofs.Ytpbhkdamkbopkaa.Wr1 Go.Proofs.Ytpbhkdamkbopkaa.Wr2 Go.Proofs.Ytpbhkdamkbopkaa.Inf Go.Proofs.Ytpbhkdamkbopkaa.Bk Go.Proofs.YtpbhkdamkbopkaaW.PrintWords Go.Proofs.YtpbhkdamkbopkaaW.PrintLast
open Go.Proofs.Ytpbhkdamkbopkaa.Wr (pk RB)
theorem back_awake (k : Nat) (hk : 300 ≤ k) : GRuns.celluloidlaw06_awake.f k = some true :=
  at_rounds GRuns.celluloidlaw06_awake.mono hk (by decide +kernel)
/-- The sum of bytes. -/
def sm (s : ByteArray) : Int := ASumB.fin (ASumB.run (1, 0) (ASumB.bts s))
theorem sm_rng (s : ByteArray) : 0 ≤ sm s ∧ sm s < 4294967296 := by
  have hrng := ASumB.run_rng (ASumB.bts s) (1, 0) ASumB.rng_one
  unfold sm ASumB.fin
  obtain ⟨r1, r2, r3, r4⟩ := hrng
  omega
def packed (s : ByteArray) : ByteArray := strOfNums (pk (RB s))
def tail4 (t : Int) : ByteArray := strOfNums [t / 16777216 % 256, t / 65536 % 256, t / 256 % 256, t % 256]
def clo (s : ByteArray) : ByteArray := (⟨#[120, 156]⟩ ++ packed s) ++ tail4 (sm s)
theorem packed_size (s : ByteArray) : (packed s).size = ((RB s).length + 7) / 8 := pk_size _
theorem packed_short (s : ByteArray) : (packed s).size ≤ (9 * s.size + 17) / 8 := by
  have := RB_short s
  rw [packed_size]; omega
theorem tail4_size (t : Int) : (tail4 t).size = 4 := rfl
theorem clo_size (s : ByteArray) : (clo s).size = (packed s).size + 6 := by
  unfold clo
  rw [ByteArray.size_append, ByteArray.size_append, tail4_size, show (⟨#[120, 156]⟩ : ByteArray).size = 2 from rfl]
  omega
theorem raw_is0 (s : ByteArray) (hs : s.size ≤ 262144) : deflate_Raw.f s = some (packed s, 0) := by unfold deflate_Raw.f; rw [if_pos hs]; rfl
theorem close_is (s : ByteArray) (hs : s.size ≤ 262144) (k : Nat) (hk : s.size < k) : deflate_Close.f k s = some (clo s, 0) := by
  have hR := packed_short s
  have e2 : adler_Sum.f k s = some (sm s) := ASumB.sum_is s (by omega) k (by omega)
  have z4 : ∀ a b c d : Int, (strOfNums [a, b, c, d]).size = 4 := fun _ _ _ _ => rfl
  unfold deflate_Close.f
  rw [raw_is0 s hs, Option.bind_some]
  simp only
  rw [if_pos trivial, e2, Option.bind_some, if_pos (by omega), Option.bind_some, z4, ByteArray.size_append, show (⟨#[120, 156]⟩ : ByteArray).size = 2 from rfl, if_pos (by omega)]
  rfl
theorem back_raw (s X : ByteArray) (hs : s.size ≤ 262144) (hX : X.size ≤ 1000000) : inflate_Raw.f (packed s ++ X) 262144 = some (s, ((packed s).size : Int), 0) := by
  have hR := packed_short s
  have hz : (packed s ++ X).size ≤ 17592186044416 := by rw [ByteArray.size_append]; omega
  unfold inflate_Raw.f
  rw [if_pos hz]
  exact congrArg some (raw_back s X 262144 (by omega) (by omega) (Nat.le_trans hz (by decide)))
theorem back_open (s : ByteArray) (hs : s.size ≤ 262144) (k : Nat) (hk : s.size + 1 < k) : inflate_Open.f k (clo s) 262144 = some (s, 0) := by
  obtain ⟨k1, rfl⟩ : ∃ k1, k = k1 + 1 := ⟨k - 1, by omega⟩
  have hR := packed_short s
  have hv := sm_rng s
  have e2 : adler_Sum.f k1 s = some (sm s) := ASumB.sum_is s (by omega) k1 (by omega)
  have h := back_raw s (tail4 (sm s)) hs (by rw [tail4_size]; omega)
  have hz : (packed s ++ tail4 (sm s)).size ≤ 17592186044416 := by rw [ByteArray.size_append, tail4_size]; omega
  unfold inflate_Raw.f at h
  rw [if_pos hz] at h
  have ho := OpenB.open_is k1 (packed s) (tail4 (sm s)) s 262144 (sm s) _ _ _ _ (by omega) (by omega) (by omega) (by omega) rfl (by decide) (by omega) (Option.some.inj h) e2
  rw [if_pos (by omega)] at ho
  exact ho
end Go.Proofs.Ytpbhkdamkbopkaa.Pure
namespace Go.Proofs.Ytpbhkdamkbopkaa.Pure
open Go.RowKit Go.Proofs.Ytpbhkdamkbopkaa.Ext Go.Proofs.Ytpbhkdamkbopkaa.GBack2 Go.Proofs.Ytpbhkdamkbopkaa.Wr1 Go.Proofs.Ytpbhkdamkbopkaa.Wr2 Go.Proofs.YtpbhkdamkbopkaaW.PrintWords Go.Proofs.YtpbhkdamkbopkaaW.PrintLast
open Go.Proofs.Ytpbhkdamkbopkaa.GRuns (celluloidlaw06_awake.f)
theorem i8_rng (c : Int) (h : (Lit.int .i8 c).wf = true) : -128 ≤ c ∧ c ≤ 127 := by
  simp [Lit.wf, IntKind.min, IntKind.max, IntKind.signed, IntKind.bits] at h
  omega
theorem long_nil : (⟨#[]⟩ : ByteArray).toList = ([] : List UInt8) := by kernel_rfl
theorem long_is (K : Nat) (a0 : Int) (s : ByteArray) (n : Nat) (hs : s.size = n) (hn : (n : Int) = 262144 + a0) (ha : -128 ≤ a0 ∧ a0 ≤ 127) (hK : 262144 + 400 ≤ K) :
    ((deflate_Raw.f s).bind fun bt230 => ((deflate_Close.f K s).bind fun bt232 => (if a0 > 0 then (if bt230.1.toList = ([] : List UInt8) then (if bt230.2 = 7 then (if bt232.1.toList = ([] : List UInt8) then (if bt232.2 = 7 then ((celluloidlaw06_awake.f K).bind fun t234 => (some t234)) else (some false)) else (some false)) else (some false)) else (some false)) else ((inflate_Open.f K bt232.1 262144).bind fun bt235 => (if bt230.2 = 0 then (if bt232.2 = 0 then (if (bt232.1.size : Int) = (wrap64 ((bt230.1.size : Int) + 6)) then (if bt235.1.toList = s.toList then (if bt235.2 = 0 then ((celluloidlaw06_awake.f K).bind fun t237 => (some t237)) else (some false)) else (some false)) else (some false)) else (some false)) else (some false)))))) = some true := by
  have hw := back_awake K (by omega)
  by_cases c : a0 > 0
  · have e1 : deflate_Raw.f s = some (⟨#[]⟩, 7) := by unfold deflate_Raw.f; rw [if_neg (by omega)]
    have e2 : deflate_Close.f K s = some (⟨#[]⟩, 7) := by unfold deflate_Close.f; rw [e1]; rfl
    rw [e1, e2, Option.bind_some, Option.bind_some, if_pos c]
    simp only
    rw [if_pos long_nil, if_pos trivial, if_pos long_nil, if_pos trivial, hw]
    rfl
  · have hR := packed_short s
    have hw6 : ((clo s).size : Int) = wrap64 (((packed s).size : Int) + 6) := by
      rw [wrap_in (by omega) (by omega), clo_size]; omega
    rw [raw_is0 s (by omega), close_is s (by omega) K (by omega), Option.bind_some, Option.bind_some, if_neg c]
    simp only
    rw [back_open s (by omega) K (by omega), Option.bind_some]
    simp only
    rw [if_pos trivial, if_pos trivial, if_pos hw6, if_pos trivial, if_pos trivial, hw]
    rfl
theorem DeflateLong : celluloidlaw06_DeflateLong.Pure := by
  intro a0 h0
  have ha := i8_rng a0 h0
  obtain ⟨K, hK⟩ : ∃ K : Nat, (K : Int) = 262144 + 400 := ⟨262544, rfl⟩
  obtain ⟨n, hn⟩ : ∃ n : Nat, (n : Int) = 262144 + a0 := ⟨(262144 + a0).toNat, by omega⟩
  refine ⟨K, ?_⟩
  unfold celluloidlaw06_DeflateLong.f
  rw [wrap_in (n := a0) (by omega) (by omega), ← hn, wrap_in (by omega) (by omega), if_pos (by omega), Int.toNat_natCast, if_pos (by omega), Option.bind_some]
  exact long_is K a0 (strOfNums (List.replicate n 0)) n (by rw [strOfNums_size, List.length_replicate]) hn ha (by omega)
end Go.Proofs.Ytpbhkdamkbopkaa.Pure
namespace Go.Proofs.Ytpbhkdamkbopkaa.Head
open Go
set_option maxRecDepth 100000
theorem order : Try.prog.initOrder = "harness a7c15820a2cb1018fe4759f7c25c13e6d005c23fb6069a0d0dcc8b91bc198833 cut at celluloid/celluloidlaw04.HuffCodes celluloid/celluloidlaw04.HuffReads celluloid/celluloidlaw04.HuffBack celluloid/celluloidlaw04.HuffFull celluloid/celluloidlaw04.HuffBits celluloid/celluloidlaw06.DeflateRuns celluloid/celluloidlaw06.DeflateFinds celluloid/celluloidlaw06.DeflatePlain celluloid/celluloidlaw06.DeflateRaw celluloid/celluloidlaw05.InflateRaw celluloid/celluloidlaw05.InflateOpens celluloid/celluloidlaw05.InflateStored celluloid/celluloidlaw05.InflateEnds celluloid/celluloidlaw05.InflateBlocks celluloid/celluloidlaw06.DeflateBack celluloid/celluloidlaw06.DeflateLong celluloid/celluloidlaw11.PixelPuts celluloid/celluloidlaw11.PixelTakes celluloid/celluloidlaw11.PixelAgain celluloid/celluloidlaw11.PixelPoints celluloid/celluloidlaw11.PixelTable celluloid/celluloidlaw11.PixelNames" := by kernel_rfl
/-- The signs behind the third word. -/
def rest : List Char := ['a', 't', ' ', 'c', 'e', 'l', 'l', 'u', 'l', 'o', 'i', 'd', '/', 'c', 'e', 'l', 'l', 'u', 'l', 'o', 'i', 'd', 'l', 'a', 'w', '0', '4', '.', 'H', 'u', 'f', 'f', 'C', 'o', 'd', 'e', 's', ' ', 'c', 'e', 'l', 'l', 'u', 'l', 'o', 'i', 'd', '/', 'c', 'e', 'l', 'l', 'u', 'l', 'o', 'i', 'd', 'l', 'a', 'w', '0', '4', '.', 'H', 'u', 'f', 'f', 'R', 'e', 'a', 'd', 's', ' ', 'c', 'e', 'l', 'l', 'u', 'l', 'o', 'i', 'd', '/', 'c', 'e', 'l', 'l', 'u', 'l', 'o', 'i', 'd', 'l', 'a', 'w', '0', '4', '.', 'H', 'u', 'f', 'f', 'B', 'a', 'c', 'k', ' ', 'c', 'e', 'l', 'l', 'u', 'l', 'o', 'i', 'd', '/', 'c', 'e', 'l', 'l', 'u', 'l', 'o', 'i', 'd', 'l', 'a', 'w', '0', '4', '.', 'H', 'u', 'f', 'f', 'F', 'u', 'l', 'l', ' ', 'c', 'e', 'l', 'l', 'u', 'l', 'o', 'i', 'd', '/', 'c', 'e', 'l', 'l', 'u', 'l', 'o', 'i', 'd', 'l', 'a', 'w', '0', '4', '.', 'H', 'u', 'f', 'f', 'B', 'i', 't', 's', ' ', 'c', 'e', 'l', 'l', 'u', 'l', 'o', 'i', 'd', '/', 'c', 'e', 'l', 'l', 'u', 'l', 'o', 'i', 'd', 'l', 'a', 'w', '0', '6', '.', 'D', 'e', 'f', 'l', 'a', 't', 'e', 'R', 'u', 'n', 's', ' ', 'c', 'e', 'l', 'l', 'u', 'l', 'o', 'i', 'd', '/', 'c', 'e', 'l', 'l', 'u', 'l', 'o', 'i', 'd', 'l', 'a', 'w', '0', '6', '.', 'D', 'e', 'f', 'l', 'a', 't', 'e', 'F', 'i', 'n', 'd', 's', ' ', 'c', 'e', 'l', 'l', 'u', 'l', 'o', 'i', 'd', '/', 'c', 'e', 'l', 'l', 'u', 'l', 'o', 'i', 'd', 'l', 'a', 'w', '0', '6', '.', 'D', 'e', 'f', 'l', 'a', 't', 'e', 'P', 'l', 'a', 'i', 'n', ' ', 'c', 'e', 'l', 'l', 'u', 'l', 'o', 'i', 'd', '/', 'c', 'e', 'l', 'l', 'u', 'l', 'o', 'i', 'd', 'l', 'a', 'w', '0', '6', '.', 'D', 'e', 'f', 'l', 'a', 't', 'e', 'R', 'a', 'w', ' ', 'c', 'e', 'l', 'l', 'u', 'l', 'o', 'i', 'd', '/', 'c', 'e', 'l', 'l', 'u', 'l', 'o', 'i', 'd', 'l', 'a', 'w', '0', '5', '.', 'I', 'n', 'f', 'l', 'a', 't', 'e', 'R', 'a', 'w', ' ', 'c', 'e', 'l', 'l', 'u', 'l', 'o', 'i', 'd', '/', 'c', 'e', 'l', 'l', 'u', 'l', 'o', 'i', 'd', 'l', 'a', 'w', '0', '5', '.', 'I', 'n', 'f', 'l', 'a', 't', 'e', 'O', 'p', 'e', 'n', 's', ' ', 'c', 'e', 'l', 'l', 'u', 'l', 'o', 'i', 'd', '/', 'c', 'e', 'l', 'l', 'u', 'l', 'o', 'i', 'd', 'l', 'a', 'w', '0', '5', '.', 'I', 'n', 'f', 'l', 'a', 't', 'e', 'S', 't', 'o', 'r', 'e', 'd', ' ', 'c', 'e', 'l', 'l', 'u', 'l', 'o', 'i', 'd', '/', 'c', 'e', 'l', 'l', 'u', 'l', 'o', 'i', 'd', 'l', 'a', 'w', '0', '5', '.', 'I', 'n', 'f', 'l', 'a', 't', 'e', 'E', 'n', 'd', 's', ' ', 'c', 'e', 'l', 'l', 'u', 'l', 'o', 'i', 'd', '/', 'c', 'e', 'l', 'l', 'u', 'l', 'o', 'i', 'd', 'l', 'a', 'w', '0', '5', '.', 'I', 'n', 'f', 'l', 'a', 't', 'e', 'B', 'l', 'o', 'c', 'k', 's', ' ', 'c', 'e', 'l', 'l', 'u', 'l', 'o', 'i', 'd', '/', 'c', 'e', 'l', 'l', 'u', 'l', 'o', 'i', 'd', 'l', 'a', 'w', '0', '6', '.', 'D', 'e', 'f', 'l', 'a', 't', 'e', 'B', 'a', 'c', 'k', ' ', 'c', 'e', 'l', 'l', 'u', 'l', 'o', 'i', 'd', '/', 'c', 'e', 'l', 'l', 'u', 'l', 'o', 'i', 'd', 'l', 'a', 'w', '0', '6', '.', 'D', 'e', 'f', 'l', 'a', 't', 'e', 'L', 'o', 'n', 'g', ' ', 'c', 'e', 'l', 'l', 'u', 'l', 'o', 'i', 'd', '/', 'c', 'e', 'l', 'l', 'u', 'l', 'o', 'i', 'd', 'l', 'a', 'w', '1', '1', '.', 'P', 'i', 'x', 'e', 'l', 'P', 'u', 't', 's', ' ', 'c', 'e', 'l', 'l', 'u', 'l', 'o', 'i', 'd', '/', 'c', 'e', 'l', 'l', 'u', 'l', 'o', 'i', 'd', 'l', 'a', 'w', '1', '1', '.', 'P', 'i', 'x', 'e', 'l', 'T', 'a', 'k', 'e', 's', ' ', 'c', 'e', 'l', 'l', 'u', 'l', 'o', 'i', 'd', '/', 'c', 'e', 'l', 'l', 'u', 'l', 'o', 'i', 'd', 'l', 'a', 'w', '1', '1', '.', 'P', 'i', 'x', 'e', 'l', 'A', 'g', 'a', 'i', 'n', ' ', 'c', 'e', 'l', 'l', 'u', 'l', 'o', 'i', 'd', '/', 'c', 'e', 'l', 'l', 'u', 'l', 'o', 'i', 'd', 'l', 'a', 'w', '1', '1', '.', 'P', 'i', 'x', 'e', 'l', 'P', 'o', 'i', 'n', 't', 's', ' ', 'c', 'e', 'l', 'l', 'u', 'l', 'o', 'i', 'd', '/', 'c', 'e', 'l', 'l', 'u', 'l', 'o', 'i', 'd', 'l', 'a', 'w', '1', '1', '.', 'P', 'i', 'x', 'e', 'l', 'T', 'a', 'b', 'l', 'e', ' ', 'c', 'e', 'l', 'l', 'u', 'l', 'o', 'i', 'd', '/', 'c', 'e', 'l', 'l', 'u', 'l', 'o', 'i', 'd', 'l', 'a', 'w', '1', '1', '.', 'P', 'i', 'x', 'e', 'l', 'N', 'a', 'm', 'e', 's']
theorem signs : Try.prog.initOrder.toList = ['h', 'a', 'r', 'n', 'e', 's', 's'] ++ ' ' :: (['a', '7', 'c', '1', '5', '8', '2', '0', 'a', '2', 'c', 'b', '1', '0', '1', '8', 'f', 'e', '4', '7', '5', '9', 'f', '7', 'c', '2', '5', 'c', '1', '3', 'e', '6', 'd', '0', '0', '5', 'c', '2', '3', 'f', 'b', '6', '0', '6', '9', 'a', '0', 'd', '0', 'd', 'c', 'c', '8', 'b', '9', '1', 'b', 'c', '1', '9', '8', '8', '3', '3'] ++ ' ' :: (['c', 'u', 't'] ++ ' ' :: rest)) := by rw [order]; exact String.toList_ofList
/-- The words: a word, and those behind its space. -/
theorem words_cut (r : List Char) : ∀ (w : List Char), (∀ c ∈ w, c ≠ ' ') → wordsSigns (w ++ ' ' :: r) = w :: wordsSigns r
  | [], _ => by simp [wordsSigns]
  | c :: w, h => by
    have ih := words_cut r w (fun x hx => h x (List.mem_cons_of_mem _ hx))
    have hc : c ≠ ' ' := h c List.mem_cons_self
    rw [List.cons_append, wordsSigns.eq_3 _ _ hc, ih]
theorem words : behindMainWord (wordsSigns Try.prog.initOrder.toList) = ['c', 'u', 't'] :: wordsSigns rest := by
  rw [signs, words_cut _ _ (by decide), words_cut _ _ (by decide), words_cut _ _ (by decide)]
  have h1 : ((['h', 'a', 'r', 'n', 'e', 's', 's'] == "harness".toList || ['h', 'a', 'r', 'n', 'e', 's', 's'] == "ownmain".toList) && isSumSigns ['a', '7', 'c', '1', '5', '8', '2', '0', 'a', '2', 'c', 'b', '1', '0', '1', '8', 'f', 'e', '4', '7', '5', '9', 'f', '7', 'c', '2', '5', 'c', '1', '3', 'e', '6', 'd', '0', '0', '5', 'c', '2', '3', 'f', 'b', '6', '0', '6', '9', 'a', '0', 'd', '0', 'd', 'c', 'c', '8', 'b', '9', '1', 'b', 'c', '1', '9', '8', '8', '3', '3']) = true := by decide +kernel
  unfold behindMainWord
  simp only [h1, if_true]
theorem g1 : (['c', 'u', 't'] == "gc".toList) = false := by decide +kernel
theorem g2 : (['c', 'u', 't'] == "spec".toList) = false := by decide +kernel
theorem g3 : (['c', 'u', 't'] == "cut".toList) = true := by decide +kernel
theorem g4 : (['c', 'u', 't'] == "carried".toList) = false := by decide +kernel
theorem lifts (rs : List (List Char)) : stripLifts liftWords (['c', 'u', 't'] :: rs) = ([], ['c', 'u', 't'] :: rs) := by
  have h : liftWords.all (fun o => !(['c', 'u', 't'] == o.toList)) = true := by decide +kernel
  revert h
  generalize liftWords = os
  intro h
  induction os with
  | nil => rfl
  | cons o os ih =>
    rw [List.all_cons, Bool.and_eq_true, Bool.not_eq_true'] at h
    rw [stripLifts.eq_3, if_neg (by rw [h.1]; decide), ih h.2]
theorem make_of (P : Program) (rs : List (List Char)) (h : behindMainWord (wordsSigns P.initOrder.toList) = ['c', 'u', 't'] :: rs) : P.make = some .cut := by
  unfold Program.make
  rw [h]
  simp only [g1, g2, g3, Bool.false_or, Bool.true_or, if_true, Bool.false_eq_true, if_false]
theorem final_of (P : Program) (rs : List (List Char)) (h : behindMainWord (wordsSigns P.initOrder.toList) = ['c', 'u', 't'] :: rs) : P.liftsFinal = false := by
  unfold Program.liftsFinal Program.headLifts
  rw [h, lifts]
  rfl
theorem enters_of (P : Program) (rs : List (List Char)) (h : behindMainWord (wordsSigns P.initOrder.toList) = ['c', 'u', 't'] :: rs) (h1 : P.laysLater = false) (h2 : P.bearsReflect = false) (h3 : P.doorFits [] = true) : P.mayEnter = true := by
  unfold Program.mayEnter
  rw [h]
  dsimp only
  rw [lifts, h1, h2, h3]
  rfl
theorem make : Try.prog.make = some .cut := make_of _ _ words
theorem final : Try.prog.liftsFinal = false := final_of _ _ words
theorem later : Try.prog.laysLater = false := by kernel_rfl
theorem reflect : Try.prog.bearsReflect = false := by kernel_rfl
theorem door : Try.prog.doorFits [] = true := by kernel_rfl
theorem enters : Try.prog.mayEnter = true := enters_of _ _ words later reflect door
end Go.Proofs.Ytpbhkdamkbopkaa.Head
