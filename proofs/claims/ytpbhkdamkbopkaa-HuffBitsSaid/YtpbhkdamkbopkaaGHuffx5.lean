-- Written by a program of this session (wip/tools/print2.py) for this claim.
import Derived.Test.YtpbhkdamkbopkaaGHuffx0
import Derived.Test.YtpbhkdamkbopkaaGHuffx1
namespace Go.Proofs.Ytpbhkdamkbopkaa.GHuff
open Go.RowKit Go.Proofs.YtpbhkdamkbopkaaW.PrintWords Go.Proofs.YtpbhkdamkbopkaaW.PrintLast Go.Proofs.YtpbhkdamkbopkaaW.PrintMore Go.Proofs.Ytpbhkdamkbopkaa.Ext Go.Proofs.Ytpbhkdamkbopkaa.ExtAwake
attribute [local go_sem] max2_int min2_int max_two min_two max_three min_three max_four min_four   -- for this text's walks alone
set_option linter.unusedVariables false
set_option linter.unusedSimpArgs false

/-! ### celluloidlaw04_HuffFull: function 6 -/
def celluloidlaw04_HuffFull.l0 : Nat → List Int → Int → Int → List Int → Int → Int → Int → Int → Int → Int → Int → Int → Int → Int → Int → Int → Int → Int → Int → Int → Int → Int → List Int → Option (Bool)
  | 0, _, _, _, _, _, _, _, _, _, _, _, _, _, _, _, _, _, _, _, _, _, _, _ => none
  | k + 1, x0, x1, x7, x21, x22, x23, x214000, x214001, x214002, x214003, x214004, x214005, x214006, x214007, x214008, x214009, x214010, x214011, x214012, x214013, x214014, x214015, x214016 => if x23 < x22 then (if 0 ≤ x23 then (if x23 < (x21.length : Int) then (if (rd x21 x23) > 0 then (celluloidlaw04_HuffFull.l0 k x0 x1 (wrap64 (x7 + 1)) x21 x22 (wrap64 (x23 + 1)) x214000 x214001 x214002 x214003 x214004 x214005 x214006 x214007 x214008 x214009 x214010 x214011 x214012 x214013 x214014 x214015 x214016) else (celluloidlaw04_HuffFull.l0 k x0 x1 x7 x21 x22 (wrap64 (x23 + 1)) x214000 x214001 x214002 x214003 x214004 x214005 x214006 x214007 x214008 x214009 x214010 x214011 x214012 x214013 x214014 x214015 x214016)) else (none)) else (none)) else ((huff_Next.f x214000 x214001 x214002 x214003 x214004 x214005 x214006 x214007 x214008 x214009 x214010 x214011 x214012 x214013 x214014 x214015 x214016 (strOfNums (([(x1) % 256, (x1 / 256) % 256] : List Int))) 0).bind fun bt219 => (if x7 < 2 then (if bt219.2.2 = 0 then ((celluloidlaw04_awake.f).bind fun t222 => (some t222)) else (if bt219.2.2 = 4 then ((celluloidlaw04_awake.f).bind fun t223 => (some t223)) else (some false))) else (if bt219.2.2 = 0 then (if bt219.1 ≥ 0 then (if bt219.1 < (x0.length : Int) then (if 0 ≤ bt219.1 then (if (rd x0 bt219.1) = bt219.2.1 then (if bt219.2.1 > 0 then ((celluloidlaw04_awake.f).bind fun t225 => (some t225)) else (some false)) else (some false)) else (none)) else (some false)) else (some false)) else (some false))))
def celluloidlaw04_HuffFull.f (k : Nat) (l0 : List Int) (a1 : Int) : Option (Bool) := (huff_New.f l0).bind fun bt193 => (if bt193.2.2.2.2.2.2.2.2.2.2.2.2.2.2.2.2.2 = 0 then (celluloidlaw04_HuffFull.l0 k l0 a1 0 l0 (l0.length : Int) 0 bt193.1 bt193.2.1 bt193.2.2.1 bt193.2.2.2.1 bt193.2.2.2.2.1 bt193.2.2.2.2.2.1 bt193.2.2.2.2.2.2.1 bt193.2.2.2.2.2.2.2.1 bt193.2.2.2.2.2.2.2.2.1 bt193.2.2.2.2.2.2.2.2.2.1 bt193.2.2.2.2.2.2.2.2.2.2.1 bt193.2.2.2.2.2.2.2.2.2.2.2.1 bt193.2.2.2.2.2.2.2.2.2.2.2.2.1 bt193.2.2.2.2.2.2.2.2.2.2.2.2.2.1 bt193.2.2.2.2.2.2.2.2.2.2.2.2.2.2.1 bt193.2.2.2.2.2.2.2.2.2.2.2.2.2.2.2.1 bt193.2.2.2.2.2.2.2.2.2.2.2.2.2.2.2.2.1) else ((celluloidlaw04_awake.f).bind fun t214 => (some t214)))
theorem celluloidlaw04_HuffFull.mono_l : ∀ k, (∀ y0 y1 y2 y3 y4 y5 y6 y7 y8 y9 y10 y11 y12 y13 y14 y15 y16 y17 y18 y19 y20 y21 y22, LeO (celluloidlaw04_HuffFull.l0 k y0 y1 y2 y3 y4 y5 y6 y7 y8 y9 y10 y11 y12 y13 y14 y15 y16 y17 y18 y19 y20 y21 y22) (celluloidlaw04_HuffFull.l0 (k + 1) y0 y1 y2 y3 y4 y5 y6 y7 y8 y9 y10 y11 y12 y13 y14 y15 y16 y17 y18 y19 y20 y21 y22))
  | 0 => fun _ _ _ _ _ _ _ _ _ _ _ _ _ _ _ _ _ _ _ _ _ _ _ r h => by simp [celluloidlaw04_HuffFull.l0] at h
  | k + 1 => by
    have ih0 := celluloidlaw04_HuffFull.mono_l k
    · intro y0 y1 y2 y3 y4 y5 y6 y7 y8 y9 y10 y11 y12 y13 y14 y15 y16 y17 y18 y19 y20 y21 y22
      unfold celluloidlaw04_HuffFull.l0
      repeat' first
      | (with_reducible exact ih0 _ _ _ _ _ _ _ _ _ _ _ _ _ _ _ _ _ _ _ _ _ _ _)
      | (with_reducible exact LeO.refl _)
      | (with_reducible exact LeO.none _)
      | (with_reducible refine LeO.ite ?_ ?_)
      | (with_reducible refine LeO.bind ?_ (fun _ => ?_))
      | exact ih0 _ _ _ _ _ _ _ _ _ _ _ _ _ _ _ _ _ _ _ _ _ _ _
      | exact LeO.none _
      | refine LeO.ite ?_ ?_
      | refine LeO.bind ?_ (fun _ => ?_)
theorem celluloidlaw04_HuffFull.mono : ∀ a0 a1 k, LeO (celluloidlaw04_HuffFull.f k a0 a1) (celluloidlaw04_HuffFull.f (k + 1) a0 a1) := by
  intro a0 a1 k
  have ih0 := celluloidlaw04_HuffFull.mono_l k
  unfold celluloidlaw04_HuffFull.f
  repeat' first
      | (with_reducible exact ih0 _ _ _ _ _ _ _ _ _ _ _ _ _ _ _ _ _ _ _ _ _ _ _)
      | (with_reducible exact LeO.refl _)
      | (with_reducible exact LeO.none _)
      | (with_reducible refine LeO.ite ?_ ?_)
      | (with_reducible refine LeO.bind ?_ (fun _ => ?_))
      | exact ih0 _ _ _ _ _ _ _ _ _ _ _ _ _ _ _ _ _ _ _ _ _ _ _
      | exact LeO.none _
      | refine LeO.ite ?_ ?_
      | refine LeO.bind ?_ (fun _ => ?_)
set_option maxHeartbeats 8000000 in
set_option maxRecDepth 100000 in
theorem celluloidlaw04_HuffFull.calls (k : Nat) (A0 : Option Addr) (c0 : Nat) (l0 : List Int) (a1 : Int) (r : Bool) (w : World) (hr0 : Kd.C (Kd.int .i64) w A0 l0.length l0) (hc0 : l0.length ≤ c0) (h : celluloidlaw04_HuffFull.f k l0 a1 = some r) (hr_ : Aside0 (r = true)) :
    Calls Try.prog 6 #[.slice A0 l0.length c0, .int .u16 a1] w fun e w' => e = .returned (.bool r) ∧ Below w.heap.size w w' := by
  have hu26 := Try.underlying26
  have HR0 := Aside0.mk hr0
  have HC0 := Aside0.mk hc0
  clear hr0 hc0
  have HB := Aside0.mk (Below.refl w.heap.size w)
  have H : ((huff_New.f l0).bind fun bt193 => (if bt193.2.2.2.2.2.2.2.2.2.2.2.2.2.2.2.2.2 = 0 then (celluloidlaw04_HuffFull.l0 k l0 a1 0 l0 (l0.length : Int) 0 bt193.1 bt193.2.1 bt193.2.2.1 bt193.2.2.2.1 bt193.2.2.2.2.1 bt193.2.2.2.2.2.1 bt193.2.2.2.2.2.2.1 bt193.2.2.2.2.2.2.2.1 bt193.2.2.2.2.2.2.2.2.1 bt193.2.2.2.2.2.2.2.2.2.1 bt193.2.2.2.2.2.2.2.2.2.2.1 bt193.2.2.2.2.2.2.2.2.2.2.2.1 bt193.2.2.2.2.2.2.2.2.2.2.2.2.1 bt193.2.2.2.2.2.2.2.2.2.2.2.2.2.1 bt193.2.2.2.2.2.2.2.2.2.2.2.2.2.2.1 bt193.2.2.2.2.2.2.2.2.2.2.2.2.2.2.2.1 bt193.2.2.2.2.2.2.2.2.2.2.2.2.2.2.2.2.1) else ((celluloidlaw04_awake.f).bind fun t214 => (some t214)))) = some r := h
  clear h
  replace H := Option.bind_eq_some_iff.mp H
  obtain ⟨⟨t193, t194, t195, t196, t197, t198, t199, t200, t201, t202, t203, t204, t205, t206, t207, t208, t209, t212⟩, A30, H⟩ := H
  replace H : (if t212 = 0 then (celluloidlaw04_HuffFull.l0 k l0 a1 0 l0 (l0.length : Int) 0 t193 t194 t195 t196 t197 t198 t199 t200 t201 t202 t203 t204 t205 t206 t207 t208 t209) else ((celluloidlaw04_awake.f).bind fun t214 => (some t214))) = some r := H
  have A3 := Aside0.mk A30
  clear A30
  by_cases c4 : t212 = 0
  · rw [if_pos c4] at H
    have c4b0 : (t212 == 0) = true := beq_iff_eq.mpr c4
    have c4b1 : (t212 != 0) = false := bne_eq_false_iff_eq.mpr c4
    clear c4
    have H' := Aside0.mk H
    clear H
    as_aux_lemma =>
      go_enter Try.func6, Try.ntmps6
      go_wp2_with (first | ((with_reducible refine gate_load (t := 26) rfl ?_); refine wpList_load_row rfl 26 _ rfl _ rfl 26 ?lcs (0, 0) _ ?lb Try.underlying26 rfl ?li ?_; (case lb => (with_reducible repeat (first | refine blk_drewN ?_ _ | refine blk_drew ?_ | refine blk_alloc ?_ _)); exact Aside0.out (by assumption)); (case li => exact info26)) | ((with_reducible refine gate_callee (f := 26) rfl ?_); refine goesL_ (some 15) rfl rfl Try.func26 (by kernel_rfl) rfl #[.slice A0 l0.length c0] rfl (by (try simp only [List.map_toArray, List.map_cons, List.map_nil]); first | done | rfl | (simp only [List.length_drop, List.length_take]; rfl)) ?_; (with_reducible refine (huff_New.calls _ _ l0 t193 t194 t195 t196 t197 t198 t199 t200 t201 t202 t203 t204 t205 t206 t207 t208 t209 t212 _ ?side1 ?side2 A3.out).mono ?_); (case side1 => repeat (first | exact HR0.out | (with_reducible refine Kd.C_alloc ?_ _) | (with_reducible refine Kd.C_drewN ?_ _) | (with_reducible refine Kd.C_drew ?_))); (case side2 => exact HC0.out); rintro e w5 ⟨v210, rfl, ho0, hb⟩; refine ⟨_, rfl, ?_⟩; have n0_ := Aside0.mk (Kd.R_lower ho0 (below_size (by repeat (first | (with_reducible first | exact HB.out | apply below_alloc | apply pw_below_drewN | apply below_drew1) | exact HB.out)))); have n1_ := Aside0.mk (below_step (by repeat (first | (with_reducible first | exact HB.out | apply below_alloc | apply pw_below_drewN | apply below_drew1) | exact HB.out)) hb); clear HB; have HO211 := n0_; have HB := n1_; clear n0_ n1_; (try clear hb); (try clear hb2); (try clear hk); (try clear hi); (try clear ho0); obtain ⟨Ao6, co6, eo6⟩ := Kd.R_slice HO211.out; subst eo6) | ((with_reducible refine gate_dst (N := 5) rfl ?_); (try (refine gate_guard (by rfl) ?_; dsimp only)); refine box2_event ?hg (N := 5) ?hd (cs0 := #[.int .i64 0, .int .i64 0, .int .i64 0, .int .i64 0, .int .i64 0, .int .i64 0, .int .i64 0, .int .i64 0, .int .i64 0, .int .i64 0, .int .i64 0, .int .i64 0, .int .i64 0, .int .i64 0, .int .i64 0, .int .i64 0, .slice none 0 0]) (cs := #[.int .i64 t193, .int .i64 t194, .int .i64 t195, .int .i64 t196, .int .i64 t197, .int .i64 t198, .int .i64 t199, .int .i64 t200, .int .i64 t201, .int .i64 t202, .int .i64 t203, .int .i64 t204, .int .i64 t205, .int .i64 t206, .int .i64 t207, .int .i64 t208, .slice Ao6 t209.length co6]) (t := 26) (y := (.tmp 16)) ?hr rfl rfl rfl rfl rfl ?hi rfl ?h1 ?_; (case hd => rfl); (case hg => rfl); (case hr => first | (go_simp; done) | (go_simp; rfl)); (case hi => exact info26); (case h1 => first | rfl | (simp [Value.oneCell']; done) | (simp; done)); intro gb213 hg w7 hbox hb; have n0_ := Aside0.mk (Kd.R_below (by (with_reducible repeat (first | apply Kd.R_alloc | apply Kd.R_drewN | apply Kd.R_drew)); exact HO211.out) hb); have n1_ := Aside0.mk (below_step (by repeat (first | (with_reducible first | exact HB.out | apply below_alloc | apply pw_below_drewN | apply below_drew1) | exact HB.out)) hb); have n2_ := Aside0.mk (hbox); have n3_ := Aside0.mk ((by rw [hg]; exact (below_size (by repeat (first | (with_reducible first | exact HB.out | apply below_alloc | apply pw_below_drewN | apply below_drew1) | exact HB.out))) : w.heap.size ≤ gb213)); have n4_ := Aside0.mk ((by rw [hg]; exact (below_size (by repeat (first | (with_reducible first | exact HB.out | apply below_alloc | apply pw_below_drewN | apply below_drew1) | exact HB.out))) : w.heap.size ≤ gb213)); clear HO211; clear HB; have HO211 := n0_; have HB := n1_; have BK213 := n2_; have GW213 := n3_; have GE213 := n4_; clear n0_ n1_ n2_ n3_ n4_; clear hb hbox hg))
      go_loopg [7, 23] k (fun kq v7 v23 w' => ∃ (x7_1 : Int) (x23_1 : Int), v7 = .int .i64 x7_1 ∧ v23 = .int .i64 x23_1 ∧ Aside0 (celluloidlaw04_HuffFull.l0 kq l0 a1 x7_1 l0 (l0.length : Int) x23_1 t193 t194 t195 t196 t197 t198 t199 t200 t201 t202 t203 t204 t205 t206 t207 t208 t209 = some r) ∧ Aside0 (kq ≤ k) ∧ Aside0 (Kd.R (Kd.int .i64) 3 w' w.heap.size (fun _ => True) (.slice Ao6 t209.length co6) t209) ∧ Aside0 (w'.heap[gb213]? = some (.cells #[.int .i64 t193, .int .i64 t194, .int .i64 t195, .int .i64 t196, .int .i64 t197, .int .i64 t198, .int .i64 t199, .int .i64 t200, .int .i64 t201, .int .i64 t202, .int .i64 t203, .int .i64 t204, .int .i64 t205, .int .i64 t206, .int .i64 t207, .int .i64 t208, (.slice Ao6 t209.length co6)] 26 (0, 0))) ∧ Aside0 (Below w.heap.size w w'))
      case atStart => exact ⟨(0), (0), (by first | rfl | (simp; done) | (simp [*]; done)), (by first | rfl | (simp; done) | (simp [*]; done)), H', ⟨Nat.le_refl _⟩, ⟨by (with_reducible repeat (first | apply Kd.R_alloc | apply Kd.R_drewN | apply Kd.R_drew)); exact HO211.out⟩, ⟨by (with_reducible repeat (first | refine blk_drewN ?_ _ | refine blk_drew ?_ | refine blk_alloc ?_ _)); exact BK213.out⟩, ⟨by repeat (first | (with_reducible first | exact HB.out | apply below_alloc | apply pw_below_drewN | apply below_drew1 | refine below_set ?_ GE213.out) | exact HB.out)⟩⟩
      case round =>
        clear H'
        try clear c2
        try clear p2
        try clear c4
        try clear c4b0
        try clear c4b1
        try clear c6
        obtain ⟨x7_1, x23_1, rfl, rfl, HA, HK1, HO_214016, BK213, HB⟩ := hrel
        cases gk with
        | zero => exact absurd HA.out (by simp [celluloidlaw04_HuffFull.l0])
        | succ k1 =>
          have H := HA.out
          clear HA
          simp only [celluloidlaw04_HuffFull.l0] at H
          by_cases c8 : x23_1 < (l0.length : Int)
          · rw [if_pos c8] at H
            have c8b0 : decide (x23_1 < (l0.length : Int)) = true := decide_eq_true c8
            clear c8
            by_cases c9 : 0 ≤ x23_1
            · rw [if_pos c9] at H
              have c9b0 : decide (0 ≤ x23_1) = true := decide_eq_true c9
              clear c9
              by_cases c10 : x23_1 < (l0.length : Int)
              · rw [if_pos c10] at H
                have c10b0 : decide (x23_1 < (l0.length : Int)) = true := decide_eq_true c10
                clear c10
                by_cases c11 : (rd l0 x23_1) > 0
                · rw [if_pos c11] at H
                  have c11b0 : decide (0 < (rd l0 x23_1)) = true := decide_eq_true c11
                  clear c11
                  have H' := Aside0.mk H
                  clear H
                  have p215 : 0 ≤ (x23_1 : Int) := of_decide_eq_true (by first | (with_reducible assumption) | assumption)
                  have q215 : x23_1 < (l0.length : Int) := of_decide_eq_true (by first | (with_reducible assumption) | assumption)
                  obtain ⟨ad215, e215, hx215_0⟩ := Kd.at_int HR0.out x23_1 p215 q215
                  cases e215
                  replace hx215_0 := (HB.out.cell (World.block_lt_of_cell? w _ hx215_0)).trans hx215_0
                  replace p215 := eq_true p215
                  replace q215 := eq_true q215
                  go_wp2_with ((with_reducible refine gate_load (t := 26) rfl ?_); refine wpList_load_row rfl 26 _ rfl _ rfl 26 ?lcs (0, 0) _ ?lb Try.underlying26 rfl ?li ?_; (case lb => (with_reducible repeat (first | refine blk_drewN ?_ _ | refine blk_drew ?_ | refine blk_alloc ?_ _)); exact Aside0.out (by assumption)); (case li => exact info26))
                  go_roundg k1
                  case measure => have := HK1.out; omega
                  case rel => exact ⟨(wrap64 (x7_1 + 1)), (wrap64 (x23_1 + 1)), (by first | rfl | (simp; done) | (simp [*]; done)), (by first | rfl | (simp; done) | (simp [*]; done)), H', ⟨by have := HK1.out; omega⟩, ⟨by (with_reducible repeat (first | apply Kd.R_alloc | apply Kd.R_drewN | apply Kd.R_drew)); exact HO_214016.out⟩, ⟨by (with_reducible repeat (first | refine blk_drewN ?_ _ | refine blk_drew ?_ | refine blk_alloc ?_ _)); exact BK213.out⟩, ⟨by repeat (first | (with_reducible first | exact HB.out | apply below_alloc | apply pw_below_drewN | apply below_drew1 | refine below_set ?_ GE213.out) | exact HB.out)⟩⟩
                · rw [if_neg c11] at H
                  have c11b0 : decide (0 < (rd l0 x23_1)) = false := decide_eq_false c11
                  clear c11
                  have H' := Aside0.mk H
                  clear H
                  have p215 : 0 ≤ (x23_1 : Int) := of_decide_eq_true (by first | (with_reducible assumption) | assumption)
                  have q215 : x23_1 < (l0.length : Int) := of_decide_eq_true (by first | (with_reducible assumption) | assumption)
                  obtain ⟨ad215, e215, hx215_0⟩ := Kd.at_int HR0.out x23_1 p215 q215
                  cases e215
                  replace hx215_0 := (HB.out.cell (World.block_lt_of_cell? w _ hx215_0)).trans hx215_0
                  replace p215 := eq_true p215
                  replace q215 := eq_true q215
                  go_wp2_with ((with_reducible refine gate_load (t := 26) rfl ?_); refine wpList_load_row rfl 26 _ rfl _ rfl 26 ?lcs (0, 0) _ ?lb Try.underlying26 rfl ?li ?_; (case lb => (with_reducible repeat (first | refine blk_drewN ?_ _ | refine blk_drew ?_ | refine blk_alloc ?_ _)); exact Aside0.out (by assumption)); (case li => exact info26))
                  go_roundg k1
                  case measure => have := HK1.out; omega
                  case rel => exact ⟨(x7_1), (wrap64 (x23_1 + 1)), (by first | rfl | (simp; done) | (simp [*]; done)), (by first | rfl | (simp; done) | (simp [*]; done)), H', ⟨by have := HK1.out; omega⟩, ⟨by (with_reducible repeat (first | apply Kd.R_alloc | apply Kd.R_drewN | apply Kd.R_drew)); exact HO_214016.out⟩, ⟨by (with_reducible repeat (first | refine blk_drewN ?_ _ | refine blk_drew ?_ | refine blk_alloc ?_ _)); exact BK213.out⟩, ⟨by repeat (first | (with_reducible first | exact HB.out | apply below_alloc | apply pw_below_drewN | apply below_drew1 | refine below_set ?_ GE213.out) | exact HB.out)⟩⟩
              · rw [if_neg c10] at H
                exact absurd H (by simp)
            · rw [if_neg c9] at H
              exact absurd H (by simp)
          · rw [if_neg c8] at H
            have c8b0 : decide (x23_1 < (l0.length : Int)) = false := decide_eq_false c8
            clear c8
            obtain ⟨y216, hy216⟩ : ∃ y_ : List Int, y_ = (([(a1) % 256, (a1 / 256) % 256] : List Int)) := ⟨_, rfl⟩
            replace H : ((huff_Next.f t193 t194 t195 t196 t197 t198 t199 t200 t201 t202 t203 t204 t205 t206 t207 t208 t209 (strOfNums y216) 0).bind fun bt219 => (if x7_1 < 2 then (if bt219.2.2 = 0 then ((celluloidlaw04_awake.f).bind fun t222 => (some t222)) else (if bt219.2.2 = 4 then ((celluloidlaw04_awake.f).bind fun t223 => (some t223)) else (some false))) else (if bt219.2.2 = 0 then (if bt219.1 ≥ 0 then (if bt219.1 < (l0.length : Int) then (if 0 ≤ bt219.1 then (if (rd l0 bt219.1) = bt219.2.1 then (if bt219.2.1 > 0 then ((celluloidlaw04_awake.f).bind fun t225 => (some t225)) else (some false)) else (some false)) else (none)) else (some false)) else (some false)) else (some false)))) = some r := by first | (rw [hy216]; with_reducible exact H) | (have H2_ := (Option.bind_some _ _).symm.trans H; rw [hy216]; with_reducible exact H2_) | (have H2_ := (Option.bind_some _ _).symm.trans H; with_reducible exact H2_) | with_reducible exact H | (rw [hy216]; exact H) | exact H
            have Ny216 := Aside0.mk hy216
            clear hy216
            replace H := Option.bind_eq_some_iff.mp H
            obtain ⟨⟨t219, t220, t221⟩, A120, H⟩ := H
            replace H : (if x7_1 < 2 then (if t221 = 0 then ((celluloidlaw04_awake.f).bind fun t222 => (some t222)) else (if t221 = 4 then ((celluloidlaw04_awake.f).bind fun t223 => (some t223)) else (some false))) else (if t221 = 0 then (if t219 ≥ 0 then (if t219 < (l0.length : Int) then (if 0 ≤ t219 then (if (rd l0 t219) = t220 then (if t220 > 0 then ((celluloidlaw04_awake.f).bind fun t225 => (some t225)) else (some false)) else (some false)) else (none)) else (some false)) else (some false)) else (some false))) = some r := H
            have A12 := Aside0.mk A120
            clear A120
            by_cases c13 : x7_1 < 2
            · rw [if_pos c13] at H
              have c13b0 : decide (x7_1 < 2) = true := decide_eq_true c13
              clear c13
              by_cases c14 : t221 = 0
              · rw [if_pos c14] at H
                have c14b0 : (t221 == 0) = true := beq_iff_eq.mpr c14
                have c14b1 : (t221 != 0) = false := bne_eq_false_iff_eq.mpr c14
                clear c14
                replace H := Option.bind_eq_some_iff.mp H
                obtain ⟨t222, A150, H⟩ := H
                replace H : (some t222) = some r := H
                have A15 := Aside0.mk A150
                clear A150
                first
                | exact absurd (Option.some.inj H) (by rw [hr_.out]; decide)
                | obtain rfl := Option.some.inj H
                  have hcz16_0 : wr.cell? ⟨gb213, 0, none⟩ = some (.int .i64 t193) := (blk_cell BK213.out 0).trans rfl
                  have hcz16_1 : wr.cell? ⟨gb213, 1, none⟩ = some (.int .i64 t194) := (blk_cell BK213.out 1).trans rfl
                  have hcz16_2 : wr.cell? ⟨gb213, 2, none⟩ = some (.int .i64 t195) := (blk_cell BK213.out 2).trans rfl
                  have hcz16_3 : wr.cell? ⟨gb213, 3, none⟩ = some (.int .i64 t196) := (blk_cell BK213.out 3).trans rfl
                  have hcz16_4 : wr.cell? ⟨gb213, 4, none⟩ = some (.int .i64 t197) := (blk_cell BK213.out 4).trans rfl
                  have hcz16_5 : wr.cell? ⟨gb213, 5, none⟩ = some (.int .i64 t198) := (blk_cell BK213.out 5).trans rfl
                  have hcz16_6 : wr.cell? ⟨gb213, 6, none⟩ = some (.int .i64 t199) := (blk_cell BK213.out 6).trans rfl
                  have hcz16_7 : wr.cell? ⟨gb213, 7, none⟩ = some (.int .i64 t200) := (blk_cell BK213.out 7).trans rfl
                  have hcz16_8 : wr.cell? ⟨gb213, 8, none⟩ = some (.int .i64 t201) := (blk_cell BK213.out 8).trans rfl
                  have hcz16_9 : wr.cell? ⟨gb213, 9, none⟩ = some (.int .i64 t202) := (blk_cell BK213.out 9).trans rfl
                  have hcz16_10 : wr.cell? ⟨gb213, 10, none⟩ = some (.int .i64 t203) := (blk_cell BK213.out 10).trans rfl
                  have hcz16_11 : wr.cell? ⟨gb213, 11, none⟩ = some (.int .i64 t204) := (blk_cell BK213.out 11).trans rfl
                  have hcz16_12 : wr.cell? ⟨gb213, 12, none⟩ = some (.int .i64 t205) := (blk_cell BK213.out 12).trans rfl
                  have hcz16_13 : wr.cell? ⟨gb213, 13, none⟩ = some (.int .i64 t206) := (blk_cell BK213.out 13).trans rfl
                  have hcz16_14 : wr.cell? ⟨gb213, 14, none⟩ = some (.int .i64 t207) := (blk_cell BK213.out 14).trans rfl
                  have hcz16_15 : wr.cell? ⟨gb213, 15, none⟩ = some (.int .i64 t208) := (blk_cell BK213.out 15).trans rfl
                  have hcz16_16 : wr.cell? ⟨gb213, 16, none⟩ = some (.slice Ao6 t209.length co6) := (blk_cell BK213.out 16).trans rfl
                  have hfz16_0 := blk_frozen BK213.out 0
                  have hfz16_1 := blk_frozen BK213.out 1
                  have hfz16_2 := blk_frozen BK213.out 2
                  have hfz16_3 := blk_frozen BK213.out 3
                  have hfz16_4 := blk_frozen BK213.out 4
                  have hfz16_5 := blk_frozen BK213.out 5
                  have hfz16_6 := blk_frozen BK213.out 6
                  have hfz16_7 := blk_frozen BK213.out 7
                  have hfz16_8 := blk_frozen BK213.out 8
                  have hfz16_9 := blk_frozen BK213.out 9
                  have hfz16_10 := blk_frozen BK213.out 10
                  have hfz16_11 := blk_frozen BK213.out 11
                  have hfz16_12 := blk_frozen BK213.out 12
                  have hfz16_13 := blk_frozen BK213.out 13
                  have hfz16_14 := blk_frozen BK213.out 14
                  have hfz16_15 := blk_frozen BK213.out 15
                  have hfz16_16 := blk_frozen BK213.out 16
                  go_wp2_with (first | ((with_reducible refine gate_load (t := 26) rfl ?_); refine wpList_load_row rfl 26 _ rfl _ rfl 26 ?lcs (0, 0) _ ?lb Try.underlying26 rfl ?li ?_; (case lb => (with_reducible repeat (first | refine blk_drewN ?_ _ | refine blk_drew ?_ | refine blk_alloc ?_ _)); exact Aside0.out (by assumption)); (case li => exact info26)) | ((with_reducible refine gate_dst (N := 39) rfl ?_); (try (refine gate_guard (by rfl) ?_; dsimp only)); refine Kd.R_lit (Kd.int .u8) _ 5 ?hg (N := 39) ?hd (xs := ([(a1) % 256, (a1 / 256) % 256] : List Int)) (inner := [.int .u8 ((a1) % 256), .int .u8 ((a1 / 256) % 256)]) (ok := fun _ => True) (okp := fun _ => True) ?hr ?hp (fun _ hk => hk) trivial (Below.refl _ _) (Nat.le_refl _) (by simp) ?_; (case hd => rfl); (case hg => rfl); (case hr => first | (go_simp; done) | (go_simp; rfl)); (case hp => exact (Reps.one (show Kd.M (Kd.int .u8) _ _ _ ((a1) % 256) [.int .u8 ((a1) % 256)] from rfl) (Reps.one (show Kd.M (Kd.int .u8) _ _ _ ((a1 / 256) % 256) [.int .u8 ((a1 / 256) % 256)] from rfl) (Reps.none _ _)))); intro v217 w17 ho18 hb hg_ hnew_; clear hg_ hnew_; (first | rw [← Ny216.out] at ho18 | (simp only [Int.reduceToNat] at ho18; rw [← Ny216.out] at ho18)); have n0_ := Aside0.mk (Kd.R_below (by (with_reducible repeat (first | apply Kd.R_alloc | apply Kd.R_drewN | apply Kd.R_drew)); exact HO_214016.out) hb); have n1_ := Aside0.mk (Kd.R_lower ho18 (below_size (by repeat (first | (with_reducible first | exact HB.out | apply below_alloc | apply pw_below_drewN | apply below_drew1 | refine below_set ?_ GE213.out) | exact HB.out)))); have n2_ := Aside0.mk (blk_below (g := gb213) (o := .cells #[.int .i64 t193, .int .i64 t194, .int .i64 t195, .int .i64 t196, .int .i64 t197, .int .i64 t198, .int .i64 t199, .int .i64 t200, .int .i64 t201, .int .i64 t202, .int .i64 t203, .int .i64 t204, .int .i64 t205, .int .i64 t206, .int .i64 t207, .int .i64 t208, .slice Ao6 t209.length co6] 26 (0, 0)) (by (with_reducible repeat (first | refine blk_drewN ?_ _ | refine blk_drew ?_ | refine blk_alloc ?_ _)); exact BK213.out) hb); have n3_ := Aside0.mk (below_step (by repeat (first | (with_reducible first | exact HB.out | apply below_alloc | apply pw_below_drewN | apply below_drew1 | refine below_set ?_ GE213.out) | exact HB.out)) hb); clear HO_214016; clear BK213; clear HB; have HO_214016 := n0_; have HO218 := n1_; have BK213 := n2_; have HB := n3_; clear n0_ n1_ n2_ n3_; clear hb ho18; have hcv19 := own_string (P := Try.prog) Try.underlying40 Try.underlying5 Try.underlying9 (Kd.own_of_R HO218.out)) | ((with_reducible refine gate_callee (f := 30) rfl ?_); refine goesL_ (some 41) rfl rfl Try.func30 (by kernel_rfl) rfl #[.agg #[.int .i64 t193, .int .i64 t194, .int .i64 t195, .int .i64 t196, .int .i64 t197, .int .i64 t198, .int .i64 t199, .int .i64 t200, .int .i64 t201, .int .i64 t202, .int .i64 t203, .int .i64 t204, .int .i64 t205, .int .i64 t206, .int .i64 t207, .int .i64 t208, .slice Ao6 t209.length co6], .string (strOfNums y216), .int .i64 0] rfl (by (try simp only [List.map_toArray, List.map_cons, List.map_nil]); first | done | rfl | (simp only [List.length_drop, List.length_take]; rfl)) ?_; (with_reducible refine (huff_Next.calls t193 t194 t195 t196 t197 t198 t199 t200 t201 t202 t203 t204 t205 t206 t207 t208 _ _ t209 (strOfNums y216) 0 t219 t220 t221 _ ?side1 ?side2 A12.out).mono ?_); (case side1 => repeat (first | exact (Kd.R_reads' HO_214016.out).2.2 | (with_reducible refine Kd.C_alloc ?_ _) | (with_reducible refine Kd.C_drewN ?_ _) | (with_reducible refine Kd.C_drew ?_))); (case side2 => exact (Kd.R_reads' HO_214016.out).2.1); rintro e w20 ⟨rfl, hb⟩; refine ⟨_, rfl, ?_⟩; have n0_ := Aside0.mk (Kd.R_below (by (with_reducible repeat (first | apply Kd.R_alloc | apply Kd.R_drewN | apply Kd.R_drew)); exact HO_214016.out) hb); have n1_ := Aside0.mk (Kd.R_below (by (with_reducible repeat (first | apply Kd.R_alloc | apply Kd.R_drewN | apply Kd.R_drew)); exact HO218.out) hb); have n2_ := Aside0.mk (blk_below (g := gb213) (o := .cells #[.int .i64 t193, .int .i64 t194, .int .i64 t195, .int .i64 t196, .int .i64 t197, .int .i64 t198, .int .i64 t199, .int .i64 t200, .int .i64 t201, .int .i64 t202, .int .i64 t203, .int .i64 t204, .int .i64 t205, .int .i64 t206, .int .i64 t207, .int .i64 t208, .slice Ao6 t209.length co6] 26 (0, 0)) (by (with_reducible repeat (first | refine blk_drewN ?_ _ | refine blk_drew ?_ | refine blk_alloc ?_ _)); exact BK213.out) hb); have n3_ := Aside0.mk (below_step (by repeat (first | (with_reducible first | exact HB.out | apply below_alloc | apply pw_below_drewN | apply below_drew1 | refine below_set ?_ GE213.out) | exact HB.out)) hb); clear HO_214016; clear HO218; clear BK213; clear HB; have HO_214016 := n0_; have HO218 := n1_; have BK213 := n2_; have HB := n3_; clear n0_ n1_ n2_ n3_; (try clear hb); (try clear hb2); (try clear hk); (try clear hi)) | (go_at_call 25; (with_reducible refine (celluloidlaw04_awake.calls  t222 _ A15.out).mono ?_); rintro e w21 ⟨rfl, hb⟩; have n0_ := Aside0.mk (Kd.R_below (by (with_reducible repeat (first | apply Kd.R_alloc | apply Kd.R_drewN | apply Kd.R_drew)); exact HO_214016.out) hb); have n1_ := Aside0.mk (Kd.R_below (by (with_reducible repeat (first | apply Kd.R_alloc | apply Kd.R_drewN | apply Kd.R_drew)); exact HO218.out) hb); have n2_ := Aside0.mk (blk_below (g := gb213) (o := .cells #[.int .i64 t193, .int .i64 t194, .int .i64 t195, .int .i64 t196, .int .i64 t197, .int .i64 t198, .int .i64 t199, .int .i64 t200, .int .i64 t201, .int .i64 t202, .int .i64 t203, .int .i64 t204, .int .i64 t205, .int .i64 t206, .int .i64 t207, .int .i64 t208, .slice Ao6 t209.length co6] 26 (0, 0)) (by (with_reducible repeat (first | refine blk_drewN ?_ _ | refine blk_drew ?_ | refine blk_alloc ?_ _)); exact BK213.out) hb); have n3_ := Aside0.mk (below_step (by repeat (first | (with_reducible first | exact HB.out | apply below_alloc | apply pw_below_drewN | apply below_drew1 | refine below_set ?_ GE213.out) | exact HB.out)) hb); clear HO_214016; clear HO218; clear BK213; clear HB; have HO_214016 := n0_; have HO218 := n1_; have BK213 := n2_; have HB := n3_; clear n0_ n1_ n2_ n3_; (try clear hb); (try clear hb2); (try clear hk); (try clear hi)))
                  go_ret
                  exact ⟨by first | rfl | (simp [errW_none, errW_some] <;> rfl) | (simp [*, errW_none, errW_some] <;> rfl), by repeat (first | (with_reducible first | exact HB.out | apply below_alloc | apply pw_below_drewN | apply below_drew1 | refine below_set ?_ GE213.out) | exact HB.out)⟩
              · rw [if_neg c14] at H
                have c14b0 : (t221 == 0) = false := beq_eq_false_iff_ne.mpr c14
                have c14b1 : (t221 != 0) = true := bne_iff_ne.mpr c14
                by_cases c22 : t221 = 4
                · rw [if_pos c22] at H
                  have c22b0 : (t221 == 4) = true := beq_iff_eq.mpr c22
                  have c22b1 : (t221 != 4) = false := bne_eq_false_iff_eq.mpr c22
                  clear c22
                  replace H := Option.bind_eq_some_iff.mp H
                  obtain ⟨t223, A230, H⟩ := H
                  replace H : (some t223) = some r := H
                  have A23 := Aside0.mk A230
                  clear A230
                  first
                  | exact absurd (Option.some.inj H) (by rw [hr_.out]; decide)
                  | obtain rfl := Option.some.inj H
                    have hcz24_0 : wr.cell? ⟨gb213, 0, none⟩ = some (.int .i64 t193) := (blk_cell BK213.out 0).trans rfl
                    have hcz24_1 : wr.cell? ⟨gb213, 1, none⟩ = some (.int .i64 t194) := (blk_cell BK213.out 1).trans rfl
                    have hcz24_2 : wr.cell? ⟨gb213, 2, none⟩ = some (.int .i64 t195) := (blk_cell BK213.out 2).trans rfl
                    have hcz24_3 : wr.cell? ⟨gb213, 3, none⟩ = some (.int .i64 t196) := (blk_cell BK213.out 3).trans rfl
                    have hcz24_4 : wr.cell? ⟨gb213, 4, none⟩ = some (.int .i64 t197) := (blk_cell BK213.out 4).trans rfl
                    have hcz24_5 : wr.cell? ⟨gb213, 5, none⟩ = some (.int .i64 t198) := (blk_cell BK213.out 5).trans rfl
                    have hcz24_6 : wr.cell? ⟨gb213, 6, none⟩ = some (.int .i64 t199) := (blk_cell BK213.out 6).trans rfl
                    have hcz24_7 : wr.cell? ⟨gb213, 7, none⟩ = some (.int .i64 t200) := (blk_cell BK213.out 7).trans rfl
                    have hcz24_8 : wr.cell? ⟨gb213, 8, none⟩ = some (.int .i64 t201) := (blk_cell BK213.out 8).trans rfl
                    have hcz24_9 : wr.cell? ⟨gb213, 9, none⟩ = some (.int .i64 t202) := (blk_cell BK213.out 9).trans rfl
                    have hcz24_10 : wr.cell? ⟨gb213, 10, none⟩ = some (.int .i64 t203) := (blk_cell BK213.out 10).trans rfl
                    have hcz24_11 : wr.cell? ⟨gb213, 11, none⟩ = some (.int .i64 t204) := (blk_cell BK213.out 11).trans rfl
                    have hcz24_12 : wr.cell? ⟨gb213, 12, none⟩ = some (.int .i64 t205) := (blk_cell BK213.out 12).trans rfl
                    have hcz24_13 : wr.cell? ⟨gb213, 13, none⟩ = some (.int .i64 t206) := (blk_cell BK213.out 13).trans rfl
                    have hcz24_14 : wr.cell? ⟨gb213, 14, none⟩ = some (.int .i64 t207) := (blk_cell BK213.out 14).trans rfl
                    have hcz24_15 : wr.cell? ⟨gb213, 15, none⟩ = some (.int .i64 t208) := (blk_cell BK213.out 15).trans rfl
                    have hcz24_16 : wr.cell? ⟨gb213, 16, none⟩ = some (.slice Ao6 t209.length co6) := (blk_cell BK213.out 16).trans rfl
                    have hfz24_0 := blk_frozen BK213.out 0
                    have hfz24_1 := blk_frozen BK213.out 1
                    have hfz24_2 := blk_frozen BK213.out 2
                    have hfz24_3 := blk_frozen BK213.out 3
                    have hfz24_4 := blk_frozen BK213.out 4
                    have hfz24_5 := blk_frozen BK213.out 5
                    have hfz24_6 := blk_frozen BK213.out 6
                    have hfz24_7 := blk_frozen BK213.out 7
                    have hfz24_8 := blk_frozen BK213.out 8
                    have hfz24_9 := blk_frozen BK213.out 9
                    have hfz24_10 := blk_frozen BK213.out 10
                    have hfz24_11 := blk_frozen BK213.out 11
                    have hfz24_12 := blk_frozen BK213.out 12
                    have hfz24_13 := blk_frozen BK213.out 13
                    have hfz24_14 := blk_frozen BK213.out 14
                    have hfz24_15 := blk_frozen BK213.out 15
                    have hfz24_16 := blk_frozen BK213.out 16
                    go_wp2_with (first | ((with_reducible refine gate_load (t := 26) rfl ?_); refine wpList_load_row rfl 26 _ rfl _ rfl 26 ?lcs (0, 0) _ ?lb Try.underlying26 rfl ?li ?_; (case lb => (with_reducible repeat (first | refine blk_drewN ?_ _ | refine blk_drew ?_ | refine blk_alloc ?_ _)); exact Aside0.out (by assumption)); (case li => exact info26)) | ((with_reducible refine gate_dst (N := 39) rfl ?_); (try (refine gate_guard (by rfl) ?_; dsimp only)); refine Kd.R_lit (Kd.int .u8) _ 5 ?hg (N := 39) ?hd (xs := ([(a1) % 256, (a1 / 256) % 256] : List Int)) (inner := [.int .u8 ((a1) % 256), .int .u8 ((a1 / 256) % 256)]) (ok := fun _ => True) (okp := fun _ => True) ?hr ?hp (fun _ hk => hk) trivial (Below.refl _ _) (Nat.le_refl _) (by simp) ?_; (case hd => rfl); (case hg => rfl); (case hr => first | (go_simp; done) | (go_simp; rfl)); (case hp => exact (Reps.one (show Kd.M (Kd.int .u8) _ _ _ ((a1) % 256) [.int .u8 ((a1) % 256)] from rfl) (Reps.one (show Kd.M (Kd.int .u8) _ _ _ ((a1 / 256) % 256) [.int .u8 ((a1 / 256) % 256)] from rfl) (Reps.none _ _)))); intro v217 w25 ho26 hb hg_ hnew_; clear hg_ hnew_; (first | rw [← Ny216.out] at ho26 | (simp only [Int.reduceToNat] at ho26; rw [← Ny216.out] at ho26)); have n0_ := Aside0.mk (Kd.R_below (by (with_reducible repeat (first | apply Kd.R_alloc | apply Kd.R_drewN | apply Kd.R_drew)); exact HO_214016.out) hb); have n1_ := Aside0.mk (Kd.R_lower ho26 (below_size (by repeat (first | (with_reducible first | exact HB.out | apply below_alloc | apply pw_below_drewN | apply below_drew1 | refine below_set ?_ GE213.out) | exact HB.out)))); have n2_ := Aside0.mk (blk_below (g := gb213) (o := .cells #[.int .i64 t193, .int .i64 t194, .int .i64 t195, .int .i64 t196, .int .i64 t197, .int .i64 t198, .int .i64 t199, .int .i64 t200, .int .i64 t201, .int .i64 t202, .int .i64 t203, .int .i64 t204, .int .i64 t205, .int .i64 t206, .int .i64 t207, .int .i64 t208, .slice Ao6 t209.length co6] 26 (0, 0)) (by (with_reducible repeat (first | refine blk_drewN ?_ _ | refine blk_drew ?_ | refine blk_alloc ?_ _)); exact BK213.out) hb); have n3_ := Aside0.mk (below_step (by repeat (first | (with_reducible first | exact HB.out | apply below_alloc | apply pw_below_drewN | apply below_drew1 | refine below_set ?_ GE213.out) | exact HB.out)) hb); clear HO_214016; clear BK213; clear HB; have HO_214016 := n0_; have HO218 := n1_; have BK213 := n2_; have HB := n3_; clear n0_ n1_ n2_ n3_; clear hb ho26; have hcv27 := own_string (P := Try.prog) Try.underlying40 Try.underlying5 Try.underlying9 (Kd.own_of_R HO218.out)) | ((with_reducible refine gate_callee (f := 30) rfl ?_); refine goesL_ (some 41) rfl rfl Try.func30 (by kernel_rfl) rfl #[.agg #[.int .i64 t193, .int .i64 t194, .int .i64 t195, .int .i64 t196, .int .i64 t197, .int .i64 t198, .int .i64 t199, .int .i64 t200, .int .i64 t201, .int .i64 t202, .int .i64 t203, .int .i64 t204, .int .i64 t205, .int .i64 t206, .int .i64 t207, .int .i64 t208, .slice Ao6 t209.length co6], .string (strOfNums y216), .int .i64 0] rfl (by (try simp only [List.map_toArray, List.map_cons, List.map_nil]); first | done | rfl | (simp only [List.length_drop, List.length_take]; rfl)) ?_; (with_reducible refine (huff_Next.calls t193 t194 t195 t196 t197 t198 t199 t200 t201 t202 t203 t204 t205 t206 t207 t208 _ _ t209 (strOfNums y216) 0 t219 t220 t221 _ ?side1 ?side2 A12.out).mono ?_); (case side1 => repeat (first | exact (Kd.R_reads' HO_214016.out).2.2 | (with_reducible refine Kd.C_alloc ?_ _) | (with_reducible refine Kd.C_drewN ?_ _) | (with_reducible refine Kd.C_drew ?_))); (case side2 => exact (Kd.R_reads' HO_214016.out).2.1); rintro e w28 ⟨rfl, hb⟩; refine ⟨_, rfl, ?_⟩; have n0_ := Aside0.mk (Kd.R_below (by (with_reducible repeat (first | apply Kd.R_alloc | apply Kd.R_drewN | apply Kd.R_drew)); exact HO_214016.out) hb); have n1_ := Aside0.mk (Kd.R_below (by (with_reducible repeat (first | apply Kd.R_alloc | apply Kd.R_drewN | apply Kd.R_drew)); exact HO218.out) hb); have n2_ := Aside0.mk (blk_below (g := gb213) (o := .cells #[.int .i64 t193, .int .i64 t194, .int .i64 t195, .int .i64 t196, .int .i64 t197, .int .i64 t198, .int .i64 t199, .int .i64 t200, .int .i64 t201, .int .i64 t202, .int .i64 t203, .int .i64 t204, .int .i64 t205, .int .i64 t206, .int .i64 t207, .int .i64 t208, .slice Ao6 t209.length co6] 26 (0, 0)) (by (with_reducible repeat (first | refine blk_drewN ?_ _ | refine blk_drew ?_ | refine blk_alloc ?_ _)); exact BK213.out) hb); have n3_ := Aside0.mk (below_step (by repeat (first | (with_reducible first | exact HB.out | apply below_alloc | apply pw_below_drewN | apply below_drew1 | refine below_set ?_ GE213.out) | exact HB.out)) hb); clear HO_214016; clear HO218; clear BK213; clear HB; have HO_214016 := n0_; have HO218 := n1_; have BK213 := n2_; have HB := n3_; clear n0_ n1_ n2_ n3_; (try clear hb); (try clear hb2); (try clear hk); (try clear hi)) | (go_at_call 25; (with_reducible refine (celluloidlaw04_awake.calls  t223 _ A23.out).mono ?_); rintro e w29 ⟨rfl, hb⟩; have n0_ := Aside0.mk (Kd.R_below (by (with_reducible repeat (first | apply Kd.R_alloc | apply Kd.R_drewN | apply Kd.R_drew)); exact HO_214016.out) hb); have n1_ := Aside0.mk (Kd.R_below (by (with_reducible repeat (first | apply Kd.R_alloc | apply Kd.R_drewN | apply Kd.R_drew)); exact HO218.out) hb); have n2_ := Aside0.mk (blk_below (g := gb213) (o := .cells #[.int .i64 t193, .int .i64 t194, .int .i64 t195, .int .i64 t196, .int .i64 t197, .int .i64 t198, .int .i64 t199, .int .i64 t200, .int .i64 t201, .int .i64 t202, .int .i64 t203, .int .i64 t204, .int .i64 t205, .int .i64 t206, .int .i64 t207, .int .i64 t208, .slice Ao6 t209.length co6] 26 (0, 0)) (by (with_reducible repeat (first | refine blk_drewN ?_ _ | refine blk_drew ?_ | refine blk_alloc ?_ _)); exact BK213.out) hb); have n3_ := Aside0.mk (below_step (by repeat (first | (with_reducible first | exact HB.out | apply below_alloc | apply pw_below_drewN | apply below_drew1 | refine below_set ?_ GE213.out) | exact HB.out)) hb); clear HO_214016; clear HO218; clear BK213; clear HB; have HO_214016 := n0_; have HO218 := n1_; have BK213 := n2_; have HB := n3_; clear n0_ n1_ n2_ n3_; (try clear hb); (try clear hb2); (try clear hk); (try clear hi)))
                    go_ret
                    exact ⟨by first | rfl | (simp [errW_none, errW_some] <;> rfl) | (simp [*, errW_none, errW_some] <;> rfl), by repeat (first | (with_reducible first | exact HB.out | apply below_alloc | apply pw_below_drewN | apply below_drew1 | refine below_set ?_ GE213.out) | exact HB.out)⟩
                · rw [if_neg c22] at H
                  have c22b0 : (t221 == 4) = false := beq_eq_false_iff_ne.mpr c22
                  have c22b1 : (t221 != 4) = true := bne_iff_ne.mpr c22
                  first
                  | exact absurd (Option.some.inj H) (by rw [hr_.out]; decide)
                  | obtain rfl := Option.some.inj H
                    have hcz30_0 : wr.cell? ⟨gb213, 0, none⟩ = some (.int .i64 t193) := (blk_cell BK213.out 0).trans rfl
                    have hcz30_1 : wr.cell? ⟨gb213, 1, none⟩ = some (.int .i64 t194) := (blk_cell BK213.out 1).trans rfl
                    have hcz30_2 : wr.cell? ⟨gb213, 2, none⟩ = some (.int .i64 t195) := (blk_cell BK213.out 2).trans rfl
                    have hcz30_3 : wr.cell? ⟨gb213, 3, none⟩ = some (.int .i64 t196) := (blk_cell BK213.out 3).trans rfl
                    have hcz30_4 : wr.cell? ⟨gb213, 4, none⟩ = some (.int .i64 t197) := (blk_cell BK213.out 4).trans rfl
                    have hcz30_5 : wr.cell? ⟨gb213, 5, none⟩ = some (.int .i64 t198) := (blk_cell BK213.out 5).trans rfl
                    have hcz30_6 : wr.cell? ⟨gb213, 6, none⟩ = some (.int .i64 t199) := (blk_cell BK213.out 6).trans rfl
                    have hcz30_7 : wr.cell? ⟨gb213, 7, none⟩ = some (.int .i64 t200) := (blk_cell BK213.out 7).trans rfl
                    have hcz30_8 : wr.cell? ⟨gb213, 8, none⟩ = some (.int .i64 t201) := (blk_cell BK213.out 8).trans rfl
                    have hcz30_9 : wr.cell? ⟨gb213, 9, none⟩ = some (.int .i64 t202) := (blk_cell BK213.out 9).trans rfl
                    have hcz30_10 : wr.cell? ⟨gb213, 10, none⟩ = some (.int .i64 t203) := (blk_cell BK213.out 10).trans rfl
                    have hcz30_11 : wr.cell? ⟨gb213, 11, none⟩ = some (.int .i64 t204) := (blk_cell BK213.out 11).trans rfl
                    have hcz30_12 : wr.cell? ⟨gb213, 12, none⟩ = some (.int .i64 t205) := (blk_cell BK213.out 12).trans rfl
                    have hcz30_13 : wr.cell? ⟨gb213, 13, none⟩ = some (.int .i64 t206) := (blk_cell BK213.out 13).trans rfl
                    have hcz30_14 : wr.cell? ⟨gb213, 14, none⟩ = some (.int .i64 t207) := (blk_cell BK213.out 14).trans rfl
                    have hcz30_15 : wr.cell? ⟨gb213, 15, none⟩ = some (.int .i64 t208) := (blk_cell BK213.out 15).trans rfl
                    have hcz30_16 : wr.cell? ⟨gb213, 16, none⟩ = some (.slice Ao6 t209.length co6) := (blk_cell BK213.out 16).trans rfl
                    have hfz30_0 := blk_frozen BK213.out 0
                    have hfz30_1 := blk_frozen BK213.out 1
                    have hfz30_2 := blk_frozen BK213.out 2
                    have hfz30_3 := blk_frozen BK213.out 3
                    have hfz30_4 := blk_frozen BK213.out 4
                    have hfz30_5 := blk_frozen BK213.out 5
                    have hfz30_6 := blk_frozen BK213.out 6
                    have hfz30_7 := blk_frozen BK213.out 7
                    have hfz30_8 := blk_frozen BK213.out 8
                    have hfz30_9 := blk_frozen BK213.out 9
                    have hfz30_10 := blk_frozen BK213.out 10
                    have hfz30_11 := blk_frozen BK213.out 11
                    have hfz30_12 := blk_frozen BK213.out 12
                    have hfz30_13 := blk_frozen BK213.out 13
                    have hfz30_14 := blk_frozen BK213.out 14
                    have hfz30_15 := blk_frozen BK213.out 15
                    have hfz30_16 := blk_frozen BK213.out 16
                    go_wp2_with (first | ((with_reducible refine gate_load (t := 26) rfl ?_); refine wpList_load_row rfl 26 _ rfl _ rfl 26 ?lcs (0, 0) _ ?lb Try.underlying26 rfl ?li ?_; (case lb => (with_reducible repeat (first | refine blk_drewN ?_ _ | refine blk_drew ?_ | refine blk_alloc ?_ _)); exact Aside0.out (by assumption)); (case li => exact info26)) | ((with_reducible refine gate_dst (N := 39) rfl ?_); (try (refine gate_guard (by rfl) ?_; dsimp only)); refine Kd.R_lit (Kd.int .u8) _ 5 ?hg (N := 39) ?hd (xs := ([(a1) % 256, (a1 / 256) % 256] : List Int)) (inner := [.int .u8 ((a1) % 256), .int .u8 ((a1 / 256) % 256)]) (ok := fun _ => True) (okp := fun _ => True) ?hr ?hp (fun _ hk => hk) trivial (Below.refl _ _) (Nat.le_refl _) (by simp) ?_; (case hd => rfl); (case hg => rfl); (case hr => first | (go_simp; done) | (go_simp; rfl)); (case hp => exact (Reps.one (show Kd.M (Kd.int .u8) _ _ _ ((a1) % 256) [.int .u8 ((a1) % 256)] from rfl) (Reps.one (show Kd.M (Kd.int .u8) _ _ _ ((a1 / 256) % 256) [.int .u8 ((a1 / 256) % 256)] from rfl) (Reps.none _ _)))); intro v217 w31 ho32 hb hg_ hnew_; clear hg_ hnew_; (first | rw [← Ny216.out] at ho32 | (simp only [Int.reduceToNat] at ho32; rw [← Ny216.out] at ho32)); have n0_ := Aside0.mk (Kd.R_below (by (with_reducible repeat (first | apply Kd.R_alloc | apply Kd.R_drewN | apply Kd.R_drew)); exact HO_214016.out) hb); have n1_ := Aside0.mk (Kd.R_lower ho32 (below_size (by repeat (first | (with_reducible first | exact HB.out | apply below_alloc | apply pw_below_drewN | apply below_drew1 | refine below_set ?_ GE213.out) | exact HB.out)))); have n2_ := Aside0.mk (blk_below (g := gb213) (o := .cells #[.int .i64 t193, .int .i64 t194, .int .i64 t195, .int .i64 t196, .int .i64 t197, .int .i64 t198, .int .i64 t199, .int .i64 t200, .int .i64 t201, .int .i64 t202, .int .i64 t203, .int .i64 t204, .int .i64 t205, .int .i64 t206, .int .i64 t207, .int .i64 t208, .slice Ao6 t209.length co6] 26 (0, 0)) (by (with_reducible repeat (first | refine blk_drewN ?_ _ | refine blk_drew ?_ | refine blk_alloc ?_ _)); exact BK213.out) hb); have n3_ := Aside0.mk (below_step (by repeat (first | (with_reducible first | exact HB.out | apply below_alloc | apply pw_below_drewN | apply below_drew1 | refine below_set ?_ GE213.out) | exact HB.out)) hb); clear HO_214016; clear BK213; clear HB; have HO_214016 := n0_; have HO218 := n1_; have BK213 := n2_; have HB := n3_; clear n0_ n1_ n2_ n3_; clear hb ho32; have hcv33 := own_string (P := Try.prog) Try.underlying40 Try.underlying5 Try.underlying9 (Kd.own_of_R HO218.out)) | ((with_reducible refine gate_callee (f := 30) rfl ?_); refine goesL_ (some 41) rfl rfl Try.func30 (by kernel_rfl) rfl #[.agg #[.int .i64 t193, .int .i64 t194, .int .i64 t195, .int .i64 t196, .int .i64 t197, .int .i64 t198, .int .i64 t199, .int .i64 t200, .int .i64 t201, .int .i64 t202, .int .i64 t203, .int .i64 t204, .int .i64 t205, .int .i64 t206, .int .i64 t207, .int .i64 t208, .slice Ao6 t209.length co6], .string (strOfNums y216), .int .i64 0] rfl (by (try simp only [List.map_toArray, List.map_cons, List.map_nil]); first | done | rfl | (simp only [List.length_drop, List.length_take]; rfl)) ?_; (with_reducible refine (huff_Next.calls t193 t194 t195 t196 t197 t198 t199 t200 t201 t202 t203 t204 t205 t206 t207 t208 _ _ t209 (strOfNums y216) 0 t219 t220 t221 _ ?side1 ?side2 A12.out).mono ?_); (case side1 => repeat (first | exact (Kd.R_reads' HO_214016.out).2.2 | (with_reducible refine Kd.C_alloc ?_ _) | (with_reducible refine Kd.C_drewN ?_ _) | (with_reducible refine Kd.C_drew ?_))); (case side2 => exact (Kd.R_reads' HO_214016.out).2.1); rintro e w34 ⟨rfl, hb⟩; refine ⟨_, rfl, ?_⟩; have n0_ := Aside0.mk (Kd.R_below (by (with_reducible repeat (first | apply Kd.R_alloc | apply Kd.R_drewN | apply Kd.R_drew)); exact HO_214016.out) hb); have n1_ := Aside0.mk (Kd.R_below (by (with_reducible repeat (first | apply Kd.R_alloc | apply Kd.R_drewN | apply Kd.R_drew)); exact HO218.out) hb); have n2_ := Aside0.mk (blk_below (g := gb213) (o := .cells #[.int .i64 t193, .int .i64 t194, .int .i64 t195, .int .i64 t196, .int .i64 t197, .int .i64 t198, .int .i64 t199, .int .i64 t200, .int .i64 t201, .int .i64 t202, .int .i64 t203, .int .i64 t204, .int .i64 t205, .int .i64 t206, .int .i64 t207, .int .i64 t208, .slice Ao6 t209.length co6] 26 (0, 0)) (by (with_reducible repeat (first | refine blk_drewN ?_ _ | refine blk_drew ?_ | refine blk_alloc ?_ _)); exact BK213.out) hb); have n3_ := Aside0.mk (below_step (by repeat (first | (with_reducible first | exact HB.out | apply below_alloc | apply pw_below_drewN | apply below_drew1 | refine below_set ?_ GE213.out) | exact HB.out)) hb); clear HO_214016; clear HO218; clear BK213; clear HB; have HO_214016 := n0_; have HO218 := n1_; have BK213 := n2_; have HB := n3_; clear n0_ n1_ n2_ n3_; (try clear hb); (try clear hb2); (try clear hk); (try clear hi)))
                    go_ret
                    exact ⟨by first | rfl | (simp [errW_none, errW_some] <;> rfl) | (simp [*, errW_none, errW_some] <;> rfl), by repeat (first | (with_reducible first | exact HB.out | apply below_alloc | apply pw_below_drewN | apply below_drew1 | refine below_set ?_ GE213.out) | exact HB.out)⟩
            · rw [if_neg c13] at H
              have c13b0 : decide (x7_1 < 2) = false := decide_eq_false c13
              clear c13
              by_cases c35 : t221 = 0
              · rw [if_pos c35] at H
                have c35b0 : (t221 == 0) = true := beq_iff_eq.mpr c35
                have c35b1 : (t221 != 0) = false := bne_eq_false_iff_eq.mpr c35
                clear c35
                by_cases c36 : t219 ≥ 0
                · rw [if_pos c36] at H
                  have c36b0 : decide (0 ≤ t219) = true := decide_eq_true c36
                  clear c36
                  by_cases c37 : t219 < (l0.length : Int)
                  · rw [if_pos c37] at H
                    have c37b0 : decide (t219 < (l0.length : Int)) = true := decide_eq_true c37
                    clear c37
                    by_cases c38 : 0 ≤ t219
                    · rw [if_pos c38] at H
                      have c38b0 : decide (0 ≤ t219) = true := decide_eq_true c38
                      clear c38
                      by_cases c39 : (rd l0 t219) = t220
                      · rw [if_pos c39] at H
                        have c39b0 : ((rd l0 t219) == t220) = true := beq_iff_eq.mpr c39
                        have c39b1 : ((rd l0 t219) != t220) = false := bne_eq_false_iff_eq.mpr c39
                        clear c39
                        by_cases c40 : t220 > 0
                        · rw [if_pos c40] at H
                          have c40b0 : decide (0 < t220) = true := decide_eq_true c40
                          clear c40
                          replace H := Option.bind_eq_some_iff.mp H
                          obtain ⟨t225, A410, H⟩ := H
                          replace H : (some t225) = some r := H
                          have A41 := Aside0.mk A410
                          clear A410
                          first
                          | exact absurd (Option.some.inj H) (by rw [hr_.out]; decide)
                          | obtain rfl := Option.some.inj H
                            have hcz42_0 : wr.cell? ⟨gb213, 0, none⟩ = some (.int .i64 t193) := (blk_cell BK213.out 0).trans rfl
                            have hcz42_1 : wr.cell? ⟨gb213, 1, none⟩ = some (.int .i64 t194) := (blk_cell BK213.out 1).trans rfl
                            have hcz42_2 : wr.cell? ⟨gb213, 2, none⟩ = some (.int .i64 t195) := (blk_cell BK213.out 2).trans rfl
                            have hcz42_3 : wr.cell? ⟨gb213, 3, none⟩ = some (.int .i64 t196) := (blk_cell BK213.out 3).trans rfl
                            have hcz42_4 : wr.cell? ⟨gb213, 4, none⟩ = some (.int .i64 t197) := (blk_cell BK213.out 4).trans rfl
                            have hcz42_5 : wr.cell? ⟨gb213, 5, none⟩ = some (.int .i64 t198) := (blk_cell BK213.out 5).trans rfl
                            have hcz42_6 : wr.cell? ⟨gb213, 6, none⟩ = some (.int .i64 t199) := (blk_cell BK213.out 6).trans rfl
                            have hcz42_7 : wr.cell? ⟨gb213, 7, none⟩ = some (.int .i64 t200) := (blk_cell BK213.out 7).trans rfl
                            have hcz42_8 : wr.cell? ⟨gb213, 8, none⟩ = some (.int .i64 t201) := (blk_cell BK213.out 8).trans rfl
                            have hcz42_9 : wr.cell? ⟨gb213, 9, none⟩ = some (.int .i64 t202) := (blk_cell BK213.out 9).trans rfl
                            have hcz42_10 : wr.cell? ⟨gb213, 10, none⟩ = some (.int .i64 t203) := (blk_cell BK213.out 10).trans rfl
                            have hcz42_11 : wr.cell? ⟨gb213, 11, none⟩ = some (.int .i64 t204) := (blk_cell BK213.out 11).trans rfl
                            have hcz42_12 : wr.cell? ⟨gb213, 12, none⟩ = some (.int .i64 t205) := (blk_cell BK213.out 12).trans rfl
                            have hcz42_13 : wr.cell? ⟨gb213, 13, none⟩ = some (.int .i64 t206) := (blk_cell BK213.out 13).trans rfl
                            have hcz42_14 : wr.cell? ⟨gb213, 14, none⟩ = some (.int .i64 t207) := (blk_cell BK213.out 14).trans rfl
                            have hcz42_15 : wr.cell? ⟨gb213, 15, none⟩ = some (.int .i64 t208) := (blk_cell BK213.out 15).trans rfl
                            have hcz42_16 : wr.cell? ⟨gb213, 16, none⟩ = some (.slice Ao6 t209.length co6) := (blk_cell BK213.out 16).trans rfl
                            have hfz42_0 := blk_frozen BK213.out 0
                            have hfz42_1 := blk_frozen BK213.out 1
                            have hfz42_2 := blk_frozen BK213.out 2
                            have hfz42_3 := blk_frozen BK213.out 3
                            have hfz42_4 := blk_frozen BK213.out 4
                            have hfz42_5 := blk_frozen BK213.out 5
                            have hfz42_6 := blk_frozen BK213.out 6
                            have hfz42_7 := blk_frozen BK213.out 7
                            have hfz42_8 := blk_frozen BK213.out 8
                            have hfz42_9 := blk_frozen BK213.out 9
                            have hfz42_10 := blk_frozen BK213.out 10
                            have hfz42_11 := blk_frozen BK213.out 11
                            have hfz42_12 := blk_frozen BK213.out 12
                            have hfz42_13 := blk_frozen BK213.out 13
                            have hfz42_14 := blk_frozen BK213.out 14
                            have hfz42_15 := blk_frozen BK213.out 15
                            have hfz42_16 := blk_frozen BK213.out 16
                            go_wp2_with (first | ((with_reducible refine gate_load (t := 26) rfl ?_); refine wpList_load_row rfl 26 _ rfl _ rfl 26 ?lcs (0, 0) _ ?lb Try.underlying26 rfl ?li ?_; (case lb => (with_reducible repeat (first | refine blk_drewN ?_ _ | refine blk_drew ?_ | refine blk_alloc ?_ _)); exact Aside0.out (by assumption)); (case li => exact info26)) | ((with_reducible refine gate_dst (N := 39) rfl ?_); (try (refine gate_guard (by rfl) ?_; dsimp only)); refine Kd.R_lit (Kd.int .u8) _ 5 ?hg (N := 39) ?hd (xs := ([(a1) % 256, (a1 / 256) % 256] : List Int)) (inner := [.int .u8 ((a1) % 256), .int .u8 ((a1 / 256) % 256)]) (ok := fun _ => True) (okp := fun _ => True) ?hr ?hp (fun _ hk => hk) trivial (Below.refl _ _) (Nat.le_refl _) (by simp) ?_; (case hd => rfl); (case hg => rfl); (case hr => first | (go_simp; done) | (go_simp; rfl)); (case hp => exact (Reps.one (show Kd.M (Kd.int .u8) _ _ _ ((a1) % 256) [.int .u8 ((a1) % 256)] from rfl) (Reps.one (show Kd.M (Kd.int .u8) _ _ _ ((a1 / 256) % 256) [.int .u8 ((a1 / 256) % 256)] from rfl) (Reps.none _ _)))); intro v217 w43 ho44 hb hg_ hnew_; clear hg_ hnew_; (first | rw [← Ny216.out] at ho44 | (simp only [Int.reduceToNat] at ho44; rw [← Ny216.out] at ho44)); have n0_ := Aside0.mk (Kd.R_below (by (with_reducible repeat (first | apply Kd.R_alloc | apply Kd.R_drewN | apply Kd.R_drew)); exact HO_214016.out) hb); have n1_ := Aside0.mk (Kd.R_lower ho44 (below_size (by repeat (first | (with_reducible first | exact HB.out | apply below_alloc | apply pw_below_drewN | apply below_drew1 | refine below_set ?_ GE213.out) | exact HB.out)))); have n2_ := Aside0.mk (blk_below (g := gb213) (o := .cells #[.int .i64 t193, .int .i64 t194, .int .i64 t195, .int .i64 t196, .int .i64 t197, .int .i64 t198, .int .i64 t199, .int .i64 t200, .int .i64 t201, .int .i64 t202, .int .i64 t203, .int .i64 t204, .int .i64 t205, .int .i64 t206, .int .i64 t207, .int .i64 t208, .slice Ao6 t209.length co6] 26 (0, 0)) (by (with_reducible repeat (first | refine blk_drewN ?_ _ | refine blk_drew ?_ | refine blk_alloc ?_ _)); exact BK213.out) hb); have n3_ := Aside0.mk (below_step (by repeat (first | (with_reducible first | exact HB.out | apply below_alloc | apply pw_below_drewN | apply below_drew1 | refine below_set ?_ GE213.out) | exact HB.out)) hb); clear HO_214016; clear BK213; clear HB; have HO_214016 := n0_; have HO218 := n1_; have BK213 := n2_; have HB := n3_; clear n0_ n1_ n2_ n3_; clear hb ho44; have hcv45 := own_string (P := Try.prog) Try.underlying40 Try.underlying5 Try.underlying9 (Kd.own_of_R HO218.out)) | ((with_reducible refine gate_callee (f := 30) rfl ?_); refine goesL_ (some 41) rfl rfl Try.func30 (by kernel_rfl) rfl #[.agg #[.int .i64 t193, .int .i64 t194, .int .i64 t195, .int .i64 t196, .int .i64 t197, .int .i64 t198, .int .i64 t199, .int .i64 t200, .int .i64 t201, .int .i64 t202, .int .i64 t203, .int .i64 t204, .int .i64 t205, .int .i64 t206, .int .i64 t207, .int .i64 t208, .slice Ao6 t209.length co6], .string (strOfNums y216), .int .i64 0] rfl (by (try simp only [List.map_toArray, List.map_cons, List.map_nil]); first | done | rfl | (simp only [List.length_drop, List.length_take]; rfl)) ?_; (with_reducible refine (huff_Next.calls t193 t194 t195 t196 t197 t198 t199 t200 t201 t202 t203 t204 t205 t206 t207 t208 _ _ t209 (strOfNums y216) 0 t219 t220 t221 _ ?side1 ?side2 A12.out).mono ?_); (case side1 => repeat (first | exact (Kd.R_reads' HO_214016.out).2.2 | (with_reducible refine Kd.C_alloc ?_ _) | (with_reducible refine Kd.C_drewN ?_ _) | (with_reducible refine Kd.C_drew ?_))); (case side2 => exact (Kd.R_reads' HO_214016.out).2.1); rintro e w46 ⟨rfl, hb⟩; refine ⟨_, rfl, ?_⟩; have n0_ := Aside0.mk (Kd.R_below (by (with_reducible repeat (first | apply Kd.R_alloc | apply Kd.R_drewN | apply Kd.R_drew)); exact HO_214016.out) hb); have n1_ := Aside0.mk (Kd.R_below (by (with_reducible repeat (first | apply Kd.R_alloc | apply Kd.R_drewN | apply Kd.R_drew)); exact HO218.out) hb); have n2_ := Aside0.mk (blk_below (g := gb213) (o := .cells #[.int .i64 t193, .int .i64 t194, .int .i64 t195, .int .i64 t196, .int .i64 t197, .int .i64 t198, .int .i64 t199, .int .i64 t200, .int .i64 t201, .int .i64 t202, .int .i64 t203, .int .i64 t204, .int .i64 t205, .int .i64 t206, .int .i64 t207, .int .i64 t208, .slice Ao6 t209.length co6] 26 (0, 0)) (by (with_reducible repeat (first | refine blk_drewN ?_ _ | refine blk_drew ?_ | refine blk_alloc ?_ _)); exact BK213.out) hb); have n3_ := Aside0.mk (below_step (by repeat (first | (with_reducible first | exact HB.out | apply below_alloc | apply pw_below_drewN | apply below_drew1 | refine below_set ?_ GE213.out) | exact HB.out)) hb); clear HO_214016; clear HO218; clear BK213; clear HB; have HO_214016 := n0_; have HO218 := n1_; have BK213 := n2_; have HB := n3_; clear n0_ n1_ n2_ n3_; (try clear hb); (try clear hb2); (try clear hk); (try clear hi); have p224 : 0 ≤ (t219 : Int) := of_decide_eq_true (by first | (with_reducible assumption) | assumption); have q224 : t219 < (l0.length : Int) := of_decide_eq_true (by first | (with_reducible assumption) | assumption); obtain ⟨ad224, e224, hx224_0⟩ := Kd.at_int HR0.out t219 p224 q224; cases e224; replace hx224_0 := (HB.out.cell (World.block_lt_of_cell? w _ hx224_0)).trans hx224_0; replace p224 := eq_true p224; replace q224 := eq_true q224) | (go_at_call 25; (with_reducible refine (celluloidlaw04_awake.calls  t225 _ A41.out).mono ?_); rintro e w47 ⟨rfl, hb⟩; have n0_ := Aside0.mk (Kd.R_below (by (with_reducible repeat (first | apply Kd.R_alloc | apply Kd.R_drewN | apply Kd.R_drew)); exact HO_214016.out) hb); have n1_ := Aside0.mk (Kd.R_below (by (with_reducible repeat (first | apply Kd.R_alloc | apply Kd.R_drewN | apply Kd.R_drew)); exact HO218.out) hb); have n2_ := Aside0.mk (blk_below (g := gb213) (o := .cells #[.int .i64 t193, .int .i64 t194, .int .i64 t195, .int .i64 t196, .int .i64 t197, .int .i64 t198, .int .i64 t199, .int .i64 t200, .int .i64 t201, .int .i64 t202, .int .i64 t203, .int .i64 t204, .int .i64 t205, .int .i64 t206, .int .i64 t207, .int .i64 t208, .slice Ao6 t209.length co6] 26 (0, 0)) (by (with_reducible repeat (first | refine blk_drewN ?_ _ | refine blk_drew ?_ | refine blk_alloc ?_ _)); exact BK213.out) hb); have n3_ := Aside0.mk (below_step (by repeat (first | (with_reducible first | exact HB.out | apply below_alloc | apply pw_below_drewN | apply below_drew1 | refine below_set ?_ GE213.out) | exact HB.out)) hb); clear HO_214016; clear HO218; clear BK213; clear HB; have HO_214016 := n0_; have HO218 := n1_; have BK213 := n2_; have HB := n3_; clear n0_ n1_ n2_ n3_; (try clear hb); (try clear hb2); (try clear hk); (try clear hi)))
                            go_ret
                            exact ⟨by first | rfl | (simp [errW_none, errW_some] <;> rfl) | (simp [*, errW_none, errW_some] <;> rfl), by repeat (first | (with_reducible first | exact HB.out | apply below_alloc | apply pw_below_drewN | apply below_drew1 | refine below_set ?_ GE213.out) | exact HB.out)⟩
                        · rw [if_neg c40] at H
                          have c40b0 : decide (0 < t220) = false := decide_eq_false c40
                          clear c40
                          first
                          | exact absurd (Option.some.inj H) (by rw [hr_.out]; decide)
                          | obtain rfl := Option.some.inj H
                            have hcz48_0 : wr.cell? ⟨gb213, 0, none⟩ = some (.int .i64 t193) := (blk_cell BK213.out 0).trans rfl
                            have hcz48_1 : wr.cell? ⟨gb213, 1, none⟩ = some (.int .i64 t194) := (blk_cell BK213.out 1).trans rfl
                            have hcz48_2 : wr.cell? ⟨gb213, 2, none⟩ = some (.int .i64 t195) := (blk_cell BK213.out 2).trans rfl
                            have hcz48_3 : wr.cell? ⟨gb213, 3, none⟩ = some (.int .i64 t196) := (blk_cell BK213.out 3).trans rfl
                            have hcz48_4 : wr.cell? ⟨gb213, 4, none⟩ = some (.int .i64 t197) := (blk_cell BK213.out 4).trans rfl
                            have hcz48_5 : wr.cell? ⟨gb213, 5, none⟩ = some (.int .i64 t198) := (blk_cell BK213.out 5).trans rfl
                            have hcz48_6 : wr.cell? ⟨gb213, 6, none⟩ = some (.int .i64 t199) := (blk_cell BK213.out 6).trans rfl
                            have hcz48_7 : wr.cell? ⟨gb213, 7, none⟩ = some (.int .i64 t200) := (blk_cell BK213.out 7).trans rfl
                            have hcz48_8 : wr.cell? ⟨gb213, 8, none⟩ = some (.int .i64 t201) := (blk_cell BK213.out 8).trans rfl
                            have hcz48_9 : wr.cell? ⟨gb213, 9, none⟩ = some (.int .i64 t202) := (blk_cell BK213.out 9).trans rfl
                            have hcz48_10 : wr.cell? ⟨gb213, 10, none⟩ = some (.int .i64 t203) := (blk_cell BK213.out 10).trans rfl
                            have hcz48_11 : wr.cell? ⟨gb213, 11, none⟩ = some (.int .i64 t204) := (blk_cell BK213.out 11).trans rfl
                            have hcz48_12 : wr.cell? ⟨gb213, 12, none⟩ = some (.int .i64 t205) := (blk_cell BK213.out 12).trans rfl
                            have hcz48_13 : wr.cell? ⟨gb213, 13, none⟩ = some (.int .i64 t206) := (blk_cell BK213.out 13).trans rfl
                            have hcz48_14 : wr.cell? ⟨gb213, 14, none⟩ = some (.int .i64 t207) := (blk_cell BK213.out 14).trans rfl
                            have hcz48_15 : wr.cell? ⟨gb213, 15, none⟩ = some (.int .i64 t208) := (blk_cell BK213.out 15).trans rfl
                            have hcz48_16 : wr.cell? ⟨gb213, 16, none⟩ = some (.slice Ao6 t209.length co6) := (blk_cell BK213.out 16).trans rfl
                            have hfz48_0 := blk_frozen BK213.out 0
                            have hfz48_1 := blk_frozen BK213.out 1
                            have hfz48_2 := blk_frozen BK213.out 2
                            have hfz48_3 := blk_frozen BK213.out 3
                            have hfz48_4 := blk_frozen BK213.out 4
                            have hfz48_5 := blk_frozen BK213.out 5
                            have hfz48_6 := blk_frozen BK213.out 6
                            have hfz48_7 := blk_frozen BK213.out 7
                            have hfz48_8 := blk_frozen BK213.out 8
                            have hfz48_9 := blk_frozen BK213.out 9
                            have hfz48_10 := blk_frozen BK213.out 10
                            have hfz48_11 := blk_frozen BK213.out 11
                            have hfz48_12 := blk_frozen BK213.out 12
                            have hfz48_13 := blk_frozen BK213.out 13
                            have hfz48_14 := blk_frozen BK213.out 14
                            have hfz48_15 := blk_frozen BK213.out 15
                            have hfz48_16 := blk_frozen BK213.out 16
                            go_wp2_with (first | ((with_reducible refine gate_load (t := 26) rfl ?_); refine wpList_load_row rfl 26 _ rfl _ rfl 26 ?lcs (0, 0) _ ?lb Try.underlying26 rfl ?li ?_; (case lb => (with_reducible repeat (first | refine blk_drewN ?_ _ | refine blk_drew ?_ | refine blk_alloc ?_ _)); exact Aside0.out (by assumption)); (case li => exact info26)) | ((with_reducible refine gate_dst (N := 39) rfl ?_); (try (refine gate_guard (by rfl) ?_; dsimp only)); refine Kd.R_lit (Kd.int .u8) _ 5 ?hg (N := 39) ?hd (xs := ([(a1) % 256, (a1 / 256) % 256] : List Int)) (inner := [.int .u8 ((a1) % 256), .int .u8 ((a1 / 256) % 256)]) (ok := fun _ => True) (okp := fun _ => True) ?hr ?hp (fun _ hk => hk) trivial (Below.refl _ _) (Nat.le_refl _) (by simp) ?_; (case hd => rfl); (case hg => rfl); (case hr => first | (go_simp; done) | (go_simp; rfl)); (case hp => exact (Reps.one (show Kd.M (Kd.int .u8) _ _ _ ((a1) % 256) [.int .u8 ((a1) % 256)] from rfl) (Reps.one (show Kd.M (Kd.int .u8) _ _ _ ((a1 / 256) % 256) [.int .u8 ((a1 / 256) % 256)] from rfl) (Reps.none _ _)))); intro v217 w49 ho50 hb hg_ hnew_; clear hg_ hnew_; (first | rw [← Ny216.out] at ho50 | (simp only [Int.reduceToNat] at ho50; rw [← Ny216.out] at ho50)); have n0_ := Aside0.mk (Kd.R_below (by (with_reducible repeat (first | apply Kd.R_alloc | apply Kd.R_drewN | apply Kd.R_drew)); exact HO_214016.out) hb); have n1_ := Aside0.mk (Kd.R_lower ho50 (below_size (by repeat (first | (with_reducible first | exact HB.out | apply below_alloc | apply pw_below_drewN | apply below_drew1 | refine below_set ?_ GE213.out) | exact HB.out)))); have n2_ := Aside0.mk (blk_below (g := gb213) (o := .cells #[.int .i64 t193, .int .i64 t194, .int .i64 t195, .int .i64 t196, .int .i64 t197, .int .i64 t198, .int .i64 t199, .int .i64 t200, .int .i64 t201, .int .i64 t202, .int .i64 t203, .int .i64 t204, .int .i64 t205, .int .i64 t206, .int .i64 t207, .int .i64 t208, .slice Ao6 t209.length co6] 26 (0, 0)) (by (with_reducible repeat (first | refine blk_drewN ?_ _ | refine blk_drew ?_ | refine blk_alloc ?_ _)); exact BK213.out) hb); have n3_ := Aside0.mk (below_step (by repeat (first | (with_reducible first | exact HB.out | apply below_alloc | apply pw_below_drewN | apply below_drew1 | refine below_set ?_ GE213.out) | exact HB.out)) hb); clear HO_214016; clear BK213; clear HB; have HO_214016 := n0_; have HO218 := n1_; have BK213 := n2_; have HB := n3_; clear n0_ n1_ n2_ n3_; clear hb ho50; have hcv51 := own_string (P := Try.prog) Try.underlying40 Try.underlying5 Try.underlying9 (Kd.own_of_R HO218.out)) | ((with_reducible refine gate_callee (f := 30) rfl ?_); refine goesL_ (some 41) rfl rfl Try.func30 (by kernel_rfl) rfl #[.agg #[.int .i64 t193, .int .i64 t194, .int .i64 t195, .int .i64 t196, .int .i64 t197, .int .i64 t198, .int .i64 t199, .int .i64 t200, .int .i64 t201, .int .i64 t202, .int .i64 t203, .int .i64 t204, .int .i64 t205, .int .i64 t206, .int .i64 t207, .int .i64 t208, .slice Ao6 t209.length co6], .string (strOfNums y216), .int .i64 0] rfl (by (try simp only [List.map_toArray, List.map_cons, List.map_nil]); first | done | rfl | (simp only [List.length_drop, List.length_take]; rfl)) ?_; (with_reducible refine (huff_Next.calls t193 t194 t195 t196 t197 t198 t199 t200 t201 t202 t203 t204 t205 t206 t207 t208 _ _ t209 (strOfNums y216) 0 t219 t220 t221 _ ?side1 ?side2 A12.out).mono ?_); (case side1 => repeat (first | exact (Kd.R_reads' HO_214016.out).2.2 | (with_reducible refine Kd.C_alloc ?_ _) | (with_reducible refine Kd.C_drewN ?_ _) | (with_reducible refine Kd.C_drew ?_))); (case side2 => exact (Kd.R_reads' HO_214016.out).2.1); rintro e w52 ⟨rfl, hb⟩; refine ⟨_, rfl, ?_⟩; have n0_ := Aside0.mk (Kd.R_below (by (with_reducible repeat (first | apply Kd.R_alloc | apply Kd.R_drewN | apply Kd.R_drew)); exact HO_214016.out) hb); have n1_ := Aside0.mk (Kd.R_below (by (with_reducible repeat (first | apply Kd.R_alloc | apply Kd.R_drewN | apply Kd.R_drew)); exact HO218.out) hb); have n2_ := Aside0.mk (blk_below (g := gb213) (o := .cells #[.int .i64 t193, .int .i64 t194, .int .i64 t195, .int .i64 t196, .int .i64 t197, .int .i64 t198, .int .i64 t199, .int .i64 t200, .int .i64 t201, .int .i64 t202, .int .i64 t203, .int .i64 t204, .int .i64 t205, .int .i64 t206, .int .i64 t207, .int .i64 t208, .slice Ao6 t209.length co6] 26 (0, 0)) (by (with_reducible repeat (first | refine blk_drewN ?_ _ | refine blk_drew ?_ | refine blk_alloc ?_ _)); exact BK213.out) hb); have n3_ := Aside0.mk (below_step (by repeat (first | (with_reducible first | exact HB.out | apply below_alloc | apply pw_below_drewN | apply below_drew1 | refine below_set ?_ GE213.out) | exact HB.out)) hb); clear HO_214016; clear HO218; clear BK213; clear HB; have HO_214016 := n0_; have HO218 := n1_; have BK213 := n2_; have HB := n3_; clear n0_ n1_ n2_ n3_; (try clear hb); (try clear hb2); (try clear hk); (try clear hi); have p224 : 0 ≤ (t219 : Int) := of_decide_eq_true (by first | (with_reducible assumption) | assumption); have q224 : t219 < (l0.length : Int) := of_decide_eq_true (by first | (with_reducible assumption) | assumption); obtain ⟨ad224, e224, hx224_0⟩ := Kd.at_int HR0.out t219 p224 q224; cases e224; replace hx224_0 := (HB.out.cell (World.block_lt_of_cell? w _ hx224_0)).trans hx224_0; replace p224 := eq_true p224; replace q224 := eq_true q224))
                            go_ret
                            exact ⟨by first | rfl | (simp [errW_none, errW_some] <;> rfl) | (simp [*, errW_none, errW_some] <;> rfl), by repeat (first | (with_reducible first | exact HB.out | apply below_alloc | apply pw_below_drewN | apply below_drew1 | refine below_set ?_ GE213.out) | exact HB.out)⟩
                      · rw [if_neg c39] at H
                        have c39b0 : ((rd l0 t219) == t220) = false := beq_eq_false_iff_ne.mpr c39
                        have c39b1 : ((rd l0 t219) != t220) = true := bne_iff_ne.mpr c39
                        first
                        | exact absurd (Option.some.inj H) (by rw [hr_.out]; decide)
                        | obtain rfl := Option.some.inj H
                          have hcz53_0 : wr.cell? ⟨gb213, 0, none⟩ = some (.int .i64 t193) := (blk_cell BK213.out 0).trans rfl
                          have hcz53_1 : wr.cell? ⟨gb213, 1, none⟩ = some (.int .i64 t194) := (blk_cell BK213.out 1).trans rfl
                          have hcz53_2 : wr.cell? ⟨gb213, 2, none⟩ = some (.int .i64 t195) := (blk_cell BK213.out 2).trans rfl
                          have hcz53_3 : wr.cell? ⟨gb213, 3, none⟩ = some (.int .i64 t196) := (blk_cell BK213.out 3).trans rfl
                          have hcz53_4 : wr.cell? ⟨gb213, 4, none⟩ = some (.int .i64 t197) := (blk_cell BK213.out 4).trans rfl
                          have hcz53_5 : wr.cell? ⟨gb213, 5, none⟩ = some (.int .i64 t198) := (blk_cell BK213.out 5).trans rfl
                          have hcz53_6 : wr.cell? ⟨gb213, 6, none⟩ = some (.int .i64 t199) := (blk_cell BK213.out 6).trans rfl
                          have hcz53_7 : wr.cell? ⟨gb213, 7, none⟩ = some (.int .i64 t200) := (blk_cell BK213.out 7).trans rfl
                          have hcz53_8 : wr.cell? ⟨gb213, 8, none⟩ = some (.int .i64 t201) := (blk_cell BK213.out 8).trans rfl
                          have hcz53_9 : wr.cell? ⟨gb213, 9, none⟩ = some (.int .i64 t202) := (blk_cell BK213.out 9).trans rfl
                          have hcz53_10 : wr.cell? ⟨gb213, 10, none⟩ = some (.int .i64 t203) := (blk_cell BK213.out 10).trans rfl
                          have hcz53_11 : wr.cell? ⟨gb213, 11, none⟩ = some (.int .i64 t204) := (blk_cell BK213.out 11).trans rfl
                          have hcz53_12 : wr.cell? ⟨gb213, 12, none⟩ = some (.int .i64 t205) := (blk_cell BK213.out 12).trans rfl
                          have hcz53_13 : wr.cell? ⟨gb213, 13, none⟩ = some (.int .i64 t206) := (blk_cell BK213.out 13).trans rfl
                          have hcz53_14 : wr.cell? ⟨gb213, 14, none⟩ = some (.int .i64 t207) := (blk_cell BK213.out 14).trans rfl
                          have hcz53_15 : wr.cell? ⟨gb213, 15, none⟩ = some (.int .i64 t208) := (blk_cell BK213.out 15).trans rfl
                          have hcz53_16 : wr.cell? ⟨gb213, 16, none⟩ = some (.slice Ao6 t209.length co6) := (blk_cell BK213.out 16).trans rfl
                          have hfz53_0 := blk_frozen BK213.out 0
                          have hfz53_1 := blk_frozen BK213.out 1
                          have hfz53_2 := blk_frozen BK213.out 2
                          have hfz53_3 := blk_frozen BK213.out 3
                          have hfz53_4 := blk_frozen BK213.out 4
                          have hfz53_5 := blk_frozen BK213.out 5
                          have hfz53_6 := blk_frozen BK213.out 6
                          have hfz53_7 := blk_frozen BK213.out 7
                          have hfz53_8 := blk_frozen BK213.out 8
                          have hfz53_9 := blk_frozen BK213.out 9
                          have hfz53_10 := blk_frozen BK213.out 10
                          have hfz53_11 := blk_frozen BK213.out 11
                          have hfz53_12 := blk_frozen BK213.out 12
                          have hfz53_13 := blk_frozen BK213.out 13
                          have hfz53_14 := blk_frozen BK213.out 14
                          have hfz53_15 := blk_frozen BK213.out 15
                          have hfz53_16 := blk_frozen BK213.out 16
                          go_wp2_with (first | ((with_reducible refine gate_load (t := 26) rfl ?_); refine wpList_load_row rfl 26 _ rfl _ rfl 26 ?lcs (0, 0) _ ?lb Try.underlying26 rfl ?li ?_; (case lb => (with_reducible repeat (first | refine blk_drewN ?_ _ | refine blk_drew ?_ | refine blk_alloc ?_ _)); exact Aside0.out (by assumption)); (case li => exact info26)) | ((with_reducible refine gate_dst (N := 39) rfl ?_); (try (refine gate_guard (by rfl) ?_; dsimp only)); refine Kd.R_lit (Kd.int .u8) _ 5 ?hg (N := 39) ?hd (xs := ([(a1) % 256, (a1 / 256) % 256] : List Int)) (inner := [.int .u8 ((a1) % 256), .int .u8 ((a1 / 256) % 256)]) (ok := fun _ => True) (okp := fun _ => True) ?hr ?hp (fun _ hk => hk) trivial (Below.refl _ _) (Nat.le_refl _) (by simp) ?_; (case hd => rfl); (case hg => rfl); (case hr => first | (go_simp; done) | (go_simp; rfl)); (case hp => exact (Reps.one (show Kd.M (Kd.int .u8) _ _ _ ((a1) % 256) [.int .u8 ((a1) % 256)] from rfl) (Reps.one (show Kd.M (Kd.int .u8) _ _ _ ((a1 / 256) % 256) [.int .u8 ((a1 / 256) % 256)] from rfl) (Reps.none _ _)))); intro v217 w54 ho55 hb hg_ hnew_; clear hg_ hnew_; (first | rw [← Ny216.out] at ho55 | (simp only [Int.reduceToNat] at ho55; rw [← Ny216.out] at ho55)); have n0_ := Aside0.mk (Kd.R_below (by (with_reducible repeat (first | apply Kd.R_alloc | apply Kd.R_drewN | apply Kd.R_drew)); exact HO_214016.out) hb); have n1_ := Aside0.mk (Kd.R_lower ho55 (below_size (by repeat (first | (with_reducible first | exact HB.out | apply below_alloc | apply pw_below_drewN | apply below_drew1 | refine below_set ?_ GE213.out) | exact HB.out)))); have n2_ := Aside0.mk (blk_below (g := gb213) (o := .cells #[.int .i64 t193, .int .i64 t194, .int .i64 t195, .int .i64 t196, .int .i64 t197, .int .i64 t198, .int .i64 t199, .int .i64 t200, .int .i64 t201, .int .i64 t202, .int .i64 t203, .int .i64 t204, .int .i64 t205, .int .i64 t206, .int .i64 t207, .int .i64 t208, .slice Ao6 t209.length co6] 26 (0, 0)) (by (with_reducible repeat (first | refine blk_drewN ?_ _ | refine blk_drew ?_ | refine blk_alloc ?_ _)); exact BK213.out) hb); have n3_ := Aside0.mk (below_step (by repeat (first | (with_reducible first | exact HB.out | apply below_alloc | apply pw_below_drewN | apply below_drew1 | refine below_set ?_ GE213.out) | exact HB.out)) hb); clear HO_214016; clear BK213; clear HB; have HO_214016 := n0_; have HO218 := n1_; have BK213 := n2_; have HB := n3_; clear n0_ n1_ n2_ n3_; clear hb ho55; have hcv56 := own_string (P := Try.prog) Try.underlying40 Try.underlying5 Try.underlying9 (Kd.own_of_R HO218.out)) | ((with_reducible refine gate_callee (f := 30) rfl ?_); refine goesL_ (some 41) rfl rfl Try.func30 (by kernel_rfl) rfl #[.agg #[.int .i64 t193, .int .i64 t194, .int .i64 t195, .int .i64 t196, .int .i64 t197, .int .i64 t198, .int .i64 t199, .int .i64 t200, .int .i64 t201, .int .i64 t202, .int .i64 t203, .int .i64 t204, .int .i64 t205, .int .i64 t206, .int .i64 t207, .int .i64 t208, .slice Ao6 t209.length co6], .string (strOfNums y216), .int .i64 0] rfl (by (try simp only [List.map_toArray, List.map_cons, List.map_nil]); first | done | rfl | (simp only [List.length_drop, List.length_take]; rfl)) ?_; (with_reducible refine (huff_Next.calls t193 t194 t195 t196 t197 t198 t199 t200 t201 t202 t203 t204 t205 t206 t207 t208 _ _ t209 (strOfNums y216) 0 t219 t220 t221 _ ?side1 ?side2 A12.out).mono ?_); (case side1 => repeat (first | exact (Kd.R_reads' HO_214016.out).2.2 | (with_reducible refine Kd.C_alloc ?_ _) | (with_reducible refine Kd.C_drewN ?_ _) | (with_reducible refine Kd.C_drew ?_))); (case side2 => exact (Kd.R_reads' HO_214016.out).2.1); rintro e w57 ⟨rfl, hb⟩; refine ⟨_, rfl, ?_⟩; have n0_ := Aside0.mk (Kd.R_below (by (with_reducible repeat (first | apply Kd.R_alloc | apply Kd.R_drewN | apply Kd.R_drew)); exact HO_214016.out) hb); have n1_ := Aside0.mk (Kd.R_below (by (with_reducible repeat (first | apply Kd.R_alloc | apply Kd.R_drewN | apply Kd.R_drew)); exact HO218.out) hb); have n2_ := Aside0.mk (blk_below (g := gb213) (o := .cells #[.int .i64 t193, .int .i64 t194, .int .i64 t195, .int .i64 t196, .int .i64 t197, .int .i64 t198, .int .i64 t199, .int .i64 t200, .int .i64 t201, .int .i64 t202, .int .i64 t203, .int .i64 t204, .int .i64 t205, .int .i64 t206, .int .i64 t207, .int .i64 t208, .slice Ao6 t209.length co6] 26 (0, 0)) (by (with_reducible repeat (first | refine blk_drewN ?_ _ | refine blk_drew ?_ | refine blk_alloc ?_ _)); exact BK213.out) hb); have n3_ := Aside0.mk (below_step (by repeat (first | (with_reducible first | exact HB.out | apply below_alloc | apply pw_below_drewN | apply below_drew1 | refine below_set ?_ GE213.out) | exact HB.out)) hb); clear HO_214016; clear HO218; clear BK213; clear HB; have HO_214016 := n0_; have HO218 := n1_; have BK213 := n2_; have HB := n3_; clear n0_ n1_ n2_ n3_; (try clear hb); (try clear hb2); (try clear hk); (try clear hi); have p224 : 0 ≤ (t219 : Int) := of_decide_eq_true (by first | (with_reducible assumption) | assumption); have q224 : t219 < (l0.length : Int) := of_decide_eq_true (by first | (with_reducible assumption) | assumption); obtain ⟨ad224, e224, hx224_0⟩ := Kd.at_int HR0.out t219 p224 q224; cases e224; replace hx224_0 := (HB.out.cell (World.block_lt_of_cell? w _ hx224_0)).trans hx224_0; replace p224 := eq_true p224; replace q224 := eq_true q224))
                          go_ret
                          exact ⟨by first | rfl | (simp [errW_none, errW_some] <;> rfl) | (simp [*, errW_none, errW_some] <;> rfl), by repeat (first | (with_reducible first | exact HB.out | apply below_alloc | apply pw_below_drewN | apply below_drew1 | refine below_set ?_ GE213.out) | exact HB.out)⟩
                    · rw [if_neg c38] at H
                      exact absurd H (by simp)
                  · rw [if_neg c37] at H
                    have c37b0 : decide (t219 < (l0.length : Int)) = false := decide_eq_false c37
                    clear c37
                    first
                    | exact absurd (Option.some.inj H) (by rw [hr_.out]; decide)
                    | obtain rfl := Option.some.inj H
                      have hcz58_0 : wr.cell? ⟨gb213, 0, none⟩ = some (.int .i64 t193) := (blk_cell BK213.out 0).trans rfl
                      have hcz58_1 : wr.cell? ⟨gb213, 1, none⟩ = some (.int .i64 t194) := (blk_cell BK213.out 1).trans rfl
                      have hcz58_2 : wr.cell? ⟨gb213, 2, none⟩ = some (.int .i64 t195) := (blk_cell BK213.out 2).trans rfl
                      have hcz58_3 : wr.cell? ⟨gb213, 3, none⟩ = some (.int .i64 t196) := (blk_cell BK213.out 3).trans rfl
                      have hcz58_4 : wr.cell? ⟨gb213, 4, none⟩ = some (.int .i64 t197) := (blk_cell BK213.out 4).trans rfl
                      have hcz58_5 : wr.cell? ⟨gb213, 5, none⟩ = some (.int .i64 t198) := (blk_cell BK213.out 5).trans rfl
                      have hcz58_6 : wr.cell? ⟨gb213, 6, none⟩ = some (.int .i64 t199) := (blk_cell BK213.out 6).trans rfl
                      have hcz58_7 : wr.cell? ⟨gb213, 7, none⟩ = some (.int .i64 t200) := (blk_cell BK213.out 7).trans rfl
                      have hcz58_8 : wr.cell? ⟨gb213, 8, none⟩ = some (.int .i64 t201) := (blk_cell BK213.out 8).trans rfl
                      have hcz58_9 : wr.cell? ⟨gb213, 9, none⟩ = some (.int .i64 t202) := (blk_cell BK213.out 9).trans rfl
                      have hcz58_10 : wr.cell? ⟨gb213, 10, none⟩ = some (.int .i64 t203) := (blk_cell BK213.out 10).trans rfl
                      have hcz58_11 : wr.cell? ⟨gb213, 11, none⟩ = some (.int .i64 t204) := (blk_cell BK213.out 11).trans rfl
                      have hcz58_12 : wr.cell? ⟨gb213, 12, none⟩ = some (.int .i64 t205) := (blk_cell BK213.out 12).trans rfl
                      have hcz58_13 : wr.cell? ⟨gb213, 13, none⟩ = some (.int .i64 t206) := (blk_cell BK213.out 13).trans rfl
                      have hcz58_14 : wr.cell? ⟨gb213, 14, none⟩ = some (.int .i64 t207) := (blk_cell BK213.out 14).trans rfl
                      have hcz58_15 : wr.cell? ⟨gb213, 15, none⟩ = some (.int .i64 t208) := (blk_cell BK213.out 15).trans rfl
                      have hcz58_16 : wr.cell? ⟨gb213, 16, none⟩ = some (.slice Ao6 t209.length co6) := (blk_cell BK213.out 16).trans rfl
                      have hfz58_0 := blk_frozen BK213.out 0
                      have hfz58_1 := blk_frozen BK213.out 1
                      have hfz58_2 := blk_frozen BK213.out 2
                      have hfz58_3 := blk_frozen BK213.out 3
                      have hfz58_4 := blk_frozen BK213.out 4
                      have hfz58_5 := blk_frozen BK213.out 5
                      have hfz58_6 := blk_frozen BK213.out 6
                      have hfz58_7 := blk_frozen BK213.out 7
                      have hfz58_8 := blk_frozen BK213.out 8
                      have hfz58_9 := blk_frozen BK213.out 9
                      have hfz58_10 := blk_frozen BK213.out 10
                      have hfz58_11 := blk_frozen BK213.out 11
                      have hfz58_12 := blk_frozen BK213.out 12
                      have hfz58_13 := blk_frozen BK213.out 13
                      have hfz58_14 := blk_frozen BK213.out 14
                      have hfz58_15 := blk_frozen BK213.out 15
                      have hfz58_16 := blk_frozen BK213.out 16
                      go_wp2_with (first | ((with_reducible refine gate_load (t := 26) rfl ?_); refine wpList_load_row rfl 26 _ rfl _ rfl 26 ?lcs (0, 0) _ ?lb Try.underlying26 rfl ?li ?_; (case lb => (with_reducible repeat (first | refine blk_drewN ?_ _ | refine blk_drew ?_ | refine blk_alloc ?_ _)); exact Aside0.out (by assumption)); (case li => exact info26)) | ((with_reducible refine gate_dst (N := 39) rfl ?_); (try (refine gate_guard (by rfl) ?_; dsimp only)); refine Kd.R_lit (Kd.int .u8) _ 5 ?hg (N := 39) ?hd (xs := ([(a1) % 256, (a1 / 256) % 256] : List Int)) (inner := [.int .u8 ((a1) % 256), .int .u8 ((a1 / 256) % 256)]) (ok := fun _ => True) (okp := fun _ => True) ?hr ?hp (fun _ hk => hk) trivial (Below.refl _ _) (Nat.le_refl _) (by simp) ?_; (case hd => rfl); (case hg => rfl); (case hr => first | (go_simp; done) | (go_simp; rfl)); (case hp => exact (Reps.one (show Kd.M (Kd.int .u8) _ _ _ ((a1) % 256) [.int .u8 ((a1) % 256)] from rfl) (Reps.one (show Kd.M (Kd.int .u8) _ _ _ ((a1 / 256) % 256) [.int .u8 ((a1 / 256) % 256)] from rfl) (Reps.none _ _)))); intro v217 w59 ho60 hb hg_ hnew_; clear hg_ hnew_; (first | rw [← Ny216.out] at ho60 | (simp only [Int.reduceToNat] at ho60; rw [← Ny216.out] at ho60)); have n0_ := Aside0.mk (Kd.R_below (by (with_reducible repeat (first | apply Kd.R_alloc | apply Kd.R_drewN | apply Kd.R_drew)); exact HO_214016.out) hb); have n1_ := Aside0.mk (Kd.R_lower ho60 (below_size (by repeat (first | (with_reducible first | exact HB.out | apply below_alloc | apply pw_below_drewN | apply below_drew1 | refine below_set ?_ GE213.out) | exact HB.out)))); have n2_ := Aside0.mk (blk_below (g := gb213) (o := .cells #[.int .i64 t193, .int .i64 t194, .int .i64 t195, .int .i64 t196, .int .i64 t197, .int .i64 t198, .int .i64 t199, .int .i64 t200, .int .i64 t201, .int .i64 t202, .int .i64 t203, .int .i64 t204, .int .i64 t205, .int .i64 t206, .int .i64 t207, .int .i64 t208, .slice Ao6 t209.length co6] 26 (0, 0)) (by (with_reducible repeat (first | refine blk_drewN ?_ _ | refine blk_drew ?_ | refine blk_alloc ?_ _)); exact BK213.out) hb); have n3_ := Aside0.mk (below_step (by repeat (first | (with_reducible first | exact HB.out | apply below_alloc | apply pw_below_drewN | apply below_drew1 | refine below_set ?_ GE213.out) | exact HB.out)) hb); clear HO_214016; clear BK213; clear HB; have HO_214016 := n0_; have HO218 := n1_; have BK213 := n2_; have HB := n3_; clear n0_ n1_ n2_ n3_; clear hb ho60; have hcv61 := own_string (P := Try.prog) Try.underlying40 Try.underlying5 Try.underlying9 (Kd.own_of_R HO218.out)) | ((with_reducible refine gate_callee (f := 30) rfl ?_); refine goesL_ (some 41) rfl rfl Try.func30 (by kernel_rfl) rfl #[.agg #[.int .i64 t193, .int .i64 t194, .int .i64 t195, .int .i64 t196, .int .i64 t197, .int .i64 t198, .int .i64 t199, .int .i64 t200, .int .i64 t201, .int .i64 t202, .int .i64 t203, .int .i64 t204, .int .i64 t205, .int .i64 t206, .int .i64 t207, .int .i64 t208, .slice Ao6 t209.length co6], .string (strOfNums y216), .int .i64 0] rfl (by (try simp only [List.map_toArray, List.map_cons, List.map_nil]); first | done | rfl | (simp only [List.length_drop, List.length_take]; rfl)) ?_; (with_reducible refine (huff_Next.calls t193 t194 t195 t196 t197 t198 t199 t200 t201 t202 t203 t204 t205 t206 t207 t208 _ _ t209 (strOfNums y216) 0 t219 t220 t221 _ ?side1 ?side2 A12.out).mono ?_); (case side1 => repeat (first | exact (Kd.R_reads' HO_214016.out).2.2 | (with_reducible refine Kd.C_alloc ?_ _) | (with_reducible refine Kd.C_drewN ?_ _) | (with_reducible refine Kd.C_drew ?_))); (case side2 => exact (Kd.R_reads' HO_214016.out).2.1); rintro e w62 ⟨rfl, hb⟩; refine ⟨_, rfl, ?_⟩; have n0_ := Aside0.mk (Kd.R_below (by (with_reducible repeat (first | apply Kd.R_alloc | apply Kd.R_drewN | apply Kd.R_drew)); exact HO_214016.out) hb); have n1_ := Aside0.mk (Kd.R_below (by (with_reducible repeat (first | apply Kd.R_alloc | apply Kd.R_drewN | apply Kd.R_drew)); exact HO218.out) hb); have n2_ := Aside0.mk (blk_below (g := gb213) (o := .cells #[.int .i64 t193, .int .i64 t194, .int .i64 t195, .int .i64 t196, .int .i64 t197, .int .i64 t198, .int .i64 t199, .int .i64 t200, .int .i64 t201, .int .i64 t202, .int .i64 t203, .int .i64 t204, .int .i64 t205, .int .i64 t206, .int .i64 t207, .int .i64 t208, .slice Ao6 t209.length co6] 26 (0, 0)) (by (with_reducible repeat (first | refine blk_drewN ?_ _ | refine blk_drew ?_ | refine blk_alloc ?_ _)); exact BK213.out) hb); have n3_ := Aside0.mk (below_step (by repeat (first | (with_reducible first | exact HB.out | apply below_alloc | apply pw_below_drewN | apply below_drew1 | refine below_set ?_ GE213.out) | exact HB.out)) hb); clear HO_214016; clear HO218; clear BK213; clear HB; have HO_214016 := n0_; have HO218 := n1_; have BK213 := n2_; have HB := n3_; clear n0_ n1_ n2_ n3_; (try clear hb); (try clear hb2); (try clear hk); (try clear hi)))
                      go_ret
                      exact ⟨by first | rfl | (simp [errW_none, errW_some] <;> rfl) | (simp [*, errW_none, errW_some] <;> rfl), by repeat (first | (with_reducible first | exact HB.out | apply below_alloc | apply pw_below_drewN | apply below_drew1 | refine below_set ?_ GE213.out) | exact HB.out)⟩
                · rw [if_neg c36] at H
                  have c36b0 : decide (0 ≤ t219) = false := decide_eq_false c36
                  clear c36
                  first
                  | exact absurd (Option.some.inj H) (by rw [hr_.out]; decide)
                  | obtain rfl := Option.some.inj H
                    have hcz63_0 : wr.cell? ⟨gb213, 0, none⟩ = some (.int .i64 t193) := (blk_cell BK213.out 0).trans rfl
                    have hcz63_1 : wr.cell? ⟨gb213, 1, none⟩ = some (.int .i64 t194) := (blk_cell BK213.out 1).trans rfl
                    have hcz63_2 : wr.cell? ⟨gb213, 2, none⟩ = some (.int .i64 t195) := (blk_cell BK213.out 2).trans rfl
                    have hcz63_3 : wr.cell? ⟨gb213, 3, none⟩ = some (.int .i64 t196) := (blk_cell BK213.out 3).trans rfl
                    have hcz63_4 : wr.cell? ⟨gb213, 4, none⟩ = some (.int .i64 t197) := (blk_cell BK213.out 4).trans rfl
                    have hcz63_5 : wr.cell? ⟨gb213, 5, none⟩ = some (.int .i64 t198) := (blk_cell BK213.out 5).trans rfl
                    have hcz63_6 : wr.cell? ⟨gb213, 6, none⟩ = some (.int .i64 t199) := (blk_cell BK213.out 6).trans rfl
                    have hcz63_7 : wr.cell? ⟨gb213, 7, none⟩ = some (.int .i64 t200) := (blk_cell BK213.out 7).trans rfl
                    have hcz63_8 : wr.cell? ⟨gb213, 8, none⟩ = some (.int .i64 t201) := (blk_cell BK213.out 8).trans rfl
                    have hcz63_9 : wr.cell? ⟨gb213, 9, none⟩ = some (.int .i64 t202) := (blk_cell BK213.out 9).trans rfl
                    have hcz63_10 : wr.cell? ⟨gb213, 10, none⟩ = some (.int .i64 t203) := (blk_cell BK213.out 10).trans rfl
                    have hcz63_11 : wr.cell? ⟨gb213, 11, none⟩ = some (.int .i64 t204) := (blk_cell BK213.out 11).trans rfl
                    have hcz63_12 : wr.cell? ⟨gb213, 12, none⟩ = some (.int .i64 t205) := (blk_cell BK213.out 12).trans rfl
                    have hcz63_13 : wr.cell? ⟨gb213, 13, none⟩ = some (.int .i64 t206) := (blk_cell BK213.out 13).trans rfl
                    have hcz63_14 : wr.cell? ⟨gb213, 14, none⟩ = some (.int .i64 t207) := (blk_cell BK213.out 14).trans rfl
                    have hcz63_15 : wr.cell? ⟨gb213, 15, none⟩ = some (.int .i64 t208) := (blk_cell BK213.out 15).trans rfl
                    have hcz63_16 : wr.cell? ⟨gb213, 16, none⟩ = some (.slice Ao6 t209.length co6) := (blk_cell BK213.out 16).trans rfl
                    have hfz63_0 := blk_frozen BK213.out 0
                    have hfz63_1 := blk_frozen BK213.out 1
                    have hfz63_2 := blk_frozen BK213.out 2
                    have hfz63_3 := blk_frozen BK213.out 3
                    have hfz63_4 := blk_frozen BK213.out 4
                    have hfz63_5 := blk_frozen BK213.out 5
                    have hfz63_6 := blk_frozen BK213.out 6
                    have hfz63_7 := blk_frozen BK213.out 7
                    have hfz63_8 := blk_frozen BK213.out 8
                    have hfz63_9 := blk_frozen BK213.out 9
                    have hfz63_10 := blk_frozen BK213.out 10
                    have hfz63_11 := blk_frozen BK213.out 11
                    have hfz63_12 := blk_frozen BK213.out 12
                    have hfz63_13 := blk_frozen BK213.out 13
                    have hfz63_14 := blk_frozen BK213.out 14
                    have hfz63_15 := blk_frozen BK213.out 15
                    have hfz63_16 := blk_frozen BK213.out 16
                    go_wp2_with (first | ((with_reducible refine gate_load (t := 26) rfl ?_); refine wpList_load_row rfl 26 _ rfl _ rfl 26 ?lcs (0, 0) _ ?lb Try.underlying26 rfl ?li ?_; (case lb => (with_reducible repeat (first | refine blk_drewN ?_ _ | refine blk_drew ?_ | refine blk_alloc ?_ _)); exact Aside0.out (by assumption)); (case li => exact info26)) | ((with_reducible refine gate_dst (N := 39) rfl ?_); (try (refine gate_guard (by rfl) ?_; dsimp only)); refine Kd.R_lit (Kd.int .u8) _ 5 ?hg (N := 39) ?hd (xs := ([(a1) % 256, (a1 / 256) % 256] : List Int)) (inner := [.int .u8 ((a1) % 256), .int .u8 ((a1 / 256) % 256)]) (ok := fun _ => True) (okp := fun _ => True) ?hr ?hp (fun _ hk => hk) trivial (Below.refl _ _) (Nat.le_refl _) (by simp) ?_; (case hd => rfl); (case hg => rfl); (case hr => first | (go_simp; done) | (go_simp; rfl)); (case hp => exact (Reps.one (show Kd.M (Kd.int .u8) _ _ _ ((a1) % 256) [.int .u8 ((a1) % 256)] from rfl) (Reps.one (show Kd.M (Kd.int .u8) _ _ _ ((a1 / 256) % 256) [.int .u8 ((a1 / 256) % 256)] from rfl) (Reps.none _ _)))); intro v217 w64 ho65 hb hg_ hnew_; clear hg_ hnew_; (first | rw [← Ny216.out] at ho65 | (simp only [Int.reduceToNat] at ho65; rw [← Ny216.out] at ho65)); have n0_ := Aside0.mk (Kd.R_below (by (with_reducible repeat (first | apply Kd.R_alloc | apply Kd.R_drewN | apply Kd.R_drew)); exact HO_214016.out) hb); have n1_ := Aside0.mk (Kd.R_lower ho65 (below_size (by repeat (first | (with_reducible first | exact HB.out | apply below_alloc | apply pw_below_drewN | apply below_drew1 | refine below_set ?_ GE213.out) | exact HB.out)))); have n2_ := Aside0.mk (blk_below (g := gb213) (o := .cells #[.int .i64 t193, .int .i64 t194, .int .i64 t195, .int .i64 t196, .int .i64 t197, .int .i64 t198, .int .i64 t199, .int .i64 t200, .int .i64 t201, .int .i64 t202, .int .i64 t203, .int .i64 t204, .int .i64 t205, .int .i64 t206, .int .i64 t207, .int .i64 t208, .slice Ao6 t209.length co6] 26 (0, 0)) (by (with_reducible repeat (first | refine blk_drewN ?_ _ | refine blk_drew ?_ | refine blk_alloc ?_ _)); exact BK213.out) hb); have n3_ := Aside0.mk (below_step (by repeat (first | (with_reducible first | exact HB.out | apply below_alloc | apply pw_below_drewN | apply below_drew1 | refine below_set ?_ GE213.out) | exact HB.out)) hb); clear HO_214016; clear BK213; clear HB; have HO_214016 := n0_; have HO218 := n1_; have BK213 := n2_; have HB := n3_; clear n0_ n1_ n2_ n3_; clear hb ho65; have hcv66 := own_string (P := Try.prog) Try.underlying40 Try.underlying5 Try.underlying9 (Kd.own_of_R HO218.out)) | ((with_reducible refine gate_callee (f := 30) rfl ?_); refine goesL_ (some 41) rfl rfl Try.func30 (by kernel_rfl) rfl #[.agg #[.int .i64 t193, .int .i64 t194, .int .i64 t195, .int .i64 t196, .int .i64 t197, .int .i64 t198, .int .i64 t199, .int .i64 t200, .int .i64 t201, .int .i64 t202, .int .i64 t203, .int .i64 t204, .int .i64 t205, .int .i64 t206, .int .i64 t207, .int .i64 t208, .slice Ao6 t209.length co6], .string (strOfNums y216), .int .i64 0] rfl (by (try simp only [List.map_toArray, List.map_cons, List.map_nil]); first | done | rfl | (simp only [List.length_drop, List.length_take]; rfl)) ?_; (with_reducible refine (huff_Next.calls t193 t194 t195 t196 t197 t198 t199 t200 t201 t202 t203 t204 t205 t206 t207 t208 _ _ t209 (strOfNums y216) 0 t219 t220 t221 _ ?side1 ?side2 A12.out).mono ?_); (case side1 => repeat (first | exact (Kd.R_reads' HO_214016.out).2.2 | (with_reducible refine Kd.C_alloc ?_ _) | (with_reducible refine Kd.C_drewN ?_ _) | (with_reducible refine Kd.C_drew ?_))); (case side2 => exact (Kd.R_reads' HO_214016.out).2.1); rintro e w67 ⟨rfl, hb⟩; refine ⟨_, rfl, ?_⟩; have n0_ := Aside0.mk (Kd.R_below (by (with_reducible repeat (first | apply Kd.R_alloc | apply Kd.R_drewN | apply Kd.R_drew)); exact HO_214016.out) hb); have n1_ := Aside0.mk (Kd.R_below (by (with_reducible repeat (first | apply Kd.R_alloc | apply Kd.R_drewN | apply Kd.R_drew)); exact HO218.out) hb); have n2_ := Aside0.mk (blk_below (g := gb213) (o := .cells #[.int .i64 t193, .int .i64 t194, .int .i64 t195, .int .i64 t196, .int .i64 t197, .int .i64 t198, .int .i64 t199, .int .i64 t200, .int .i64 t201, .int .i64 t202, .int .i64 t203, .int .i64 t204, .int .i64 t205, .int .i64 t206, .int .i64 t207, .int .i64 t208, .slice Ao6 t209.length co6] 26 (0, 0)) (by (with_reducible repeat (first | refine blk_drewN ?_ _ | refine blk_drew ?_ | refine blk_alloc ?_ _)); exact BK213.out) hb); have n3_ := Aside0.mk (below_step (by repeat (first | (with_reducible first | exact HB.out | apply below_alloc | apply pw_below_drewN | apply below_drew1 | refine below_set ?_ GE213.out) | exact HB.out)) hb); clear HO_214016; clear HO218; clear BK213; clear HB; have HO_214016 := n0_; have HO218 := n1_; have BK213 := n2_; have HB := n3_; clear n0_ n1_ n2_ n3_; (try clear hb); (try clear hb2); (try clear hk); (try clear hi)))
                    go_ret
                    exact ⟨by first | rfl | (simp [errW_none, errW_some] <;> rfl) | (simp [*, errW_none, errW_some] <;> rfl), by repeat (first | (with_reducible first | exact HB.out | apply below_alloc | apply pw_below_drewN | apply below_drew1 | refine below_set ?_ GE213.out) | exact HB.out)⟩
              · rw [if_neg c35] at H
                have c35b0 : (t221 == 0) = false := beq_eq_false_iff_ne.mpr c35
                have c35b1 : (t221 != 0) = true := bne_iff_ne.mpr c35
                first
                | exact absurd (Option.some.inj H) (by rw [hr_.out]; decide)
                | obtain rfl := Option.some.inj H
                  have hcz68_0 : wr.cell? ⟨gb213, 0, none⟩ = some (.int .i64 t193) := (blk_cell BK213.out 0).trans rfl
                  have hcz68_1 : wr.cell? ⟨gb213, 1, none⟩ = some (.int .i64 t194) := (blk_cell BK213.out 1).trans rfl
                  have hcz68_2 : wr.cell? ⟨gb213, 2, none⟩ = some (.int .i64 t195) := (blk_cell BK213.out 2).trans rfl
                  have hcz68_3 : wr.cell? ⟨gb213, 3, none⟩ = some (.int .i64 t196) := (blk_cell BK213.out 3).trans rfl
                  have hcz68_4 : wr.cell? ⟨gb213, 4, none⟩ = some (.int .i64 t197) := (blk_cell BK213.out 4).trans rfl
                  have hcz68_5 : wr.cell? ⟨gb213, 5, none⟩ = some (.int .i64 t198) := (blk_cell BK213.out 5).trans rfl
                  have hcz68_6 : wr.cell? ⟨gb213, 6, none⟩ = some (.int .i64 t199) := (blk_cell BK213.out 6).trans rfl
                  have hcz68_7 : wr.cell? ⟨gb213, 7, none⟩ = some (.int .i64 t200) := (blk_cell BK213.out 7).trans rfl
                  have hcz68_8 : wr.cell? ⟨gb213, 8, none⟩ = some (.int .i64 t201) := (blk_cell BK213.out 8).trans rfl
                  have hcz68_9 : wr.cell? ⟨gb213, 9, none⟩ = some (.int .i64 t202) := (blk_cell BK213.out 9).trans rfl
                  have hcz68_10 : wr.cell? ⟨gb213, 10, none⟩ = some (.int .i64 t203) := (blk_cell BK213.out 10).trans rfl
                  have hcz68_11 : wr.cell? ⟨gb213, 11, none⟩ = some (.int .i64 t204) := (blk_cell BK213.out 11).trans rfl
                  have hcz68_12 : wr.cell? ⟨gb213, 12, none⟩ = some (.int .i64 t205) := (blk_cell BK213.out 12).trans rfl
                  have hcz68_13 : wr.cell? ⟨gb213, 13, none⟩ = some (.int .i64 t206) := (blk_cell BK213.out 13).trans rfl
                  have hcz68_14 : wr.cell? ⟨gb213, 14, none⟩ = some (.int .i64 t207) := (blk_cell BK213.out 14).trans rfl
                  have hcz68_15 : wr.cell? ⟨gb213, 15, none⟩ = some (.int .i64 t208) := (blk_cell BK213.out 15).trans rfl
                  have hcz68_16 : wr.cell? ⟨gb213, 16, none⟩ = some (.slice Ao6 t209.length co6) := (blk_cell BK213.out 16).trans rfl
                  have hfz68_0 := blk_frozen BK213.out 0
                  have hfz68_1 := blk_frozen BK213.out 1
                  have hfz68_2 := blk_frozen BK213.out 2
                  have hfz68_3 := blk_frozen BK213.out 3
                  have hfz68_4 := blk_frozen BK213.out 4
                  have hfz68_5 := blk_frozen BK213.out 5
                  have hfz68_6 := blk_frozen BK213.out 6
                  have hfz68_7 := blk_frozen BK213.out 7
                  have hfz68_8 := blk_frozen BK213.out 8
                  have hfz68_9 := blk_frozen BK213.out 9
                  have hfz68_10 := blk_frozen BK213.out 10
                  have hfz68_11 := blk_frozen BK213.out 11
                  have hfz68_12 := blk_frozen BK213.out 12
                  have hfz68_13 := blk_frozen BK213.out 13
                  have hfz68_14 := blk_frozen BK213.out 14
                  have hfz68_15 := blk_frozen BK213.out 15
                  have hfz68_16 := blk_frozen BK213.out 16
                  go_wp2_with (first | ((with_reducible refine gate_load (t := 26) rfl ?_); refine wpList_load_row rfl 26 _ rfl _ rfl 26 ?lcs (0, 0) _ ?lb Try.underlying26 rfl ?li ?_; (case lb => (with_reducible repeat (first | refine blk_drewN ?_ _ | refine blk_drew ?_ | refine blk_alloc ?_ _)); exact Aside0.out (by assumption)); (case li => exact info26)) | ((with_reducible refine gate_dst (N := 39) rfl ?_); (try (refine gate_guard (by rfl) ?_; dsimp only)); refine Kd.R_lit (Kd.int .u8) _ 5 ?hg (N := 39) ?hd (xs := ([(a1) % 256, (a1 / 256) % 256] : List Int)) (inner := [.int .u8 ((a1) % 256), .int .u8 ((a1 / 256) % 256)]) (ok := fun _ => True) (okp := fun _ => True) ?hr ?hp (fun _ hk => hk) trivial (Below.refl _ _) (Nat.le_refl _) (by simp) ?_; (case hd => rfl); (case hg => rfl); (case hr => first | (go_simp; done) | (go_simp; rfl)); (case hp => exact (Reps.one (show Kd.M (Kd.int .u8) _ _ _ ((a1) % 256) [.int .u8 ((a1) % 256)] from rfl) (Reps.one (show Kd.M (Kd.int .u8) _ _ _ ((a1 / 256) % 256) [.int .u8 ((a1 / 256) % 256)] from rfl) (Reps.none _ _)))); intro v217 w69 ho70 hb hg_ hnew_; clear hg_ hnew_; (first | rw [← Ny216.out] at ho70 | (simp only [Int.reduceToNat] at ho70; rw [← Ny216.out] at ho70)); have n0_ := Aside0.mk (Kd.R_below (by (with_reducible repeat (first | apply Kd.R_alloc | apply Kd.R_drewN | apply Kd.R_drew)); exact HO_214016.out) hb); have n1_ := Aside0.mk (Kd.R_lower ho70 (below_size (by repeat (first | (with_reducible first | exact HB.out | apply below_alloc | apply pw_below_drewN | apply below_drew1 | refine below_set ?_ GE213.out) | exact HB.out)))); have n2_ := Aside0.mk (blk_below (g := gb213) (o := .cells #[.int .i64 t193, .int .i64 t194, .int .i64 t195, .int .i64 t196, .int .i64 t197, .int .i64 t198, .int .i64 t199, .int .i64 t200, .int .i64 t201, .int .i64 t202, .int .i64 t203, .int .i64 t204, .int .i64 t205, .int .i64 t206, .int .i64 t207, .int .i64 t208, .slice Ao6 t209.length co6] 26 (0, 0)) (by (with_reducible repeat (first | refine blk_drewN ?_ _ | refine blk_drew ?_ | refine blk_alloc ?_ _)); exact BK213.out) hb); have n3_ := Aside0.mk (below_step (by repeat (first | (with_reducible first | exact HB.out | apply below_alloc | apply pw_below_drewN | apply below_drew1 | refine below_set ?_ GE213.out) | exact HB.out)) hb); clear HO_214016; clear BK213; clear HB; have HO_214016 := n0_; have HO218 := n1_; have BK213 := n2_; have HB := n3_; clear n0_ n1_ n2_ n3_; clear hb ho70; have hcv71 := own_string (P := Try.prog) Try.underlying40 Try.underlying5 Try.underlying9 (Kd.own_of_R HO218.out)) | ((with_reducible refine gate_callee (f := 30) rfl ?_); refine goesL_ (some 41) rfl rfl Try.func30 (by kernel_rfl) rfl #[.agg #[.int .i64 t193, .int .i64 t194, .int .i64 t195, .int .i64 t196, .int .i64 t197, .int .i64 t198, .int .i64 t199, .int .i64 t200, .int .i64 t201, .int .i64 t202, .int .i64 t203, .int .i64 t204, .int .i64 t205, .int .i64 t206, .int .i64 t207, .int .i64 t208, .slice Ao6 t209.length co6], .string (strOfNums y216), .int .i64 0] rfl (by (try simp only [List.map_toArray, List.map_cons, List.map_nil]); first | done | rfl | (simp only [List.length_drop, List.length_take]; rfl)) ?_; (with_reducible refine (huff_Next.calls t193 t194 t195 t196 t197 t198 t199 t200 t201 t202 t203 t204 t205 t206 t207 t208 _ _ t209 (strOfNums y216) 0 t219 t220 t221 _ ?side1 ?side2 A12.out).mono ?_); (case side1 => repeat (first | exact (Kd.R_reads' HO_214016.out).2.2 | (with_reducible refine Kd.C_alloc ?_ _) | (with_reducible refine Kd.C_drewN ?_ _) | (with_reducible refine Kd.C_drew ?_))); (case side2 => exact (Kd.R_reads' HO_214016.out).2.1); rintro e w72 ⟨rfl, hb⟩; refine ⟨_, rfl, ?_⟩; have n0_ := Aside0.mk (Kd.R_below (by (with_reducible repeat (first | apply Kd.R_alloc | apply Kd.R_drewN | apply Kd.R_drew)); exact HO_214016.out) hb); have n1_ := Aside0.mk (Kd.R_below (by (with_reducible repeat (first | apply Kd.R_alloc | apply Kd.R_drewN | apply Kd.R_drew)); exact HO218.out) hb); have n2_ := Aside0.mk (blk_below (g := gb213) (o := .cells #[.int .i64 t193, .int .i64 t194, .int .i64 t195, .int .i64 t196, .int .i64 t197, .int .i64 t198, .int .i64 t199, .int .i64 t200, .int .i64 t201, .int .i64 t202, .int .i64 t203, .int .i64 t204, .int .i64 t205, .int .i64 t206, .int .i64 t207, .int .i64 t208, .slice Ao6 t209.length co6] 26 (0, 0)) (by (with_reducible repeat (first | refine blk_drewN ?_ _ | refine blk_drew ?_ | refine blk_alloc ?_ _)); exact BK213.out) hb); have n3_ := Aside0.mk (below_step (by repeat (first | (with_reducible first | exact HB.out | apply below_alloc | apply pw_below_drewN | apply below_drew1 | refine below_set ?_ GE213.out) | exact HB.out)) hb); clear HO_214016; clear HO218; clear BK213; clear HB; have HO_214016 := n0_; have HO218 := n1_; have BK213 := n2_; have HB := n3_; clear n0_ n1_ n2_ n3_; (try clear hb); (try clear hb2); (try clear hk); (try clear hi)))
                  go_ret
                  exact ⟨by first | rfl | (simp [errW_none, errW_some] <;> rfl) | (simp [*, errW_none, errW_some] <;> rfl), by repeat (first | (with_reducible first | exact HB.out | apply below_alloc | apply pw_below_drewN | apply below_drew1 | refine below_set ?_ GE213.out) | exact HB.out)⟩
  · rw [if_neg c4] at H
    have c4b0 : (t212 == 0) = false := beq_eq_false_iff_ne.mpr c4
    have c4b1 : (t212 != 0) = true := bne_iff_ne.mpr c4
    replace H := Option.bind_eq_some_iff.mp H
    obtain ⟨t214, A730, H⟩ := H
    replace H : (some t214) = some r := H
    have A73 := Aside0.mk A730
    clear A730
    first
    | exact absurd (Option.some.inj H) (by rw [hr_.out]; decide)
    | obtain rfl := Option.some.inj H
      as_aux_lemma =>
        go_enter Try.func6, Try.ntmps6
        go_wp2_with (first | ((with_reducible refine gate_load (t := 26) rfl ?_); refine wpList_load_row rfl 26 _ rfl _ rfl 26 ?lcs (0, 0) _ ?lb Try.underlying26 rfl ?li ?_; (case lb => (with_reducible repeat (first | refine blk_drewN ?_ _ | refine blk_drew ?_ | refine blk_alloc ?_ _)); exact Aside0.out (by assumption)); (case li => exact info26)) | ((with_reducible refine gate_callee (f := 26) rfl ?_); refine goesL_ (some 15) rfl rfl Try.func26 (by kernel_rfl) rfl #[.slice A0 l0.length c0] rfl (by (try simp only [List.map_toArray, List.map_cons, List.map_nil]); first | done | rfl | (simp only [List.length_drop, List.length_take]; rfl)) ?_; (with_reducible refine (huff_New.calls _ _ l0 t193 t194 t195 t196 t197 t198 t199 t200 t201 t202 t203 t204 t205 t206 t207 t208 t209 t212 _ ?side1 ?side2 A3.out).mono ?_); (case side1 => repeat (first | exact HR0.out | (with_reducible refine Kd.C_alloc ?_ _) | (with_reducible refine Kd.C_drewN ?_ _) | (with_reducible refine Kd.C_drew ?_))); (case side2 => exact HC0.out); rintro e w74 ⟨v210, rfl, ho0, hb⟩; refine ⟨_, rfl, ?_⟩; have n0_ := Aside0.mk (Kd.R_lower ho0 (below_size (by repeat (first | (with_reducible first | exact HB.out | apply below_alloc | apply pw_below_drewN | apply below_drew1) | exact HB.out)))); have n1_ := Aside0.mk (below_step (by repeat (first | (with_reducible first | exact HB.out | apply below_alloc | apply pw_below_drewN | apply below_drew1) | exact HB.out)) hb); clear HB; have HO211 := n0_; have HB := n1_; clear n0_ n1_; (try clear hb); (try clear hb2); (try clear hk); (try clear hi); (try clear ho0); obtain ⟨Ao75, co75, eo75⟩ := Kd.R_slice HO211.out; subst eo75) | ((with_reducible refine gate_dst (N := 5) rfl ?_); (try (refine gate_guard (by rfl) ?_; dsimp only)); refine box2_event ?hg (N := 5) ?hd (cs0 := #[.int .i64 0, .int .i64 0, .int .i64 0, .int .i64 0, .int .i64 0, .int .i64 0, .int .i64 0, .int .i64 0, .int .i64 0, .int .i64 0, .int .i64 0, .int .i64 0, .int .i64 0, .int .i64 0, .int .i64 0, .int .i64 0, .slice none 0 0]) (cs := #[.int .i64 t193, .int .i64 t194, .int .i64 t195, .int .i64 t196, .int .i64 t197, .int .i64 t198, .int .i64 t199, .int .i64 t200, .int .i64 t201, .int .i64 t202, .int .i64 t203, .int .i64 t204, .int .i64 t205, .int .i64 t206, .int .i64 t207, .int .i64 t208, .slice Ao75 t209.length co75]) (t := 26) (y := (.tmp 16)) ?hr rfl rfl rfl rfl rfl ?hi rfl ?h1 ?_; (case hd => rfl); (case hg => rfl); (case hr => first | (go_simp; done) | (go_simp; rfl)); (case hi => exact info26); (case h1 => first | rfl | (simp [Value.oneCell']; done) | (simp; done)); intro gb213 hg w76 hbox hb; have n0_ := Aside0.mk (Kd.R_below (by (with_reducible repeat (first | apply Kd.R_alloc | apply Kd.R_drewN | apply Kd.R_drew)); exact HO211.out) hb); have n1_ := Aside0.mk (below_step (by repeat (first | (with_reducible first | exact HB.out | apply below_alloc | apply pw_below_drewN | apply below_drew1) | exact HB.out)) hb); have n2_ := Aside0.mk (hbox); have n3_ := Aside0.mk ((by rw [hg]; exact (below_size (by repeat (first | (with_reducible first | exact HB.out | apply below_alloc | apply pw_below_drewN | apply below_drew1) | exact HB.out))) : w.heap.size ≤ gb213)); have n4_ := Aside0.mk ((by rw [hg]; exact (below_size (by repeat (first | (with_reducible first | exact HB.out | apply below_alloc | apply pw_below_drewN | apply below_drew1) | exact HB.out))) : w.heap.size ≤ gb213)); clear HO211; clear HB; have HO211 := n0_; have HB := n1_; have BK213 := n2_; have GW213 := n3_; have GE213 := n4_; clear n0_ n1_ n2_ n3_ n4_; clear hb hbox hg) | ((with_reducible refine gate_callee (f := 25) rfl ?_); refine goesL_ (some 20) rfl rfl Try.func25 (by kernel_rfl) rfl #[] rfl (by (try simp only [List.map_toArray, List.map_cons, List.map_nil]); first | done | rfl | (simp only [List.length_drop, List.length_take]; rfl)) ?_; (with_reducible refine (celluloidlaw04_awake.calls  t214 _ A73.out).mono ?_); rintro e w77 ⟨rfl, hb⟩; refine ⟨_, rfl, ?_⟩; have n0_ := Aside0.mk (Kd.R_below (by (with_reducible repeat (first | apply Kd.R_alloc | apply Kd.R_drewN | apply Kd.R_drew)); exact HO211.out) hb); have n1_ := Aside0.mk (blk_below (g := gb213) (o := .cells #[.int .i64 t193, .int .i64 t194, .int .i64 t195, .int .i64 t196, .int .i64 t197, .int .i64 t198, .int .i64 t199, .int .i64 t200, .int .i64 t201, .int .i64 t202, .int .i64 t203, .int .i64 t204, .int .i64 t205, .int .i64 t206, .int .i64 t207, .int .i64 t208, .slice Ao75 t209.length co75] 26 (0, 0)) (by (with_reducible repeat (first | refine blk_drewN ?_ _ | refine blk_drew ?_ | refine blk_alloc ?_ _)); exact BK213.out) hb); have n2_ := Aside0.mk (below_step (by repeat (first | (with_reducible first | exact HB.out | apply below_alloc | apply pw_below_drewN | apply below_drew1 | refine below_set ?_ GE213.out) | exact HB.out)) hb); clear HO211; clear BK213; clear HB; have HO211 := n0_; have BK213 := n1_; have HB := n2_; clear n0_ n1_ n2_; (try clear hb); (try clear hb2); (try clear hk); (try clear hi)))
        go_ret
        exact ⟨by first | rfl | (simp [errW_none, errW_some] <;> rfl) | (simp [*, errW_none, errW_some] <;> rfl), by repeat (first | (with_reducible first | exact HB.out | apply below_alloc | apply pw_below_drewN | apply below_drew1 | refine below_set ?_ GE213.out) | exact HB.out)⟩
    
/-- THE ONE PURE STATEMENT of celluloidlaw04_HuffFull: yours. -/
def celluloidlaw04_HuffFull.Pure : Prop := ∀ (l0 : List Int) (a1 : Int), l0.length ≤ maxLen → l0.length * 8 ≤ 140737488351232 → (∀ x ∈ l0, (Lit.int .i64 x).wf = true) → (Lit.int .u16 a1).wf = true → ∃ k, celluloidlaw04_HuffFull.f k l0 a1 = some true
theorem celluloidlaw04_HuffFull.walk (P : celluloidlaw04_HuffFull.Pure) (a0 : Option Addr) (len0 cap0 : Nat) (z0 : List Int) (a1 : Int) (w : World) (w0 : (a0 = none ∧ len0 = 0 ∧ cap0 = 0 ∧ z0 = []) ∨ ∃ x, a0 = some x ∧ len0 ≤ cap0 ∧ cap0 ≤ maxLen ∧ z0.length = cap0 ∧ (∀ i, i < z0.length → w.cell? (x.add i) = some (.int .i64 (z0.getD i 0))) ∧ ∀ n ∈ z0, (Lit.int .i64 n).wf = true) (y0 : len0 * 8 ≤ 140737488351232) (w1 : (Lit.int .u16 a1).wf = true) :
    Calls Try.prog 6 #[.slice a0 len0 cap0, .int .u16 a1] w fun e w' => e = .returned (.bool true) ∧ Below w.heap.size w w' := by
  obtain ⟨l0, rfl, hr0, hm0, hw0, hc0⟩ := ReadsInt.ofRowC w0
  obtain ⟨k, h⟩ := P l0 a1 hm0 y0 hw0 w1
  refine (celluloidlaw04_HuffFull.calls k _ _ l0 a1 true w (Kd.C_of_reads (d := (0 : Int)) (h1 := fun _ => rfl) hr0) hc0 h ⟨rfl⟩).mono ?_
  rintro e w' ⟨rfl, hd⟩
  exact ⟨rfl, hd⟩

/-! ### huff_Bits: function 32 -/
mutual
def huff_Bits.j0 : Nat → ByteArray → Int → Int → Bool → Option (Int × Int × Int)
  | 0, _, _, _, _ => none
  | k + 1, x0, x1, x2, x13 => if x13 = true then (some (0, 0, 1)) else (if x1 > (wrap64 ((wrap64 (8 * (x0.size : Int))) - x2)) then (some (0, 0, 2)) else (huff_Bits.l0 k x0 x1 x2 0 x2 0))
def huff_Bits.l0 : Nat → ByteArray → Int → Int → Int → Int → Int → Option (Int × Int × Int)
  | 0, _, _, _, _, _, _ => none
  | k + 1, x0, x1, x2, x9, x32, x33 => if x33 < x32 then ((huff_Bit.f x0 (wrap64 (x1 + x33))).bind fun bt226 => (if 0 ≤ x33 then (huff_Bits.l0 k x0 x1 x2 (Go.bits .or .i64 x9 (shl .i64 bt226.1 x33)) x32 (wrap64 (x33 + 1))) else (none))) else (some (x9, wrap64 (x1 + x2), 0))
end
def huff_Bits.f (k : Nat) (a0 : ByteArray) (a1 : Int) (a2 : Int) : Option (Int × Int × Int) := if a1 < 0 then (huff_Bits.j0 k a0 a1 a2 true) else (if a2 < 0 then (huff_Bits.j0 k a0 a1 a2 true) else (huff_Bits.j0 k a0 a1 a2 (decide (a2 > 16))))
theorem huff_Bits.mono_l : ∀ k, (∀ y0 y1 y2 y3, LeO (huff_Bits.j0 k y0 y1 y2 y3) (huff_Bits.j0 (k + 1) y0 y1 y2 y3)) ∧ (∀ y0 y1 y2 y3 y4 y5, LeO (huff_Bits.l0 k y0 y1 y2 y3 y4 y5) (huff_Bits.l0 (k + 1) y0 y1 y2 y3 y4 y5))
  | 0 => ⟨fun _ _ _ _ r h => by simp [huff_Bits.j0] at h, fun _ _ _ _ _ _ r h => by simp [huff_Bits.l0] at h⟩
  | k + 1 => by
    obtain ⟨ih0, ih1⟩ := huff_Bits.mono_l k
    refine ⟨?_, ?_⟩
    · intro y0 y1 y2 y3
      unfold huff_Bits.j0
      repeat' first
      | (with_reducible exact ih0 _ _ _ _)
      | (with_reducible exact ih1 _ _ _ _ _ _)
      | (with_reducible exact LeO.refl _)
      | (with_reducible exact LeO.none _)
      | (with_reducible refine LeO.ite ?_ ?_)
      | (with_reducible refine LeO.bind ?_ (fun _ => ?_))
      | exact ih0 _ _ _ _
      | exact ih1 _ _ _ _ _ _
      | exact LeO.none _
      | refine LeO.ite ?_ ?_
      | refine LeO.bind ?_ (fun _ => ?_)
    · intro y0 y1 y2 y3 y4 y5
      unfold huff_Bits.l0
      repeat' first
      | (with_reducible exact ih0 _ _ _ _)
      | (with_reducible exact ih1 _ _ _ _ _ _)
      | (with_reducible exact LeO.refl _)
      | (with_reducible exact LeO.none _)
      | (with_reducible refine LeO.ite ?_ ?_)
      | (with_reducible refine LeO.bind ?_ (fun _ => ?_))
      | exact ih0 _ _ _ _
      | exact ih1 _ _ _ _ _ _
      | exact LeO.none _
      | refine LeO.ite ?_ ?_
      | refine LeO.bind ?_ (fun _ => ?_)
theorem huff_Bits.mono : ∀ a0 a1 a2 k, LeO (huff_Bits.f k a0 a1 a2) (huff_Bits.f (k + 1) a0 a1 a2) := by
  intro a0 a1 a2 k
  obtain ⟨ih0, ih1⟩ := huff_Bits.mono_l k
  unfold huff_Bits.f
  repeat' first
      | (with_reducible exact ih0 _ _ _ _)
      | (with_reducible exact ih1 _ _ _ _ _ _)
      | (with_reducible exact LeO.refl _)
      | (with_reducible exact LeO.none _)
      | (with_reducible refine LeO.ite ?_ ?_)
      | (with_reducible refine LeO.bind ?_ (fun _ => ?_))
      | exact ih0 _ _ _ _
      | exact ih1 _ _ _ _ _ _
      | exact LeO.none _
      | refine LeO.ite ?_ ?_
      | refine LeO.bind ?_ (fun _ => ?_)
set_option maxHeartbeats 8000000 in
set_option maxRecDepth 100000 in
theorem huff_Bits.calls (k : Nat) (a0 : ByteArray) (a1 : Int) (a2 : Int) (r1 : Int) (r2 : Int) (r3 : Int) (w : World) (h : huff_Bits.f k a0 a1 a2 = some (r1, r2, r3)) :
    Calls Try.prog 32 #[.string a0, .int .i64 a1, .int .i64 a2] w fun e w' => e = .returned (.tuple #[.int .i64 r1, .int .i64 r2, .int .i64 r3]) ∧ Drawn0 w w' := by
  have H : (if a1 < 0 then (huff_Bits.j0 k a0 a1 a2 true) else (if a2 < 0 then (huff_Bits.j0 k a0 a1 a2 true) else (huff_Bits.j0 k a0 a1 a2 (decide (a2 > 16))))) = some (r1, r2, r3) := h
  clear h
  have HC4 := Aside0.mk H
  clear H
  go_enter Try.func32, Try.ntmps32
  go_upto_region 1 with (fail)
  go_cut [13] (fun v13 wc => ∃ (kq : Nat) (x13_3 : Bool), v13 = .bool x13_3 ∧ Aside0 (huff_Bits.j0 kq a0 a1 a2 x13_3 = some (r1, r2, r3)) ∧ Aside0 (kq ≤ k) ∧ Drawn0 w wc)
  case first =>
    have H := HC4.out
    clear HC4
    by_cases c5 : a1 < 0
    · rw [if_pos c5] at H
      have c5b0 : decide (a1 < 0) = true := decide_eq_true c5
      clear c5
      (first | rw [c5b0] | (simp only [i64_w, i32_w]; rw [c5b0]) | skip)
      have H' := Aside0.mk H
      clear H
      go_wp2
      go_meet
      case rel => exact ⟨_, (true), (by first | rfl | (simp; done) | (simp [*]; done)), H', ⟨by first | omega | exact Nat.le_refl _⟩, by repeat (first | exact Drawn0.refl _ | apply Drawn0.step)⟩
    · rw [if_neg c5] at H
      have c5b0 : decide (a1 < 0) = false := decide_eq_false c5
      clear c5
      (first | rw [c5b0] | (simp only [i64_w, i32_w]; rw [c5b0]) | skip)
      by_cases c6 : a2 < 0
      · rw [if_pos c6] at H
        have c6b0 : decide (a2 < 0) = true := decide_eq_true c6
        clear c6
        have H' := Aside0.mk H
        clear H
        go_wp2
        go_meet
        case rel => exact ⟨_, (true), (by first | rfl | (simp; done) | (simp [*]; done)), H', ⟨by first | omega | exact Nat.le_refl _⟩, by repeat (first | exact Drawn0.refl _ | apply Drawn0.step)⟩
      · rw [if_neg c6] at H
        have c6b0 : decide (a2 < 0) = false := decide_eq_false c6
        clear c6
        have H' := Aside0.mk H
        clear H
        go_wp2
        go_meet
        case rel => exact ⟨_, (decide (a2 > 16)), (by first | rfl | (simp; done) | (simp [*]; done)), H', ⟨by first | omega | exact Nat.le_refl _⟩, by repeat (first | exact Drawn0.refl _ | apply Drawn0.step)⟩
  case rest =>
    clear HC4
    try clear p2
    try clear c3
    try clear c5
    try clear c5b0
    try clear c6
    try clear c6b0
    obtain ⟨kq, x13_3, rfl, HA, HJ3, ⟨mc3, rfl⟩⟩ := hcut
    cases kq with
    | zero => exact absurd HA.out (by simp [huff_Bits.j0])
    | succ kj3 =>
      have H := HA.out
      clear HA
      simp only [huff_Bits.j0] at H
      by_cases c7 : x13_3 = true
      · subst c7
        have H1 : (some (0, 0, 1)) = some (r1, r2, r3) := by rw [if_pos rfl] at H; exact H
        clear H
        have H := H1
        clear H1
        simp only [Option.some.injEq, Prod.mk.injEq] at H
        obtain ⟨rfl, rfl, rfl⟩ := H
        go_wp2
        go_ret3
        exact ⟨by first | rfl | (simp; done) | (simp [*]; done), by repeat (first | exact Drawn0.refl _ | apply Drawn0.step)⟩
      · replace c7 := Bool.eq_false_iff.mpr c7
        subst c7
        have H1 : (if a1 > (wrap64 ((wrap64 (8 * (a0.size : Int))) - a2)) then (some (0, 0, 2)) else (huff_Bits.l0 kj3 a0 a1 a2 0 a2 0)) = some (r1, r2, r3) := by rw [if_neg (show ¬ (false = true) by decide)] at H; exact H
        clear H
        have H := H1
        clear H1
        by_cases c8 : a1 > (wrap64 ((wrap64 (8 * (a0.size : Int))) - a2))
        · rw [if_pos c8] at H
          have c8b0 : decide ((wrap64 ((wrap64 (8 * (a0.size : Int))) - a2)) < a1) = true := decide_eq_true c8
          clear c8
          simp only [Option.some.injEq, Prod.mk.injEq] at H
          obtain ⟨rfl, rfl, rfl⟩ := H
          go_wp2
          go_ret3
          exact ⟨by first | rfl | (simp; done) | (simp [*]; done), by repeat (first | exact Drawn0.refl _ | apply Drawn0.step)⟩
        · rw [if_neg c8] at H
          have c8b0 : decide ((wrap64 ((wrap64 (8 * (a0.size : Int))) - a2)) < a1) = false := decide_eq_false c8
          clear c8
          have H' := Aside0.mk H
          clear H
          go_wp2
          go_loopg [9, 33] kj3 (fun kq v9 v33 w' => ∃ (x9_2 : Int) (x33_2 : Int), v9 = .int .i64 x9_2 ∧ v33 = .int .i64 x33_2 ∧ Aside0 (huff_Bits.l0 kq a0 a1 a2 x9_2 a2 x33_2 = some (r1, r2, r3)) ∧ Aside0 (kq ≤ kj3) ∧ Drawn0 w w')
          case atStart => exact ⟨(0), (0), (by first | rfl | (simp; done) | (simp [*]; done)), (by first | rfl | (simp; done) | (simp [*]; done)), H', ⟨Nat.le_refl _⟩, by repeat (first | exact Drawn0.refl _ | apply Drawn0.step)⟩
          case round =>
            clear H'
            try clear p2
            try clear c3
            try clear c5
            try clear c5b0
            try clear c6
            try clear c6b0
            try clear p6
            try clear c7
            try clear c8
            try clear c8b0
            try clear p2
            obtain ⟨x9_2, x33_2, rfl, rfl, HA, HK2, ⟨m2, rfl⟩⟩ := hrel
            cases gk with
            | zero => exact absurd HA.out (by simp [huff_Bits.l0])
            | succ k2 =>
              have H := HA.out
              clear HA
              simp only [huff_Bits.l0] at H
              by_cases c9 : x33_2 < a2
              · rw [if_pos c9] at H
                have c9b0 : decide (x33_2 < a2) = true := decide_eq_true c9
                clear c9
                replace H := Option.bind_eq_some_iff.mp H
                obtain ⟨⟨t226, t227⟩, A100, H⟩ := H
                replace H : (if 0 ≤ x33_2 then (huff_Bits.l0 k2 a0 a1 a2 (Go.bits .or .i64 x9_2 (shl .i64 t226 x33_2)) a2 (wrap64 (x33_2 + 1))) else (none)) = some (r1, r2, r3) := H
                have A10 := Aside0.mk A100
                clear A100
                by_cases c11 : 0 ≤ x33_2
                · rw [if_pos c11] at H
                  have c11b0 := eq_true c11
                  have c11b1 : decide (0 ≤ x33_2) = true := decide_eq_true c11
                  clear c11
                  obtain ⟨ji12, hji12⟩ : ∃ j_ : Int, (shl .i64 t226 x33_2) = j_ := ⟨_, rfl⟩
                  replace H : (huff_Bits.l0 k2 a0 a1 a2 (Go.bits .or .i64 x9_2 (ji12)) a2 (wrap64 (x33_2 + 1))) = some (r1, r2, r3) := by first | (rw [hji12] at H; exact H) | (simp only [hji12] at H ⊢; exact H)
                  (try rw [hji12] at A10)
                  have hji12_ : (IntKind.i64.wrap (t226 * 2 ^ min x33_2.toNat 64)) = ji12 := hji12
                  have hji12z : x33_2 ≤ 64 → (IntKind.i64.wrap (t226 * 2 ^ x33_2.toNat)) = ji12 := shl_small hji12
                  have hji12y : (wrap64 (t226 * 2 ^ min x33_2.toNat 64)) = ji12 := (i64_w _).symm.trans hji12_
                  have hji12x : x33_2 ≤ 64 → (wrap64 (t226 * 2 ^ x33_2.toNat)) = ji12 := fun h_ => (i64_w _).symm.trans (hji12z h_)
                  have H' := Aside0.mk H
                  clear H
                  go_wp2_with (first | ((with_reducible refine gate_callee (f := 34) rfl ?_); refine goesL_ (some 41) rfl rfl Try.func34 (by kernel_rfl) rfl #[.string a0, .int .i64 (wrap64 (a1 + x33_2))] rfl (by (try simp only [List.map_toArray, List.map_cons, List.map_nil]); first | done | rfl | (simp only [List.length_drop, List.length_take]; rfl)) ?_; (with_reducible refine (huff_Bit.calls a0 (wrap64 (a1 + x33_2)) t226 t227 _ A10.out).mono ?_); rintro e w' ⟨rfl, ⟨nd, rfl⟩⟩; refine ⟨_, rfl, ?_⟩))
                  go_roundg k2
                  case measure => have := HJ3.out; have := HK2.out; omega
                  case rel => exact ⟨(Go.bits .or .i64 x9_2 (ji12)), (wrap64 (x33_2 + 1)), (by first | rfl | (simp; done) | (simp only [← hji12] <;> (first | rfl | simp)) | (simp [*]; done)), (by first | rfl | (simp; done) | (simp [*]; done)), H', ⟨by have := HJ3.out; have := HK2.out; omega⟩, by repeat (first | exact Drawn0.refl _ | apply Drawn0.step)⟩
                · rw [if_neg c11] at H
                  exact absurd H (by simp)
              · rw [if_neg c9] at H
                have c9b0 : decide (x33_2 < a2) = false := decide_eq_false c9
                clear c9
                simp only [Option.some.injEq, Prod.mk.injEq] at H
                obtain ⟨rfl, rfl, rfl⟩ := H
                go_wp2
                go_ret3
                exact ⟨by first | rfl | (simp; done) | (simp [*]; done), by repeat (first | exact Drawn0.refl _ | apply Drawn0.step)⟩

end Go.Proofs.Ytpbhkdamkbopkaa.GHuff
