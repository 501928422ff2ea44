-- Written by a program of this session (wip/tools/print2.py) for this claim.
import Derived.Test.YtpbhkdamkbopkaaGBackx0
import Derived.Test.YtpbhkdamkbopkaaGBackx1
namespace Go.Proofs.Ytpbhkdamkbopkaa.GBack
open Go.RowKit Go.Proofs.YtpbhkdamkbopkaaW.PrintWords Go.Proofs.YtpbhkdamkbopkaaW.PrintLast Go.Proofs.YtpbhkdamkbopkaaW.PrintMore Go.Proofs.Ytpbhkdamkbopkaa.Ext Go.Proofs.Ytpbhkdamkbopkaa.ExtAwake
attribute [local go_sem] max2_int min2_int max_two min_two max_three min_three max_four min_four   -- for this text's walks alone
set_option linter.unusedVariables false
set_option linter.unusedSimpArgs false

set_option maxHeartbeats 8000000 in
set_option maxRecDepth 100000 in
theorem celluloidlaw04_HuffBack.calls (k : Nat) (A0 : Option Addr) (c0 : Nat) (l0 : List Int) (a1 : Int) (a2 : ByteArray) (r : Bool) (w : World) (hr0 : Kd.C (Kd.int .i64) w A0 l0.length l0) (hc0 : l0.length ≤ c0) (h : celluloidlaw04_HuffBack.f k l0 a1 a2 = some r) (hr_ : Aside0 (r = true)) :
    Calls Try.prog 5 #[.slice A0 l0.length c0, .int .i64 a1, .string a2] w fun e w' => e = .returned (.bool r) ∧ Below w.heap.size w w' := by
  have hu26 := Try.underlying26
  have HR0 := Aside0.mk hr0
  have HC0 := Aside0.mk hc0
  clear hr0 hc0
  have HB := Aside0.mk (Below.refl w.heap.size w)
  have H : ((huff_New.f l0).bind fun bt101 => ((huff_Codes.f l0).bind fun bt122 => (if bt101.2.2.2.2.2.2.2.2.2.2.2.2.2.2.2.2.2 = 0 then (if bt122.2 = 0 then (if a1 < 0 then (celluloidlaw04_HuffBack.j0 k l0 a1 a2 bt101.2.2.2.2.2.2.2.2.2.2.2.2.2.2.2.2.2 bt122.1 true bt101.1 bt101.2.1 bt101.2.2.1 bt101.2.2.2.1 bt101.2.2.2.2.1 bt101.2.2.2.2.2.1 bt101.2.2.2.2.2.2.1 bt101.2.2.2.2.2.2.2.1 bt101.2.2.2.2.2.2.2.2.1 bt101.2.2.2.2.2.2.2.2.2.1 bt101.2.2.2.2.2.2.2.2.2.2.1 bt101.2.2.2.2.2.2.2.2.2.2.2.1 bt101.2.2.2.2.2.2.2.2.2.2.2.2.1 bt101.2.2.2.2.2.2.2.2.2.2.2.2.2.1 bt101.2.2.2.2.2.2.2.2.2.2.2.2.2.2.1 bt101.2.2.2.2.2.2.2.2.2.2.2.2.2.2.2.1 bt101.2.2.2.2.2.2.2.2.2.2.2.2.2.2.2.2.1) else (if a1 ≥ (l0.length : Int) then (celluloidlaw04_HuffBack.j0 k l0 a1 a2 bt101.2.2.2.2.2.2.2.2.2.2.2.2.2.2.2.2.2 bt122.1 true bt101.1 bt101.2.1 bt101.2.2.1 bt101.2.2.2.1 bt101.2.2.2.2.1 bt101.2.2.2.2.2.1 bt101.2.2.2.2.2.2.1 bt101.2.2.2.2.2.2.2.1 bt101.2.2.2.2.2.2.2.2.1 bt101.2.2.2.2.2.2.2.2.2.1 bt101.2.2.2.2.2.2.2.2.2.2.1 bt101.2.2.2.2.2.2.2.2.2.2.2.1 bt101.2.2.2.2.2.2.2.2.2.2.2.2.1 bt101.2.2.2.2.2.2.2.2.2.2.2.2.2.1 bt101.2.2.2.2.2.2.2.2.2.2.2.2.2.2.1 bt101.2.2.2.2.2.2.2.2.2.2.2.2.2.2.2.1 bt101.2.2.2.2.2.2.2.2.2.2.2.2.2.2.2.2.1) else (if (bt122.1.length : Int) = (l0.length : Int) then (celluloidlaw04_HuffBack.j0 k l0 a1 a2 bt101.2.2.2.2.2.2.2.2.2.2.2.2.2.2.2.2.2 bt122.1 (decide ((a2.size : Int) > 100)) bt101.1 bt101.2.1 bt101.2.2.1 bt101.2.2.2.1 bt101.2.2.2.2.1 bt101.2.2.2.2.2.1 bt101.2.2.2.2.2.2.1 bt101.2.2.2.2.2.2.2.1 bt101.2.2.2.2.2.2.2.2.1 bt101.2.2.2.2.2.2.2.2.2.1 bt101.2.2.2.2.2.2.2.2.2.2.1 bt101.2.2.2.2.2.2.2.2.2.2.2.1 bt101.2.2.2.2.2.2.2.2.2.2.2.2.1 bt101.2.2.2.2.2.2.2.2.2.2.2.2.2.1 bt101.2.2.2.2.2.2.2.2.2.2.2.2.2.2.1 bt101.2.2.2.2.2.2.2.2.2.2.2.2.2.2.2.1 bt101.2.2.2.2.2.2.2.2.2.2.2.2.2.2.2.2.1) else (celluloidlaw04_HuffBack.j0 k l0 a1 a2 bt101.2.2.2.2.2.2.2.2.2.2.2.2.2.2.2.2.2 bt122.1 true bt101.1 bt101.2.1 bt101.2.2.1 bt101.2.2.2.1 bt101.2.2.2.2.1 bt101.2.2.2.2.2.1 bt101.2.2.2.2.2.2.1 bt101.2.2.2.2.2.2.2.1 bt101.2.2.2.2.2.2.2.2.1 bt101.2.2.2.2.2.2.2.2.2.1 bt101.2.2.2.2.2.2.2.2.2.2.1 bt101.2.2.2.2.2.2.2.2.2.2.2.1 bt101.2.2.2.2.2.2.2.2.2.2.2.2.1 bt101.2.2.2.2.2.2.2.2.2.2.2.2.2.1 bt101.2.2.2.2.2.2.2.2.2.2.2.2.2.2.1 bt101.2.2.2.2.2.2.2.2.2.2.2.2.2.2.2.1 bt101.2.2.2.2.2.2.2.2.2.2.2.2.2.2.2.2.1)))) else (celluloidlaw04_HuffBack.j0 k l0 a1 a2 bt101.2.2.2.2.2.2.2.2.2.2.2.2.2.2.2.2.2 bt122.1 true bt101.1 bt101.2.1 bt101.2.2.1 bt101.2.2.2.1 bt101.2.2.2.2.1 bt101.2.2.2.2.2.1 bt101.2.2.2.2.2.2.1 bt101.2.2.2.2.2.2.2.1 bt101.2.2.2.2.2.2.2.2.1 bt101.2.2.2.2.2.2.2.2.2.1 bt101.2.2.2.2.2.2.2.2.2.2.1 bt101.2.2.2.2.2.2.2.2.2.2.2.1 bt101.2.2.2.2.2.2.2.2.2.2.2.2.1 bt101.2.2.2.2.2.2.2.2.2.2.2.2.2.1 bt101.2.2.2.2.2.2.2.2.2.2.2.2.2.2.1 bt101.2.2.2.2.2.2.2.2.2.2.2.2.2.2.2.1 bt101.2.2.2.2.2.2.2.2.2.2.2.2.2.2.2.2.1)) else (celluloidlaw04_HuffBack.j0 k l0 a1 a2 bt101.2.2.2.2.2.2.2.2.2.2.2.2.2.2.2.2.2 bt122.1 true bt101.1 bt101.2.1 bt101.2.2.1 bt101.2.2.2.1 bt101.2.2.2.2.1 bt101.2.2.2.2.2.1 bt101.2.2.2.2.2.2.1 bt101.2.2.2.2.2.2.2.1 bt101.2.2.2.2.2.2.2.2.1 bt101.2.2.2.2.2.2.2.2.2.1 bt101.2.2.2.2.2.2.2.2.2.2.1 bt101.2.2.2.2.2.2.2.2.2.2.2.1 bt101.2.2.2.2.2.2.2.2.2.2.2.2.1 bt101.2.2.2.2.2.2.2.2.2.2.2.2.2.1 bt101.2.2.2.2.2.2.2.2.2.2.2.2.2.2.1 bt101.2.2.2.2.2.2.2.2.2.2.2.2.2.2.2.1 bt101.2.2.2.2.2.2.2.2.2.2.2.2.2.2.2.2.1)))) = some r := h
  clear h
  replace H := Option.bind_eq_some_iff.mp H
  obtain ⟨⟨t101, t102, t103, t104, t105, t106, t107, t108, t109, t110, t111, t112, t113, t114, t115, t116, t117, t120⟩, A40, H⟩ := H
  replace H : ((huff_Codes.f l0).bind fun bt122 => (if t120 = 0 then (if bt122.2 = 0 then (if a1 < 0 then (celluloidlaw04_HuffBack.j0 k l0 a1 a2 t120 bt122.1 true t101 t102 t103 t104 t105 t106 t107 t108 t109 t110 t111 t112 t113 t114 t115 t116 t117) else (if a1 ≥ (l0.length : Int) then (celluloidlaw04_HuffBack.j0 k l0 a1 a2 t120 bt122.1 true t101 t102 t103 t104 t105 t106 t107 t108 t109 t110 t111 t112 t113 t114 t115 t116 t117) else (if (bt122.1.length : Int) = (l0.length : Int) then (celluloidlaw04_HuffBack.j0 k l0 a1 a2 t120 bt122.1 (decide ((a2.size : Int) > 100)) t101 t102 t103 t104 t105 t106 t107 t108 t109 t110 t111 t112 t113 t114 t115 t116 t117) else (celluloidlaw04_HuffBack.j0 k l0 a1 a2 t120 bt122.1 true t101 t102 t103 t104 t105 t106 t107 t108 t109 t110 t111 t112 t113 t114 t115 t116 t117)))) else (celluloidlaw04_HuffBack.j0 k l0 a1 a2 t120 bt122.1 true t101 t102 t103 t104 t105 t106 t107 t108 t109 t110 t111 t112 t113 t114 t115 t116 t117)) else (celluloidlaw04_HuffBack.j0 k l0 a1 a2 t120 bt122.1 true t101 t102 t103 t104 t105 t106 t107 t108 t109 t110 t111 t112 t113 t114 t115 t116 t117))) = some r := H
  have A4 := Aside0.mk A40
  clear A40
  replace H := Option.bind_eq_some_iff.mp H
  obtain ⟨⟨t122, t123⟩, A50, H⟩ := H
  replace H : (if t120 = 0 then (if t123 = 0 then (if a1 < 0 then (celluloidlaw04_HuffBack.j0 k l0 a1 a2 t120 t122 true t101 t102 t103 t104 t105 t106 t107 t108 t109 t110 t111 t112 t113 t114 t115 t116 t117) else (if a1 ≥ (l0.length : Int) then (celluloidlaw04_HuffBack.j0 k l0 a1 a2 t120 t122 true t101 t102 t103 t104 t105 t106 t107 t108 t109 t110 t111 t112 t113 t114 t115 t116 t117) else (if (t122.length : Int) = (l0.length : Int) then (celluloidlaw04_HuffBack.j0 k l0 a1 a2 t120 t122 (decide ((a2.size : Int) > 100)) t101 t102 t103 t104 t105 t106 t107 t108 t109 t110 t111 t112 t113 t114 t115 t116 t117) else (celluloidlaw04_HuffBack.j0 k l0 a1 a2 t120 t122 true t101 t102 t103 t104 t105 t106 t107 t108 t109 t110 t111 t112 t113 t114 t115 t116 t117)))) else (celluloidlaw04_HuffBack.j0 k l0 a1 a2 t120 t122 true t101 t102 t103 t104 t105 t106 t107 t108 t109 t110 t111 t112 t113 t114 t115 t116 t117)) else (celluloidlaw04_HuffBack.j0 k l0 a1 a2 t120 t122 true t101 t102 t103 t104 t105 t106 t107 t108 t109 t110 t111 t112 t113 t114 t115 t116 t117)) = some r := H
  have A5 := Aside0.mk A50
  clear A50
  have HC6 := Aside0.mk H
  clear H
  as_aux_lemma =>
    go_enter Try.func5, Try.ntmps5
    go_upto_region 3 with (first | ((with_reducible refine gate_load (t := 26) rfl ?_); refine wpList_load_row rfl 26 _ rfl _ rfl 26 ?lcs (0, 0) _ ?lb Try.underlying26 rfl ?li ?_; (case lb => (with_reducible repeat (first | refine blk_drewN ?_ _ | refine blk_drew ?_ | refine blk_alloc ?_ _)); exact Aside0.out (by assumption)); (case li => exact info26)) | ((with_reducible refine gate_callee (f := 26) rfl ?_); refine goesL_ (some 19) rfl rfl Try.func26 (by kernel_rfl) rfl #[.slice A0 l0.length c0] rfl (by (try simp only [List.map_toArray, List.map_cons, List.map_nil]); first | done | rfl | (simp only [List.length_drop, List.length_take]; rfl)) ?_; (with_reducible refine (huff_New.calls _ _ l0 t101 t102 t103 t104 t105 t106 t107 t108 t109 t110 t111 t112 t113 t114 t115 t116 t117 t120 _ ?side1 ?side2 A4.out).mono ?_); (case side1 => repeat (first | exact HR0.out | (with_reducible refine Kd.C_alloc ?_ _) | (with_reducible refine Kd.C_drewN ?_ _) | (with_reducible refine Kd.C_drew ?_))); (case side2 => exact HC0.out); rintro e w7 ⟨v118, rfl, ho0, hb⟩; refine ⟨_, rfl, ?_⟩; have n0_ := Aside0.mk (Kd.R_lower ho0 (below_size (by repeat (first | (with_reducible first | exact HB.out | apply below_alloc | apply pw_below_drewN | apply below_drew1) | exact HB.out)))); have n1_ := Aside0.mk (below_step (by repeat (first | (with_reducible first | exact HB.out | apply below_alloc | apply pw_below_drewN | apply below_drew1) | exact HB.out)) hb); clear HB; have HO119 := n0_; have HB := n1_; clear n0_ n1_; (try clear hb); (try clear hb2); (try clear hk); (try clear hi); (try clear ho0); obtain ⟨Ao8, co8, eo8⟩ := Kd.R_slice HO119.out; subst eo8) | ((with_reducible refine gate_dst (N := 7) rfl ?_); (try (refine gate_guard (by rfl) ?_; dsimp only)); refine box2_event ?hg (N := 7) ?hd (cs0 := #[.int .i64 0, .int .i64 0, .int .i64 0, .int .i64 0, .int .i64 0, .int .i64 0, .int .i64 0, .int .i64 0, .int .i64 0, .int .i64 0, .int .i64 0, .int .i64 0, .int .i64 0, .int .i64 0, .int .i64 0, .int .i64 0, .slice none 0 0]) (cs := #[.int .i64 t101, .int .i64 t102, .int .i64 t103, .int .i64 t104, .int .i64 t105, .int .i64 t106, .int .i64 t107, .int .i64 t108, .int .i64 t109, .int .i64 t110, .int .i64 t111, .int .i64 t112, .int .i64 t113, .int .i64 t114, .int .i64 t115, .int .i64 t116, .slice Ao8 t117.length co8]) (t := 26) (y := (.tmp 20)) ?hr rfl rfl rfl rfl rfl ?hi rfl ?h1 ?_; (case hd => rfl); (case hg => rfl); (case hr => first | (go_simp; done) | (go_simp; rfl)); (case hi => exact info26); (case h1 => first | rfl | (simp [Value.oneCell']; done) | (simp; done)); intro gb121 hg w9 hbox hb; have n0_ := Aside0.mk (Kd.R_below (by (with_reducible repeat (first | apply Kd.R_alloc | apply Kd.R_drewN | apply Kd.R_drew)); exact HO119.out) hb); have n1_ := Aside0.mk (below_step (by repeat (first | (with_reducible first | exact HB.out | apply below_alloc | apply pw_below_drewN | apply below_drew1) | exact HB.out)) hb); have n2_ := Aside0.mk (hbox); have n3_ := Aside0.mk ((by rw [hg]; exact (below_size (by repeat (first | (with_reducible first | exact HB.out | apply below_alloc | apply pw_below_drewN | apply below_drew1) | exact HB.out))) : w.heap.size ≤ gb121)); have n4_ := Aside0.mk ((by rw [hg]; exact (below_size (by repeat (first | (with_reducible first | exact HB.out | apply below_alloc | apply pw_below_drewN | apply below_drew1) | exact HB.out))) : w.heap.size ≤ gb121)); clear HO119; clear HB; have HO119 := n0_; have HB := n1_; have BK121 := n2_; have GW121 := n3_; have GE121 := n4_; clear n0_ n1_ n2_ n3_ n4_; clear hb hbox hg) | ((with_reducible refine gate_callee (f := 27) rfl ?_); refine goesL_ (some 24) rfl rfl Try.func27 (by kernel_rfl) rfl #[.slice A0 l0.length c0] rfl (by (try simp only [List.map_toArray, List.map_cons, List.map_nil]); first | done | rfl | (simp only [List.length_drop, List.length_take]; rfl)) ?_; (with_reducible refine (huff_Codes.calls _ _ l0 t122 t123 _ ?side1 ?side2 A5.out).mono ?_); (case side1 => repeat (first | exact (Kd.C_below HR0.out HB.out) | (with_reducible refine Kd.C_alloc ?_ _) | (with_reducible refine Kd.C_drewN ?_ _) | (with_reducible refine Kd.C_drew ?_))); (case side2 => exact HC0.out); rintro e w10 ⟨v124, rfl, ho0, hb⟩; refine ⟨_, rfl, ?_⟩; have n0_ := Aside0.mk (Kd.R_elder' (by (with_reducible repeat (first | apply Kd.R_alloc | apply Kd.R_drewN | apply Kd.R_drew)); exact HO119.out) (Kd.R_base ho0) hb); have n1_ := Aside0.mk (Kd.R_lower (Kd.R_new' ho0 (Kd.R_lt (by (with_reducible repeat (first | apply Kd.R_alloc | apply Kd.R_drewN | apply Kd.R_drew)); exact HO119.out))) (below_size (by repeat (first | (with_reducible first | exact HB.out | apply below_alloc | apply pw_below_drewN | apply below_drew1 | refine below_set ?_ GE121.out) | exact HB.out)))); have n2_ := Aside0.mk (blk_below (g := gb121) (o := .cells #[.int .i64 t101, .int .i64 t102, .int .i64 t103, .int .i64 t104, .int .i64 t105, .int .i64 t106, .int .i64 t107, .int .i64 t108, .int .i64 t109, .int .i64 t110, .int .i64 t111, .int .i64 t112, .int .i64 t113, .int .i64 t114, .int .i64 t115, .int .i64 t116, .slice Ao8 t117.length co8] 26 (0, 0)) (by (with_reducible repeat (first | refine blk_drewN ?_ _ | refine blk_drew ?_ | refine blk_alloc ?_ _)); exact BK121.out) hb); have n3_ := Aside0.mk (below_step (by repeat (first | (with_reducible first | exact HB.out | apply below_alloc | apply pw_below_drewN | apply below_drew1 | refine below_set ?_ GE121.out) | exact HB.out)) hb); clear HO119; clear BK121; clear HB; have HO119 := n0_; have HO125 := n1_; have BK121 := n2_; have HB := n3_; clear n0_ n1_ n2_ n3_; (try clear hb); (try clear hb2); (try clear hk); (try clear hi); (try clear ho0)))
    (try simp only [Act.put, List.setIfInBounds_toArray, List.set_cons_zero, List.set_cons_succ])
    go_cut [54] (fun v54 wc => ∃ (kq : Nat) (x54_5 : Bool), v54 = .bool x54_5 ∧ Aside0 (celluloidlaw04_HuffBack.j0 kq l0 a1 a2 t120 t122 x54_5 t101 t102 t103 t104 t105 t106 t107 t108 t109 t110 t111 t112 t113 t114 t115 t116 t117 = some r) ∧ Aside0 (kq ≤ k) ∧ Aside0 (Kd.R (Kd.int .i64) 3 wc w.heap.size (fun k_ => some k_ ≠ ((.slice Ao8 t117.length co8) : Value).ownBlock) v124 t122) ∧ Aside0 (Kd.R (Kd.int .i64) 3 wc w.heap.size (fun k_ => some k_ ≠ (v124 : Value).ownBlock) (.slice Ao8 t117.length co8) t117) ∧ Aside0 (wc.heap[gb121]? = some (.cells #[.int .i64 t101, .int .i64 t102, .int .i64 t103, .int .i64 t104, .int .i64 t105, .int .i64 t106, .int .i64 t107, .int .i64 t108, .int .i64 t109, .int .i64 t110, .int .i64 t111, .int .i64 t112, .int .i64 t113, .int .i64 t114, .int .i64 t115, .int .i64 t116, (.slice Ao8 t117.length co8)] 26 (0, 0))) ∧ Aside0 (Below w.heap.size w wc))
    case first =>
      as_aux_lemma =>
        have H := HC6.out
        clear HC6
        by_cases c11 : t120 = 0
        · rw [if_pos c11] at H
          have c11b0 : (t120 == 0) = true := beq_iff_eq.mpr c11
          have c11b1 : (t120 != 0) = false := bne_eq_false_iff_eq.mpr c11
          clear c11
          (first | rw [c11b0] | (simp only [i64_w, i32_w]; rw [c11b0]) | skip)
          by_cases c12 : t123 = 0
          · rw [if_pos c12] at H
            have c12b0 : (t123 == 0) = true := beq_iff_eq.mpr c12
            have c12b1 : (t123 != 0) = false := bne_eq_false_iff_eq.mpr c12
            clear c12
            by_cases c13 : a1 < 0
            · rw [if_pos c13] at H
              have c13b0 : decide (a1 < 0) = true := decide_eq_true c13
              clear c13
              have H' := Aside0.mk H
              clear H
              go_wp2_with ((with_reducible refine gate_load (t := 26) rfl ?_); refine wpList_load_row rfl 26 _ rfl _ rfl 26 ?lcs (0, 0) _ ?lb Try.underlying26 rfl ?li ?_; (case lb => (with_reducible repeat (first | refine blk_drewN ?_ _ | refine blk_drew ?_ | refine blk_alloc ?_ _)); exact Aside0.out (by assumption)); (case li => exact info26))
              go_meet
              case rel => exact ⟨_, (true), (by first | rfl | (simp; done) | (simp [*]; done)), H', ⟨by first | omega | exact Nat.le_refl _⟩, ⟨by (with_reducible repeat (first | apply Kd.R_alloc | apply Kd.R_drewN | apply Kd.R_drew)); exact Kd.R_mono HO125.out (fun _ hk => hk.2)⟩, ⟨by (with_reducible repeat (first | apply Kd.R_alloc | apply Kd.R_drewN | apply Kd.R_drew)); exact Kd.R_mono HO119.out (fun _ hk => hk.2)⟩, ⟨by (with_reducible repeat (first | refine blk_drewN ?_ _ | refine blk_drew ?_ | refine blk_alloc ?_ _)); exact BK121.out⟩, ⟨by repeat (first | (with_reducible first | exact HB.out | apply below_alloc | apply pw_below_drewN | apply below_drew1 | refine below_set ?_ GE121.out) | exact HB.out)⟩⟩
            · rw [if_neg c13] at H
              have c13b0 : decide (a1 < 0) = false := decide_eq_false c13
              clear c13
              by_cases c14 : a1 ≥ (l0.length : Int)
              · rw [if_pos c14] at H
                have c14b0 : decide ((l0.length : Int) ≤ a1) = true := decide_eq_true c14
                clear c14
                have H' := Aside0.mk H
                clear H
                go_wp2_with ((with_reducible refine gate_load (t := 26) rfl ?_); refine wpList_load_row rfl 26 _ rfl _ rfl 26 ?lcs (0, 0) _ ?lb Try.underlying26 rfl ?li ?_; (case lb => (with_reducible repeat (first | refine blk_drewN ?_ _ | refine blk_drew ?_ | refine blk_alloc ?_ _)); exact Aside0.out (by assumption)); (case li => exact info26))
                go_meet
                case rel => exact ⟨_, (true), (by first | rfl | (simp; done) | (simp [*]; done)), H', ⟨by first | omega | exact Nat.le_refl _⟩, ⟨by (with_reducible repeat (first | apply Kd.R_alloc | apply Kd.R_drewN | apply Kd.R_drew)); exact Kd.R_mono HO125.out (fun _ hk => hk.2)⟩, ⟨by (with_reducible repeat (first | apply Kd.R_alloc | apply Kd.R_drewN | apply Kd.R_drew)); exact Kd.R_mono HO119.out (fun _ hk => hk.2)⟩, ⟨by (with_reducible repeat (first | refine blk_drewN ?_ _ | refine blk_drew ?_ | refine blk_alloc ?_ _)); exact BK121.out⟩, ⟨by repeat (first | (with_reducible first | exact HB.out | apply below_alloc | apply pw_below_drewN | apply below_drew1 | refine below_set ?_ GE121.out) | exact HB.out)⟩⟩
              · rw [if_neg c14] at H
                have c14b0 : decide ((l0.length : Int) ≤ a1) = false := decide_eq_false c14
                clear c14
                by_cases c15 : (t122.length : Int) = (l0.length : Int)
                · rw [if_pos c15] at H
                  have c15b0 : ((t122.length : Int) == (l0.length : Int)) = true := beq_iff_eq.mpr c15
                  have c15b1 : ((t122.length : Int) != (l0.length : Int)) = false := bne_eq_false_iff_eq.mpr c15
                  have c15b2 : (t122.length == l0.length) = true := by first | simpa using c15 | (simp at c15 ⊢; omega)
                  clear c15
                  have H' := Aside0.mk H
                  clear H
                  obtain ⟨Ao16, co16, eo16⟩ := Kd.R_slice HO125.out
                  subst eo16
                  go_wp2_with ((with_reducible refine gate_load (t := 26) rfl ?_); refine wpList_load_row rfl 26 _ rfl _ rfl 26 ?lcs (0, 0) _ ?lb Try.underlying26 rfl ?li ?_; (case lb => (with_reducible repeat (first | refine blk_drewN ?_ _ | refine blk_drew ?_ | refine blk_alloc ?_ _)); exact Aside0.out (by assumption)); (case li => exact info26))
                  go_meet
                  case rel => exact ⟨_, (decide ((a2.size : Int) > 100)), (by first | rfl | (simp; done) | (simp [*]; done)), H', ⟨by first | omega | exact Nat.le_refl _⟩, ⟨by (with_reducible repeat (first | apply Kd.R_alloc | apply Kd.R_drewN | apply Kd.R_drew)); exact Kd.R_mono HO125.out (fun _ hk => hk.2)⟩, ⟨by (with_reducible repeat (first | apply Kd.R_alloc | apply Kd.R_drewN | apply Kd.R_drew)); exact Kd.R_mono HO119.out (fun _ hk => hk.2)⟩, ⟨by (with_reducible repeat (first | refine blk_drewN ?_ _ | refine blk_drew ?_ | refine blk_alloc ?_ _)); exact BK121.out⟩, ⟨by repeat (first | (with_reducible first | exact HB.out | apply below_alloc | apply pw_below_drewN | apply below_drew1 | refine below_set ?_ GE121.out) | exact HB.out)⟩⟩
                · rw [if_neg c15] at H
                  have c15b0 : ((t122.length : Int) == (l0.length : Int)) = false := beq_eq_false_iff_ne.mpr c15
                  have c15b1 : ((t122.length : Int) != (l0.length : Int)) = true := bne_iff_ne.mpr c15
                  have c15b2 : (t122.length == l0.length) = false := by first | simpa using c15 | (simp at c15 ⊢; omega)
                  have H' := Aside0.mk H
                  clear H
                  obtain ⟨Ao17, co17, eo17⟩ := Kd.R_slice HO125.out
                  subst eo17
                  go_wp2_with ((with_reducible refine gate_load (t := 26) rfl ?_); refine wpList_load_row rfl 26 _ rfl _ rfl 26 ?lcs (0, 0) _ ?lb Try.underlying26 rfl ?li ?_; (case lb => (with_reducible repeat (first | refine blk_drewN ?_ _ | refine blk_drew ?_ | refine blk_alloc ?_ _)); exact Aside0.out (by assumption)); (case li => exact info26))
                  go_meet
                  case rel => exact ⟨_, (true), (by first | rfl | (simp; done) | (simp [*]; done)), H', ⟨by first | omega | exact Nat.le_refl _⟩, ⟨by (with_reducible repeat (first | apply Kd.R_alloc | apply Kd.R_drewN | apply Kd.R_drew)); exact Kd.R_mono HO125.out (fun _ hk => hk.2)⟩, ⟨by (with_reducible repeat (first | apply Kd.R_alloc | apply Kd.R_drewN | apply Kd.R_drew)); exact Kd.R_mono HO119.out (fun _ hk => hk.2)⟩, ⟨by (with_reducible repeat (first | refine blk_drewN ?_ _ | refine blk_drew ?_ | refine blk_alloc ?_ _)); exact BK121.out⟩, ⟨by repeat (first | (with_reducible first | exact HB.out | apply below_alloc | apply pw_below_drewN | apply below_drew1 | refine below_set ?_ GE121.out) | exact HB.out)⟩⟩
          · rw [if_neg c12] at H
            have c12b0 : (t123 == 0) = false := beq_eq_false_iff_ne.mpr c12
            have c12b1 : (t123 != 0) = true := bne_iff_ne.mpr c12
            have H' := Aside0.mk H
            clear H
            go_wp2_with ((with_reducible refine gate_load (t := 26) rfl ?_); refine wpList_load_row rfl 26 _ rfl _ rfl 26 ?lcs (0, 0) _ ?lb Try.underlying26 rfl ?li ?_; (case lb => (with_reducible repeat (first | refine blk_drewN ?_ _ | refine blk_drew ?_ | refine blk_alloc ?_ _)); exact Aside0.out (by assumption)); (case li => exact info26))
            go_meet
            case rel => exact ⟨_, (true), (by first | rfl | (simp; done) | (simp [*]; done)), H', ⟨by first | omega | exact Nat.le_refl _⟩, ⟨by (with_reducible repeat (first | apply Kd.R_alloc | apply Kd.R_drewN | apply Kd.R_drew)); exact Kd.R_mono HO125.out (fun _ hk => hk.2)⟩, ⟨by (with_reducible repeat (first | apply Kd.R_alloc | apply Kd.R_drewN | apply Kd.R_drew)); exact Kd.R_mono HO119.out (fun _ hk => hk.2)⟩, ⟨by (with_reducible repeat (first | refine blk_drewN ?_ _ | refine blk_drew ?_ | refine blk_alloc ?_ _)); exact BK121.out⟩, ⟨by repeat (first | (with_reducible first | exact HB.out | apply below_alloc | apply pw_below_drewN | apply below_drew1 | refine below_set ?_ GE121.out) | exact HB.out)⟩⟩
        · rw [if_neg c11] at H
          have c11b0 : (t120 == 0) = false := beq_eq_false_iff_ne.mpr c11
          have c11b1 : (t120 != 0) = true := bne_iff_ne.mpr c11
          (first | rw [c11b0] | (simp only [i64_w, i32_w]; rw [c11b0]) | skip)
          have H' := Aside0.mk H
          clear H
          go_wp2_with ((with_reducible refine gate_load (t := 26) rfl ?_); refine wpList_load_row rfl 26 _ rfl _ rfl 26 ?lcs (0, 0) _ ?lb Try.underlying26 rfl ?li ?_; (case lb => (with_reducible repeat (first | refine blk_drewN ?_ _ | refine blk_drew ?_ | refine blk_alloc ?_ _)); exact Aside0.out (by assumption)); (case li => exact info26))
          go_meet
          case rel => exact ⟨_, (true), (by first | rfl | (simp; done) | (simp [*]; done)), H', ⟨by first | omega | exact Nat.le_refl _⟩, ⟨by (with_reducible repeat (first | apply Kd.R_alloc | apply Kd.R_drewN | apply Kd.R_drew)); exact Kd.R_mono HO125.out (fun _ hk => hk.2)⟩, ⟨by (with_reducible repeat (first | apply Kd.R_alloc | apply Kd.R_drewN | apply Kd.R_drew)); exact Kd.R_mono HO119.out (fun _ hk => hk.2)⟩, ⟨by (with_reducible repeat (first | refine blk_drewN ?_ _ | refine blk_drew ?_ | refine blk_alloc ?_ _)); exact BK121.out⟩, ⟨by repeat (first | (with_reducible first | exact HB.out | apply below_alloc | apply pw_below_drewN | apply below_drew1 | refine below_set ?_ GE121.out) | exact HB.out)⟩⟩
    case rest =>
      as_aux_lemma =>
        clear HC6
        try clear c1
        try clear c2
        try clear p2
        try clear c5
        try clear c11
        try clear c11b0
        try clear c11b1
        try clear c12
        try clear c12b0
        try clear c12b1
        try clear c13
        try clear c13b0
        try clear c14
        try clear c14b0
        try clear c15
        try clear c15b0
        try clear c15b1
        try clear c15b2
        obtain ⟨kq, x54_5, rfl, HA, HJ5, HO_9, HO_122016, BK121, HB⟩ := hcut
        cases kq with
        | zero => exact absurd HA.out (by simp [celluloidlaw04_HuffBack.j0])
        | succ kj5 =>
          have H := HA.out
          clear HA
          simp only [celluloidlaw04_HuffBack.j0] at H
          by_cases c18 : x54_5 = true
          · subst c18
            have H1 : (if t120 = 0 then (if (t122.length : Int) = (l0.length : Int) then ((celluloidlaw04_awake.f).bind fun t126 => (some t126)) else (some false)) else ((celluloidlaw04_awake.f).bind fun t127 => (some t127))) = some r := by rw [if_pos rfl] at H; exact H
            clear H
            have H := H1
            clear H1
            by_cases c19 : t120 = 0
            · rw [if_pos c19] at H
              have c19b0 : (t120 == 0) = true := beq_iff_eq.mpr c19
              have c19b1 : (t120 != 0) = false := bne_eq_false_iff_eq.mpr c19
              clear c19
              by_cases c20 : (t122.length : Int) = (l0.length : Int)
              · rw [if_pos c20] at H
                have c20b0 : ((t122.length : Int) == (l0.length : Int)) = true := beq_iff_eq.mpr c20
                have c20b1 : ((t122.length : Int) != (l0.length : Int)) = false := bne_eq_false_iff_eq.mpr c20
                have c20b2 : (t122.length == l0.length) = true := by first | simpa using c20 | (simp at c20 ⊢; omega)
                clear c20
                replace H := Option.bind_eq_some_iff.mp H
                obtain ⟨t126, A210, H⟩ := H
                replace H : (some t126) = some r := H
                have A21 := Aside0.mk A210
                clear A210
                first
                | exact absurd (Option.some.inj H) (by rw [hr_.out]; decide)
                | obtain rfl := Option.some.inj H
                  obtain ⟨Ao22, co22, eo22⟩ := Kd.R_slice HO_9.out
                  subst eo22
                  go_wp2_with (first | ((with_reducible refine gate_load (t := 26) rfl ?_); refine wpList_load_row rfl 26 _ rfl _ rfl 26 ?lcs (0, 0) _ ?lb Try.underlying26 rfl ?li ?_; (case lb => (with_reducible repeat (first | refine blk_drewN ?_ _ | refine blk_drew ?_ | refine blk_alloc ?_ _)); exact Aside0.out (by assumption)); (case li => exact info26)) | (go_at_call 25; (with_reducible refine (celluloidlaw04_awake.calls  t126 _ A21.out).mono ?_); rintro e w23 ⟨rfl, hb⟩; have n0_ := Aside0.mk (Kd.R_below (by (with_reducible repeat (first | apply Kd.R_alloc | apply Kd.R_drewN | apply Kd.R_drew)); exact HO_9.out) hb); have n1_ := Aside0.mk (Kd.R_below (by (with_reducible repeat (first | apply Kd.R_alloc | apply Kd.R_drewN | apply Kd.R_drew)); exact HO_122016.out) hb); have n2_ := Aside0.mk (blk_below (g := gb121) (o := .cells #[.int .i64 t101, .int .i64 t102, .int .i64 t103, .int .i64 t104, .int .i64 t105, .int .i64 t106, .int .i64 t107, .int .i64 t108, .int .i64 t109, .int .i64 t110, .int .i64 t111, .int .i64 t112, .int .i64 t113, .int .i64 t114, .int .i64 t115, .int .i64 t116, .slice Ao8 t117.length co8] 26 (0, 0)) (by (with_reducible repeat (first | refine blk_drewN ?_ _ | refine blk_drew ?_ | refine blk_alloc ?_ _)); exact BK121.out) hb); have n3_ := Aside0.mk (below_step (by repeat (first | (with_reducible first | exact HB.out | apply below_alloc | apply pw_below_drewN | apply below_drew1 | refine below_set ?_ GE121.out) | exact HB.out)) hb); clear HO_9; clear HO_122016; clear BK121; clear HB; have HO_9 := n0_; have HO_122016 := n1_; have BK121 := n2_; have HB := n3_; clear n0_ n1_ n2_ n3_; (try clear hb); (try clear hb2); (try clear hk); (try clear hi)))
                  go_ret
                  exact ⟨by first | rfl | (simp [errW_none, errW_some] <;> rfl) | (simp [*, errW_none, errW_some] <;> rfl), by repeat (first | (with_reducible first | exact HB.out | apply below_alloc | apply pw_below_drewN | apply below_drew1 | refine below_set ?_ GE121.out) | exact HB.out)⟩
              · rw [if_neg c20] at H
                have c20b0 : ((t122.length : Int) == (l0.length : Int)) = false := beq_eq_false_iff_ne.mpr c20
                have c20b1 : ((t122.length : Int) != (l0.length : Int)) = true := bne_iff_ne.mpr c20
                have c20b2 : (t122.length == l0.length) = false := by first | simpa using c20 | (simp at c20 ⊢; omega)
                first
                | exact absurd (Option.some.inj H) (by rw [hr_.out]; decide)
                | obtain rfl := Option.some.inj H
                  obtain ⟨Ao24, co24, eo24⟩ := Kd.R_slice HO_9.out
                  subst eo24
                  go_wp2_with ((with_reducible refine gate_load (t := 26) rfl ?_); refine wpList_load_row rfl 26 _ rfl _ rfl 26 ?lcs (0, 0) _ ?lb Try.underlying26 rfl ?li ?_; (case lb => (with_reducible repeat (first | refine blk_drewN ?_ _ | refine blk_drew ?_ | refine blk_alloc ?_ _)); exact Aside0.out (by assumption)); (case li => exact info26))
                  go_ret
                  exact ⟨by first | rfl | (simp [errW_none, errW_some] <;> rfl) | (simp [*, errW_none, errW_some] <;> rfl), by repeat (first | (with_reducible first | exact HB.out | apply below_alloc | apply pw_below_drewN | apply below_drew1 | refine below_set ?_ GE121.out) | exact HB.out)⟩
            · rw [if_neg c19] at H
              have c19b0 : (t120 == 0) = false := beq_eq_false_iff_ne.mpr c19
              have c19b1 : (t120 != 0) = true := bne_iff_ne.mpr c19
              replace H := Option.bind_eq_some_iff.mp H
              obtain ⟨t127, A250, H⟩ := H
              replace H : (some t127) = some r := H
              have A25 := Aside0.mk A250
              clear A250
              first
              | exact absurd (Option.some.inj H) (by rw [hr_.out]; decide)
              | obtain rfl := Option.some.inj H
                go_wp2_with (first | ((with_reducible refine gate_load (t := 26) rfl ?_); refine wpList_load_row rfl 26 _ rfl _ rfl 26 ?lcs (0, 0) _ ?lb Try.underlying26 rfl ?li ?_; (case lb => (with_reducible repeat (first | refine blk_drewN ?_ _ | refine blk_drew ?_ | refine blk_alloc ?_ _)); exact Aside0.out (by assumption)); (case li => exact info26)) | (go_at_call 25; (with_reducible refine (celluloidlaw04_awake.calls  t127 _ A25.out).mono ?_); rintro e w26 ⟨rfl, hb⟩; have n0_ := Aside0.mk (Kd.R_below (by (with_reducible repeat (first | apply Kd.R_alloc | apply Kd.R_drewN | apply Kd.R_drew)); exact HO_9.out) hb); have n1_ := Aside0.mk (Kd.R_below (by (with_reducible repeat (first | apply Kd.R_alloc | apply Kd.R_drewN | apply Kd.R_drew)); exact HO_122016.out) hb); have n2_ := Aside0.mk (blk_below (g := gb121) (o := .cells #[.int .i64 t101, .int .i64 t102, .int .i64 t103, .int .i64 t104, .int .i64 t105, .int .i64 t106, .int .i64 t107, .int .i64 t108, .int .i64 t109, .int .i64 t110, .int .i64 t111, .int .i64 t112, .int .i64 t113, .int .i64 t114, .int .i64 t115, .int .i64 t116, .slice Ao8 t117.length co8] 26 (0, 0)) (by (with_reducible repeat (first | refine blk_drewN ?_ _ | refine blk_drew ?_ | refine blk_alloc ?_ _)); exact BK121.out) hb); have n3_ := Aside0.mk (below_step (by repeat (first | (with_reducible first | exact HB.out | apply below_alloc | apply pw_below_drewN | apply below_drew1 | refine below_set ?_ GE121.out) | exact HB.out)) hb); clear HO_9; clear HO_122016; clear BK121; clear HB; have HO_9 := n0_; have HO_122016 := n1_; have BK121 := n2_; have HB := n3_; clear n0_ n1_ n2_ n3_; (try clear hb); (try clear hb2); (try clear hk); (try clear hi)))
                go_ret
                exact ⟨by first | rfl | (simp [errW_none, errW_some] <;> rfl) | (simp [*, errW_none, errW_some] <;> rfl), by repeat (first | (with_reducible first | exact HB.out | apply below_alloc | apply pw_below_drewN | apply below_drew1 | refine below_set ?_ GE121.out) | exact HB.out)⟩
          · replace c18 := Bool.eq_false_iff.mpr c18
            subst c18
            have H1 : (if 0 ≤ a1 then (if a1 < (l0.length : Int) then (if (rd l0 a1) < 1 then (celluloidlaw04_HuffBack.j1 kj5 l0 a1 a2 t122 true t101 t102 t103 t104 t105 t106 t107 t108 t109 t110 t111 t112 t113 t114 t115 t116 t117) else (celluloidlaw04_HuffBack.j1 kj5 l0 a1 a2 t122 (decide ((rd l0 a1) > 15)) t101 t102 t103 t104 t105 t106 t107 t108 t109 t110 t111 t112 t113 t114 t115 t116 t117)) else (none)) else (none)) = some r := by rw [if_neg (show ¬ (false = true) by decide)] at H; exact H
            clear H
            have H := H1
            clear H1
            have HC27 := Aside0.mk H
            clear H
            go_upto_region 5 with ((with_reducible refine gate_load (t := 26) rfl ?_); refine wpList_load_row rfl 26 _ rfl _ rfl 26 ?lcs (0, 0) _ ?lb Try.underlying26 rfl ?li ?_; (case lb => (with_reducible repeat (first | refine blk_drewN ?_ _ | refine blk_drew ?_ | refine blk_alloc ?_ _)); exact Aside0.out (by assumption)); (case li => exact info26))
            go_cut [78] (fun v78 wc => ∃ (kq : Nat) (x78_26 : Bool), v78 = .bool x78_26 ∧ Aside0 (celluloidlaw04_HuffBack.j1 kq l0 a1 a2 t122 x78_26 t101 t102 t103 t104 t105 t106 t107 t108 t109 t110 t111 t112 t113 t114 t115 t116 t117 = some r) ∧ Aside0 (kq ≤ kj5) ∧ Aside0 (Kd.R (Kd.int .i64) 3 wc w.heap.size (fun k_ => some k_ ≠ ((.slice Ao8 t117.length co8) : Value).ownBlock) v124 t122) ∧ Aside0 (Kd.R (Kd.int .i64) 3 wc w.heap.size (fun k_ => some k_ ≠ (v124 : Value).ownBlock) (.slice Ao8 t117.length co8) t117) ∧ Aside0 (wc.heap[gb121]? = some (.cells #[.int .i64 t101, .int .i64 t102, .int .i64 t103, .int .i64 t104, .int .i64 t105, .int .i64 t106, .int .i64 t107, .int .i64 t108, .int .i64 t109, .int .i64 t110, .int .i64 t111, .int .i64 t112, .int .i64 t113, .int .i64 t114, .int .i64 t115, .int .i64 t116, (.slice Ao8 t117.length co8)] 26 (0, 0))) ∧ Aside0 (Below w.heap.size w wc))
            case first =>
              as_aux_lemma =>
                have H := HC27.out
                clear HC27
                by_cases c28 : 0 ≤ a1
                · rw [if_pos c28] at H
                  have c28b0 : decide (0 ≤ a1) = true := decide_eq_true c28
                  clear c28
                  (first | rw [c28b0] | (simp only [i64_w, i32_w]; rw [c28b0]) | skip)
                  by_cases c29 : a1 < (l0.length : Int)
                  · rw [if_pos c29] at H
                    have c29b0 : decide (a1 < (l0.length : Int)) = true := decide_eq_true c29
                    clear c29
                    by_cases c30 : (rd l0 a1) < 1
                    · rw [if_pos c30] at H
                      have c30b0 : decide ((rd l0 a1) < 1) = true := decide_eq_true c30
                      clear c30
                      have H' := Aside0.mk H
                      clear H
                      have p128 : 0 ≤ (a1 : Int) := of_decide_eq_true (by first | (with_reducible assumption) | assumption)
                      have q128 : a1 < (l0.length : Int) := of_decide_eq_true (by first | (with_reducible assumption) | assumption)
                      obtain ⟨ad128, e128, hx128_0⟩ := Kd.at_int HR0.out a1 p128 q128
                      cases e128
                      replace hx128_0 := (HB.out.cell (World.block_lt_of_cell? w _ hx128_0)).trans hx128_0
                      replace p128 := eq_true p128
                      replace q128 := eq_true q128
                      go_wp2_with ((with_reducible refine gate_load (t := 26) rfl ?_); refine wpList_load_row rfl 26 _ rfl _ rfl 26 ?lcs (0, 0) _ ?lb Try.underlying26 rfl ?li ?_; (case lb => (with_reducible repeat (first | refine blk_drewN ?_ _ | refine blk_drew ?_ | refine blk_alloc ?_ _)); exact Aside0.out (by assumption)); (case li => exact info26))
                      go_meet
                      case rel => exact ⟨_, (true), (by first | rfl | (simp; done) | (simp [*]; done)), H', ⟨by have := HJ5.out; first | omega | exact Nat.le_refl _⟩, ⟨by (with_reducible repeat (first | apply Kd.R_alloc | apply Kd.R_drewN | apply Kd.R_drew)); exact HO_9.out⟩, ⟨by (with_reducible repeat (first | apply Kd.R_alloc | apply Kd.R_drewN | apply Kd.R_drew)); exact HO_122016.out⟩, ⟨by (with_reducible repeat (first | refine blk_drewN ?_ _ | refine blk_drew ?_ | refine blk_alloc ?_ _)); exact BK121.out⟩, ⟨by repeat (first | (with_reducible first | exact HB.out | apply below_alloc | apply pw_below_drewN | apply below_drew1 | refine below_set ?_ GE121.out) | exact HB.out)⟩⟩
                    · rw [if_neg c30] at H
                      have c30b0 : decide ((rd l0 a1) < 1) = false := decide_eq_false c30
                      clear c30
                      have H' := Aside0.mk H
                      clear H
                      have p128 : 0 ≤ (a1 : Int) := of_decide_eq_true (by first | (with_reducible assumption) | assumption)
                      have q128 : a1 < (l0.length : Int) := of_decide_eq_true (by first | (with_reducible assumption) | assumption)
                      obtain ⟨ad128, e128, hx128_0⟩ := Kd.at_int HR0.out a1 p128 q128
                      cases e128
                      replace hx128_0 := (HB.out.cell (World.block_lt_of_cell? w _ hx128_0)).trans hx128_0
                      replace p128 := eq_true p128
                      replace q128 := eq_true q128
                      have p129 : 0 ≤ (a1 : Int) := of_decide_eq_true (by first | (with_reducible assumption) | assumption)
                      have q129 : a1 < (l0.length : Int) := of_decide_eq_true (by first | (with_reducible assumption) | assumption)
                      obtain ⟨ad129, e129, hx129_0⟩ := Kd.at_int HR0.out a1 p129 q129
                      obtain rfl : ad128 = ad129 := (by injection e129)
                      replace hx129_0 := (HB.out.cell (World.block_lt_of_cell? w _ hx129_0)).trans hx129_0
                      replace p129 := eq_true p129
                      replace q129 := eq_true q129
                      go_wp2_with ((with_reducible refine gate_load (t := 26) rfl ?_); refine wpList_load_row rfl 26 _ rfl _ rfl 26 ?lcs (0, 0) _ ?lb Try.underlying26 rfl ?li ?_; (case lb => (with_reducible repeat (first | refine blk_drewN ?_ _ | refine blk_drew ?_ | refine blk_alloc ?_ _)); exact Aside0.out (by assumption)); (case li => exact info26))
                      go_meet
                      case rel => exact ⟨_, (decide ((rd l0 a1) > 15)), (by first | rfl | (simp; done) | (simp [*]; done)), H', ⟨by have := HJ5.out; first | omega | exact Nat.le_refl _⟩, ⟨by (with_reducible repeat (first | apply Kd.R_alloc | apply Kd.R_drewN | apply Kd.R_drew)); exact HO_9.out⟩, ⟨by (with_reducible repeat (first | apply Kd.R_alloc | apply Kd.R_drewN | apply Kd.R_drew)); exact HO_122016.out⟩, ⟨by (with_reducible repeat (first | refine blk_drewN ?_ _ | refine blk_drew ?_ | refine blk_alloc ?_ _)); exact BK121.out⟩, ⟨by repeat (first | (with_reducible first | exact HB.out | apply below_alloc | apply pw_below_drewN | apply below_drew1 | refine below_set ?_ GE121.out) | exact HB.out)⟩⟩
                  · rw [if_neg c29] at H
                    exact absurd H (by simp)
                · rw [if_neg c28] at H
                  exact absurd H (by simp)
            case rest =>
              as_aux_lemma =>
                clear HC27
                try clear c1
                try clear p1
                try clear q1
                try clear hx1
                try clear c2
                try clear p2
                try clear c3
                try clear c5
                try clear c11
                try clear c11b0
                try clear c11b1
                try clear c12
                try clear c12b0
                try clear c12b1
                try clear p12
                try clear q12
                try clear hx12
                try clear c13
                try clear c13b0
                try clear c14
                try clear c14b0
                try clear c15
                try clear c15b0
                try clear c15b1
                try clear c15b2
                try clear c18
                try clear c19
                try clear c19b0
                try clear c19b1
                try clear c20
                try clear c20b0
                try clear c20b1
                try clear c20b2
                try clear c26
                try clear c27
                try clear c28
                try clear c28b0
                try clear c29
                try clear c29b0
                try clear c30
                try clear c30b0
                try clear hx128_0
                try clear hx129_0
                try clear p128
                try clear p129
                try clear p2
                try clear q128
                try clear q129
                obtain ⟨kq, x78_26, rfl, HA, HJ26, HO_9, HO_122016, BK121, HB⟩ := hcut
                cases kq with
                | zero => exact absurd HA.out (by simp [celluloidlaw04_HuffBack.j1])
                | succ kj26 =>
                  have H := HA.out
                  clear HA
                  simp only [celluloidlaw04_HuffBack.j1] at H
                  by_cases c31 : x78_26 = true
                  · subst c31
                    have H1 : ((celluloidlaw04_awake.f).bind fun t130 => (some t130)) = some r := by rw [if_pos rfl] at H; exact H
                    clear H
                    have H := H1
                    clear H1
                    replace H := Option.bind_eq_some_iff.mp H
                    obtain ⟨t130, A320, H⟩ := H
                    replace H : (some t130) = some r := H
                    have A32 := Aside0.mk A320
                    clear A320
                    first
                    | exact absurd (Option.some.inj H) (by rw [hr_.out]; decide)
                    | obtain rfl := Option.some.inj H
                      go_wp2_with (first | ((with_reducible refine gate_load (t := 26) rfl ?_); refine wpList_load_row rfl 26 _ rfl _ rfl 26 ?lcs (0, 0) _ ?lb Try.underlying26 rfl ?li ?_; (case lb => (with_reducible repeat (first | refine blk_drewN ?_ _ | refine blk_drew ?_ | refine blk_alloc ?_ _)); exact Aside0.out (by assumption)); (case li => exact info26)) | ((with_reducible refine gate_callee (f := 25) rfl ?_); refine goesL_ (some 79) rfl rfl Try.func25 (by kernel_rfl) rfl #[] rfl (by (try simp only [List.map_toArray, List.map_cons, List.map_nil]); first | done | rfl | (simp only [List.length_drop, List.length_take]; rfl)) ?_; (with_reducible refine (celluloidlaw04_awake.calls  t130 _ A32.out).mono ?_); rintro e w33 ⟨rfl, hb⟩; refine ⟨_, rfl, ?_⟩; have n0_ := Aside0.mk (Kd.R_below (by (with_reducible repeat (first | apply Kd.R_alloc | apply Kd.R_drewN | apply Kd.R_drew)); exact HO_9.out) hb); have n1_ := Aside0.mk (Kd.R_below (by (with_reducible repeat (first | apply Kd.R_alloc | apply Kd.R_drewN | apply Kd.R_drew)); exact HO_122016.out) hb); have n2_ := Aside0.mk (blk_below (g := gb121) (o := .cells #[.int .i64 t101, .int .i64 t102, .int .i64 t103, .int .i64 t104, .int .i64 t105, .int .i64 t106, .int .i64 t107, .int .i64 t108, .int .i64 t109, .int .i64 t110, .int .i64 t111, .int .i64 t112, .int .i64 t113, .int .i64 t114, .int .i64 t115, .int .i64 t116, .slice Ao8 t117.length co8] 26 (0, 0)) (by (with_reducible repeat (first | refine blk_drewN ?_ _ | refine blk_drew ?_ | refine blk_alloc ?_ _)); exact BK121.out) hb); have n3_ := Aside0.mk (below_step (by repeat (first | (with_reducible first | exact HB.out | apply below_alloc | apply pw_below_drewN | apply below_drew1 | refine below_set ?_ GE121.out) | exact HB.out)) hb); clear HO_9; clear HO_122016; clear BK121; clear HB; have HO_9 := n0_; have HO_122016 := n1_; have BK121 := n2_; have HB := n3_; clear n0_ n1_ n2_ n3_; (try clear hb); (try clear hb2); (try clear hk); (try clear hi)))
                      go_ret
                      exact ⟨by first | rfl | (simp [errW_none, errW_some] <;> rfl) | (simp [*, errW_none, errW_some] <;> rfl), by repeat (first | (with_reducible first | exact HB.out | apply below_alloc | apply pw_below_drewN | apply below_drew1 | refine below_set ?_ GE121.out) | exact HB.out)⟩
                  · replace c31 := Bool.eq_false_iff.mpr c31
                    subst c31
                    have H1 : (if 2 ≤ 281474976710656 then (celluloidlaw04_HuffBack.l0 kj26 l0 a1 a2 t122 (List.replicate 2 0) 0 t101 t102 t103 t104 t105 t106 t107 t108 t109 t110 t111 t112 t113 t114 t115 t116 t117) else (none)) = some r := by rw [if_neg (show ¬ (false = true) by decide)] at H; exact H
                    clear H
                    have H := H1
                    clear H1
                    by_cases c34 : 2 ≤ 281474976710656
                    · rw [if_pos c34] at H
                      have c34b0 := eq_true c34
                      have c34b1 : decide (2 ≤ 281474976710656) = true := decide_eq_true c34
                      clear c34
                      obtain ⟨y131, hy131⟩ : ∃ y_ : List Int, y_ = (List.replicate 2 0) := ⟨_, rfl⟩
                      replace H : (celluloidlaw04_HuffBack.l0 kj26 l0 a1 a2 t122 y131 0 t101 t102 t103 t104 t105 t106 t107 t108 t109 t110 t111 t112 t113 t114 t115 t116 t117) = some r := by first | (rw [hy131]; with_reducible exact H) | (have H2_ := (Option.bind_some _ _).symm.trans H; rw [hy131]; with_reducible exact H2_) | (have H2_ := (Option.bind_some _ _).symm.trans H; with_reducible exact H2_) | with_reducible exact H | (rw [hy131]; exact H) | exact H
                      have Ny131 := Aside0.mk hy131
                      clear hy131
                      have H' := Aside0.mk H
                      clear H
                      go_wp2_with (first | ((with_reducible refine gate_load (t := 26) rfl ?_); refine wpList_load_row rfl 26 _ rfl _ rfl 26 ?lcs (0, 0) _ ?lb Try.underlying26 rfl ?li ?_; (case lb => (with_reducible repeat (first | refine blk_drewN ?_ _ | refine blk_drew ?_ | refine blk_alloc ?_ _)); exact Aside0.out (by assumption)); (case li => exact info26)) | ((with_reducible refine gate_dst (N := 80) rfl ?_); (try (refine gate_guard (by rfl) ?_; dsimp only)); refine Kd.R_make (Kd.int .u8) _ 5 rfl (N := 80) rfl 40 _ _ rfl 2 rfl rfl Try.underlying40 (.int .u8 0) 1 info5 rfl (by decide) (by omega) 0 (ok := fun _ => True) (okp := fun _ => True) rfl (fun _ hk => hk) trivial (by omega) (by omega) (Below.refl _ _) (Nat.le_refl _) ?_; intro v132 w35 ho36 hb hg_ hnew_; clear hg_ hnew_; (first | rw [← Ny131.out] at ho36 | (simp only [Int.reduceToNat] at ho36; rw [← Ny131.out] at ho36)); have n0_ := Aside0.mk (Kd.R_below (by (with_reducible repeat (first | apply Kd.R_alloc | apply Kd.R_drewN | apply Kd.R_drew)); exact HO_9.out) hb); have n1_ := Aside0.mk (Kd.R_below (by (with_reducible repeat (first | apply Kd.R_alloc | apply Kd.R_drewN | apply Kd.R_drew)); exact HO_122016.out) hb); have n2_ := Aside0.mk (Kd.R_lower ho36 (below_size (by repeat (first | (with_reducible first | exact HB.out | apply below_alloc | apply pw_below_drewN | apply below_drew1 | refine below_set ?_ GE121.out) | exact HB.out)))); have n3_ := Aside0.mk (blk_below (g := gb121) (o := .cells #[.int .i64 t101, .int .i64 t102, .int .i64 t103, .int .i64 t104, .int .i64 t105, .int .i64 t106, .int .i64 t107, .int .i64 t108, .int .i64 t109, .int .i64 t110, .int .i64 t111, .int .i64 t112, .int .i64 t113, .int .i64 t114, .int .i64 t115, .int .i64 t116, .slice Ao8 t117.length co8] 26 (0, 0)) (by (with_reducible repeat (first | refine blk_drewN ?_ _ | refine blk_drew ?_ | refine blk_alloc ?_ _)); exact BK121.out) hb); have n4_ := Aside0.mk (below_step (by repeat (first | (with_reducible first | exact HB.out | apply below_alloc | apply pw_below_drewN | apply below_drew1 | refine below_set ?_ GE121.out) | exact HB.out)) hb); clear HO_9; clear HO_122016; clear BK121; clear HB; have HO_9 := n0_; have HO_122016 := n1_; have HO133 := n2_; have BK121 := n3_; have HB := n4_; clear n0_ n1_ n2_ n3_ n4_; clear hb ho36))
                      go_loopg [12] kj26 (fun kq v12 w' => ∃ (x11_3 : List Int) (x12_3 : Int), v12 = .int .i64 x12_3 ∧ Aside0 (celluloidlaw04_HuffBack.l0 kq l0 a1 a2 t122 x11_3 x12_3 t101 t102 t103 t104 t105 t106 t107 t108 t109 t110 t111 t112 t113 t114 t115 t116 t117 = some r) ∧ Aside0 (kq ≤ kj26) ∧ Aside0 (Kd.R (Kd.int .i64) 3 w' w.heap.size (fun k_ => some k_ ≠ ((.slice Ao8 t117.length co8) : Value).ownBlock) v124 t122) ∧ Aside0 (Kd.R (Kd.int .u8) 5 w' w.heap.size (fun _ => True) v132 x11_3) ∧ Aside0 (Kd.R (Kd.int .i64) 3 w' w.heap.size (fun k_ => some k_ ≠ (v124 : Value).ownBlock) (.slice Ao8 t117.length co8) t117) ∧ Aside0 (w'.heap[gb121]? = some (.cells #[.int .i64 t101, .int .i64 t102, .int .i64 t103, .int .i64 t104, .int .i64 t105, .int .i64 t106, .int .i64 t107, .int .i64 t108, .int .i64 t109, .int .i64 t110, .int .i64 t111, .int .i64 t112, .int .i64 t113, .int .i64 t114, .int .i64 t115, .int .i64 t116, (.slice Ao8 t117.length co8)] 26 (0, 0))) ∧ Aside0 (Below w.heap.size w w'))
                      case atStart => exact ⟨(y131), (0), (by first | rfl | (simp; done) | (simp [*]; done)), H', ⟨Nat.le_refl _⟩, ⟨by (with_reducible repeat (first | apply Kd.R_alloc | apply Kd.R_drewN | apply Kd.R_drew)); exact HO_9.out⟩, ⟨by (with_reducible repeat (first | apply Kd.R_alloc | apply Kd.R_drewN | apply Kd.R_drew)); exact HO133.out⟩, ⟨by (with_reducible repeat (first | apply Kd.R_alloc | apply Kd.R_drewN | apply Kd.R_drew)); exact HO_122016.out⟩, ⟨by (with_reducible repeat (first | refine blk_drewN ?_ _ | refine blk_drew ?_ | refine blk_alloc ?_ _)); exact BK121.out⟩, ⟨by repeat (first | (with_reducible first | exact HB.out | apply below_alloc | apply pw_below_drewN | apply below_drew1 | refine below_set ?_ GE121.out) | exact HB.out)⟩⟩
                      case round =>
                        as_aux_lemma =>
                          clear H'
                          try clear c1
                          try clear p1
                          try clear q1
                          try clear hx1
                          try clear c2
                          try clear p2
                          try clear c3
                          try clear c5
                          try clear c11
                          try clear c11b0
                          try clear c11b1
                          try clear c12
                          try clear c12b0
                          try clear c12b1
                          try clear p12
                          try clear q12
                          try clear hx12
                          try clear c13
                          try clear c13b0
                          try clear c14
                          try clear c14b0
                          try clear c15
                          try clear c15b0
                          try clear c15b1
                          try clear c15b2
                          try clear c18
                          try clear c19
                          try clear c19b0
                          try clear c19b1
                          try clear c20
                          try clear c20b0
                          try clear c20b1
                          try clear c20b2
                          try clear c25
                          try clear c26
                          try clear c27
                          try clear c28
                          try clear c28b0
                          try clear c29
                          try clear c29b0
                          try clear c30
                          try clear c30b0
                          try clear c31
                          try clear c34
                          try clear c34b0
                          try clear c34b1
                          try clear hx128_0
                          try clear hx129_0
                          try clear p1
                          try clear p12
                          try clear p128
                          try clear p129
                          try clear p2
                          try clear q1
                          try clear q12
                          try clear q128
                          try clear q129
                          obtain ⟨x11_3, x12_3, rfl, HA, HK3, HO_9, HO_11, HO_122016, BK121, HB⟩ := hrel
                          cases gk with
                          | zero => exact absurd HA.out (by simp [celluloidlaw04_HuffBack.l0])
                          | succ k3 =>
                            have H := HA.out
                            clear HA
                            simp only [celluloidlaw04_HuffBack.l0] at H
                            by_cases c37 : 0 ≤ a1
                            · rw [if_pos c37] at H
                              have c37b0 : decide (0 ≤ a1) = true := decide_eq_true c37
                              clear c37
                              by_cases c38 : a1 < (l0.length : Int)
                              · rw [if_pos c38] at H
                                have c38b0 : decide (a1 < (l0.length : Int)) = true := decide_eq_true c38
                                clear c38
                                by_cases c39 : x12_3 < (rd l0 a1)
                                · rw [if_pos c39] at H
                                  have c39b0 : decide (x12_3 < (rd l0 a1)) = true := decide_eq_true c39
                                  clear c39
                                  by_cases c40 : a1 < (t122.length : Int)
                                  · rw [if_pos c40] at H
                                    have c40b0 : decide (a1 < (t122.length : Int)) = true := decide_eq_true c40
                                    clear c40
                                    obtain ⟨ji41, hji41⟩ : ∃ j_ : Int, (wrap64 ((wrap64 ((rd l0 a1) - 1)) - x12_3)) = j_ := ⟨_, rfl⟩
                                    replace H : (if 0 ≤ (ji41) then (if (Go.bits .and .i64 (shr .i64 (rd t122 a1) (ji41)) 1) = 1 then (if 0 ≤ (wrap64 (Int.tdiv x12_3 8)) then (if (wrap64 (Int.tdiv x12_3 8)) < (x11_3.length : Int) then (if 0 ≤ (Int.tmod x12_3 8) then (celluloidlaw04_HuffBack.l0 k3 l0 a1 a2 t122 (x11_3.set ((wrap64 (Int.tdiv x12_3 8)) : Int).toNat (Go.bits .or .u8 (rd x11_3 (wrap64 (Int.tdiv x12_3 8))) (shl .u8 1 (Int.tmod x12_3 8)))) (wrap64 (x12_3 + 1)) t101 t102 t103 t104 t105 t106 t107 t108 t109 t110 t111 t112 t113 t114 t115 t116 t117) else (none)) else (none)) else (none)) else (celluloidlaw04_HuffBack.l0 k3 l0 a1 a2 t122 x11_3 (wrap64 (x12_3 + 1)) t101 t102 t103 t104 t105 t106 t107 t108 t109 t110 t111 t112 t113 t114 t115 t116 t117)) else (none)) = some r := by first | (rw [hji41] at H; exact H) | (simp only [hji41] at H ⊢; exact H)
                                    have hji41w : (IntKind.i64.wrap ((wrap64 ((rd l0 a1) - 1)) - x12_3)) = ji41 := (i64_w _).trans hji41
                                    by_cases c42 : 0 ≤ (ji41)
                                    · rw [if_pos c42] at H
                                      have c42b0 := eq_true c42
                                      have c42b1 : decide (0 ≤ (ji41)) = true := decide_eq_true c42
                                      clear c42
                                      obtain ⟨ji43, hji43⟩ : ∃ j_ : Int, (shr .i64 (rd t122 a1) (ji41)) = j_ := ⟨_, rfl⟩
                                      replace H : (if (Go.bits .and .i64 (ji43) 1) = 1 then (if 0 ≤ (wrap64 (Int.tdiv x12_3 8)) then (if (wrap64 (Int.tdiv x12_3 8)) < (x11_3.length : Int) then (if 0 ≤ (Int.tmod x12_3 8) then (celluloidlaw04_HuffBack.l0 k3 l0 a1 a2 t122 (x11_3.set ((wrap64 (Int.tdiv x12_3 8)) : Int).toNat (Go.bits .or .u8 (rd x11_3 (wrap64 (Int.tdiv x12_3 8))) (shl .u8 1 (Int.tmod x12_3 8)))) (wrap64 (x12_3 + 1)) t101 t102 t103 t104 t105 t106 t107 t108 t109 t110 t111 t112 t113 t114 t115 t116 t117) else (none)) else (none)) else (none)) else (celluloidlaw04_HuffBack.l0 k3 l0 a1 a2 t122 x11_3 (wrap64 (x12_3 + 1)) t101 t102 t103 t104 t105 t106 t107 t108 t109 t110 t111 t112 t113 t114 t115 t116 t117)) = some r := by first | (rw [hji43] at H; exact H) | (simp only [hji43] at H ⊢; exact H)
                                      have hji43_ : ((rd t122 a1) / 2 ^ min (ji41).toNat 64) = ji43 := hji43
                                      have hji43z : (ji41) ≤ 64 → ((rd t122 a1) / 2 ^ (ji41).toNat) = ji43 := shr_small hji43
                                      by_cases c44 : (Go.bits .and .i64 (ji43) 1) = 1
                                      · rw [if_pos c44] at H
                                        have c44b0 : ((Go.bits .and .i64 (ji43) 1) == 1) = true := beq_iff_eq.mpr c44
                                        have c44b1 : ((Go.bits .and .i64 (ji43) 1) != 1) = false := bne_eq_false_iff_eq.mpr c44
                                        clear c44
                                        obtain ⟨ji45, hji45⟩ : ∃ j_ : Int, (wrap64 (Int.tdiv x12_3 8)) = j_ := ⟨_, rfl⟩
                                        replace H : (if 0 ≤ (ji45) then (if (ji45) < (x11_3.length : Int) then (if 0 ≤ (Int.tmod x12_3 8) then (celluloidlaw04_HuffBack.l0 k3 l0 a1 a2 t122 (x11_3.set ((ji45) : Int).toNat (Go.bits .or .u8 (rd x11_3 (ji45)) (shl .u8 1 (Int.tmod x12_3 8)))) (wrap64 (x12_3 + 1)) t101 t102 t103 t104 t105 t106 t107 t108 t109 t110 t111 t112 t113 t114 t115 t116 t117) else (none)) else (none)) else (none)) = some r := by first | (rw [hji45] at H; exact H) | (simp only [hji45] at H ⊢; exact H)
                                        have hji45w : (IntKind.i64.wrap (Int.tdiv x12_3 8)) = ji45 := (i64_w _).trans hji45
                                        by_cases c46 : 0 ≤ (ji45)
                                        · rw [if_pos c46] at H
                                          have c46b0 : decide (0 ≤ (ji45)) = true := decide_eq_true c46
                                          clear c46
                                          by_cases c47 : (ji45) < (x11_3.length : Int)
                                          · rw [if_pos c47] at H
                                            have c47b0 : decide ((ji45) < (x11_3.length : Int)) = true := decide_eq_true c47
                                            clear c47
                                            obtain ⟨ji48, hji48⟩ : ∃ j_ : Int, (Int.tmod x12_3 8) = j_ := ⟨_, rfl⟩
                                            replace H : (if 0 ≤ (ji48) then (celluloidlaw04_HuffBack.l0 k3 l0 a1 a2 t122 (x11_3.set ((ji45) : Int).toNat (Go.bits .or .u8 (rd x11_3 (ji45)) (shl .u8 1 (ji48)))) (wrap64 (x12_3 + 1)) t101 t102 t103 t104 t105 t106 t107 t108 t109 t110 t111 t112 t113 t114 t115 t116 t117) else (none)) = some r := by first | (rw [hji48] at H; exact H) | (simp only [hji48] at H ⊢; exact H)
                                            by_cases c49 : 0 ≤ (ji48)
                                            · rw [if_pos c49] at H
                                              have c49b0 := eq_true c49
                                              have c49b1 : decide (0 ≤ (ji48)) = true := decide_eq_true c49
                                              clear c49
                                              obtain ⟨ji50, hji50⟩ : ∃ j_ : Int, (shl .u8 1 (ji48)) = j_ := ⟨_, rfl⟩
                                              replace H : (celluloidlaw04_HuffBack.l0 k3 l0 a1 a2 t122 (x11_3.set ((ji45) : Int).toNat (Go.bits .or .u8 (rd x11_3 (ji45)) (ji50))) (wrap64 (x12_3 + 1)) t101 t102 t103 t104 t105 t106 t107 t108 t109 t110 t111 t112 t113 t114 t115 t116 t117) = some r := by first | (rw [hji50] at H; exact H) | (simp only [hji50] at H ⊢; exact H)
                                              have hji50_ : (IntKind.u8.wrap (1 * 2 ^ min (ji48).toNat 8)) = ji50 := hji50
                                              have hji50z : (ji48) ≤ 8 → (IntKind.u8.wrap (1 * 2 ^ (ji48).toNat)) = ji50 := shl_small hji50
                                              have hji50u : (IntKind.u8.wrap (2 ^ min (ji48).toNat 8)) = ji50 := by have h_ := hji50_; rw [Int.one_mul] at h_; exact h_
                                              have hji50v : (ji48) ≤ 8 → (IntKind.u8.wrap (2 ^ (ji48).toNat)) = ji50 := fun hle_ => by have h_ := hji50z hle_; rw [Int.one_mul] at h_; exact h_
                                              obtain ⟨y138, hy138⟩ : ∃ y_ : List Int, y_ = (x11_3.set ((ji45) : Int).toNat (Go.bits .or .u8 (rd x11_3 (ji45)) (ji50))) := ⟨_, rfl⟩
                                              replace H : (celluloidlaw04_HuffBack.l0 k3 l0 a1 a2 t122 y138 (wrap64 (x12_3 + 1)) t101 t102 t103 t104 t105 t106 t107 t108 t109 t110 t111 t112 t113 t114 t115 t116 t117) = some r := by first | (rw [hy138]; with_reducible exact H) | (have H2_ := (Option.bind_some _ _).symm.trans H; rw [hy138]; with_reducible exact H2_) | (have H2_ := (Option.bind_some _ _).symm.trans H; with_reducible exact H2_) | with_reducible exact H | (rw [hy138]; exact H) | exact H
                                              have Ny138 := Aside0.mk hy138
                                              clear hy138
                                              have H' := Aside0.mk H
                                              clear H
                                              have p134 : 0 ≤ (a1 : Int) := of_decide_eq_true (by first | (with_reducible assumption) | assumption)
                                              have q134 : a1 < (l0.length : Int) := of_decide_eq_true (by first | (with_reducible assumption) | assumption)
                                              obtain ⟨ad134, e134, hx134_0⟩ := Kd.at_int HR0.out a1 p134 q134
                                              cases e134
                                              replace hx134_0 := (HB.out.cell (World.block_lt_of_cell? w _ hx134_0)).trans hx134_0
                                              replace p134 := eq_true p134
                                              replace q134 := eq_true q134
                                              try go_wp2_with ((with_reducible refine gate_load (t := 26) rfl ?_); refine wpList_load_row rfl 26 _ rfl _ rfl 26 ?lcs (0, 0) _ ?lb Try.underlying26 rfl ?li ?_; (case lb => (with_reducible repeat (first | refine blk_drewN ?_ _ | refine blk_drew ?_ | refine blk_alloc ?_ _)); exact Aside0.out (by assumption)); (case li => exact info26))
                                              have n0_ := Aside0.mk (Kd.R_drew HO_9.out)
                                              have n1_ := Aside0.mk (Kd.R_drew HO_11.out)
                                              have n2_ := Aside0.mk (Kd.R_drew HO_122016.out)
                                              have n3_ := Aside0.mk (blk_drew BK121.out)
                                              have n4_ := Aside0.mk (below_drew1 HB.out)
                                              clear HO_9
                                              clear HO_11
                                              clear HO_122016
                                              clear BK121
                                              clear HB
                                              have HO_9 := n0_
                                              have HO_11 := n1_
                                              have HO_122016 := n2_
                                              have BK121 := n3_
                                              have HB := n4_
                                              clear n0_ n1_ n2_ n3_ n4_
                                              obtain ⟨Ao53, co53, eo53⟩ := Kd.R_slice HO_9.out
                                              (first | subst eo53 | (injection eo53 with f1_ f2_ f3_; have f4_ := f1_.symm; have f5_ := f3_.symm; clear f1_ f2_ f3_; subst f4_; subst f5_))
                                              have p135 : 0 ≤ (a1 : Int) := of_decide_eq_true (by first | (with_reducible assumption) | assumption)
                                              have q135 : a1 < (t122.length : Int) := of_decide_eq_true (by first | (with_reducible assumption) | assumption)
                                              obtain ⟨ad135, e135, hx135_0⟩ := Kd.at_int (Kd.R_reads' HO_9.out).2.2 a1 p135 q135
                                              cases e135
                                              replace p135 := eq_true p135
                                              replace q135 := eq_true q135
                                              have p136 : 0 ≤ (a1 : Int) := of_decide_eq_true (by first | (with_reducible assumption) | assumption)
                                              have q136 : a1 < (l0.length : Int) := of_decide_eq_true (by first | (with_reducible assumption) | assumption)
                                              obtain ⟨ad136, e136, hx136_0⟩ := Kd.at_int HR0.out a1 p136 q136
                                              have hw136_0 := hx136_0
                                              obtain rfl : ad134 = ad136 := (by injection e136)
                                              replace hx136_0 := (HB.out.cell (World.block_lt_of_cell? w _ hx136_0)).trans hx136_0
                                              replace p136 := eq_true p136
                                              replace q136 := eq_true q136
                                              refine start_ (n := 14) (S := fun w' => w'.cell? (ad135.add (a1).toNat) = some (.int .i64 (rd t122 a1)) ∧ w'.cell? (ad134.add (a1).toNat) = some (.int .i64 (rd l0 a1))) (ds := []) #[false, false, false, false, false, false, false, false, false, false, false, false, false, false] (by kernel_rfl) rfl rfl ⟨hx135_0, ((HB.out.cell (World.block_lt_of_cell? w _ hw136_0)).trans hw136_0)⟩ (fun hHeld => ?_); refine with_tabW celluloidlaw04_HuffBack.tab11 celluloidlaw04_HuffBack.bits11 (fun HT_ HW_ => ?_)
                                              generalize wr.drew = w52 at HO_9 HO_11 HO_122016 BK121 HB hx135_0 hx136_0 hHeld ⊢
                                              refine pure_ (i := 0) (N := some 89) (v := ?_) (a' := ?_) #[true, false, false, false, false, false, false, false, false, false, false, false, false, false] rfl rfl (any_of HT_.out (by kernel_rfl)) (fun _ _ _ h => h) (Or.inl ⟨by rfl, ?_⟩) ?_ ?_
                                              rotate_left
                                              · intro w'
                                                go_simp
                                                with_reducible rfl
                                              rotate_left
                                              · simp only [Act.put, List.setIfInBounds_toArray, List.set_cons_zero, List.set_cons_succ, i64_w, i32_w]
                                                rfl
                                              refine pure_ (i := 1) (N := some 90) (v := ?_) (a' := ?_) #[true, true, false, false, false, false, false, false, false, false, false, false, false, false] rfl rfl (any_of HT_.out (by kernel_rfl)) (fun _ _ _ h => h) (Or.inl ⟨by rfl, ?_⟩) ?_ ?_
                                              rotate_left
                                              · intro w'
                                                go_simp
                                                with_reducible rfl
                                              rotate_left
                                              · simp only [Act.put, List.setIfInBounds_toArray, List.set_cons_zero, List.set_cons_succ, i64_w, i32_w]
                                                rfl
                                              refine pure_ (i := 2) (N := some 91) (v := ?_) (a' := ?_) #[true, true, true, false, false, false, false, false, false, false, false, false, false, false] rfl rfl (any_of HT_.out (by kernel_rfl)) (fun _ _ _ h => h) (Or.inl ⟨by rfl, ?_⟩) ?_ ?_
                                              rotate_left
                                              · intro w'
                                                go_simp
                                                with_reducible rfl
                                              rotate_left
                                              · simp only [Act.put, List.setIfInBounds_toArray, List.set_cons_zero, List.set_cons_succ, i64_w, i32_w]
                                                rfl
                                              refine pure_ (i := 4) (N := some 93) (v := ?_) (a' := ?_) #[true, true, true, false, true, false, false, false, false, false, false, false, false, false] rfl rfl (any_of HT_.out (by kernel_rfl)) (fun _ _ _ h => h) (Or.inl ⟨by rfl, ?_⟩) ?_ ?_
                                              rotate_left
                                              · intro w'
                                                go_simp
                                                with_reducible rfl
                                              rotate_left
                                              · simp only [Act.put, List.setIfInBounds_toArray, List.set_cons_zero, List.set_cons_succ, i64_w, i32_w]
                                                rfl
                                              refine pure_ (i := 5) (N := some 94) (v := ?_) (a' := ?_) #[true, true, true, false, true, true, false, false, false, false, false, false, false, false] rfl rfl (any_of HT_.out (by kernel_rfl)) (fun _ _ _ h => h) (Or.inl ⟨by rfl, ?_⟩) ?_ ?_
                                              rotate_left
                                              · intro w'
                                                go_simp
                                                with_reducible rfl
                                              rotate_left
                                              · simp only [Act.put, List.setIfInBounds_toArray, List.set_cons_zero, List.set_cons_succ, i64_w, i32_w]
                                                rfl
                                              refine pure_ (i := 6) (N := some 95) (v := ?_) (a' := ?_) #[true, true, true, false, true, true, true, false, false, false, false, false, false, false] rfl rfl (any_of HT_.out (by kernel_rfl)) (fun _ _ _ h => h) (Or.inl ⟨by rfl, ?_⟩) ?_ ?_
                                              rotate_left
                                              · intro w'
                                                go_simp
                                                with_reducible rfl
                                              rotate_left
                                              · simp only [Act.put, List.setIfInBounds_toArray, List.set_cons_zero, List.set_cons_succ, i64_w, i32_w]
                                                rfl
                                              refine pure_ (i := 9) (N := some 98) (v := ?_) (a' := ?_) #[true, true, true, false, true, true, true, false, false, true, false, false, false, false] rfl rfl (any_of HT_.out (by kernel_rfl)) (fun _ _ _ h => h) (Or.inl ⟨by rfl, ?_⟩) ?_ ?_
                                              rotate_left
                                              · intro w'
                                                go_simp
                                                with_reducible rfl
                                              rotate_left
                                              · simp only [Act.put, List.setIfInBounds_toArray, List.set_cons_zero, List.set_cons_succ, i64_w, i32_w]
                                                rfl
                                              refine take_ (i := 3) (N := some 92) (v := ?_) (a' := ?_) #[true, true, true, true, true, true, true, false, false, true, false, false, false, false] rfl rfl (take_ofW HT_.out HW_.out (by kernel_rfl)) (fun _ _ _ h => h) (Or.inl ⟨by rfl, ?_⟩) hHeld ?_ ?_
                                              rotate_left
                                              · rintro w' ⟨s0, s1⟩
                                                go_simp
                                                with_reducible rfl
                                              rotate_left
                                              · simp only [Act.put, List.setIfInBounds_toArray, List.set_cons_zero, List.set_cons_succ, i64_w, i32_w]
                                                rfl
                                              refine take_ (i := 7) (N := some 96) (v := ?_) (a' := ?_) #[true, true, true, true, true, true, true, true, false, true, false, false, false, false] rfl rfl (take_ofW HT_.out HW_.out (by kernel_rfl)) (fun _ _ _ h => h) (Or.inl ⟨by rfl, ?_⟩) hHeld ?_ ?_
                                              rotate_left
                                              · rintro w' ⟨s0, s1⟩
                                                go_simp
                                                with_reducible rfl
                                              rotate_left
                                              · simp only [Act.put, List.setIfInBounds_toArray, List.set_cons_zero, List.set_cons_succ, i64_w, i32_w]
                                                rfl
                                              refine pure_ (i := 8) (N := some 97) (v := ?_) (a' := ?_) #[true, true, true, true, true, true, true, true, true, true, false, false, false, false] rfl rfl (any_of HT_.out (by kernel_rfl)) (fun _ _ _ h => h) (Or.inl ⟨by rfl, ?_⟩) ?_ ?_
                                              rotate_left
                                              · intro w'
                                                go_simp
                                                with_reducible rfl
                                              rotate_left
                                              · simp only [Act.put, List.setIfInBounds_toArray, List.set_cons_zero, List.set_cons_succ, i64_w, i32_w]
                                                rfl
                                              refine pure_ (i := 10) (N := some 99) (v := ?_) (a' := ?_) #[true, true, true, true, true, true, true, true, true, true, true, false, false, false] rfl rfl (any_of HT_.out (by kernel_rfl)) (fun _ _ _ h => h) (Or.inl ⟨by rfl, ?_⟩) ?_ ?_
                                              rotate_left
                                              · intro w'
                                                go_simp
                                                with_reducible rfl
                                              rotate_left
                                              · simp only [Act.put, List.setIfInBounds_toArray, List.set_cons_zero, List.set_cons_succ, i64_w, i32_w]
                                                rfl
                                              refine pure_ (i := 11) (N := some 100) (v := ?_) (a' := ?_) #[true, true, true, true, true, true, true, true, true, true, true, true, false, false] rfl rfl (any_of HT_.out (by kernel_rfl)) (fun _ _ _ h => h) (Or.inl ⟨by rfl, ?_⟩) ?_ ?_
                                              rotate_left
                                              · intro w'
                                                go_simp
                                                with_reducible rfl
                                              rotate_left
                                              · simp only [Act.put, List.setIfInBounds_toArray, List.set_cons_zero, List.set_cons_succ, i64_w, i32_w]
                                                rfl
                                              refine pure_ (i := 12) (N := some 101) (v := ?_) (a' := ?_) #[true, true, true, true, true, true, true, true, true, true, true, true, true, false] rfl rfl (any_of HT_.out (by kernel_rfl)) (fun _ _ _ h => h) (Or.inl ⟨by rfl, ?_⟩) ?_ ?_
                                              rotate_left
                                              · intro w'
                                                go_simp
                                                with_reducible rfl
                                              rotate_left
                                              · simp only [Act.put, List.setIfInBounds_toArray, List.set_cons_zero, List.set_cons_succ, i64_w, i32_w]
                                                rfl
                                              refine pure_ (i := 13) (N := some 102) (v := ?_) (a' := ?_) #[true, true, true, true, true, true, true, true, true, true, true, true, true, true] rfl rfl (any_of HT_.out (by kernel_rfl)) (fun _ _ _ h => h) (Or.inl ⟨by rfl, ?_⟩) ?_ ?_
                                              rotate_left
                                              · intro w'
                                                go_simp
                                                with_reducible rfl
                                              rotate_left
                                              · simp only [Act.put, List.setIfInBounds_toArray, List.set_cons_zero, List.set_cons_succ, i64_w, i32_w]
                                                rfl
                                              refine done_ (done_of HT_.out (by kernel_rfl)) ?_
                                              try go_wp2_with ((with_reducible refine gate_load (t := 26) rfl ?_); refine wpList_load_row rfl 26 _ rfl _ rfl 26 ?lcs (0, 0) _ ?lb Try.underlying26 rfl ?li ?_; (case lb => (with_reducible repeat (first | refine blk_drewN ?_ _ | refine blk_drew ?_ | refine blk_alloc ?_ _)); exact Aside0.out (by assumption)); (case li => exact info26))
                                              have n0_ := Aside0.mk (Kd.R_drew HO_9.out)
                                              have n1_ := Aside0.mk (Kd.R_drew HO_11.out)
                                              have n2_ := Aside0.mk (Kd.R_drew HO_122016.out)
                                              have n3_ := Aside0.mk (blk_drew BK121.out)
                                              have n4_ := Aside0.mk (below_drew1 HB.out)
                                              clear HO_9
                                              clear HO_11
                                              clear HO_122016
                                              clear BK121
                                              clear HB
                                              have HO_9 := n0_
                                              have HO_11 := n1_
                                              have HO_122016 := n2_
                                              have BK121 := n3_
                                              have HB := n4_
                                              clear n0_ n1_ n2_ n3_ n4_
                                              obtain ⟨Ao55, co55, eo55⟩ := Kd.R_slice HO_11.out
                                              (first | subst eo55 | (injection eo55 with f1_ f2_ f3_; have f4_ := f1_.symm; have f5_ := f3_.symm; clear f1_ f2_ f3_; subst f4_; subst f5_))
                                              have p137 : 0 ≤ ((ji45) : Int) := of_decide_eq_true (by first | (with_reducible assumption) | assumption)
                                              have q137 : (ji45) < (x11_3.length : Int) := of_decide_eq_true (by first | (with_reducible assumption) | assumption)
                                              obtain ⟨ad137, e137, hx137_0⟩ := Kd.at_int (Kd.R_reads' HO_11.out).2.2 (ji45) p137 q137
                                              cases e137
                                              replace p137 := eq_true p137
                                              replace q137 := eq_true q137
                                              have p51 : 0 ≤ ((ji45) : Int) := of_decide_eq_true (by first | (with_reducible assumption) | assumption)
                                              have q51 : ((ji45) : Int) < ((x11_3.length : Int) : Int) := of_decide_eq_true (by first | (with_reducible assumption) | assumption)
                                              obtain ⟨go51, co51, eo51, gb51, gl51, cl51, HG51⟩ := Kd.R_form HO_11.out (by omega)
                                              (first | cases eo51 | (injection eo51 with ea_ en_ ec_; (first | subst ea_ | (injection ea_ with ea_; subst ea_)); subst ec_; clear en_))
                                              have GB51 := Aside0.mk gb51
                                              have GG51 := Aside0.mk HG51
                                              clear gb51 gl51 HG51
                                              (first | simp only [add_plain] at hx137_0 | skip)
                                              obtain ⟨hx51_0, hf51_0⟩ := Kd.R_celln 0 HO_11.out ((ji45) : Int) p51 q51
                                              replace p51 := eq_true p51
                                              replace q51 := eq_true q51
                                              have HP56 := Kd.R_putn HO_11.out ((ji45) : Int) (Go.bits .or .u8 (rd x11_3 (ji45)) (ji50))
                                              rw [← Ny138.out] at HP56
                                              have HQ56 := Aside0.mk HP56
                                              clear HP56
                                              refine start_ (n := 11) (S := fun w' => w'.cell? ⟨go51, ((ji45)).toNat, none⟩ = some (.int .u8 (rd x11_3 (ji45)))) (ds := [10]) #[false, false, false, false, false, false, false, false, false, false, false] (by kernel_rfl) rfl rfl (hx137_0) (fun hHeld => ?_); refine with_tabW celluloidlaw04_HuffBack.tab12 celluloidlaw04_HuffBack.bits12 (fun HT_ HW_ => ?_)
                                              generalize w52.drew = w54 at HO_9 HO_11 HO_122016 BK121 HB GG51 HQ56 hf51_0 hx137_0 hx51_0 hHeld ⊢
                                              refine pure_ (i := 0) (N := some 103) (v := ?_) (a' := ?_) #[true, false, false, false, false, false, false, false, false, false, false] rfl rfl (any_of HT_.out (by kernel_rfl)) (fun _ _ _ h => h) (Or.inl ⟨by rfl, ?_⟩) ?_ ?_
                                              rotate_left
                                              · intro w'
                                                go_simp
                                                with_reducible rfl
                                              rotate_left
                                              · simp only [Act.put, List.setIfInBounds_toArray, List.set_cons_zero, List.set_cons_succ, i64_w, i32_w]
                                                rfl
                                              refine pure_ (i := 1) (N := some 104) (v := ?_) (a' := ?_) #[true, true, false, false, false, false, false, false, false, false, false] rfl rfl (any_of HT_.out (by kernel_rfl)) (fun _ _ _ h => h) (Or.inl ⟨by rfl, ?_⟩) ?_ ?_
                                              rotate_left
                                              · intro w'
                                                go_simp
                                                with_reducible rfl
                                              rotate_left
                                              · simp only [Act.put, List.setIfInBounds_toArray, List.set_cons_zero, List.set_cons_succ, i64_w, i32_w]
                                                rfl
                                              refine pure_ (i := 2) (N := some 105) (v := ?_) (a' := ?_) #[true, true, true, false, false, false, false, false, false, false, false] rfl rfl (any_of HT_.out (by kernel_rfl)) (fun _ _ _ h => h) (Or.inl ⟨by rfl, ?_⟩) ?_ ?_
                                              rotate_left
                                              · intro w'
                                                go_simp
                                                with_reducible rfl
                                              rotate_left
                                              · simp only [Act.put, List.setIfInBounds_toArray, List.set_cons_zero, List.set_cons_succ, i64_w, i32_w]
                                                rfl
                                              refine pure_ (i := 3) (N := some 106) (v := ?_) (a' := ?_) #[true, true, true, true, false, false, false, false, false, false, false] rfl rfl (any_of HT_.out (by kernel_rfl)) (fun _ _ _ h => h) (Or.inl ⟨by rfl, ?_⟩) ?_ ?_
                                              rotate_left
                                              · intro w'
                                                go_simp
                                                with_reducible rfl
                                              rotate_left
                                              · simp only [Act.put, List.setIfInBounds_toArray, List.set_cons_zero, List.set_cons_succ, i64_w, i32_w]
                                                rfl
                                              refine pure_ (i := 5) (N := some 108) (v := ?_) (a' := ?_) #[true, true, true, true, false, true, false, false, false, false, false] rfl rfl (any_of HT_.out (by kernel_rfl)) (fun _ _ _ h => h) (Or.inl ⟨by rfl, ?_⟩) ?_ ?_
                                              rotate_left
                                              · intro w'
                                                go_simp
                                                with_reducible rfl
                                              rotate_left
                                              · simp only [Act.put, List.setIfInBounds_toArray, List.set_cons_zero, List.set_cons_succ, i64_w, i32_w]
                                                rfl
                                              refine pure_ (i := 6) (N := some 109) (v := ?_) (a' := ?_) #[true, true, true, true, false, true, true, false, false, false, false] rfl rfl (any_of HT_.out (by kernel_rfl)) (fun _ _ _ h => h) (Or.inl ⟨by rfl, ?_⟩) ?_ ?_
                                              rotate_left
                                              · intro w'
                                                go_simp
                                                with_reducible rfl
                                              rotate_left
                                              · simp only [Act.put, List.setIfInBounds_toArray, List.set_cons_zero, List.set_cons_succ, i64_w, i32_w]
                                                rfl
                                              refine pure_ (i := 7) (N := some 110) (v := ?_) (a' := ?_) #[true, true, true, true, false, true, true, true, false, false, false] rfl rfl (any_of HT_.out (by kernel_rfl)) (fun _ _ _ h => h) (Or.inl ⟨by rfl, ?_⟩) ?_ ?_
                                              rotate_left
                                              · intro w'
                                                go_simp
                                                with_reducible rfl
                                              rotate_left
                                              · simp only [Act.put, List.setIfInBounds_toArray, List.set_cons_zero, List.set_cons_succ, i64_w, i32_w]
                                                rfl
                                              refine take_ (i := 4) (N := some 107) (v := ?_) (a' := ?_) #[true, true, true, true, true, true, true, true, false, false, false] rfl rfl (take_ofW HT_.out HW_.out (by kernel_rfl)) (fun _ _ _ h => h) (Or.inl ⟨by rfl, ?_⟩) hHeld ?_ ?_
                                              rotate_left
                                              · intro w' s0
                                                go_simp
                                                with_reducible rfl
                                              rotate_left
                                              · simp only [Act.put, List.setIfInBounds_toArray, List.set_cons_zero, List.set_cons_succ, i64_w, i32_w]
                                                rfl
                                              refine pure_ (i := 8) (N := some 111) (v := ?_) (a' := ?_) #[true, true, true, true, true, true, true, true, true, false, false] rfl rfl (any_of HT_.out (by kernel_rfl)) (fun _ _ _ h => h) (Or.inl ⟨by rfl, ?_⟩) ?_ ?_
                                              rotate_left
                                              · intro w'
                                                go_simp
                                                with_reducible rfl
                                              rotate_left
                                              · simp only [Act.put, List.setIfInBounds_toArray, List.set_cons_zero, List.set_cons_succ, i64_w, i32_w]
                                                rfl
                                              refine pure_ (i := 9) (N := some 112) (v := ?_) (a' := ?_) #[true, true, true, true, true, true, true, true, true, true, false] rfl rfl (any_of HT_.out (by kernel_rfl)) (fun _ _ _ h => h) (Or.inl ⟨by rfl, ?_⟩) ?_ ?_
                                              rotate_left
                                              · intro w'
                                                go_simp
                                                with_reducible rfl
                                              rotate_left
                                              · simp only [Act.put, List.setIfInBounds_toArray, List.set_cons_zero, List.set_cons_succ, i64_w, i32_w]
                                                rfl
                                              refine last_ (i := 10) (N := none) #[true, true, true, true, true, true, true, true, true, true, true] rfl rfl (one_of HT_.out (by kernel_rfl)) (by decide) (fun K hK => ?_)
                                              refine skip_ (w1 := ?_) (by rfl) rfl ?_ ?_
                                              rotate_left
                                              · go_simp
                                                rfl
                                              refine hK.out _ _ ?_
                                              clear hK K
                                              refine done_ (done_of HT_.out (by kernel_rfl)) ?_
                                              try go_wp2_with ((with_reducible refine gate_load (t := 26) rfl ?_); refine wpList_load_row rfl 26 _ rfl _ rfl 26 ?lcs (0, 0) _ ?lb Try.underlying26 rfl ?li ?_; (case lb => (with_reducible repeat (first | refine blk_drewN ?_ _ | refine blk_drew ?_ | refine blk_alloc ?_ _)); exact Aside0.out (by assumption)); (case li => exact info26))
                                              go_roundg k3
                                              case measure => have := HJ5.out; have := HJ26.out; have := HK3.out; omega
                                              case rel => exact ⟨(y138), (wrap64 (x12_3 + 1)), (by first | rfl | (simp; done) | (simp [*]; done)), H', ⟨by have := HJ5.out; have := HJ26.out; have := HK3.out; omega⟩, ⟨by (with_reducible repeat (first | apply Kd.R_alloc | apply Kd.R_drewN | apply Kd.R_drew)); exact Kd.R_mono (Kd.R_far (p := ⟨go51, ((ji45) : Int).toNat, none⟩) (Kd.R_types HO_9.out GG51.out (by decide)) (fun _ hk => hk.2) (.int .u8 (Go.bits .or .u8 (rd x11_3 (ji45)) (ji50)))) (fun _ hk => hk.1)⟩, ⟨by (with_reducible repeat (first | apply Kd.R_alloc | apply Kd.R_drewN | apply Kd.R_drew)); exact HQ56.out⟩, ⟨by (with_reducible repeat (first | apply Kd.R_alloc | apply Kd.R_drewN | apply Kd.R_drew)); exact Kd.R_mono (Kd.R_far (p := ⟨go51, ((ji45) : Int).toNat, none⟩) (Kd.R_types HO_122016.out GG51.out (by decide)) (fun _ hk => hk.2) (.int .u8 (Go.bits .or .u8 (rd x11_3 (ji45)) (ji50)))) (fun _ hk => hk.1)⟩, ⟨by (with_reducible repeat (first | refine blk_drewN ?_ _ | refine blk_drew ?_ | refine blk_alloc ?_ _)); refine blk_far ?_ (by have h_ := Kd.R_ne HO_11.out BK121.out (by decide); intro e_; exact h_ (by rw [e_]; rfl)) _; (with_reducible repeat (first | refine blk_drewN ?_ _ | refine blk_drew ?_ | refine blk_alloc ?_ _)); exact BK121.out⟩, ⟨by repeat (first | (with_reducible first | exact HB.out | apply below_alloc | apply pw_below_drewN | apply below_drew1 | refine below_set ?_ GB51.out | refine below_set ?_ GE121.out) | exact HB.out)⟩⟩
                                            · rw [if_neg c49] at H
                                              exact absurd H (by simp)
                                          · rw [if_neg c47] at H
                                            exact absurd H (by simp)
                                        · rw [if_neg c46] at H
                                          exact absurd H (by simp)
                                      · rw [if_neg c44] at H
                                        have c44b0 : ((Go.bits .and .i64 (ji43) 1) == 1) = false := beq_eq_false_iff_ne.mpr c44
                                        have c44b1 : ((Go.bits .and .i64 (ji43) 1) != 1) = true := bne_iff_ne.mpr c44
                                        have H' := Aside0.mk H
                                        clear H
                                        have p134 : 0 ≤ (a1 : Int) := of_decide_eq_true (by first | (with_reducible assumption) | assumption)
                                        have q134 : a1 < (l0.length : Int) := of_decide_eq_true (by first | (with_reducible assumption) | assumption)
                                        obtain ⟨ad134, e134, hx134_0⟩ := Kd.at_int HR0.out a1 p134 q134
                                        cases e134
                                        replace hx134_0 := (HB.out.cell (World.block_lt_of_cell? w _ hx134_0)).trans hx134_0
                                        replace p134 := eq_true p134
                                        replace q134 := eq_true q134
                                        try go_wp2_with ((with_reducible refine gate_load (t := 26) rfl ?_); refine wpList_load_row rfl 26 _ rfl _ rfl 26 ?lcs (0, 0) _ ?lb Try.underlying26 rfl ?li ?_; (case lb => (with_reducible repeat (first | refine blk_drewN ?_ _ | refine blk_drew ?_ | refine blk_alloc ?_ _)); exact Aside0.out (by assumption)); (case li => exact info26))
                                        have n0_ := Aside0.mk (Kd.R_drew HO_9.out)
                                        have n1_ := Aside0.mk (Kd.R_drew HO_11.out)
                                        have n2_ := Aside0.mk (Kd.R_drew HO_122016.out)
                                        have n3_ := Aside0.mk (blk_drew BK121.out)
                                        have n4_ := Aside0.mk (below_drew1 HB.out)
                                        clear HO_9
                                        clear HO_11
                                        clear HO_122016
                                        clear BK121
                                        clear HB
                                        have HO_9 := n0_
                                        have HO_11 := n1_
                                        have HO_122016 := n2_
                                        have BK121 := n3_
                                        have HB := n4_
                                        clear n0_ n1_ n2_ n3_ n4_
                                        obtain ⟨Ao58, co58, eo58⟩ := Kd.R_slice HO_9.out
                                        (first | subst eo58 | (injection eo58 with f1_ f2_ f3_; have f4_ := f1_.symm; have f5_ := f3_.symm; clear f1_ f2_ f3_; subst f4_; subst f5_))
                                        have p135 : 0 ≤ (a1 : Int) := of_decide_eq_true (by first | (with_reducible assumption) | assumption)
                                        have q135 : a1 < (t122.length : Int) := of_decide_eq_true (by first | (with_reducible assumption) | assumption)
                                        obtain ⟨ad135, e135, hx135_0⟩ := Kd.at_int (Kd.R_reads' HO_9.out).2.2 a1 p135 q135
                                        cases e135
                                        replace p135 := eq_true p135
                                        replace q135 := eq_true q135
                                        have p136 : 0 ≤ (a1 : Int) := of_decide_eq_true (by first | (with_reducible assumption) | assumption)
                                        have q136 : a1 < (l0.length : Int) := of_decide_eq_true (by first | (with_reducible assumption) | assumption)
                                        obtain ⟨ad136, e136, hx136_0⟩ := Kd.at_int HR0.out a1 p136 q136
                                        have hw136_0 := hx136_0
                                        obtain rfl : ad134 = ad136 := (by injection e136)
                                        replace hx136_0 := (HB.out.cell (World.block_lt_of_cell? w _ hx136_0)).trans hx136_0
                                        replace p136 := eq_true p136
                                        replace q136 := eq_true q136
                                        refine start_ (n := 14) (S := fun w' => w'.cell? (ad135.add (a1).toNat) = some (.int .i64 (rd t122 a1)) ∧ w'.cell? (ad134.add (a1).toNat) = some (.int .i64 (rd l0 a1))) (ds := []) #[false, false, false, false, false, false, false, false, false, false, false, false, false, false] (by kernel_rfl) rfl rfl ⟨hx135_0, ((HB.out.cell (World.block_lt_of_cell? w _ hw136_0)).trans hw136_0)⟩ (fun hHeld => ?_); refine with_tabW celluloidlaw04_HuffBack.tab11 celluloidlaw04_HuffBack.bits11 (fun HT_ HW_ => ?_)
                                        generalize wr.drew = w57 at HO_9 HO_11 HO_122016 BK121 HB hx135_0 hx136_0 hHeld ⊢
                                        refine pure_ (i := 0) (N := some 89) (v := ?_) (a' := ?_) #[true, false, false, false, false, false, false, false, false, false, false, false, false, false] rfl rfl (any_of HT_.out (by kernel_rfl)) (fun _ _ _ h => h) (Or.inl ⟨by rfl, ?_⟩) ?_ ?_
                                        rotate_left
                                        · intro w'
                                          go_simp
                                          with_reducible rfl
                                        rotate_left
                                        · simp only [Act.put, List.setIfInBounds_toArray, List.set_cons_zero, List.set_cons_succ, i64_w, i32_w]
                                          rfl
                                        refine pure_ (i := 1) (N := some 90) (v := ?_) (a' := ?_) #[true, true, false, false, false, false, false, false, false, false, false, false, false, false] rfl rfl (any_of HT_.out (by kernel_rfl)) (fun _ _ _ h => h) (Or.inl ⟨by rfl, ?_⟩) ?_ ?_
                                        rotate_left
                                        · intro w'
                                          go_simp
                                          with_reducible rfl
                                        rotate_left
                                        · simp only [Act.put, List.setIfInBounds_toArray, List.set_cons_zero, List.set_cons_succ, i64_w, i32_w]
                                          rfl
                                        refine pure_ (i := 2) (N := some 91) (v := ?_) (a' := ?_) #[true, true, true, false, false, false, false, false, false, false, false, false, false, false] rfl rfl (any_of HT_.out (by kernel_rfl)) (fun _ _ _ h => h) (Or.inl ⟨by rfl, ?_⟩) ?_ ?_
                                        rotate_left
                                        · intro w'
                                          go_simp
                                          with_reducible rfl
                                        rotate_left
                                        · simp only [Act.put, List.setIfInBounds_toArray, List.set_cons_zero, List.set_cons_succ, i64_w, i32_w]
                                          rfl
                                        refine pure_ (i := 4) (N := some 93) (v := ?_) (a' := ?_) #[true, true, true, false, true, false, false, false, false, false, false, false, false, false] rfl rfl (any_of HT_.out (by kernel_rfl)) (fun _ _ _ h => h) (Or.inl ⟨by rfl, ?_⟩) ?_ ?_
                                        rotate_left
                                        · intro w'
                                          go_simp
                                          with_reducible rfl
                                        rotate_left
                                        · simp only [Act.put, List.setIfInBounds_toArray, List.set_cons_zero, List.set_cons_succ, i64_w, i32_w]
                                          rfl
                                        refine pure_ (i := 5) (N := some 94) (v := ?_) (a' := ?_) #[true, true, true, false, true, true, false, false, false, false, false, false, false, false] rfl rfl (any_of HT_.out (by kernel_rfl)) (fun _ _ _ h => h) (Or.inl ⟨by rfl, ?_⟩) ?_ ?_
                                        rotate_left
                                        · intro w'
                                          go_simp
                                          with_reducible rfl
                                        rotate_left
                                        · simp only [Act.put, List.setIfInBounds_toArray, List.set_cons_zero, List.set_cons_succ, i64_w, i32_w]
                                          rfl
                                        refine pure_ (i := 6) (N := some 95) (v := ?_) (a' := ?_) #[true, true, true, false, true, true, true, false, false, false, false, false, false, false] rfl rfl (any_of HT_.out (by kernel_rfl)) (fun _ _ _ h => h) (Or.inl ⟨by rfl, ?_⟩) ?_ ?_
                                        rotate_left
                                        · intro w'
                                          go_simp
                                          with_reducible rfl
                                        rotate_left
                                        · simp only [Act.put, List.setIfInBounds_toArray, List.set_cons_zero, List.set_cons_succ, i64_w, i32_w]
                                          rfl
                                        refine pure_ (i := 9) (N := some 98) (v := ?_) (a' := ?_) #[true, true, true, false, true, true, true, false, false, true, false, false, false, false] rfl rfl (any_of HT_.out (by kernel_rfl)) (fun _ _ _ h => h) (Or.inl ⟨by rfl, ?_⟩) ?_ ?_
                                        rotate_left
                                        · intro w'
                                          go_simp
                                          with_reducible rfl
                                        rotate_left
                                        · simp only [Act.put, List.setIfInBounds_toArray, List.set_cons_zero, List.set_cons_succ, i64_w, i32_w]
                                          rfl
                                        refine take_ (i := 3) (N := some 92) (v := ?_) (a' := ?_) #[true, true, true, true, true, true, true, false, false, true, false, false, false, false] rfl rfl (take_ofW HT_.out HW_.out (by kernel_rfl)) (fun _ _ _ h => h) (Or.inl ⟨by rfl, ?_⟩) hHeld ?_ ?_
                                        rotate_left
                                        · rintro w' ⟨s0, s1⟩
                                          go_simp
                                          with_reducible rfl
                                        rotate_left
                                        · simp only [Act.put, List.setIfInBounds_toArray, List.set_cons_zero, List.set_cons_succ, i64_w, i32_w]
                                          rfl
                                        refine take_ (i := 7) (N := some 96) (v := ?_) (a' := ?_) #[true, true, true, true, true, true, true, true, false, true, false, false, false, false] rfl rfl (take_ofW HT_.out HW_.out (by kernel_rfl)) (fun _ _ _ h => h) (Or.inl ⟨by rfl, ?_⟩) hHeld ?_ ?_
                                        rotate_left
                                        · rintro w' ⟨s0, s1⟩
                                          go_simp
                                          with_reducible rfl
                                        rotate_left
                                        · simp only [Act.put, List.setIfInBounds_toArray, List.set_cons_zero, List.set_cons_succ, i64_w, i32_w]
                                          rfl
                                        refine pure_ (i := 8) (N := some 97) (v := ?_) (a' := ?_) #[true, true, true, true, true, true, true, true, true, true, false, false, false, false] rfl rfl (any_of HT_.out (by kernel_rfl)) (fun _ _ _ h => h) (Or.inl ⟨by rfl, ?_⟩) ?_ ?_
                                        rotate_left
                                        · intro w'
                                          go_simp
                                          with_reducible rfl
                                        rotate_left
                                        · simp only [Act.put, List.setIfInBounds_toArray, List.set_cons_zero, List.set_cons_succ, i64_w, i32_w]
                                          rfl
                                        refine pure_ (i := 10) (N := some 99) (v := ?_) (a' := ?_) #[true, true, true, true, true, true, true, true, true, true, true, false, false, false] rfl rfl (any_of HT_.out (by kernel_rfl)) (fun _ _ _ h => h) (Or.inl ⟨by rfl, ?_⟩) ?_ ?_
                                        rotate_left
                                        · intro w'
                                          go_simp
                                          with_reducible rfl
                                        rotate_left
                                        · simp only [Act.put, List.setIfInBounds_toArray, List.set_cons_zero, List.set_cons_succ, i64_w, i32_w]
                                          rfl
                                        refine pure_ (i := 11) (N := some 100) (v := ?_) (a' := ?_) #[true, true, true, true, true, true, true, true, true, true, true, true, false, false] rfl rfl (any_of HT_.out (by kernel_rfl)) (fun _ _ _ h => h) (Or.inl ⟨by rfl, ?_⟩) ?_ ?_
                                        rotate_left
                                        · intro w'
                                          go_simp
                                          with_reducible rfl
                                        rotate_left
                                        · simp only [Act.put, List.setIfInBounds_toArray, List.set_cons_zero, List.set_cons_succ, i64_w, i32_w]
                                          rfl
                                        refine pure_ (i := 12) (N := some 101) (v := ?_) (a' := ?_) #[true, true, true, true, true, true, true, true, true, true, true, true, true, false] rfl rfl (any_of HT_.out (by kernel_rfl)) (fun _ _ _ h => h) (Or.inl ⟨by rfl, ?_⟩) ?_ ?_
                                        rotate_left
                                        · intro w'
                                          go_simp
                                          with_reducible rfl
                                        rotate_left
                                        · simp only [Act.put, List.setIfInBounds_toArray, List.set_cons_zero, List.set_cons_succ, i64_w, i32_w]
                                          rfl
                                        refine pure_ (i := 13) (N := some 102) (v := ?_) (a' := ?_) #[true, true, true, true, true, true, true, true, true, true, true, true, true, true] rfl rfl (any_of HT_.out (by kernel_rfl)) (fun _ _ _ h => h) (Or.inl ⟨by rfl, ?_⟩) ?_ ?_
                                        rotate_left
                                        · intro w'
                                          go_simp
                                          with_reducible rfl
                                        rotate_left
                                        · simp only [Act.put, List.setIfInBounds_toArray, List.set_cons_zero, List.set_cons_succ, i64_w, i32_w]
                                          rfl
                                        refine done_ (done_of HT_.out (by kernel_rfl)) ?_
                                        try go_wp2_with ((with_reducible refine gate_load (t := 26) rfl ?_); refine wpList_load_row rfl 26 _ rfl _ rfl 26 ?lcs (0, 0) _ ?lb Try.underlying26 rfl ?li ?_; (case lb => (with_reducible repeat (first | refine blk_drewN ?_ _ | refine blk_drew ?_ | refine blk_alloc ?_ _)); exact Aside0.out (by assumption)); (case li => exact info26))
                                        go_roundg k3
                                        case measure => have := HJ5.out; have := HJ26.out; have := HK3.out; omega
                                        case rel => exact ⟨(x11_3), (wrap64 (x12_3 + 1)), (by first | rfl | (simp; done) | (simp [*]; done)), H', ⟨by have := HJ5.out; have := HJ26.out; have := HK3.out; omega⟩, ⟨by (with_reducible repeat (first | apply Kd.R_alloc | apply Kd.R_drewN | apply Kd.R_drew)); exact HO_9.out⟩, ⟨by (with_reducible repeat (first | apply Kd.R_alloc | apply Kd.R_drewN | apply Kd.R_drew)); exact HO_11.out⟩, ⟨by (with_reducible repeat (first | apply Kd.R_alloc | apply Kd.R_drewN | apply Kd.R_drew)); exact HO_122016.out⟩, ⟨by (with_reducible repeat (first | refine blk_drewN ?_ _ | refine blk_drew ?_ | refine blk_alloc ?_ _)); exact BK121.out⟩, ⟨by repeat (first | (with_reducible first | exact HB.out | apply below_alloc | apply pw_below_drewN | apply below_drew1 | refine below_set ?_ GE121.out) | exact HB.out)⟩⟩
                                    · rw [if_neg c42] at H
                                      exact absurd H (by simp)
                                  · rw [if_neg c40] at H
                                    exact absurd H (by simp)
                                · rw [if_neg c39] at H
                                  have c39b0 : decide (x12_3 < (rd l0 a1)) = false := decide_eq_false c39
                                  clear c39
                                  by_cases c59 : (strOfNums x11_3).size + a2.size ≤ 9223372036854775807
                                  · rw [if_pos c59] at H
                                    have c59b0 := eq_true c59
                                    have c59b1 : decide ((strOfNums x11_3).size + a2.size ≤ 9223372036854775807) = true := decide_eq_true c59
                                    try have c59b2 : (9223372036854775807 < (strOfNums x11_3).size + a2.size) = False := eq_false (Nat.not_lt.2 c59)
                                    replace H := Option.bind_eq_some_iff.mp H
                                    obtain ⟨⟨t139, t140, t141⟩, A600, H⟩ := H
                                    replace H : (if t139 = a1 then (if t140 = (rd l0 a1) then (celluloidlaw04_HuffBack.j3 k3 l0 a1 t122 (t141 != 0)) else (celluloidlaw04_HuffBack.j3 k3 l0 a1 t122 true)) else (celluloidlaw04_HuffBack.j3 k3 l0 a1 t122 true)) = some r := H
                                    have A60 := Aside0.mk A600
                                    clear A600
                                    have HC61 := Aside0.mk H
                                    clear H
                                    have p134 : 0 ≤ (a1 : Int) := of_decide_eq_true (by first | (with_reducible assumption) | assumption)
                                    have q134 : a1 < (l0.length : Int) := of_decide_eq_true (by first | (with_reducible assumption) | assumption)
                                    obtain ⟨ad134, e134, hx134_0⟩ := Kd.at_int HR0.out a1 p134 q134
                                    cases e134
                                    replace hx134_0 := (HB.out.cell (World.block_lt_of_cell? w _ hx134_0)).trans hx134_0
                                    replace p134 := eq_true p134
                                    replace q134 := eq_true q134
                                    skip
                                    skip
                                    skip
                                    skip
                                    skip
                                    skip
                                    skip
                                    skip
                                    skip
                                    skip
                                    skip
                                    skip
                                    skip
                                    skip
                                    skip
                                    skip
                                    skip
                                    skip
                                    skip
                                    skip
                                    skip
                                    skip
                                    skip
                                    skip
                                    skip
                                    skip
                                    skip
                                    skip
                                    skip
                                    skip
                                    skip
                                    skip
                                    skip
                                    skip
                                    have hcv63 := own_string (P := Try.prog) Try.underlying40 Try.underlying5 Try.underlying9 (Kd.own_of_R HO_11.out)
                                    go_upto_region 14 with (first | ((with_reducible refine gate_load (t := 26) rfl ?_); refine wpList_load_row rfl 26 _ rfl _ rfl 26 ?lcs (0, 0) _ ?lb Try.underlying26 rfl ?li ?_; (case lb => (with_reducible repeat (first | refine blk_drewN ?_ _ | refine blk_drew ?_ | refine blk_alloc ?_ _)); exact Aside0.out (by assumption)); (case li => exact info26)) | ((with_reducible refine gate_callee (f := 30) rfl ?_); refine goesL_ (some 119) rfl rfl Try.func30 (by kernel_rfl) rfl #[.agg #[.int .i64 t101, .int .i64 t102, .int .i64 t103, .int .i64 t104, .int .i64 t105, .int .i64 t106, .int .i64 t107, .int .i64 t108, .int .i64 t109, .int .i64 t110, .int .i64 t111, .int .i64 t112, .int .i64 t113, .int .i64 t114, .int .i64 t115, .int .i64 t116, .slice Ao8 t117.length co8], .string ((strOfNums x11_3) ++ a2), .int .i64 0] rfl (by (try simp only [List.map_toArray, List.map_cons, List.map_nil]); first | done | rfl | (simp only [List.length_drop, List.length_take]; rfl)) ?_; (with_reducible refine (huff_Next.calls t101 t102 t103 t104 t105 t106 t107 t108 t109 t110 t111 t112 t113 t114 t115 t116 _ _ t117 ((strOfNums x11_3) ++ a2) 0 t139 t140 t141 _ ?side1 ?side2 A60.out).mono ?_); (case side1 => repeat (first | exact (Kd.R_reads' HO_122016.out).2.2 | (with_reducible refine Kd.C_alloc ?_ _) | (with_reducible refine Kd.C_drewN ?_ _) | (with_reducible refine Kd.C_drew ?_))); (case side2 => exact (Kd.R_reads' HO_122016.out).2.1); rintro e w64 ⟨rfl, hb⟩; refine ⟨_, rfl, ?_⟩; have n0_ := Aside0.mk (Kd.R_below (by (with_reducible repeat (first | apply Kd.R_alloc | apply Kd.R_drewN | apply Kd.R_drew)); exact HO_9.out) hb); have n1_ := Aside0.mk (Kd.R_below (by (with_reducible repeat (first | apply Kd.R_alloc | apply Kd.R_drewN | apply Kd.R_drew)); exact HO_11.out) hb); have n2_ := Aside0.mk (Kd.R_below (by (with_reducible repeat (first | apply Kd.R_alloc | apply Kd.R_drewN | apply Kd.R_drew)); exact HO_122016.out) hb); have n3_ := Aside0.mk (blk_below (g := gb121) (o := .cells #[.int .i64 t101, .int .i64 t102, .int .i64 t103, .int .i64 t104, .int .i64 t105, .int .i64 t106, .int .i64 t107, .int .i64 t108, .int .i64 t109, .int .i64 t110, .int .i64 t111, .int .i64 t112, .int .i64 t113, .int .i64 t114, .int .i64 t115, .int .i64 t116, .slice Ao8 t117.length co8] 26 (0, 0)) (by (with_reducible repeat (first | refine blk_drewN ?_ _ | refine blk_drew ?_ | refine blk_alloc ?_ _)); exact BK121.out) hb); have n4_ := Aside0.mk (below_step (by repeat (first | (with_reducible first | exact HB.out | apply below_alloc | apply pw_below_drewN | apply below_drew1 | refine below_set ?_ GE121.out) | exact HB.out)) hb); clear HO_9; clear HO_11; clear HO_122016; clear BK121; clear HB; have HO_9 := n0_; have HO_11 := n1_; have HO_122016 := n2_; have BK121 := n3_; have HB := n4_; clear n0_ n1_ n2_ n3_ n4_; (try clear hb); (try clear hb2); (try clear hk); (try clear hi)))
                                    (try simp only [Act.put, List.setIfInBounds_toArray, List.set_cons_zero, List.set_cons_succ])
                                    go_cut [137] (fun v137 wc => ∃ (kq : Nat) (x137_60 : Bool), v137 = .bool x137_60 ∧ Aside0 (celluloidlaw04_HuffBack.j3 kq l0 a1 t122 x137_60 = some r) ∧ Aside0 (kq ≤ k3) ∧ Aside0 (Kd.R (Kd.int .i64) 3 wc w.heap.size (fun k_ => some k_ ≠ ((.slice Ao8 t117.length co8) : Value).ownBlock) v124 t122) ∧ Aside0 (Kd.R (Kd.int .i64) 3 wc w.heap.size (fun k_ => some k_ ≠ (v124 : Value).ownBlock) (.slice Ao8 t117.length co8) t117) ∧ Aside0 (wc.heap[gb121]? = some (.cells #[.int .i64 t101, .int .i64 t102, .int .i64 t103, .int .i64 t104, .int .i64 t105, .int .i64 t106, .int .i64 t107, .int .i64 t108, .int .i64 t109, .int .i64 t110, .int .i64 t111, .int .i64 t112, .int .i64 t113, .int .i64 t114, .int .i64 t115, .int .i64 t116, (.slice Ao8 t117.length co8)] 26 (0, 0))) ∧ Aside0 (Below w.heap.size w wc))
                                    case first =>
                                      as_aux_lemma =>
                                        have H := HC61.out
                                        clear HC61
                                        by_cases c65 : t139 = a1
                                        · rw [if_pos c65] at H
                                          have c65b0 : (t139 == a1) = true := beq_iff_eq.mpr c65
                                          have c65b1 : (t139 != a1) = false := bne_eq_false_iff_eq.mpr c65
                                          clear c65
                                          (first | rw [c65b0] | (simp only [i64_w, i32_w]; rw [c65b0]) | skip)
                                          by_cases c66 : t140 = (rd l0 a1)
                                          · rw [if_pos c66] at H
                                            have c66b0 : (t140 == (rd l0 a1)) = true := beq_iff_eq.mpr c66
                                            have c66b1 : (t140 != (rd l0 a1)) = false := bne_eq_false_iff_eq.mpr c66
                                            clear c66
                                            have H' := Aside0.mk H
                                            clear H
                                            have p142 : 0 ≤ (a1 : Int) := of_decide_eq_true (by first | (with_reducible assumption) | assumption)
                                            have q142 : a1 < (l0.length : Int) := of_decide_eq_true (by first | (with_reducible assumption) | assumption)
                                            obtain ⟨ad142, e142, hx142_0⟩ := Kd.at_int HR0.out a1 p142 q142
                                            obtain rfl : ad134 = ad142 := (by injection e142)
                                            replace hx142_0 := (HB.out.cell (World.block_lt_of_cell? w _ hx142_0)).trans hx142_0
                                            replace p142 := eq_true p142
                                            replace q142 := eq_true q142
                                            go_wp2_with ((with_reducible refine gate_load (t := 26) rfl ?_); refine wpList_load_row rfl 26 _ rfl _ rfl 26 ?lcs (0, 0) _ ?lb Try.underlying26 rfl ?li ?_; (case lb => (with_reducible repeat (first | refine blk_drewN ?_ _ | refine blk_drew ?_ | refine blk_alloc ?_ _)); exact Aside0.out (by assumption)); (case li => exact info26))
                                            go_meet
                                            case rel => exact ⟨_, ((t141 != 0)), (by first | rfl | (simp; done) | (simp [*]; done)), H', ⟨by have := HJ5.out; have := HJ26.out; have := HK3.out; first | omega | exact Nat.le_refl _⟩, ⟨by (with_reducible repeat (first | apply Kd.R_alloc | apply Kd.R_drewN | apply Kd.R_drew)); exact HO_9.out⟩, ⟨by (with_reducible repeat (first | apply Kd.R_alloc | apply Kd.R_drewN | apply Kd.R_drew)); exact HO_122016.out⟩, ⟨by (with_reducible repeat (first | refine blk_drewN ?_ _ | refine blk_drew ?_ | refine blk_alloc ?_ _)); exact BK121.out⟩, ⟨by repeat (first | (with_reducible first | exact HB.out | apply below_alloc | apply pw_below_drewN | apply below_drew1 | refine below_set ?_ GE121.out) | exact HB.out)⟩⟩
                                          · rw [if_neg c66] at H
                                            have c66b0 : (t140 == (rd l0 a1)) = false := beq_eq_false_iff_ne.mpr c66
                                            have c66b1 : (t140 != (rd l0 a1)) = true := bne_iff_ne.mpr c66
                                            have H' := Aside0.mk H
                                            clear H
                                            have p142 : 0 ≤ (a1 : Int) := of_decide_eq_true (by first | (with_reducible assumption) | assumption)
                                            have q142 : a1 < (l0.length : Int) := of_decide_eq_true (by first | (with_reducible assumption) | assumption)
                                            obtain ⟨ad142, e142, hx142_0⟩ := Kd.at_int HR0.out a1 p142 q142
                                            obtain rfl : ad134 = ad142 := (by injection e142)
                                            replace hx142_0 := (HB.out.cell (World.block_lt_of_cell? w _ hx142_0)).trans hx142_0
                                            replace p142 := eq_true p142
                                            replace q142 := eq_true q142
                                            go_wp2_with ((with_reducible refine gate_load (t := 26) rfl ?_); refine wpList_load_row rfl 26 _ rfl _ rfl 26 ?lcs (0, 0) _ ?lb Try.underlying26 rfl ?li ?_; (case lb => (with_reducible repeat (first | refine blk_drewN ?_ _ | refine blk_drew ?_ | refine blk_alloc ?_ _)); exact Aside0.out (by assumption)); (case li => exact info26))
                                            go_meet
                                            case rel => exact ⟨_, (true), (by first | rfl | (simp; done) | (simp [*]; done)), H', ⟨by have := HJ5.out; have := HJ26.out; have := HK3.out; first | omega | exact Nat.le_refl _⟩, ⟨by (with_reducible repeat (first | apply Kd.R_alloc | apply Kd.R_drewN | apply Kd.R_drew)); exact HO_9.out⟩, ⟨by (with_reducible repeat (first | apply Kd.R_alloc | apply Kd.R_drewN | apply Kd.R_drew)); exact HO_122016.out⟩, ⟨by (with_reducible repeat (first | refine blk_drewN ?_ _ | refine blk_drew ?_ | refine blk_alloc ?_ _)); exact BK121.out⟩, ⟨by repeat (first | (with_reducible first | exact HB.out | apply below_alloc | apply pw_below_drewN | apply below_drew1 | refine below_set ?_ GE121.out) | exact HB.out)⟩⟩
                                        · rw [if_neg c65] at H
                                          have c65b0 : (t139 == a1) = false := beq_eq_false_iff_ne.mpr c65
                                          have c65b1 : (t139 != a1) = true := bne_iff_ne.mpr c65
                                          (first | rw [c65b0] | (simp only [i64_w, i32_w]; rw [c65b0]) | skip)
                                          have H' := Aside0.mk H
                                          clear H
                                          go_wp2_with ((with_reducible refine gate_load (t := 26) rfl ?_); refine wpList_load_row rfl 26 _ rfl _ rfl 26 ?lcs (0, 0) _ ?lb Try.underlying26 rfl ?li ?_; (case lb => (with_reducible repeat (first | refine blk_drewN ?_ _ | refine blk_drew ?_ | refine blk_alloc ?_ _)); exact Aside0.out (by assumption)); (case li => exact info26))
                                          go_meet
                                          case rel => exact ⟨_, (true), (by first | rfl | (simp; done) | (simp [*]; done)), H', ⟨by have := HJ5.out; have := HJ26.out; have := HK3.out; first | omega | exact Nat.le_refl _⟩, ⟨by (with_reducible repeat (first | apply Kd.R_alloc | apply Kd.R_drewN | apply Kd.R_drew)); exact HO_9.out⟩, ⟨by (with_reducible repeat (first | apply Kd.R_alloc | apply Kd.R_drewN | apply Kd.R_drew)); exact HO_122016.out⟩, ⟨by (with_reducible repeat (first | refine blk_drewN ?_ _ | refine blk_drew ?_ | refine blk_alloc ?_ _)); exact BK121.out⟩, ⟨by repeat (first | (with_reducible first | exact HB.out | apply below_alloc | apply pw_below_drewN | apply below_drew1 | refine below_set ?_ GE121.out) | exact HB.out)⟩⟩
                                    case rest =>
                                      as_aux_lemma =>
                                        clear HC61
                                        try clear p1
                                        try clear q1
                                        try clear hx1
                                        try clear p2
                                        try clear c3
                                        try clear c4
                                        try clear c5
                                        try clear p5
                                        try clear q5
                                        try clear hx5
                                        try clear hf5
                                        try clear c6
                                        try clear p6
                                        try clear hcv6
                                        try clear p13
                                        try clear q13
                                        try clear hx13
                                        try clear p14
                                        try clear q14
                                        try clear hx14
                                        try clear c30
                                        try clear c39
                                        try clear c39b0
                                        try clear c40
                                        try clear c42
                                        try clear c44
                                        try clear c44b0
                                        try clear c44b1
                                        try clear c46
                                        try clear c46b0
                                        try clear c47
                                        try clear c47b0
                                        try clear c49
                                        try clear c49b0
                                        try clear c49b1
                                        try clear p51
                                        try clear q51
                                        try clear hx51
                                        try clear hf51
                                        try clear c59
                                        try clear c59b0
                                        try clear c59b1
                                        try clear c59b2
                                        try clear hcv63
                                        try clear p64
                                        try clear c65
                                        try clear c65b0
                                        try clear c65b1
                                        try clear c66
                                        try clear c66b0
                                        try clear c66b1
                                        try clear hcz62_0
                                        try clear hcz62_1
                                        try clear hcz62_10
                                        try clear hcz62_11
                                        try clear hcz62_12
                                        try clear hcz62_13
                                        try clear hcz62_14
                                        try clear hcz62_15
                                        try clear hcz62_16
                                        try clear hcz62_2
                                        try clear hcz62_3
                                        try clear hcz62_4
                                        try clear hcz62_5
                                        try clear hcz62_6
                                        try clear hcz62_7
                                        try clear hcz62_8
                                        try clear hcz62_9
                                        try clear hfz62_0
                                        try clear hfz62_1
                                        try clear hfz62_10
                                        try clear hfz62_11
                                        try clear hfz62_12
                                        try clear hfz62_13
                                        try clear hfz62_14
                                        try clear hfz62_15
                                        try clear hfz62_16
                                        try clear hfz62_2
                                        try clear hfz62_3
                                        try clear hfz62_4
                                        try clear hfz62_5
                                        try clear hfz62_6
                                        try clear hfz62_7
                                        try clear hfz62_8
                                        try clear hfz62_9
                                        try clear hx134_0
                                        try clear hx135_0
                                        try clear hx136_0
                                        try clear hx137_0
                                        try clear hx142_0
                                        try clear hx51_0
                                        try clear p134
                                        try clear p135
                                        try clear p136
                                        try clear p137
                                        try clear p142
                                        try clear p51
                                        try clear q134
                                        try clear q135
                                        try clear q136
                                        try clear q137
                                        try clear q142
                                        try clear q51
                                        obtain ⟨kq, x137_60, rfl, HA, HJ60, HO_9, HO_122016, BK121, HB⟩ := hcut
                                        cases kq with
                                        | zero => exact absurd HA.out (by simp [celluloidlaw04_HuffBack.j3])
                                        | succ kj60 =>
                                          have H := HA.out
                                          clear HA
                                          simp only [celluloidlaw04_HuffBack.j3] at H
                                          by_cases c67 : x137_60 = true
                                          · subst c67
                                            have H1 : (some false) = some r := by rw [if_pos rfl] at H; exact H
                                            clear H
                                            have H := H1
                                            clear H1
                                            first
                                            | exact absurd (Option.some.inj H) (by rw [hr_.out]; decide)
                                            | obtain rfl := Option.some.inj H
                                              go_wp2_with ((with_reducible refine gate_load (t := 26) rfl ?_); refine wpList_load_row rfl 26 _ rfl _ rfl 26 ?lcs (0, 0) _ ?lb Try.underlying26 rfl ?li ?_; (case lb => (with_reducible repeat (first | refine blk_drewN ?_ _ | refine blk_drew ?_ | refine blk_alloc ?_ _)); exact Aside0.out (by assumption)); (case li => exact info26))
                                              go_ret
                                              exact ⟨by first | rfl | (simp [errW_none, errW_some] <;> rfl) | (simp [*, errW_none, errW_some] <;> rfl), by repeat (first | (with_reducible first | exact HB.out | apply below_alloc | apply pw_below_drewN | apply below_drew1 | refine below_set ?_ GE121.out) | exact HB.out)⟩
                                          · replace c67 := Bool.eq_false_iff.mpr c67
                                            subst c67
                                            have H1 : (celluloidlaw04_HuffBack.l1 kj60 l0 a1 t122 (l0.length : Int) 0) = some r := by rw [if_neg (show ¬ (false = true) by decide)] at H; exact H
                                            clear H
                                            have H := H1
                                            clear H1
                                            have H' := Aside0.mk H
                                            clear H
                                            go_wp2_with ((with_reducible refine gate_load (t := 26) rfl ?_); refine wpList_load_row rfl 26 _ rfl _ rfl 26 ?lcs (0, 0) _ ?lb Try.underlying26 rfl ?li ?_; (case lb => (with_reducible repeat (first | refine blk_drewN ?_ _ | refine blk_drew ?_ | refine blk_alloc ?_ _)); exact Aside0.out (by assumption)); (case li => exact info26))
                                            go_loopg [140] kj60 (fun kq v140 w' => ∃ (x140_5 : Int), v140 = .int .i64 x140_5 ∧ Aside0 (celluloidlaw04_HuffBack.l1 kq l0 a1 t122 (l0.length : Int) x140_5 = some r) ∧ Aside0 (kq ≤ kj60) ∧ Aside0 (Kd.R (Kd.int .i64) 3 w' w.heap.size (fun k_ => some k_ ≠ ((.slice Ao8 t117.length co8) : Value).ownBlock) v124 t122) ∧ Aside0 (Kd.R (Kd.int .i64) 3 w' w.heap.size (fun k_ => some k_ ≠ (v124 : Value).ownBlock) (.slice Ao8 t117.length co8) t117) ∧ Aside0 (w'.heap[gb121]? = some (.cells #[.int .i64 t101, .int .i64 t102, .int .i64 t103, .int .i64 t104, .int .i64 t105, .int .i64 t106, .int .i64 t107, .int .i64 t108, .int .i64 t109, .int .i64 t110, .int .i64 t111, .int .i64 t112, .int .i64 t113, .int .i64 t114, .int .i64 t115, .int .i64 t116, (.slice Ao8 t117.length co8)] 26 (0, 0))) ∧ Aside0 (Below w.heap.size w w'))
                                            case atStart => exact ⟨(0), (by first | rfl | (simp; done) | (simp [*]; done)), H', ⟨Nat.le_refl _⟩, ⟨by (with_reducible repeat (first | apply Kd.R_alloc | apply Kd.R_drewN | apply Kd.R_drew)); exact HO_9.out⟩, ⟨by (with_reducible repeat (first | apply Kd.R_alloc | apply Kd.R_drewN | apply Kd.R_drew)); exact HO_122016.out⟩, ⟨by (with_reducible repeat (first | refine blk_drewN ?_ _ | refine blk_drew ?_ | refine blk_alloc ?_ _)); exact BK121.out⟩, ⟨by repeat (first | (with_reducible first | exact HB.out | apply below_alloc | apply pw_below_drewN | apply below_drew1 | refine below_set ?_ GE121.out) | exact HB.out)⟩⟩
                                            case round =>
                                              as_aux_lemma =>
                                                clear H'
                                                try clear p1
                                                try clear q1
                                                try clear hx1
                                                try clear p2
                                                try clear c3
                                                try clear c4
                                                try clear c5
                                                try clear p5
                                                try clear q5
                                                try clear hx5
                                                try clear hf5
                                                try clear c6
                                                try clear p6
                                                try clear hcv6
                                                try clear p13
                                                try clear q13
                                                try clear hx13
                                                try clear p14
                                                try clear q14
                                                try clear hx14
                                                try clear c30
                                                try clear c39
                                                try clear c39b0
                                                try clear c40
                                                try clear c42
                                                try clear c44
                                                try clear c44b0
                                                try clear c44b1
                                                try clear c46
                                                try clear c46b0
                                                try clear c47
                                                try clear c47b0
                                                try clear c49
                                                try clear c49b0
                                                try clear c49b1
                                                try clear p51
                                                try clear q51
                                                try clear hx51
                                                try clear hf51
                                                try clear c59
                                                try clear c59b0
                                                try clear c59b1
                                                try clear c59b2
                                                try clear hcv63
                                                try clear p64
                                                try clear c65
                                                try clear c65b0
                                                try clear c65b1
                                                try clear c66
                                                try clear c66b0
                                                try clear c66b1
                                                try clear c67
                                                try clear hcz62_0
                                                try clear hcz62_1
                                                try clear hcz62_10
                                                try clear hcz62_11
                                                try clear hcz62_12
                                                try clear hcz62_13
                                                try clear hcz62_14
                                                try clear hcz62_15
                                                try clear hcz62_16
                                                try clear hcz62_2
                                                try clear hcz62_3
                                                try clear hcz62_4
                                                try clear hcz62_5
                                                try clear hcz62_6
                                                try clear hcz62_7
                                                try clear hcz62_8
                                                try clear hcz62_9
                                                try clear hfz62_0
                                                try clear hfz62_1
                                                try clear hfz62_10
                                                try clear hfz62_11
                                                try clear hfz62_12
                                                try clear hfz62_13
                                                try clear hfz62_14
                                                try clear hfz62_15
                                                try clear hfz62_16
                                                try clear hfz62_2
                                                try clear hfz62_3
                                                try clear hfz62_4
                                                try clear hfz62_5
                                                try clear hfz62_6
                                                try clear hfz62_7
                                                try clear hfz62_8
                                                try clear hfz62_9
                                                try clear hx134_0
                                                try clear hx135_0
                                                try clear hx136_0
                                                try clear hx137_0
                                                try clear hx142_0
                                                try clear hx51_0
                                                try clear p1
                                                try clear p13
                                                try clear p134
                                                try clear p135
                                                try clear p136
                                                try clear p137
                                                try clear p14
                                                try clear p142
                                                try clear p2
                                                try clear p5
                                                try clear p51
                                                try clear p6
                                                try clear p64
                                                try clear q1
                                                try clear q13
                                                try clear q134
                                                try clear q135
                                                try clear q136
                                                try clear q137
                                                try clear q14
                                                try clear q142
                                                try clear q5
                                                try clear q51
                                                obtain ⟨x140_5, rfl, HA, HK5, HO_9, HO_122016, BK121, HB⟩ := hrel
                                                cases gk with
                                                | zero => exact absurd HA.out (by simp [celluloidlaw04_HuffBack.l1])
                                                | succ k5 =>
                                                  have H := HA.out
                                                  clear HA
                                                  simp only [celluloidlaw04_HuffBack.l1] at H
                                                  by_cases c68 : x140_5 < (l0.length : Int)
                                                  · rw [if_pos c68] at H
                                                    have c68b0 : decide (x140_5 < (l0.length : Int)) = true := decide_eq_true c68
                                                    clear c68
                                                    have HC69 := Aside0.mk H
                                                    clear H
                                                    go_upto_region 19 with ((with_reducible refine gate_load (t := 26) rfl ?_); refine wpList_load_row rfl 26 _ rfl _ rfl 26 ?lcs (0, 0) _ ?lb Try.underlying26 rfl ?li ?_; (case lb => (with_reducible repeat (first | refine blk_drewN ?_ _ | refine blk_drew ?_ | refine blk_alloc ?_ _)); exact Aside0.out (by assumption)); (case li => exact info26))
                                                    go_cut [177] (fun v177 wc => ∃ (kq : Nat) (x177_68 : Bool), v177 = .bool x177_68 ∧ Aside0 (celluloidlaw04_HuffBack.j5 kq l0 a1 t122 (l0.length : Int) x140_5 x177_68 = some r) ∧ Aside0 (kq ≤ k5) ∧ Aside0 (Kd.R (Kd.int .i64) 3 wc w.heap.size (fun k_ => some k_ ≠ ((.slice Ao8 t117.length co8) : Value).ownBlock) v124 t122) ∧ Aside0 (Kd.R (Kd.int .i64) 3 wc w.heap.size (fun k_ => some k_ ≠ (v124 : Value).ownBlock) (.slice Ao8 t117.length co8) t117) ∧ Aside0 (wc.heap[gb121]? = some (.cells #[.int .i64 t101, .int .i64 t102, .int .i64 t103, .int .i64 t104, .int .i64 t105, .int .i64 t106, .int .i64 t107, .int .i64 t108, .int .i64 t109, .int .i64 t110, .int .i64 t111, .int .i64 t112, .int .i64 t113, .int .i64 t114, .int .i64 t115, .int .i64 t116, (.slice Ao8 t117.length co8)] 26 (0, 0))) ∧ Aside0 (Below w.heap.size w wc))
                                                    case first =>
                                                      as_aux_lemma =>
                                                        have H := HC69.out
                                                        clear HC69
                                                        by_cases c70 : x140_5 = a1
                                                        · rw [if_pos c70] at H
                                                          have c70b0 : (x140_5 == a1) = true := beq_iff_eq.mpr c70
                                                          have c70b1 : (x140_5 != a1) = false := bne_eq_false_iff_eq.mpr c70
                                                          clear c70
                                                          (first | rw [c70b0] | (simp only [i64_w, i32_w]; rw [c70b0]) | skip)
                                                          have H' := Aside0.mk H
                                                          clear H
                                                          try go_wp2_with ((with_reducible refine gate_load (t := 26) rfl ?_); refine wpList_load_row rfl 26 _ rfl _ rfl 26 ?lcs (0, 0) _ ?lb Try.underlying26 rfl ?li ?_; (case lb => (with_reducible repeat (first | refine blk_drewN ?_ _ | refine blk_drew ?_ | refine blk_alloc ?_ _)); exact Aside0.out (by assumption)); (case li => exact info26))
                                                          have n0_ := Aside0.mk (Kd.R_drew HO_9.out)
                                                          have n1_ := Aside0.mk (Kd.R_drew HO_122016.out)
                                                          have n2_ := Aside0.mk (blk_drew BK121.out)
                                                          have n3_ := Aside0.mk (below_drew1 HB.out)
                                                          clear HO_9
                                                          clear HO_122016
                                                          clear BK121
                                                          clear HB
                                                          have HO_9 := n0_
                                                          have HO_122016 := n1_
                                                          have BK121 := n2_
                                                          have HB := n3_
                                                          clear n0_ n1_ n2_ n3_
                                                          refine start_ (n := 35) (S := fun w' => True) (ds := []) #[false, false, false, false, false, false, false, false, false, false, false, false, false, false, false, false, false, false, false, false, false, false, false, false, false, false, false, false, false, false, false, false, false, false, false] (by kernel_rfl) rfl rfl trivial (fun hHeld => ?_); refine with_tabW celluloidlaw04_HuffBack.tab19 celluloidlaw04_HuffBack.bits19 (fun HT_ HW_ => ?_)
                                                          generalize wr.drew = w71 at HO_9 HO_122016 BK121 HB hHeld ⊢
                                                          refine pure_ (i := 0) (N := some 143) (v := ?_) (a' := ?_) #[true, false, false, false, false, false, false, false, false, false, false, false, false, false, false, false, false, false, false, false, false, false, false, false, false, false, false, false, false, false, false, false, false, false, false] rfl rfl (any_of HT_.out (by kernel_rfl)) (fun _ _ _ h => h) (Or.inl ⟨by rfl, ?_⟩) ?_ ?_
                                                          rotate_left
                                                          · intro w'
                                                            go_simp
                                                            with_reducible rfl
                                                          rotate_left
                                                          · simp only [Act.put, List.setIfInBounds_toArray, List.set_cons_zero, List.set_cons_succ, i64_w, i32_w]
                                                            rfl
                                                          refine pure_ (i := 1) (N := some 144) (v := ?_) (a' := ?_) #[true, true, false, false, false, false, false, false, false, false, false, false, false, false, false, false, false, false, false, false, false, false, false, false, false, false, false, false, false, false, false, false, false, false, false] rfl rfl (any_of HT_.out (by kernel_rfl)) (fun _ _ _ h => h) (Or.inl ⟨by rfl, ?_⟩) ?_ ?_
                                                          rotate_left
                                                          · intro w'
                                                            go_simp
                                                            with_reducible rfl
                                                          rotate_left
                                                          · simp only [Act.put, List.setIfInBounds_toArray, List.set_cons_zero, List.set_cons_succ, i64_w, i32_w]
                                                            rfl
                                                          refine pure_ (i := 2) (N := some 145) (v := ?_) (a' := ?_) #[true, true, true, false, false, false, false, false, false, false, false, false, false, false, false, false, false, false, false, false, false, false, false, false, false, false, false, false, false, false, false, false, false, false, false] rfl rfl (any_of HT_.out (by kernel_rfl)) (fun _ _ _ h => h) (Or.inl ⟨by rfl, ?_⟩) ?_ ?_
                                                          rotate_left
                                                          · intro w'
                                                            go_simp
                                                            with_reducible rfl
                                                          rotate_left
                                                          · simp only [Act.put, List.setIfInBounds_toArray, List.set_cons_zero, List.set_cons_succ, i64_w, i32_w]
                                                            rfl
                                                          refine pure_ (i := 3) (N := some 146) (v := ?_) (a' := ?_) #[true, true, true, true, false, false, false, false, false, false, false, false, false, false, false, false, false, false, false, false, false, false, false, false, false, false, false, false, false, false, false, false, false, false, false] rfl rfl (any_of HT_.out (by kernel_rfl)) (fun _ _ _ h => h) (Or.inl ⟨by rfl, ?_⟩) ?_ ?_
                                                          rotate_left
                                                          · intro w'
                                                            go_simp
                                                            with_reducible rfl
                                                          rotate_left
                                                          · simp only [Act.put, List.setIfInBounds_toArray, List.set_cons_zero, List.set_cons_succ, i64_w, i32_w]
                                                            rfl
                                                          refine pure_ (i := 4) (N := some 147) (v := undef) (a' := ?_) #[true, true, true, true, true, false, false, false, false, false, false, false, false, false, false, false, false, false, false, false, false, false, false, false, false, false, false, false, false, false, false, false, false, false, false] rfl rfl (any_of HT_.out (by kernel_rfl)) (fun _ _ _ h => h) (Or.inr ⟨by rfl, rfl⟩) ?_ ?_
                                                          rotate_left
                                                          · simp only [Act.put, List.setIfInBounds_toArray, List.set_cons_zero, List.set_cons_succ, i64_w, i32_w]
                                                            rfl
                                                          refine pure_ (i := 5) (N := some 148) (v := undef) (a' := ?_) #[true, true, true, true, true, true, false, false, false, false, false, false, false, false, false, false, false, false, false, false, false, false, false, false, false, false, false, false, false, false, false, false, false, false, false] rfl rfl (any_of HT_.out (by kernel_rfl)) (fun _ _ _ h => h) (Or.inr ⟨by rfl, rfl⟩) ?_ ?_
                                                          rotate_left
                                                          · simp only [Act.put, List.setIfInBounds_toArray, List.set_cons_zero, List.set_cons_succ, i64_w, i32_w]
                                                            rfl
                                                          refine pure_ (i := 6) (N := some 149) (v := undef) (a' := ?_) #[true, true, true, true, true, true, true, false, false, false, false, false, false, false, false, false, false, false, false, false, false, false, false, false, false, false, false, false, false, false, false, false, false, false, false] rfl rfl (any_of HT_.out (by kernel_rfl)) (fun _ _ _ h => h) (Or.inr ⟨by rfl, rfl⟩) ?_ ?_
                                                          rotate_left
                                                          · simp only [Act.put, List.setIfInBounds_toArray, List.set_cons_zero, List.set_cons_succ, i64_w, i32_w]
                                                            rfl
                                                          refine pure_ (i := 7) (N := some 150) (v := undef) (a' := ?_) #[true, true, true, true, true, true, true, true, false, false, false, false, false, false, false, false, false, false, false, false, false, false, false, false, false, false, false, false, false, false, false, false, false, false, false] rfl rfl (any_of HT_.out (by kernel_rfl)) (fun _ _ _ h => h) (Or.inr ⟨by rfl, rfl⟩) ?_ ?_
                                                          rotate_left
                                                          · simp only [Act.put, List.setIfInBounds_toArray, List.set_cons_zero, List.set_cons_succ, i64_w, i32_w]
                                                            rfl
                                                          refine pure_ (i := 8) (N := some 151) (v := undef) (a' := ?_) #[true, true, true, true, true, true, true, true, true, false, false, false, false, false, false, false, false, false, false, false, false, false, false, false, false, false, false, false, false, false, false, false, false, false, false] rfl rfl (any_of HT_.out (by kernel_rfl)) (fun _ _ _ h => h) (Or.inr ⟨by rfl, rfl⟩) ?_ ?_
                                                          rotate_left
                                                          · simp only [Act.put, List.setIfInBounds_toArray, List.set_cons_zero, List.set_cons_succ, i64_w, i32_w]
                                                            rfl
                                                          refine pure_ (i := 9) (N := some 152) (v := undef) (a' := ?_) #[true, true, true, true, true, true, true, true, true, true, false, false, false, false, false, false, false, false, false, false, false, false, false, false, false, false, false, false, false, false, false, false, false, false, false] rfl rfl (any_of HT_.out (by kernel_rfl)) (fun _ _ _ h => h) (Or.inr ⟨by rfl, rfl⟩) ?_ ?_
                                                          rotate_left
                                                          · simp only [Act.put, List.setIfInBounds_toArray, List.set_cons_zero, List.set_cons_succ, i64_w, i32_w]
                                                            rfl
                                                          refine pure_ (i := 10) (N := some 153) (v := undef) (a' := ?_) #[true, true, true, true, true, true, true, true, true, true, true, false, false, false, false, false, false, false, false, false, false, false, false, false, false, false, false, false, false, false, false, false, false, false, false] rfl rfl (any_of HT_.out (by kernel_rfl)) (fun _ _ _ h => h) (Or.inr ⟨by rfl, rfl⟩) ?_ ?_
                                                          rotate_left
                                                          · simp only [Act.put, List.setIfInBounds_toArray, List.set_cons_zero, List.set_cons_succ, i64_w, i32_w]
                                                            rfl
                                                          refine pure_ (i := 11) (N := some 154) (v := undef) (a' := ?_) #[true, true, true, true, true, true, true, true, true, true, true, true, false, false, false, false, false, false, false, false, false, false, false, false, false, false, false, false, false, false, false, false, false, false, false] rfl rfl (any_of HT_.out (by kernel_rfl)) (fun _ _ _ h => h) (Or.inr ⟨by rfl, rfl⟩) ?_ ?_
                                                          rotate_left
                                                          · simp only [Act.put, List.setIfInBounds_toArray, List.set_cons_zero, List.set_cons_succ, i64_w, i32_w]
                                                            rfl
                                                          refine pure_ (i := 12) (N := some 155) (v := undef) (a' := ?_) #[true, true, true, true, true, true, true, true, true, true, true, true, true, false, false, false, false, false, false, false, false, false, false, false, false, false, false, false, false, false, false, false, false, false, false] rfl rfl (any_of HT_.out (by kernel_rfl)) (fun _ _ _ h => h) (Or.inr ⟨by rfl, rfl⟩) ?_ ?_
                                                          rotate_left
                                                          · simp only [Act.put, List.setIfInBounds_toArray, List.set_cons_zero, List.set_cons_succ, i64_w, i32_w]
                                                            rfl
                                                          refine pure_ (i := 13) (N := some 156) (v := ?_) (a' := ?_) #[true, true, true, true, true, true, true, true, true, true, true, true, true, true, false, false, false, false, false, false, false, false, false, false, false, false, false, false, false, false, false, false, false, false, false] rfl rfl (any_of HT_.out (by kernel_rfl)) (fun _ _ _ h => h) (Or.inl ⟨by rfl, ?_⟩) ?_ ?_
                                                          rotate_left
                                                          · intro w'
                                                            go_simp
                                                            with_reducible rfl
                                                          rotate_left
                                                          · simp only [Act.put, List.setIfInBounds_toArray, List.set_cons_zero, List.set_cons_succ, i64_w, i32_w]
                                                            rfl
                                                          refine pure_ (i := 14) (N := some 157) (v := ?_) (a' := ?_) #[true, true, true, true, true, true, true, true, true, true, true, true, true, true, true, false, false, false, false, false, false, false, false, false, false, false, false, false, false, false, false, false, false, false, false] rfl rfl (any_of HT_.out (by kernel_rfl)) (fun _ _ _ h => h) (Or.inl ⟨by rfl, ?_⟩) ?_ ?_
                                                          rotate_left
                                                          · intro w'
                                                            go_simp
                                                            with_reducible rfl
                                                          rotate_left
                                                          · simp only [Act.put, List.setIfInBounds_toArray, List.set_cons_zero, List.set_cons_succ, i64_w, i32_w]
                                                            rfl
                                                          refine pure_ (i := 15) (N := some 158) (v := undef) (a' := ?_) #[true, true, true, true, true, true, true, true, true, true, true, true, true, true, true, true, false, false, false, false, false, false, false, false, false, false, false, false, false, false, false, false, false, false, false] rfl rfl (any_of HT_.out (by kernel_rfl)) (fun _ _ _ h => h) (Or.inr ⟨by rfl, rfl⟩) ?_ ?_
                                                          rotate_left
                                                          · simp only [Act.put, List.setIfInBounds_toArray, List.set_cons_zero, List.set_cons_succ, i64_w, i32_w]
                                                            rfl
                                                          refine pure_ (i := 16) (N := some 159) (v := undef) (a' := ?_) #[true, true, true, true, true, true, true, true, true, true, true, true, true, true, true, true, true, false, false, false, false, false, false, false, false, false, false, false, false, false, false, false, false, false, false] rfl rfl (any_of HT_.out (by kernel_rfl)) (fun _ _ _ h => h) (Or.inr ⟨by rfl, rfl⟩) ?_ ?_
                                                          rotate_left
                                                          · simp only [Act.put, List.setIfInBounds_toArray, List.set_cons_zero, List.set_cons_succ, i64_w, i32_w]
                                                            rfl
                                                          refine pure_ (i := 17) (N := some 160) (v := undef) (a' := ?_) #[true, true, true, true, true, true, true, true, true, true, true, true, true, true, true, true, true, true, false, false, false, false, false, false, false, false, false, false, false, false, false, false, false, false, false] rfl rfl (any_of HT_.out (by kernel_rfl)) (fun _ _ _ h => h) (Or.inr ⟨by rfl, rfl⟩) ?_ ?_
                                                          rotate_left
                                                          · simp only [Act.put, List.setIfInBounds_toArray, List.set_cons_zero, List.set_cons_succ, i64_w, i32_w]
                                                            rfl
                                                          refine pure_ (i := 18) (N := some 161) (v := undef) (a' := ?_) #[true, true, true, true, true, true, true, true, true, true, true, true, true, true, true, true, true, true, true, false, false, false, false, false, false, false, false, false, false, false, false, false, false, false, false] rfl rfl (any_of HT_.out (by kernel_rfl)) (fun _ _ _ h => h) (Or.inr ⟨by rfl, rfl⟩) ?_ ?_
                                                          rotate_left
                                                          · simp only [Act.put, List.setIfInBounds_toArray, List.set_cons_zero, List.set_cons_succ, i64_w, i32_w]
                                                            rfl
                                                          refine pure_ (i := 19) (N := some 162) (v := undef) (a' := ?_) #[true, true, true, true, true, true, true, true, true, true, true, true, true, true, true, true, true, true, true, true, false, false, false, false, false, false, false, false, false, false, false, false, false, false, false] rfl rfl (any_of HT_.out (by kernel_rfl)) (fun _ _ _ h => h) (Or.inr ⟨by rfl, rfl⟩) ?_ ?_
                                                          rotate_left
                                                          · simp only [Act.put, List.setIfInBounds_toArray, List.set_cons_zero, List.set_cons_succ, i64_w, i32_w]
                                                            rfl
                                                          refine pure_ (i := 20) (N := some 163) (v := undef) (a' := ?_) #[true, true, true, true, true, true, true, true, true, true, true, true, true, true, true, true, true, true, true, true, true, false, false, false, false, false, false, false, false, false, false, false, false, false, false] rfl rfl (any_of HT_.out (by kernel_rfl)) (fun _ _ _ h => h) (Or.inr ⟨by rfl, rfl⟩) ?_ ?_
                                                          rotate_left
                                                          · simp only [Act.put, List.setIfInBounds_toArray, List.set_cons_zero, List.set_cons_succ, i64_w, i32_w]
                                                            rfl
                                                          refine pure_ (i := 21) (N := some 164) (v := undef) (a' := ?_) #[true, true, true, true, true, true, true, true, true, true, true, true, true, true, true, true, true, true, true, true, true, true, false, false, false, false, false, false, false, false, false, false, false, false, false] rfl rfl (any_of HT_.out (by kernel_rfl)) (fun _ _ _ h => h) (Or.inr ⟨by rfl, rfl⟩) ?_ ?_
                                                          rotate_left
                                                          · simp only [Act.put, List.setIfInBounds_toArray, List.set_cons_zero, List.set_cons_succ, i64_w, i32_w]
                                                            rfl
                                                          refine pure_ (i := 22) (N := some 165) (v := undef) (a' := ?_) #[true, true, true, true, true, true, true, true, true, true, true, true, true, true, true, true, true, true, true, true, true, true, true, false, false, false, false, false, false, false, false, false, false, false, false] rfl rfl (any_of HT_.out (by kernel_rfl)) (fun _ _ _ h => h) (Or.inr ⟨by rfl, rfl⟩) ?_ ?_
                                                          rotate_left
                                                          · simp only [Act.put, List.setIfInBounds_toArray, List.set_cons_zero, List.set_cons_succ, i64_w, i32_w]
                                                            rfl
                                                          refine pure_ (i := 23) (N := some 166) (v := undef) (a' := ?_) #[true, true, true, true, true, true, true, true, true, true, true, true, true, true, true, true, true, true, true, true, true, true, true, true, false, false, false, false, false, false, false, false, false, false, false] rfl rfl (any_of HT_.out (by kernel_rfl)) (fun _ _ _ h => h) (Or.inr ⟨by rfl, rfl⟩) ?_ ?_
                                                          rotate_left
                                                          · simp only [Act.put, List.setIfInBounds_toArray, List.set_cons_zero, List.set_cons_succ, i64_w, i32_w]
                                                            rfl
                                                          refine pure_ (i := 24) (N := some 167) (v := undef) (a' := ?_) #[true, true, true, true, true, true, true, true, true, true, true, true, true, true, true, true, true, true, true, true, true, true, true, true, true, false, false, false, false, false, false, false, false, false, false] rfl rfl (any_of HT_.out (by kernel_rfl)) (fun _ _ _ h => h) (Or.inr ⟨by rfl, rfl⟩) ?_ ?_
                                                          rotate_left
                                                          · simp only [Act.put, List.setIfInBounds_toArray, List.set_cons_zero, List.set_cons_succ, i64_w, i32_w]
                                                            rfl
                                                          refine pure_ (i := 25) (N := some 168) (v := undef) (a' := ?_) #[true, true, true, true, true, true, true, true, true, true, true, true, true, true, true, true, true, true, true, true, true, true, true, true, true, true, false, false, false, false, false, false, false, false, false] rfl rfl (any_of HT_.out (by kernel_rfl)) (fun _ _ _ h => h) (Or.inr ⟨by rfl, rfl⟩) ?_ ?_
                                                          rotate_left
                                                          · simp only [Act.put, List.setIfInBounds_toArray, List.set_cons_zero, List.set_cons_succ, i64_w, i32_w]
                                                            rfl
                                                          refine pure_ (i := 26) (N := some 169) (v := undef) (a' := ?_) #[true, true, true, true, true, true, true, true, true, true, true, true, true, true, true, true, true, true, true, true, true, true, true, true, true, true, true, false, false, false, false, false, false, false, false] rfl rfl (any_of HT_.out (by kernel_rfl)) (fun _ _ _ h => h) (Or.inr ⟨by rfl, rfl⟩) ?_ ?_
                                                          rotate_left
                                                          · simp only [Act.put, List.setIfInBounds_toArray, List.set_cons_zero, List.set_cons_succ, i64_w, i32_w]
                                                            rfl
                                                          refine pure_ (i := 27) (N := some 170) (v := undef) (a' := ?_) #[true, true, true, true, true, true, true, true, true, true, true, true, true, true, true, true, true, true, true, true, true, true, true, true, true, true, true, true, false, false, false, false, false, false, false] rfl rfl (any_of HT_.out (by kernel_rfl)) (fun _ _ _ h => h) (Or.inr ⟨by rfl, rfl⟩) ?_ ?_
                                                          rotate_left
                                                          · simp only [Act.put, List.setIfInBounds_toArray, List.set_cons_zero, List.set_cons_succ, i64_w, i32_w]
                                                            rfl
                                                          refine pure_ (i := 28) (N := some 171) (v := undef) (a' := ?_) #[true, true, true, true, true, true, true, true, true, true, true, true, true, true, true, true, true, true, true, true, true, true, true, true, true, true, true, true, true, false, false, false, false, false, false] rfl rfl (any_of HT_.out (by kernel_rfl)) (fun _ _ _ h => h) (Or.inr ⟨by rfl, rfl⟩) ?_ ?_
                                                          rotate_left
                                                          · simp only [Act.put, List.setIfInBounds_toArray, List.set_cons_zero, List.set_cons_succ, i64_w, i32_w]
                                                            rfl
                                                          refine pure_ (i := 29) (N := some 172) (v := undef) (a' := ?_) #[true, true, true, true, true, true, true, true, true, true, true, true, true, true, true, true, true, true, true, true, true, true, true, true, true, true, true, true, true, true, false, false, false, false, false] rfl rfl (any_of HT_.out (by kernel_rfl)) (fun _ _ _ h => h) (Or.inr ⟨by rfl, rfl⟩) ?_ ?_
                                                          rotate_left
                                                          · simp only [Act.put, List.setIfInBounds_toArray, List.set_cons_zero, List.set_cons_succ, i64_w, i32_w]
                                                            rfl
                                                          refine pure_ (i := 30) (N := some 173) (v := undef) (a' := ?_) #[true, true, true, true, true, true, true, true, true, true, true, true, true, true, true, true, true, true, true, true, true, true, true, true, true, true, true, true, true, true, true, false, false, false, false] rfl rfl (any_of HT_.out (by kernel_rfl)) (fun _ _ _ h => h) (Or.inr ⟨by rfl, rfl⟩) ?_ ?_
                                                          rotate_left
                                                          · simp only [Act.put, List.setIfInBounds_toArray, List.set_cons_zero, List.set_cons_succ, i64_w, i32_w]
                                                            rfl
                                                          refine pure_ (i := 31) (N := some 174) (v := undef) (a' := ?_) #[true, true, true, true, true, true, true, true, true, true, true, true, true, true, true, true, true, true, true, true, true, true, true, true, true, true, true, true, true, true, true, true, false, false, false] rfl rfl (any_of HT_.out (by kernel_rfl)) (fun _ _ _ h => h) (Or.inr ⟨by rfl, rfl⟩) ?_ ?_
                                                          rotate_left
                                                          · simp only [Act.put, List.setIfInBounds_toArray, List.set_cons_zero, List.set_cons_succ, i64_w, i32_w]
                                                            rfl
                                                          refine pure_ (i := 32) (N := some 175) (v := undef) (a' := ?_) #[true, true, true, true, true, true, true, true, true, true, true, true, true, true, true, true, true, true, true, true, true, true, true, true, true, true, true, true, true, true, true, true, true, false, false] rfl rfl (any_of HT_.out (by kernel_rfl)) (fun _ _ _ h => h) (Or.inr ⟨by rfl, rfl⟩) ?_ ?_
                                                          rotate_left
                                                          · simp only [Act.put, List.setIfInBounds_toArray, List.set_cons_zero, List.set_cons_succ, i64_w, i32_w]
                                                            rfl
                                                          refine pure_ (i := 33) (N := some 176) (v := undef) (a' := ?_) #[true, true, true, true, true, true, true, true, true, true, true, true, true, true, true, true, true, true, true, true, true, true, true, true, true, true, true, true, true, true, true, true, true, true, false] rfl rfl (any_of HT_.out (by kernel_rfl)) (fun _ _ _ h => h) (Or.inr ⟨by rfl, rfl⟩) ?_ ?_
                                                          rotate_left
                                                          · simp only [Act.put, List.setIfInBounds_toArray, List.set_cons_zero, List.set_cons_succ, i64_w, i32_w]
                                                            rfl
                                                          refine pure_ (i := 34) (N := some 177) (v := ?_) (a' := ?_) #[true, true, true, true, true, true, true, true, true, true, true, true, true, true, true, true, true, true, true, true, true, true, true, true, true, true, true, true, true, true, true, true, true, true, true] rfl rfl (any_of HT_.out (by kernel_rfl)) (fun _ _ _ h => h) (Or.inl ⟨by rfl, ?_⟩) ?_ ?_
                                                          rotate_left
                                                          · intro w'
                                                            go_simp
                                                            with_reducible rfl
                                                          rotate_left
                                                          · simp only [Act.put, List.setIfInBounds_toArray, List.set_cons_zero, List.set_cons_succ, i64_w, i32_w]
                                                            rfl
                                                          refine done_ (done_of HT_.out (by kernel_rfl)) ?_
                                                          try go_wp2_with ((with_reducible refine gate_load (t := 26) rfl ?_); refine wpList_load_row rfl 26 _ rfl _ rfl 26 ?lcs (0, 0) _ ?lb Try.underlying26 rfl ?li ?_; (case lb => (with_reducible repeat (first | refine blk_drewN ?_ _ | refine blk_drew ?_ | refine blk_alloc ?_ _)); exact Aside0.out (by assumption)); (case li => exact info26))
                                                          go_meet
                                                          case rel => exact ⟨_, (false), (by first | rfl | (simp; done) | (simp [*]; done)), H', ⟨by have := HJ5.out; have := HJ26.out; have := HK3.out; have := HJ60.out; have := HK5.out; first | omega | exact Nat.le_refl _⟩, ⟨by (with_reducible repeat (first | apply Kd.R_alloc | apply Kd.R_drewN | apply Kd.R_drew)); exact HO_9.out⟩, ⟨by (with_reducible repeat (first | apply Kd.R_alloc | apply Kd.R_drewN | apply Kd.R_drew)); exact HO_122016.out⟩, ⟨by (with_reducible repeat (first | refine blk_drewN ?_ _ | refine blk_drew ?_ | refine blk_alloc ?_ _)); exact BK121.out⟩, ⟨by repeat (first | (with_reducible first | exact HB.out | apply below_alloc | apply pw_below_drewN | apply below_drew1 | refine below_set ?_ GE121.out) | exact HB.out)⟩⟩
                                                        · rw [if_neg c70] at H
                                                          have c70b0 : (x140_5 == a1) = false := beq_eq_false_iff_ne.mpr c70
                                                          have c70b1 : (x140_5 != a1) = true := bne_iff_ne.mpr c70
                                                          (first | rw [c70b0] | (simp only [i64_w, i32_w]; rw [c70b0]) | skip)
                                                          by_cases c72 : 0 ≤ x140_5
                                                          · rw [if_pos c72] at H
                                                            have c72b0 : decide (0 ≤ x140_5) = true := decide_eq_true c72
                                                            clear c72
                                                            by_cases c73 : x140_5 < (l0.length : Int)
                                                            · rw [if_pos c73] at H
                                                              have c73b0 : decide (x140_5 < (l0.length : Int)) = true := decide_eq_true c73
                                                              clear c73
                                                              by_cases c74 : 0 ≤ a1
                                                              · rw [if_pos c74] at H
                                                                have c74b0 : decide (0 ≤ a1) = true := decide_eq_true c74
                                                                clear c74
                                                                by_cases c75 : a1 < (l0.length : Int)
                                                                · rw [if_pos c75] at H
                                                                  have c75b0 : decide (a1 < (l0.length : Int)) = true := decide_eq_true c75
                                                                  clear c75
                                                                  by_cases c76 : (rd l0 x140_5) ≥ (rd l0 a1)
                                                                  · rw [if_pos c76] at H
                                                                    have c76b0 : decide ((rd l0 a1) ≤ (rd l0 x140_5)) = true := decide_eq_true c76
                                                                    clear c76
                                                                    by_cases c77 : x140_5 < (t122.length : Int)
                                                                    · rw [if_pos c77] at H
                                                                      have c77b0 : decide (x140_5 < (t122.length : Int)) = true := decide_eq_true c77
                                                                      clear c77
                                                                      obtain ⟨ji78, hji78⟩ : ∃ j_ : Int, (wrap64 ((rd l0 x140_5) - (rd l0 a1))) = j_ := ⟨_, rfl⟩
                                                                      replace H : (if 0 ≤ (ji78) then (if a1 < (t122.length : Int) then (celluloidlaw04_HuffBack.j5 k5 l0 a1 t122 (l0.length : Int) x140_5 ((shr .i64 (rd t122 x140_5) (ji78)) == (rd t122 a1))) else (none)) else (none)) = some r := by first | (rw [hji78] at H; exact H) | (simp only [hji78] at H ⊢; exact H)
                                                                      have hji78w : (IntKind.i64.wrap ((rd l0 x140_5) - (rd l0 a1))) = ji78 := (i64_w _).trans hji78
                                                                      by_cases c79 : 0 ≤ (ji78)
                                                                      · rw [if_pos c79] at H
                                                                        have c79b0 := eq_true c79
                                                                        have c79b1 : decide (0 ≤ (ji78)) = true := decide_eq_true c79
                                                                        clear c79
                                                                        obtain ⟨ji80, hji80⟩ : ∃ j_ : Int, (shr .i64 (rd t122 x140_5) (ji78)) = j_ := ⟨_, rfl⟩
                                                                        replace H : (if a1 < (t122.length : Int) then (celluloidlaw04_HuffBack.j5 k5 l0 a1 t122 (l0.length : Int) x140_5 ((ji80) == (rd t122 a1))) else (none)) = some r := by first | (rw [hji80] at H; exact H) | (simp only [hji80] at H ⊢; exact H)
                                                                        have hji80_ : ((rd t122 x140_5) / 2 ^ min (ji78).toNat 64) = ji80 := hji80
                                                                        have hji80z : (ji78) ≤ 64 → ((rd t122 x140_5) / 2 ^ (ji78).toNat) = ji80 := shr_small hji80
                                                                        by_cases c81 : a1 < (t122.length : Int)
                                                                        · rw [if_pos c81] at H
                                                                          have c81b0 : decide (a1 < (t122.length : Int)) = true := decide_eq_true c81
                                                                          clear c81
                                                                          have H' := Aside0.mk H
                                                                          clear H
                                                                          try go_wp2_with ((with_reducible refine gate_load (t := 26) rfl ?_); refine wpList_load_row rfl 26 _ rfl _ rfl 26 ?lcs (0, 0) _ ?lb Try.underlying26 rfl ?li ?_; (case lb => (with_reducible repeat (first | refine blk_drewN ?_ _ | refine blk_drew ?_ | refine blk_alloc ?_ _)); exact Aside0.out (by assumption)); (case li => exact info26))
                                                                          have n0_ := Aside0.mk (Kd.R_drew HO_9.out)
                                                                          have n1_ := Aside0.mk (Kd.R_drew HO_122016.out)
                                                                          have n2_ := Aside0.mk (blk_drew BK121.out)
                                                                          have n3_ := Aside0.mk (below_drew1 HB.out)
                                                                          clear HO_9
                                                                          clear HO_122016
                                                                          clear BK121
                                                                          clear HB
                                                                          have HO_9 := n0_
                                                                          have HO_122016 := n1_
                                                                          have BK121 := n2_
                                                                          have HB := n3_
                                                                          clear n0_ n1_ n2_ n3_
                                                                          have p144 : 0 ≤ (x140_5 : Int) := of_decide_eq_true (by first | (with_reducible assumption) | assumption)
                                                                          have q144 : x140_5 < (l0.length : Int) := of_decide_eq_true (by first | (with_reducible assumption) | assumption)
                                                                          obtain ⟨ad144, e144, hx144_0⟩ := Kd.at_int HR0.out x140_5 p144 q144
                                                                          have hw144_0 := hx144_0
                                                                          obtain rfl : ad134 = ad144 := (by injection e144)
                                                                          replace hx144_0 := (HB.out.cell (World.block_lt_of_cell? w _ hx144_0)).trans hx144_0
                                                                          replace p144 := eq_true p144
                                                                          replace q144 := eq_true q144
                                                                          have p145 : 0 ≤ (a1 : Int) := of_decide_eq_true (by first | (with_reducible assumption) | assumption)
                                                                          have q145 : a1 < (l0.length : Int) := of_decide_eq_true (by first | (with_reducible assumption) | assumption)
                                                                          obtain ⟨ad145, e145, hx145_0⟩ := Kd.at_int HR0.out a1 p145 q145
                                                                          have hw145_0 := hx145_0
                                                                          obtain rfl : ad134 = ad145 := (by injection e145)
                                                                          replace hx145_0 := (HB.out.cell (World.block_lt_of_cell? w _ hx145_0)).trans hx145_0
                                                                          replace p145 := eq_true p145
                                                                          replace q145 := eq_true q145
                                                                          obtain ⟨Ao83, co83, eo83⟩ := Kd.R_slice HO_9.out
                                                                          (first | subst eo83 | (injection eo83 with f1_ f2_ f3_; have f4_ := f1_.symm; have f5_ := f3_.symm; clear f1_ f2_ f3_; subst f4_; subst f5_))
                                                                          have p146 : 0 ≤ (x140_5 : Int) := of_decide_eq_true (by first | (with_reducible assumption) | assumption)
                                                                          have q146 : x140_5 < (t122.length : Int) := of_decide_eq_true (by first | (with_reducible assumption) | assumption)
                                                                          obtain ⟨ad146, e146, hx146_0⟩ := Kd.at_int (Kd.R_reads' HO_9.out).2.2 x140_5 p146 q146
                                                                          cases e146
                                                                          replace p146 := eq_true p146
                                                                          replace q146 := eq_true q146
                                                                          have p147 : 0 ≤ (x140_5 : Int) := of_decide_eq_true (by first | (with_reducible assumption) | assumption)
                                                                          have q147 : x140_5 < (l0.length : Int) := of_decide_eq_true (by first | (with_reducible assumption) | assumption)
                                                                          obtain ⟨ad147, e147, hx147_0⟩ := Kd.at_int HR0.out x140_5 p147 q147
                                                                          have hw147_0 := hx147_0
                                                                          obtain rfl : ad134 = ad147 := (by injection e147)
                                                                          replace hx147_0 := (HB.out.cell (World.block_lt_of_cell? w _ hx147_0)).trans hx147_0
                                                                          replace p147 := eq_true p147
                                                                          replace q147 := eq_true q147
                                                                          have p148 : 0 ≤ (a1 : Int) := of_decide_eq_true (by first | (with_reducible assumption) | assumption)
                                                                          have q148 : a1 < (l0.length : Int) := of_decide_eq_true (by first | (with_reducible assumption) | assumption)
                                                                          obtain ⟨ad148, e148, hx148_0⟩ := Kd.at_int HR0.out a1 p148 q148
                                                                          have hw148_0 := hx148_0
                                                                          obtain rfl : ad134 = ad148 := (by injection e148)
                                                                          replace hx148_0 := (HB.out.cell (World.block_lt_of_cell? w _ hx148_0)).trans hx148_0
                                                                          replace p148 := eq_true p148
                                                                          replace q148 := eq_true q148
                                                                          have p149 : 0 ≤ (a1 : Int) := of_decide_eq_true (by first | (with_reducible assumption) | assumption)
                                                                          have q149 : a1 < (t122.length : Int) := of_decide_eq_true (by first | (with_reducible assumption) | assumption)
                                                                          obtain ⟨ad149, e149, hx149_0⟩ := Kd.at_int (Kd.R_reads' HO_9.out).2.2 a1 p149 q149
                                                                          obtain rfl : ad146 = ad149 := (by injection e149)
                                                                          replace p149 := eq_true p149
                                                                          replace q149 := eq_true q149
                                                                          refine start_ (n := 35) (S := fun w' => w'.cell? (ad134.add (x140_5).toNat) = some (.int .i64 (rd l0 x140_5)) ∧ w'.cell? (ad134.add (a1).toNat) = some (.int .i64 (rd l0 a1)) ∧ w'.cell? (ad146.add (x140_5).toNat) = some (.int .i64 (rd t122 x140_5)) ∧ w'.cell? (ad134.add (x140_5).toNat) = some (.int .i64 (rd l0 x140_5)) ∧ w'.cell? (ad134.add (a1).toNat) = some (.int .i64 (rd l0 a1)) ∧ w'.cell? (ad146.add (a1).toNat) = some (.int .i64 (rd t122 a1))) (ds := []) #[false, false, false, false, false, false, false, false, false, false, false, false, false, false, false, false, false, false, false, false, false, false, false, false, false, false, false, false, false, false, false, false, false, false, false] (by kernel_rfl) rfl rfl ⟨((HB.out.cell (World.block_lt_of_cell? w _ hw144_0)).trans hw144_0), ((HB.out.cell (World.block_lt_of_cell? w _ hw145_0)).trans hw145_0), hx146_0, ((HB.out.cell (World.block_lt_of_cell? w _ hw147_0)).trans hw147_0), ((HB.out.cell (World.block_lt_of_cell? w _ hw148_0)).trans hw148_0), hx149_0⟩ (fun hHeld => ?_); refine with_tabW celluloidlaw04_HuffBack.tab19 celluloidlaw04_HuffBack.bits19 (fun HT_ HW_ => ?_)
                                                                          generalize wr.drew = w82 at HO_9 HO_122016 BK121 HB hx144_0 hx145_0 hx146_0 hx147_0 hx148_0 hx149_0 hHeld ⊢
                                                                          refine pure_ (i := 0) (N := some 143) (v := ?_) (a' := ?_) #[true, false, false, false, false, false, false, false, false, false, false, false, false, false, false, false, false, false, false, false, false, false, false, false, false, false, false, false, false, false, false, false, false, false, false] rfl rfl (any_of HT_.out (by kernel_rfl)) (fun _ _ _ h => h) (Or.inl ⟨by rfl, ?_⟩) ?_ ?_
                                                                          rotate_left
                                                                          · intro w'
                                                                            go_simp
                                                                            with_reducible rfl
                                                                          rotate_left
                                                                          · simp only [Act.put, List.setIfInBounds_toArray, List.set_cons_zero, List.set_cons_succ, i64_w, i32_w]
                                                                            rfl
                                                                          refine pure_ (i := 1) (N := some 144) (v := ?_) (a' := ?_) #[true, true, false, false, false, false, false, false, false, false, false, false, false, false, false, false, false, false, false, false, false, false, false, false, false, false, false, false, false, false, false, false, false, false, false] rfl rfl (any_of HT_.out (by kernel_rfl)) (fun _ _ _ h => h) (Or.inl ⟨by rfl, ?_⟩) ?_ ?_
                                                                          rotate_left
                                                                          · intro w'
                                                                            go_simp
                                                                            with_reducible rfl
                                                                          rotate_left
                                                                          · simp only [Act.put, List.setIfInBounds_toArray, List.set_cons_zero, List.set_cons_succ, i64_w, i32_w]
                                                                            rfl
                                                                          refine pure_ (i := 2) (N := some 145) (v := ?_) (a' := ?_) #[true, true, true, false, false, false, false, false, false, false, false, false, false, false, false, false, false, false, false, false, false, false, false, false, false, false, false, false, false, false, false, false, false, false, false] rfl rfl (any_of HT_.out (by kernel_rfl)) (fun _ _ _ h => h) (Or.inl ⟨by rfl, ?_⟩) ?_ ?_
                                                                          rotate_left
                                                                          · intro w'
                                                                            go_simp
                                                                            with_reducible rfl
                                                                          rotate_left
                                                                          · simp only [Act.put, List.setIfInBounds_toArray, List.set_cons_zero, List.set_cons_succ, i64_w, i32_w]
                                                                            rfl
                                                                          refine pure_ (i := 3) (N := some 146) (v := ?_) (a' := ?_) #[true, true, true, true, false, false, false, false, false, false, false, false, false, false, false, false, false, false, false, false, false, false, false, false, false, false, false, false, false, false, false, false, false, false, false] rfl rfl (any_of HT_.out (by kernel_rfl)) (fun _ _ _ h => h) (Or.inl ⟨by rfl, ?_⟩) ?_ ?_
                                                                          rotate_left
                                                                          · intro w'
                                                                            go_simp
                                                                            with_reducible rfl
                                                                          rotate_left
                                                                          · simp only [Act.put, List.setIfInBounds_toArray, List.set_cons_zero, List.set_cons_succ, i64_w, i32_w]
                                                                            rfl
                                                                          refine pure_ (i := 4) (N := some 147) (v := ?_) (a' := ?_) #[true, true, true, true, true, false, false, false, false, false, false, false, false, false, false, false, false, false, false, false, false, false, false, false, false, false, false, false, false, false, false, false, false, false, false] rfl rfl (any_of HT_.out (by kernel_rfl)) (fun _ _ _ h => h) (Or.inl ⟨by rfl, ?_⟩) ?_ ?_
                                                                          rotate_left
                                                                          · intro w'
                                                                            go_simp
                                                                            with_reducible rfl
                                                                          rotate_left
                                                                          · simp only [Act.put, List.setIfInBounds_toArray, List.set_cons_zero, List.set_cons_succ, i64_w, i32_w]
                                                                            rfl
                                                                          refine pure_ (i := 5) (N := some 148) (v := ?_) (a' := ?_) #[true, true, true, true, true, true, false, false, false, false, false, false, false, false, false, false, false, false, false, false, false, false, false, false, false, false, false, false, false, false, false, false, false, false, false] rfl rfl (any_of HT_.out (by kernel_rfl)) (fun _ _ _ h => h) (Or.inl ⟨by rfl, ?_⟩) ?_ ?_
                                                                          rotate_left
                                                                          · intro w'
                                                                            go_simp
                                                                            with_reducible rfl
                                                                          rotate_left
                                                                          · simp only [Act.put, List.setIfInBounds_toArray, List.set_cons_zero, List.set_cons_succ, i64_w, i32_w]
                                                                            rfl
                                                                          refine pure_ (i := 6) (N := some 149) (v := ?_) (a' := ?_) #[true, true, true, true, true, true, true, false, false, false, false, false, false, false, false, false, false, false, false, false, false, false, false, false, false, false, false, false, false, false, false, false, false, false, false] rfl rfl (any_of HT_.out (by kernel_rfl)) (fun _ _ _ h => h) (Or.inl ⟨by rfl, ?_⟩) ?_ ?_
                                                                          rotate_left
                                                                          · intro w'
                                                                            go_simp
                                                                            with_reducible rfl
                                                                          rotate_left
                                                                          · simp only [Act.put, List.setIfInBounds_toArray, List.set_cons_zero, List.set_cons_succ, i64_w, i32_w]
                                                                            rfl
                                                                          refine pure_ (i := 8) (N := some 151) (v := ?_) (a' := ?_) #[true, true, true, true, true, true, true, false, true, false, false, false, false, false, false, false, false, false, false, false, false, false, false, false, false, false, false, false, false, false, false, false, false, false, false] rfl rfl (any_of HT_.out (by kernel_rfl)) (fun _ _ _ h => h) (Or.inl ⟨by rfl, ?_⟩) ?_ ?_
                                                                          rotate_left
                                                                          · intro w'
                                                                            go_simp
                                                                            with_reducible rfl
                                                                          rotate_left
                                                                          · simp only [Act.put, List.setIfInBounds_toArray, List.set_cons_zero, List.set_cons_succ, i64_w, i32_w]
                                                                            rfl
                                                                          refine pure_ (i := 9) (N := some 152) (v := ?_) (a' := ?_) #[true, true, true, true, true, true, true, false, true, true, false, false, false, false, false, false, false, false, false, false, false, false, false, false, false, false, false, false, false, false, false, false, false, false, false] rfl rfl (any_of HT_.out (by kernel_rfl)) (fun _ _ _ h => h) (Or.inl ⟨by rfl, ?_⟩) ?_ ?_
                                                                          rotate_left
                                                                          · intro w'
                                                                            go_simp
                                                                            with_reducible rfl
                                                                          rotate_left
                                                                          · simp only [Act.put, List.setIfInBounds_toArray, List.set_cons_zero, List.set_cons_succ, i64_w, i32_w]
                                                                            rfl
                                                                          refine pure_ (i := 10) (N := some 153) (v := ?_) (a' := ?_) #[true, true, true, true, true, true, true, false, true, true, true, false, false, false, false, false, false, false, false, false, false, false, false, false, false, false, false, false, false, false, false, false, false, false, false] rfl rfl (any_of HT_.out (by kernel_rfl)) (fun _ _ _ h => h) (Or.inl ⟨by rfl, ?_⟩) ?_ ?_
                                                                          rotate_left
                                                                          · intro w'
                                                                            go_simp
                                                                            with_reducible rfl
                                                                          rotate_left
                                                                          · simp only [Act.put, List.setIfInBounds_toArray, List.set_cons_zero, List.set_cons_succ, i64_w, i32_w]
                                                                            rfl
                                                                          refine take_ (i := 7) (N := some 150) (v := ?_) (a' := ?_) #[true, true, true, true, true, true, true, true, true, true, true, false, false, false, false, false, false, false, false, false, false, false, false, false, false, false, false, false, false, false, false, false, false, false, false] rfl rfl (take_ofW HT_.out HW_.out (by kernel_rfl)) (fun _ _ _ h => h) (Or.inl ⟨by rfl, ?_⟩) hHeld ?_ ?_
                                                                          rotate_left
                                                                          · rintro w' ⟨s0, s1, s2, s3, s4, s5⟩
                                                                            go_simp
                                                                            with_reducible rfl
                                                                          rotate_left
                                                                          · simp only [Act.put, List.setIfInBounds_toArray, List.set_cons_zero, List.set_cons_succ, i64_w, i32_w]
                                                                            rfl
                                                                          refine take_ (i := 11) (N := some 154) (v := ?_) (a' := ?_) #[true, true, true, true, true, true, true, true, true, true, true, true, false, false, false, false, false, false, false, false, false, false, false, false, false, false, false, false, false, false, false, false, false, false, false] rfl rfl (take_ofW HT_.out HW_.out (by kernel_rfl)) (fun _ _ _ h => h) (Or.inl ⟨by rfl, ?_⟩) hHeld ?_ ?_
                                                                          rotate_left
                                                                          · rintro w' ⟨s0, s1, s2, s3, s4, s5⟩
                                                                            go_simp
                                                                            with_reducible rfl
                                                                          rotate_left
                                                                          · simp only [Act.put, List.setIfInBounds_toArray, List.set_cons_zero, List.set_cons_succ, i64_w, i32_w]
                                                                            rfl
                                                                          refine pure_ (i := 12) (N := some 155) (v := ?_) (a' := ?_) #[true, true, true, true, true, true, true, true, true, true, true, true, true, false, false, false, false, false, false, false, false, false, false, false, false, false, false, false, false, false, false, false, false, false, false] rfl rfl (any_of HT_.out (by kernel_rfl)) (fun _ _ _ h => h) (Or.inl ⟨by rfl, ?_⟩) ?_ ?_
                                                                          rotate_left
                                                                          · intro w'
                                                                            go_simp
                                                                            with_reducible rfl
                                                                          rotate_left
                                                                          · simp only [Act.put, List.setIfInBounds_toArray, List.set_cons_zero, List.set_cons_succ, i64_w, i32_w]
                                                                            rfl
                                                                          refine pure_ (i := 13) (N := some 156) (v := ?_) (a' := ?_) #[true, true, true, true, true, true, true, true, true, true, true, true, true, true, false, false, false, false, false, false, false, false, false, false, false, false, false, false, false, false, false, false, false, false, false] rfl rfl (any_of HT_.out (by kernel_rfl)) (fun _ _ _ h => h) (Or.inl ⟨by rfl, ?_⟩) ?_ ?_
                                                                          rotate_left
                                                                          · intro w'
                                                                            go_simp
                                                                            with_reducible rfl
                                                                          rotate_left
                                                                          · simp only [Act.put, List.setIfInBounds_toArray, List.set_cons_zero, List.set_cons_succ, i64_w, i32_w]
                                                                            rfl
                                                                          refine pure_ (i := 14) (N := some 157) (v := ?_) (a' := ?_) #[true, true, true, true, true, true, true, true, true, true, true, true, true, true, true, false, false, false, false, false, false, false, false, false, false, false, false, false, false, false, false, false, false, false, false] rfl rfl (any_of HT_.out (by kernel_rfl)) (fun _ _ _ h => h) (Or.inl ⟨by rfl, ?_⟩) ?_ ?_
                                                                          rotate_left
                                                                          · intro w'
                                                                            go_simp
                                                                            with_reducible rfl
                                                                          rotate_left
                                                                          · simp only [Act.put, List.setIfInBounds_toArray, List.set_cons_zero, List.set_cons_succ, i64_w, i32_w]
                                                                            rfl
                                                                          refine pure_ (i := 15) (N := some 158) (v := ?_) (a' := ?_) #[true, true, true, true, true, true, true, true, true, true, true, true, true, true, true, true, false, false, false, false, false, false, false, false, false, false, false, false, false, false, false, false, false, false, false] rfl rfl (any_of HT_.out (by kernel_rfl)) (fun _ _ _ h => h) (Or.inl ⟨by rfl, ?_⟩) ?_ ?_
                                                                          rotate_left
                                                                          · intro w'
                                                                            go_simp
                                                                            with_reducible rfl
                                                                          rotate_left
                                                                          · simp only [Act.put, List.setIfInBounds_toArray, List.set_cons_zero, List.set_cons_succ, i64_w, i32_w]
                                                                            rfl
                                                                          refine pure_ (i := 16) (N := some 159) (v := ?_) (a' := ?_) #[true, true, true, true, true, true, true, true, true, true, true, true, true, true, true, true, true, false, false, false, false, false, false, false, false, false, false, false, false, false, false, false, false, false, false] rfl rfl (any_of HT_.out (by kernel_rfl)) (fun _ _ _ h => h) (Or.inl ⟨by rfl, ?_⟩) ?_ ?_
                                                                          rotate_left
                                                                          · intro w'
                                                                            go_simp
                                                                            with_reducible rfl
                                                                          rotate_left
                                                                          · simp only [Act.put, List.setIfInBounds_toArray, List.set_cons_zero, List.set_cons_succ, i64_w, i32_w]
                                                                            rfl
                                                                          refine pure_ (i := 17) (N := some 160) (v := ?_) (a' := ?_) #[true, true, true, true, true, true, true, true, true, true, true, true, true, true, true, true, true, true, false, false, false, false, false, false, false, false, false, false, false, false, false, false, false, false, false] rfl rfl (any_of HT_.out (by kernel_rfl)) (fun _ _ _ h => h) (Or.inl ⟨by rfl, ?_⟩) ?_ ?_
                                                                          rotate_left
                                                                          · intro w'
                                                                            go_simp
                                                                            with_reducible rfl
                                                                          rotate_left
                                                                          · simp only [Act.put, List.setIfInBounds_toArray, List.set_cons_zero, List.set_cons_succ, i64_w, i32_w]
                                                                            rfl
                                                                          refine pure_ (i := 19) (N := some 162) (v := ?_) (a' := ?_) #[true, true, true, true, true, true, true, true, true, true, true, true, true, true, true, true, true, true, false, true, false, false, false, false, false, false, false, false, false, false, false, false, false, false, false] rfl rfl (any_of HT_.out (by kernel_rfl)) (fun _ _ _ h => h) (Or.inl ⟨by rfl, ?_⟩) ?_ ?_
                                                                          rotate_left
                                                                          · intro w'
                                                                            go_simp
                                                                            with_reducible rfl
                                                                          rotate_left
                                                                          · simp only [Act.put, List.setIfInBounds_toArray, List.set_cons_zero, List.set_cons_succ, i64_w, i32_w]
                                                                            rfl
                                                                          refine pure_ (i := 20) (N := some 163) (v := ?_) (a' := ?_) #[true, true, true, true, true, true, true, true, true, true, true, true, true, true, true, true, true, true, false, true, true, false, false, false, false, false, false, false, false, false, false, false, false, false, false] rfl rfl (any_of HT_.out (by kernel_rfl)) (fun _ _ _ h => h) (Or.inl ⟨by rfl, ?_⟩) ?_ ?_
                                                                          rotate_left
                                                                          · intro w'
                                                                            go_simp
                                                                            with_reducible rfl
                                                                          rotate_left
                                                                          · simp only [Act.put, List.setIfInBounds_toArray, List.set_cons_zero, List.set_cons_succ, i64_w, i32_w]
                                                                            rfl
                                                                          refine pure_ (i := 21) (N := some 164) (v := ?_) (a' := ?_) #[true, true, true, true, true, true, true, true, true, true, true, true, true, true, true, true, true, true, false, true, true, true, false, false, false, false, false, false, false, false, false, false, false, false, false] rfl rfl (any_of HT_.out (by kernel_rfl)) (fun _ _ _ h => h) (Or.inl ⟨by rfl, ?_⟩) ?_ ?_
                                                                          rotate_left
                                                                          · intro w'
                                                                            go_simp
                                                                            with_reducible rfl
                                                                          rotate_left
                                                                          · simp only [Act.put, List.setIfInBounds_toArray, List.set_cons_zero, List.set_cons_succ, i64_w, i32_w]
                                                                            rfl
                                                                          refine pure_ (i := 23) (N := some 166) (v := ?_) (a' := ?_) #[true, true, true, true, true, true, true, true, true, true, true, true, true, true, true, true, true, true, false, true, true, true, false, true, false, false, false, false, false, false, false, false, false, false, false] rfl rfl (any_of HT_.out (by kernel_rfl)) (fun _ _ _ h => h) (Or.inl ⟨by rfl, ?_⟩) ?_ ?_
                                                                          rotate_left
                                                                          · intro w'
                                                                            go_simp
                                                                            with_reducible rfl
                                                                          rotate_left
                                                                          · simp only [Act.put, List.setIfInBounds_toArray, List.set_cons_zero, List.set_cons_succ, i64_w, i32_w]
                                                                            rfl
                                                                          refine pure_ (i := 24) (N := some 167) (v := ?_) (a' := ?_) #[true, true, true, true, true, true, true, true, true, true, true, true, true, true, true, true, true, true, false, true, true, true, false, true, true, false, false, false, false, false, false, false, false, false, false] rfl rfl (any_of HT_.out (by kernel_rfl)) (fun _ _ _ h => h) (Or.inl ⟨by rfl, ?_⟩) ?_ ?_
                                                                          rotate_left
                                                                          · intro w'
                                                                            go_simp
                                                                            with_reducible rfl
                                                                          rotate_left
                                                                          · simp only [Act.put, List.setIfInBounds_toArray, List.set_cons_zero, List.set_cons_succ, i64_w, i32_w]
                                                                            rfl
                                                                          refine pure_ (i := 25) (N := some 168) (v := ?_) (a' := ?_) #[true, true, true, true, true, true, true, true, true, true, true, true, true, true, true, true, true, true, false, true, true, true, false, true, true, true, false, false, false, false, false, false, false, false, false] rfl rfl (any_of HT_.out (by kernel_rfl)) (fun _ _ _ h => h) (Or.inl ⟨by rfl, ?_⟩) ?_ ?_
                                                                          rotate_left
                                                                          · intro w'
                                                                            go_simp
                                                                            with_reducible rfl
                                                                          rotate_left
                                                                          · simp only [Act.put, List.setIfInBounds_toArray, List.set_cons_zero, List.set_cons_succ, i64_w, i32_w]
                                                                            rfl
                                                                          refine pure_ (i := 29) (N := some 172) (v := ?_) (a' := ?_) #[true, true, true, true, true, true, true, true, true, true, true, true, true, true, true, true, true, true, false, true, true, true, false, true, true, true, false, false, false, true, false, false, false, false, false] rfl rfl (any_of HT_.out (by kernel_rfl)) (fun _ _ _ h => h) (Or.inl ⟨by rfl, ?_⟩) ?_ ?_
                                                                          rotate_left
                                                                          · intro w'
                                                                            go_simp
                                                                            with_reducible rfl
                                                                          rotate_left
                                                                          · simp only [Act.put, List.setIfInBounds_toArray, List.set_cons_zero, List.set_cons_succ, i64_w, i32_w]
                                                                            rfl
                                                                          refine pure_ (i := 30) (N := some 173) (v := ?_) (a' := ?_) #[true, true, true, true, true, true, true, true, true, true, true, true, true, true, true, true, true, true, false, true, true, true, false, true, true, true, false, false, false, true, true, false, false, false, false] rfl rfl (any_of HT_.out (by kernel_rfl)) (fun _ _ _ h => h) (Or.inl ⟨by rfl, ?_⟩) ?_ ?_
                                                                          rotate_left
                                                                          · intro w'
                                                                            go_simp
                                                                            with_reducible rfl
                                                                          rotate_left
                                                                          · simp only [Act.put, List.setIfInBounds_toArray, List.set_cons_zero, List.set_cons_succ, i64_w, i32_w]
                                                                            rfl
                                                                          refine pure_ (i := 31) (N := some 174) (v := ?_) (a' := ?_) #[true, true, true, true, true, true, true, true, true, true, true, true, true, true, true, true, true, true, false, true, true, true, false, true, true, true, false, false, false, true, true, true, false, false, false] rfl rfl (any_of HT_.out (by kernel_rfl)) (fun _ _ _ h => h) (Or.inl ⟨by rfl, ?_⟩) ?_ ?_
                                                                          rotate_left
                                                                          · intro w'
                                                                            go_simp
                                                                            with_reducible rfl
                                                                          rotate_left
                                                                          · simp only [Act.put, List.setIfInBounds_toArray, List.set_cons_zero, List.set_cons_succ, i64_w, i32_w]
                                                                            rfl
                                                                          refine take_ (i := 18) (N := some 161) (v := ?_) (a' := ?_) #[true, true, true, true, true, true, true, true, true, true, true, true, true, true, true, true, true, true, true, true, true, true, false, true, true, true, false, false, false, true, true, true, false, false, false] rfl rfl (take_ofW HT_.out HW_.out (by kernel_rfl)) (fun _ _ _ h => h) (Or.inl ⟨by rfl, ?_⟩) hHeld ?_ ?_
                                                                          rotate_left
                                                                          · rintro w' ⟨s0, s1, s2, s3, s4, s5⟩
                                                                            go_simp
                                                                            with_reducible rfl
                                                                          rotate_left
                                                                          · simp only [Act.put, List.setIfInBounds_toArray, List.set_cons_zero, List.set_cons_succ, i64_w, i32_w]
                                                                            rfl
                                                                          refine take_ (i := 22) (N := some 165) (v := ?_) (a' := ?_) #[true, true, true, true, true, true, true, true, true, true, true, true, true, true, true, true, true, true, true, true, true, true, true, true, true, true, false, false, false, true, true, true, false, false, false] rfl rfl (take_ofW HT_.out HW_.out (by kernel_rfl)) (fun _ _ _ h => h) (Or.inl ⟨by rfl, ?_⟩) hHeld ?_ ?_
                                                                          rotate_left
                                                                          · rintro w' ⟨s0, s1, s2, s3, s4, s5⟩
                                                                            go_simp
                                                                            with_reducible rfl
                                                                          rotate_left
                                                                          · simp only [Act.put, List.setIfInBounds_toArray, List.set_cons_zero, List.set_cons_succ, i64_w, i32_w]
                                                                            rfl
                                                                          refine take_ (i := 26) (N := some 169) (v := ?_) (a' := ?_) #[true, true, true, true, true, true, true, true, true, true, true, true, true, true, true, true, true, true, true, true, true, true, true, true, true, true, true, false, false, true, true, true, false, false, false] rfl rfl (take_ofW HT_.out HW_.out (by kernel_rfl)) (fun _ _ _ h => h) (Or.inl ⟨by rfl, ?_⟩) hHeld ?_ ?_
                                                                          rotate_left
                                                                          · rintro w' ⟨s0, s1, s2, s3, s4, s5⟩
                                                                            go_simp
                                                                            with_reducible rfl
                                                                          rotate_left
                                                                          · simp only [Act.put, List.setIfInBounds_toArray, List.set_cons_zero, List.set_cons_succ, i64_w, i32_w]
                                                                            rfl
                                                                          refine pure_ (i := 27) (N := some 170) (v := ?_) (a' := ?_) #[true, true, true, true, true, true, true, true, true, true, true, true, true, true, true, true, true, true, true, true, true, true, true, true, true, true, true, true, false, true, true, true, false, false, false] rfl rfl (any_of HT_.out (by kernel_rfl)) (fun _ _ _ h => h) (Or.inl ⟨by rfl, ?_⟩) ?_ ?_
                                                                          rotate_left
                                                                          · intro w'
                                                                            go_simp
                                                                            with_reducible rfl
                                                                          rotate_left
                                                                          · simp only [Act.put, List.setIfInBounds_toArray, List.set_cons_zero, List.set_cons_succ, i64_w, i32_w]
                                                                            rfl
                                                                          refine pure_ (i := 28) (N := some 171) (v := ?_) (a' := ?_) #[true, true, true, true, true, true, true, true, true, true, true, true, true, true, true, true, true, true, true, true, true, true, true, true, true, true, true, true, true, true, true, true, false, false, false] rfl rfl (any_of HT_.out (by kernel_rfl)) (fun _ _ _ h => h) (Or.inl ⟨by rfl, ?_⟩) ?_ ?_
                                                                          rotate_left
                                                                          · intro w'
                                                                            go_simp
                                                                            with_reducible rfl
                                                                          rotate_left
                                                                          · simp only [Act.put, List.setIfInBounds_toArray, List.set_cons_zero, List.set_cons_succ, i64_w, i32_w]
                                                                            rfl
                                                                          refine take_ (i := 32) (N := some 175) (v := ?_) (a' := ?_) #[true, true, true, true, true, true, true, true, true, true, true, true, true, true, true, true, true, true, true, true, true, true, true, true, true, true, true, true, true, true, true, true, true, false, false] rfl rfl (take_ofW HT_.out HW_.out (by kernel_rfl)) (fun _ _ _ h => h) (Or.inl ⟨by rfl, ?_⟩) hHeld ?_ ?_
                                                                          rotate_left
                                                                          · rintro w' ⟨s0, s1, s2, s3, s4, s5⟩
                                                                            go_simp
                                                                            with_reducible rfl
                                                                          rotate_left
                                                                          · simp only [Act.put, List.setIfInBounds_toArray, List.set_cons_zero, List.set_cons_succ, i64_w, i32_w]
                                                                            rfl
                                                                          refine pure_ (i := 33) (N := some 176) (v := ?_) (a' := ?_) #[true, true, true, true, true, true, true, true, true, true, true, true, true, true, true, true, true, true, true, true, true, true, true, true, true, true, true, true, true, true, true, true, true, true, false] rfl rfl (any_of HT_.out (by kernel_rfl)) (fun _ _ _ h => h) (Or.inl ⟨by rfl, ?_⟩) ?_ ?_
                                                                          rotate_left
                                                                          · intro w'
                                                                            go_simp
                                                                            with_reducible rfl
                                                                          rotate_left
                                                                          · simp only [Act.put, List.setIfInBounds_toArray, List.set_cons_zero, List.set_cons_succ, i64_w, i32_w]
                                                                            rfl
                                                                          refine pure_ (i := 34) (N := some 177) (v := ?_) (a' := ?_) #[true, true, true, true, true, true, true, true, true, true, true, true, true, true, true, true, true, true, true, true, true, true, true, true, true, true, true, true, true, true, true, true, true, true, true] rfl rfl (any_of HT_.out (by kernel_rfl)) (fun _ _ _ h => h) (Or.inl ⟨by rfl, ?_⟩) ?_ ?_
                                                                          rotate_left
                                                                          · intro w'
                                                                            go_simp
                                                                            with_reducible rfl
                                                                          rotate_left
                                                                          · simp only [Act.put, List.setIfInBounds_toArray, List.set_cons_zero, List.set_cons_succ, i64_w, i32_w]
                                                                            rfl
                                                                          refine done_ (done_of HT_.out (by kernel_rfl)) ?_
                                                                          try go_wp2_with ((with_reducible refine gate_load (t := 26) rfl ?_); refine wpList_load_row rfl 26 _ rfl _ rfl 26 ?lcs (0, 0) _ ?lb Try.underlying26 rfl ?li ?_; (case lb => (with_reducible repeat (first | refine blk_drewN ?_ _ | refine blk_drew ?_ | refine blk_alloc ?_ _)); exact Aside0.out (by assumption)); (case li => exact info26))
                                                                          go_meet
                                                                          case rel => exact ⟨_, (((ji80) == (rd t122 a1))), (by first | rfl | (simp; done) | (simp only [← hji80] <;> (first | rfl | simp)) | (simp [*]; done)), H', ⟨by have := HJ5.out; have := HJ26.out; have := HK3.out; have := HJ60.out; have := HK5.out; first | omega | exact Nat.le_refl _⟩, ⟨by (with_reducible repeat (first | apply Kd.R_alloc | apply Kd.R_drewN | apply Kd.R_drew)); exact HO_9.out⟩, ⟨by (with_reducible repeat (first | apply Kd.R_alloc | apply Kd.R_drewN | apply Kd.R_drew)); exact HO_122016.out⟩, ⟨by (with_reducible repeat (first | refine blk_drewN ?_ _ | refine blk_drew ?_ | refine blk_alloc ?_ _)); exact BK121.out⟩, ⟨by repeat (first | (with_reducible first | exact HB.out | apply below_alloc | apply pw_below_drewN | apply below_drew1 | refine below_set ?_ GE121.out) | exact HB.out)⟩⟩
                                                                        · rw [if_neg c81] at H
                                                                          exact absurd H (by simp)
                                                                      · rw [if_neg c79] at H
                                                                        exact absurd H (by simp)
                                                                    · rw [if_neg c77] at H
                                                                      exact absurd H (by simp)
                                                                  · rw [if_neg c76] at H
                                                                    have c76b0 : decide ((rd l0 a1) ≤ (rd l0 x140_5)) = false := decide_eq_false c76
                                                                    clear c76
                                                                    have H' := Aside0.mk H
                                                                    clear H
                                                                    try go_wp2_with ((with_reducible refine gate_load (t := 26) rfl ?_); refine wpList_load_row rfl 26 _ rfl _ rfl 26 ?lcs (0, 0) _ ?lb Try.underlying26 rfl ?li ?_; (case lb => (with_reducible repeat (first | refine blk_drewN ?_ _ | refine blk_drew ?_ | refine blk_alloc ?_ _)); exact Aside0.out (by assumption)); (case li => exact info26))
                                                                    have n0_ := Aside0.mk (Kd.R_drew HO_9.out)
                                                                    have n1_ := Aside0.mk (Kd.R_drew HO_122016.out)
                                                                    have n2_ := Aside0.mk (blk_drew BK121.out)
                                                                    have n3_ := Aside0.mk (below_drew1 HB.out)
                                                                    clear HO_9
                                                                    clear HO_122016
                                                                    clear BK121
                                                                    clear HB
                                                                    have HO_9 := n0_
                                                                    have HO_122016 := n1_
                                                                    have BK121 := n2_
                                                                    have HB := n3_
                                                                    clear n0_ n1_ n2_ n3_
                                                                    have p144 : 0 ≤ (x140_5 : Int) := of_decide_eq_true (by first | (with_reducible assumption) | assumption)
                                                                    have q144 : x140_5 < (l0.length : Int) := of_decide_eq_true (by first | (with_reducible assumption) | assumption)
                                                                    obtain ⟨ad144, e144, hx144_0⟩ := Kd.at_int HR0.out x140_5 p144 q144
                                                                    have hw144_0 := hx144_0
                                                                    obtain rfl : ad134 = ad144 := (by injection e144)
                                                                    replace hx144_0 := (HB.out.cell (World.block_lt_of_cell? w _ hx144_0)).trans hx144_0
                                                                    replace p144 := eq_true p144
                                                                    replace q144 := eq_true q144
                                                                    have p145 : 0 ≤ (a1 : Int) := of_decide_eq_true (by first | (with_reducible assumption) | assumption)
                                                                    have q145 : a1 < (l0.length : Int) := of_decide_eq_true (by first | (with_reducible assumption) | assumption)
                                                                    obtain ⟨ad145, e145, hx145_0⟩ := Kd.at_int HR0.out a1 p145 q145
                                                                    have hw145_0 := hx145_0
                                                                    obtain rfl : ad134 = ad145 := (by injection e145)
                                                                    replace hx145_0 := (HB.out.cell (World.block_lt_of_cell? w _ hx145_0)).trans hx145_0
                                                                    replace p145 := eq_true p145
                                                                    replace q145 := eq_true q145
                                                                    refine start_ (n := 35) (S := fun w' => w'.cell? (ad134.add (x140_5).toNat) = some (.int .i64 (rd l0 x140_5)) ∧ w'.cell? (ad134.add (a1).toNat) = some (.int .i64 (rd l0 a1))) (ds := []) #[false, false, false, false, false, false, false, false, false, false, false, false, false, false, false, false, false, false, false, false, false, false, false, false, false, false, false, false, false, false, false, false, false, false, false] (by kernel_rfl) rfl rfl ⟨((HB.out.cell (World.block_lt_of_cell? w _ hw144_0)).trans hw144_0), ((HB.out.cell (World.block_lt_of_cell? w _ hw145_0)).trans hw145_0)⟩ (fun hHeld => ?_); refine with_tabW celluloidlaw04_HuffBack.tab19 celluloidlaw04_HuffBack.bits19 (fun HT_ HW_ => ?_)
                                                                    generalize wr.drew = w84 at HO_9 HO_122016 BK121 HB hx144_0 hx145_0 hHeld ⊢
                                                                    refine pure_ (i := 0) (N := some 143) (v := ?_) (a' := ?_) #[true, false, false, false, false, false, false, false, false, false, false, false, false, false, false, false, false, false, false, false, false, false, false, false, false, false, false, false, false, false, false, false, false, false, false] rfl rfl (any_of HT_.out (by kernel_rfl)) (fun _ _ _ h => h) (Or.inl ⟨by rfl, ?_⟩) ?_ ?_
                                                                    rotate_left
                                                                    · intro w'
                                                                      go_simp
                                                                      with_reducible rfl
                                                                    rotate_left
                                                                    · simp only [Act.put, List.setIfInBounds_toArray, List.set_cons_zero, List.set_cons_succ, i64_w, i32_w]
                                                                      rfl
                                                                    refine pure_ (i := 1) (N := some 144) (v := ?_) (a' := ?_) #[true, true, false, false, false, false, false, false, false, false, false, false, false, false, false, false, false, false, false, false, false, false, false, false, false, false, false, false, false, false, false, false, false, false, false] rfl rfl (any_of HT_.out (by kernel_rfl)) (fun _ _ _ h => h) (Or.inl ⟨by rfl, ?_⟩) ?_ ?_
                                                                    rotate_left
                                                                    · intro w'
                                                                      go_simp
                                                                      with_reducible rfl
                                                                    rotate_left
                                                                    · simp only [Act.put, List.setIfInBounds_toArray, List.set_cons_zero, List.set_cons_succ, i64_w, i32_w]
                                                                      rfl
                                                                    refine pure_ (i := 2) (N := some 145) (v := ?_) (a' := ?_) #[true, true, true, false, false, false, false, false, false, false, false, false, false, false, false, false, false, false, false, false, false, false, false, false, false, false, false, false, false, false, false, false, false, false, false] rfl rfl (any_of HT_.out (by kernel_rfl)) (fun _ _ _ h => h) (Or.inl ⟨by rfl, ?_⟩) ?_ ?_
                                                                    rotate_left
                                                                    · intro w'
                                                                      go_simp
                                                                      with_reducible rfl
                                                                    rotate_left
                                                                    · simp only [Act.put, List.setIfInBounds_toArray, List.set_cons_zero, List.set_cons_succ, i64_w, i32_w]
                                                                      rfl
                                                                    refine pure_ (i := 3) (N := some 146) (v := ?_) (a' := ?_) #[true, true, true, true, false, false, false, false, false, false, false, false, false, false, false, false, false, false, false, false, false, false, false, false, false, false, false, false, false, false, false, false, false, false, false] rfl rfl (any_of HT_.out (by kernel_rfl)) (fun _ _ _ h => h) (Or.inl ⟨by rfl, ?_⟩) ?_ ?_
                                                                    rotate_left
                                                                    · intro w'
                                                                      go_simp
                                                                      with_reducible rfl
                                                                    rotate_left
                                                                    · simp only [Act.put, List.setIfInBounds_toArray, List.set_cons_zero, List.set_cons_succ, i64_w, i32_w]
                                                                      rfl
                                                                    refine pure_ (i := 4) (N := some 147) (v := ?_) (a' := ?_) #[true, true, true, true, true, false, false, false, false, false, false, false, false, false, false, false, false, false, false, false, false, false, false, false, false, false, false, false, false, false, false, false, false, false, false] rfl rfl (any_of HT_.out (by kernel_rfl)) (fun _ _ _ h => h) (Or.inl ⟨by rfl, ?_⟩) ?_ ?_
                                                                    rotate_left
                                                                    · intro w'
                                                                      go_simp
                                                                      with_reducible rfl
                                                                    rotate_left
                                                                    · simp only [Act.put, List.setIfInBounds_toArray, List.set_cons_zero, List.set_cons_succ, i64_w, i32_w]
                                                                      rfl
                                                                    refine pure_ (i := 5) (N := some 148) (v := ?_) (a' := ?_) #[true, true, true, true, true, true, false, false, false, false, false, false, false, false, false, false, false, false, false, false, false, false, false, false, false, false, false, false, false, false, false, false, false, false, false] rfl rfl (any_of HT_.out (by kernel_rfl)) (fun _ _ _ h => h) (Or.inl ⟨by rfl, ?_⟩) ?_ ?_
                                                                    rotate_left
                                                                    · intro w'
                                                                      go_simp
                                                                      with_reducible rfl
                                                                    rotate_left
                                                                    · simp only [Act.put, List.setIfInBounds_toArray, List.set_cons_zero, List.set_cons_succ, i64_w, i32_w]
                                                                      rfl
                                                                    refine pure_ (i := 6) (N := some 149) (v := ?_) (a' := ?_) #[true, true, true, true, true, true, true, false, false, false, false, false, false, false, false, false, false, false, false, false, false, false, false, false, false, false, false, false, false, false, false, false, false, false, false] rfl rfl (any_of HT_.out (by kernel_rfl)) (fun _ _ _ h => h) (Or.inl ⟨by rfl, ?_⟩) ?_ ?_
                                                                    rotate_left
                                                                    · intro w'
                                                                      go_simp
                                                                      with_reducible rfl
                                                                    rotate_left
                                                                    · simp only [Act.put, List.setIfInBounds_toArray, List.set_cons_zero, List.set_cons_succ, i64_w, i32_w]
                                                                      rfl
                                                                    refine pure_ (i := 8) (N := some 151) (v := ?_) (a' := ?_) #[true, true, true, true, true, true, true, false, true, false, false, false, false, false, false, false, false, false, false, false, false, false, false, false, false, false, false, false, false, false, false, false, false, false, false] rfl rfl (any_of HT_.out (by kernel_rfl)) (fun _ _ _ h => h) (Or.inl ⟨by rfl, ?_⟩) ?_ ?_
                                                                    rotate_left
                                                                    · intro w'
                                                                      go_simp
                                                                      with_reducible rfl
                                                                    rotate_left
                                                                    · simp only [Act.put, List.setIfInBounds_toArray, List.set_cons_zero, List.set_cons_succ, i64_w, i32_w]
                                                                      rfl
                                                                    refine pure_ (i := 9) (N := some 152) (v := ?_) (a' := ?_) #[true, true, true, true, true, true, true, false, true, true, false, false, false, false, false, false, false, false, false, false, false, false, false, false, false, false, false, false, false, false, false, false, false, false, false] rfl rfl (any_of HT_.out (by kernel_rfl)) (fun _ _ _ h => h) (Or.inl ⟨by rfl, ?_⟩) ?_ ?_
                                                                    rotate_left
                                                                    · intro w'
                                                                      go_simp
                                                                      with_reducible rfl
                                                                    rotate_left
                                                                    · simp only [Act.put, List.setIfInBounds_toArray, List.set_cons_zero, List.set_cons_succ, i64_w, i32_w]
                                                                      rfl
                                                                    refine pure_ (i := 10) (N := some 153) (v := ?_) (a' := ?_) #[true, true, true, true, true, true, true, false, true, true, true, false, false, false, false, false, false, false, false, false, false, false, false, false, false, false, false, false, false, false, false, false, false, false, false] rfl rfl (any_of HT_.out (by kernel_rfl)) (fun _ _ _ h => h) (Or.inl ⟨by rfl, ?_⟩) ?_ ?_
                                                                    rotate_left
                                                                    · intro w'
                                                                      go_simp
                                                                      with_reducible rfl
                                                                    rotate_left
                                                                    · simp only [Act.put, List.setIfInBounds_toArray, List.set_cons_zero, List.set_cons_succ, i64_w, i32_w]
                                                                      rfl
                                                                    refine take_ (i := 7) (N := some 150) (v := ?_) (a' := ?_) #[true, true, true, true, true, true, true, true, true, true, true, false, false, false, false, false, false, false, false, false, false, false, false, false, false, false, false, false, false, false, false, false, false, false, false] rfl rfl (take_ofW HT_.out HW_.out (by kernel_rfl)) (fun _ _ _ h => h) (Or.inl ⟨by rfl, ?_⟩) hHeld ?_ ?_
                                                                    rotate_left
                                                                    · rintro w' ⟨s0, s1⟩
                                                                      go_simp
                                                                      with_reducible rfl
                                                                    rotate_left
                                                                    · simp only [Act.put, List.setIfInBounds_toArray, List.set_cons_zero, List.set_cons_succ, i64_w, i32_w]
                                                                      rfl
                                                                    refine take_ (i := 11) (N := some 154) (v := ?_) (a' := ?_) #[true, true, true, true, true, true, true, true, true, true, true, true, false, false, false, false, false, false, false, false, false, false, false, false, false, false, false, false, false, false, false, false, false, false, false] rfl rfl (take_ofW HT_.out HW_.out (by kernel_rfl)) (fun _ _ _ h => h) (Or.inl ⟨by rfl, ?_⟩) hHeld ?_ ?_
                                                                    rotate_left
                                                                    · rintro w' ⟨s0, s1⟩
                                                                      go_simp
                                                                      with_reducible rfl
                                                                    rotate_left
                                                                    · simp only [Act.put, List.setIfInBounds_toArray, List.set_cons_zero, List.set_cons_succ, i64_w, i32_w]
                                                                      rfl
                                                                    refine pure_ (i := 12) (N := some 155) (v := ?_) (a' := ?_) #[true, true, true, true, true, true, true, true, true, true, true, true, true, false, false, false, false, false, false, false, false, false, false, false, false, false, false, false, false, false, false, false, false, false, false] rfl rfl (any_of HT_.out (by kernel_rfl)) (fun _ _ _ h => h) (Or.inl ⟨by rfl, ?_⟩) ?_ ?_
                                                                    rotate_left
                                                                    · intro w'
                                                                      go_simp
                                                                      with_reducible rfl
                                                                    rotate_left
                                                                    · simp only [Act.put, List.setIfInBounds_toArray, List.set_cons_zero, List.set_cons_succ, i64_w, i32_w]
                                                                      rfl
                                                                    refine pure_ (i := 13) (N := some 156) (v := ?_) (a' := ?_) #[true, true, true, true, true, true, true, true, true, true, true, true, true, true, false, false, false, false, false, false, false, false, false, false, false, false, false, false, false, false, false, false, false, false, false] rfl rfl (any_of HT_.out (by kernel_rfl)) (fun _ _ _ h => h) (Or.inl ⟨by rfl, ?_⟩) ?_ ?_
                                                                    rotate_left
                                                                    · intro w'
                                                                      go_simp
                                                                      with_reducible rfl
                                                                    rotate_left
                                                                    · simp only [Act.put, List.setIfInBounds_toArray, List.set_cons_zero, List.set_cons_succ, i64_w, i32_w]
                                                                      rfl
                                                                    refine pure_ (i := 14) (N := some 157) (v := ?_) (a' := ?_) #[true, true, true, true, true, true, true, true, true, true, true, true, true, true, true, false, false, false, false, false, false, false, false, false, false, false, false, false, false, false, false, false, false, false, false] rfl rfl (any_of HT_.out (by kernel_rfl)) (fun _ _ _ h => h) (Or.inl ⟨by rfl, ?_⟩) ?_ ?_
                                                                    rotate_left
                                                                    · intro w'
                                                                      go_simp
                                                                      with_reducible rfl
                                                                    rotate_left
                                                                    · simp only [Act.put, List.setIfInBounds_toArray, List.set_cons_zero, List.set_cons_succ, i64_w, i32_w]
                                                                      rfl
                                                                    refine pure_ (i := 15) (N := some 158) (v := undef) (a' := ?_) #[true, true, true, true, true, true, true, true, true, true, true, true, true, true, true, true, false, false, false, false, false, false, false, false, false, false, false, false, false, false, false, false, false, false, false] rfl rfl (any_of HT_.out (by kernel_rfl)) (fun _ _ _ h => h) (Or.inr ⟨by rfl, rfl⟩) ?_ ?_
                                                                    rotate_left
                                                                    · simp only [Act.put, List.setIfInBounds_toArray, List.set_cons_zero, List.set_cons_succ, i64_w, i32_w]
                                                                      rfl
                                                                    refine pure_ (i := 16) (N := some 159) (v := undef) (a' := ?_) #[true, true, true, true, true, true, true, true, true, true, true, true, true, true, true, true, true, false, false, false, false, false, false, false, false, false, false, false, false, false, false, false, false, false, false] rfl rfl (any_of HT_.out (by kernel_rfl)) (fun _ _ _ h => h) (Or.inr ⟨by rfl, rfl⟩) ?_ ?_
                                                                    rotate_left
                                                                    · simp only [Act.put, List.setIfInBounds_toArray, List.set_cons_zero, List.set_cons_succ, i64_w, i32_w]
                                                                      rfl
                                                                    refine pure_ (i := 17) (N := some 160) (v := undef) (a' := ?_) #[true, true, true, true, true, true, true, true, true, true, true, true, true, true, true, true, true, true, false, false, false, false, false, false, false, false, false, false, false, false, false, false, false, false, false] rfl rfl (any_of HT_.out (by kernel_rfl)) (fun _ _ _ h => h) (Or.inr ⟨by rfl, rfl⟩) ?_ ?_
                                                                    rotate_left
                                                                    · simp only [Act.put, List.setIfInBounds_toArray, List.set_cons_zero, List.set_cons_succ, i64_w, i32_w]
                                                                      rfl
                                                                    refine pure_ (i := 18) (N := some 161) (v := undef) (a' := ?_) #[true, true, true, true, true, true, true, true, true, true, true, true, true, true, true, true, true, true, true, false, false, false, false, false, false, false, false, false, false, false, false, false, false, false, false] rfl rfl (any_of HT_.out (by kernel_rfl)) (fun _ _ _ h => h) (Or.inr ⟨by rfl, rfl⟩) ?_ ?_
                                                                    rotate_left
                                                                    · simp only [Act.put, List.setIfInBounds_toArray, List.set_cons_zero, List.set_cons_succ, i64_w, i32_w]
                                                                      rfl
                                                                    refine pure_ (i := 19) (N := some 162) (v := undef) (a' := ?_) #[true, true, true, true, true, true, true, true, true, true, true, true, true, true, true, true, true, true, true, true, false, false, false, false, false, false, false, false, false, false, false, false, false, false, false] rfl rfl (any_of HT_.out (by kernel_rfl)) (fun _ _ _ h => h) (Or.inr ⟨by rfl, rfl⟩) ?_ ?_
                                                                    rotate_left
                                                                    · simp only [Act.put, List.setIfInBounds_toArray, List.set_cons_zero, List.set_cons_succ, i64_w, i32_w]
                                                                      rfl
                                                                    refine pure_ (i := 20) (N := some 163) (v := undef) (a' := ?_) #[true, true, true, true, true, true, true, true, true, true, true, true, true, true, true, true, true, true, true, true, true, false, false, false, false, false, false, false, false, false, false, false, false, false, false] rfl rfl (any_of HT_.out (by kernel_rfl)) (fun _ _ _ h => h) (Or.inr ⟨by rfl, rfl⟩) ?_ ?_
                                                                    rotate_left
                                                                    · simp only [Act.put, List.setIfInBounds_toArray, List.set_cons_zero, List.set_cons_succ, i64_w, i32_w]
                                                                      rfl
                                                                    refine pure_ (i := 21) (N := some 164) (v := undef) (a' := ?_) #[true, true, true, true, true, true, true, true, true, true, true, true, true, true, true, true, true, true, true, true, true, true, false, false, false, false, false, false, false, false, false, false, false, false, false] rfl rfl (any_of HT_.out (by kernel_rfl)) (fun _ _ _ h => h) (Or.inr ⟨by rfl, rfl⟩) ?_ ?_
                                                                    rotate_left
                                                                    · simp only [Act.put, List.setIfInBounds_toArray, List.set_cons_zero, List.set_cons_succ, i64_w, i32_w]
                                                                      rfl
                                                                    refine pure_ (i := 22) (N := some 165) (v := undef) (a' := ?_) #[true, true, true, true, true, true, true, true, true, true, true, true, true, true, true, true, true, true, true, true, true, true, true, false, false, false, false, false, false, false, false, false, false, false, false] rfl rfl (any_of HT_.out (by kernel_rfl)) (fun _ _ _ h => h) (Or.inr ⟨by rfl, rfl⟩) ?_ ?_
                                                                    rotate_left
                                                                    · simp only [Act.put, List.setIfInBounds_toArray, List.set_cons_zero, List.set_cons_succ, i64_w, i32_w]
                                                                      rfl
                                                                    refine pure_ (i := 23) (N := some 166) (v := undef) (a' := ?_) #[true, true, true, true, true, true, true, true, true, true, true, true, true, true, true, true, true, true, true, true, true, true, true, true, false, false, false, false, false, false, false, false, false, false, false] rfl rfl (any_of HT_.out (by kernel_rfl)) (fun _ _ _ h => h) (Or.inr ⟨by rfl, rfl⟩) ?_ ?_
                                                                    rotate_left
                                                                    · simp only [Act.put, List.setIfInBounds_toArray, List.set_cons_zero, List.set_cons_succ, i64_w, i32_w]
                                                                      rfl
                                                                    refine pure_ (i := 24) (N := some 167) (v := undef) (a' := ?_) #[true, true, true, true, true, true, true, true, true, true, true, true, true, true, true, true, true, true, true, true, true, true, true, true, true, false, false, false, false, false, false, false, false, false, false] rfl rfl (any_of HT_.out (by kernel_rfl)) (fun _ _ _ h => h) (Or.inr ⟨by rfl, rfl⟩) ?_ ?_
                                                                    rotate_left
                                                                    · simp only [Act.put, List.setIfInBounds_toArray, List.set_cons_zero, List.set_cons_succ, i64_w, i32_w]
                                                                      rfl
                                                                    refine pure_ (i := 25) (N := some 168) (v := undef) (a' := ?_) #[true, true, true, true, true, true, true, true, true, true, true, true, true, true, true, true, true, true, true, true, true, true, true, true, true, true, false, false, false, false, false, false, false, false, false] rfl rfl (any_of HT_.out (by kernel_rfl)) (fun _ _ _ h => h) (Or.inr ⟨by rfl, rfl⟩) ?_ ?_
                                                                    rotate_left
                                                                    · simp only [Act.put, List.setIfInBounds_toArray, List.set_cons_zero, List.set_cons_succ, i64_w, i32_w]
                                                                      rfl
                                                                    refine pure_ (i := 26) (N := some 169) (v := undef) (a' := ?_) #[true, true, true, true, true, true, true, true, true, true, true, true, true, true, true, true, true, true, true, true, true, true, true, true, true, true, true, false, false, false, false, false, false, false, false] rfl rfl (any_of HT_.out (by kernel_rfl)) (fun _ _ _ h => h) (Or.inr ⟨by rfl, rfl⟩) ?_ ?_
                                                                    rotate_left
                                                                    · simp only [Act.put, List.setIfInBounds_toArray, List.set_cons_zero, List.set_cons_succ, i64_w, i32_w]
                                                                      rfl
                                                                    refine pure_ (i := 27) (N := some 170) (v := undef) (a' := ?_) #[true, true, true, true, true, true, true, true, true, true, true, true, true, true, true, true, true, true, true, true, true, true, true, true, true, true, true, true, false, false, false, false, false, false, false] rfl rfl (any_of HT_.out (by kernel_rfl)) (fun _ _ _ h => h) (Or.inr ⟨by rfl, rfl⟩) ?_ ?_
                                                                    rotate_left
                                                                    · simp only [Act.put, List.setIfInBounds_toArray, List.set_cons_zero, List.set_cons_succ, i64_w, i32_w]
                                                                      rfl
                                                                    refine pure_ (i := 28) (N := some 171) (v := undef) (a' := ?_) #[true, true, true, true, true, true, true, true, true, true, true, true, true, true, true, true, true, true, true, true, true, true, true, true, true, true, true, true, true, false, false, false, false, false, false] rfl rfl (any_of HT_.out (by kernel_rfl)) (fun _ _ _ h => h) (Or.inr ⟨by rfl, rfl⟩) ?_ ?_
                                                                    rotate_left
                                                                    · simp only [Act.put, List.setIfInBounds_toArray, List.set_cons_zero, List.set_cons_succ, i64_w, i32_w]
                                                                      rfl
                                                                    refine pure_ (i := 29) (N := some 172) (v := undef) (a' := ?_) #[true, true, true, true, true, true, true, true, true, true, true, true, true, true, true, true, true, true, true, true, true, true, true, true, true, true, true, true, true, true, false, false, false, false, false] rfl rfl (any_of HT_.out (by kernel_rfl)) (fun _ _ _ h => h) (Or.inr ⟨by rfl, rfl⟩) ?_ ?_
                                                                    rotate_left
                                                                    · simp only [Act.put, List.setIfInBounds_toArray, List.set_cons_zero, List.set_cons_succ, i64_w, i32_w]
                                                                      rfl
                                                                    refine pure_ (i := 30) (N := some 173) (v := undef) (a' := ?_) #[true, true, true, true, true, true, true, true, true, true, true, true, true, true, true, true, true, true, true, true, true, true, true, true, true, true, true, true, true, true, true, false, false, false, false] rfl rfl (any_of HT_.out (by kernel_rfl)) (fun _ _ _ h => h) (Or.inr ⟨by rfl, rfl⟩) ?_ ?_
                                                                    rotate_left
                                                                    · simp only [Act.put, List.setIfInBounds_toArray, List.set_cons_zero, List.set_cons_succ, i64_w, i32_w]
                                                                      rfl
                                                                    refine pure_ (i := 31) (N := some 174) (v := undef) (a' := ?_) #[true, true, true, true, true, true, true, true, true, true, true, true, true, true, true, true, true, true, true, true, true, true, true, true, true, true, true, true, true, true, true, true, false, false, false] rfl rfl (any_of HT_.out (by kernel_rfl)) (fun _ _ _ h => h) (Or.inr ⟨by rfl, rfl⟩) ?_ ?_
                                                                    rotate_left
                                                                    · simp only [Act.put, List.setIfInBounds_toArray, List.set_cons_zero, List.set_cons_succ, i64_w, i32_w]
                                                                      rfl
                                                                    refine pure_ (i := 32) (N := some 175) (v := undef) (a' := ?_) #[true, true, true, true, true, true, true, true, true, true, true, true, true, true, true, true, true, true, true, true, true, true, true, true, true, true, true, true, true, true, true, true, true, false, false] rfl rfl (any_of HT_.out (by kernel_rfl)) (fun _ _ _ h => h) (Or.inr ⟨by rfl, rfl⟩) ?_ ?_
                                                                    rotate_left
                                                                    · simp only [Act.put, List.setIfInBounds_toArray, List.set_cons_zero, List.set_cons_succ, i64_w, i32_w]
                                                                      rfl
                                                                    refine pure_ (i := 33) (N := some 176) (v := undef) (a' := ?_) #[true, true, true, true, true, true, true, true, true, true, true, true, true, true, true, true, true, true, true, true, true, true, true, true, true, true, true, true, true, true, true, true, true, true, false] rfl rfl (any_of HT_.out (by kernel_rfl)) (fun _ _ _ h => h) (Or.inr ⟨by rfl, rfl⟩) ?_ ?_
                                                                    rotate_left
                                                                    · simp only [Act.put, List.setIfInBounds_toArray, List.set_cons_zero, List.set_cons_succ, i64_w, i32_w]
                                                                      rfl
                                                                    refine pure_ (i := 34) (N := some 177) (v := ?_) (a' := ?_) #[true, true, true, true, true, true, true, true, true, true, true, true, true, true, true, true, true, true, true, true, true, true, true, true, true, true, true, true, true, true, true, true, true, true, true] rfl rfl (any_of HT_.out (by kernel_rfl)) (fun _ _ _ h => h) (Or.inl ⟨by rfl, ?_⟩) ?_ ?_
                                                                    rotate_left
                                                                    · intro w'
                                                                      go_simp
                                                                      with_reducible rfl
                                                                    rotate_left
                                                                    · simp only [Act.put, List.setIfInBounds_toArray, List.set_cons_zero, List.set_cons_succ, i64_w, i32_w]
                                                                      rfl
                                                                    refine done_ (done_of HT_.out (by kernel_rfl)) ?_
                                                                    try go_wp2_with ((with_reducible refine gate_load (t := 26) rfl ?_); refine wpList_load_row rfl 26 _ rfl _ rfl 26 ?lcs (0, 0) _ ?lb Try.underlying26 rfl ?li ?_; (case lb => (with_reducible repeat (first | refine blk_drewN ?_ _ | refine blk_drew ?_ | refine blk_alloc ?_ _)); exact Aside0.out (by assumption)); (case li => exact info26))
                                                                    go_meet
                                                                    case rel => exact ⟨_, (false), (by first | rfl | (simp; done) | (simp [*]; done)), H', ⟨by have := HJ5.out; have := HJ26.out; have := HK3.out; have := HJ60.out; have := HK5.out; first | omega | exact Nat.le_refl _⟩, ⟨by (with_reducible repeat (first | apply Kd.R_alloc | apply Kd.R_drewN | apply Kd.R_drew)); exact HO_9.out⟩, ⟨by (with_reducible repeat (first | apply Kd.R_alloc | apply Kd.R_drewN | apply Kd.R_drew)); exact HO_122016.out⟩, ⟨by (with_reducible repeat (first | refine blk_drewN ?_ _ | refine blk_drew ?_ | refine blk_alloc ?_ _)); exact BK121.out⟩, ⟨by repeat (first | (with_reducible first | exact HB.out | apply below_alloc | apply pw_below_drewN | apply below_drew1 | refine below_set ?_ GE121.out) | exact HB.out)⟩⟩
                                                                · rw [if_neg c75] at H
                                                                  exact absurd H (by simp)
                                                              · rw [if_neg c74] at H
                                                                exact absurd H (by simp)
                                                            · rw [if_neg c73] at H
                                                              exact absurd H (by simp)
                                                          · rw [if_neg c72] at H
                                                            exact absurd H (by simp)
                                                    case rest =>
                                                      as_aux_lemma =>
                                                        clear HC69
                                                        try clear p1
                                                        try clear q1
                                                        try clear hx1
                                                        try clear p2
                                                        try clear c7
                                                        try clear c8
                                                        try clear p14
                                                        try clear q14
                                                        try clear hx14
                                                        try clear c72
                                                        try clear c73
                                                        try clear c74
                                                        try clear c75
                                                        try clear c76
                                                        try clear c76b0
                                                        try clear c77
                                                        try clear c79
                                                        try clear c81
                                                        try clear hx144_0
                                                        try clear hx145_0
                                                        try clear hx146_0
                                                        try clear hx147_0
                                                        try clear hx148_0
                                                        try clear hx149_0
                                                        try clear p144
                                                        try clear p145
                                                        try clear p146
                                                        try clear p147
                                                        try clear p148
                                                        try clear p149
                                                        try clear q144
                                                        try clear q145
                                                        try clear q146
                                                        try clear q147
                                                        try clear q148
                                                        try clear q149
                                                        obtain ⟨kq, x177_68, rfl, HA, HJ68, HO_9, HO_122016, BK121, HB⟩ := hcut
                                                        cases kq with
                                                        | zero => exact absurd HA.out (by simp [celluloidlaw04_HuffBack.j5])
                                                        | succ kj68 =>
                                                          have H := HA.out
                                                          clear HA
                                                          simp only [celluloidlaw04_HuffBack.j5] at H
                                                          by_cases c85 : x177_68 = true
                                                          · subst c85
                                                            have H1 : (some false) = some r := by rw [if_pos rfl] at H; exact H
                                                            clear H
                                                            have H := H1
                                                            clear H1
                                                            first
                                                            | exact absurd (Option.some.inj H) (by rw [hr_.out]; decide)
                                                            | obtain rfl := Option.some.inj H
                                                              go_wp2_with ((with_reducible refine gate_load (t := 26) rfl ?_); refine wpList_load_row rfl 26 _ rfl _ rfl 26 ?lcs (0, 0) _ ?lb Try.underlying26 rfl ?li ?_; (case lb => (with_reducible repeat (first | refine blk_drewN ?_ _ | refine blk_drew ?_ | refine blk_alloc ?_ _)); exact Aside0.out (by assumption)); (case li => exact info26))
                                                              go_ret
                                                              exact ⟨by first | rfl | (simp [errW_none, errW_some] <;> rfl) | (simp [*, errW_none, errW_some] <;> rfl), by repeat (first | (with_reducible first | exact HB.out | apply below_alloc | apply pw_below_drewN | apply below_drew1 | refine below_set ?_ GE121.out) | exact HB.out)⟩
                                                          · replace c85 := Bool.eq_false_iff.mpr c85
                                                            subst c85
                                                            have H1 : (celluloidlaw04_HuffBack.l1 kj68 l0 a1 t122 (l0.length : Int) (wrap64 (x140_5 + 1))) = some r := by rw [if_neg (show ¬ (false = true) by decide)] at H; exact H
                                                            clear H
                                                            have H := H1
                                                            clear H1
                                                            have H' := Aside0.mk H
                                                            clear H
                                                            go_wp2_with ((with_reducible refine gate_load (t := 26) rfl ?_); refine wpList_load_row rfl 26 _ rfl _ rfl 26 ?lcs (0, 0) _ ?lb Try.underlying26 rfl ?li ?_; (case lb => (with_reducible repeat (first | refine blk_drewN ?_ _ | refine blk_drew ?_ | refine blk_alloc ?_ _)); exact Aside0.out (by assumption)); (case li => exact info26))
                                                            go_roundg kj68
                                                            case measure => have := HJ5.out; have := HJ26.out; have := HK3.out; have := HJ60.out; have := HK5.out; have := HJ68.out; omega
                                                            case rel => exact ⟨(wrap64 (x140_5 + 1)), (by first | rfl | (simp; done) | (simp [*]; done)), H', ⟨by have := HJ5.out; have := HJ26.out; have := HK3.out; have := HJ60.out; have := HK5.out; have := HJ68.out; omega⟩, ⟨by (with_reducible repeat (first | apply Kd.R_alloc | apply Kd.R_drewN | apply Kd.R_drew)); exact HO_9.out⟩, ⟨by (with_reducible repeat (first | apply Kd.R_alloc | apply Kd.R_drewN | apply Kd.R_drew)); exact HO_122016.out⟩, ⟨by (with_reducible repeat (first | refine blk_drewN ?_ _ | refine blk_drew ?_ | refine blk_alloc ?_ _)); exact BK121.out⟩, ⟨by repeat (first | (with_reducible first | exact HB.out | apply below_alloc | apply pw_below_drewN | apply below_drew1 | refine below_set ?_ GE121.out) | exact HB.out)⟩⟩
                                                  · rw [if_neg c68] at H
                                                    have c68b0 : decide (x140_5 < (l0.length : Int)) = false := decide_eq_false c68
                                                    clear c68
                                                    replace H := Option.bind_eq_some_iff.mp H
                                                    obtain ⟨t143, A860, H⟩ := H
                                                    replace H : (some t143) = some r := H
                                                    have A86 := Aside0.mk A860
                                                    clear A860
                                                    first
                                                    | exact absurd (Option.some.inj H) (by rw [hr_.out]; decide)
                                                    | obtain rfl := Option.some.inj H
                                                      go_wp2_with (first | ((with_reducible refine gate_load (t := 26) rfl ?_); refine wpList_load_row rfl 26 _ rfl _ rfl 26 ?lcs (0, 0) _ ?lb Try.underlying26 rfl ?li ?_; (case lb => (with_reducible repeat (first | refine blk_drewN ?_ _ | refine blk_drew ?_ | refine blk_alloc ?_ _)); exact Aside0.out (by assumption)); (case li => exact info26)) | ((with_reducible refine gate_callee (f := 25) rfl ?_); refine goesL_ (some 179) rfl rfl Try.func25 (by kernel_rfl) rfl #[] rfl (by (try simp only [List.map_toArray, List.map_cons, List.map_nil]); first | done | rfl | (simp only [List.length_drop, List.length_take]; rfl)) ?_; (with_reducible refine (celluloidlaw04_awake.calls  t143 _ A86.out).mono ?_); rintro e w87 ⟨rfl, hb⟩; refine ⟨_, rfl, ?_⟩; have n0_ := Aside0.mk (Kd.R_below (by (with_reducible repeat (first | apply Kd.R_alloc | apply Kd.R_drewN | apply Kd.R_drew)); exact HO_9.out) hb); have n1_ := Aside0.mk (Kd.R_below (by (with_reducible repeat (first | apply Kd.R_alloc | apply Kd.R_drewN | apply Kd.R_drew)); exact HO_122016.out) hb); have n2_ := Aside0.mk (blk_below (g := gb121) (o := .cells #[.int .i64 t101, .int .i64 t102, .int .i64 t103, .int .i64 t104, .int .i64 t105, .int .i64 t106, .int .i64 t107, .int .i64 t108, .int .i64 t109, .int .i64 t110, .int .i64 t111, .int .i64 t112, .int .i64 t113, .int .i64 t114, .int .i64 t115, .int .i64 t116, .slice Ao8 t117.length co8] 26 (0, 0)) (by (with_reducible repeat (first | refine blk_drewN ?_ _ | refine blk_drew ?_ | refine blk_alloc ?_ _)); exact BK121.out) hb); have n3_ := Aside0.mk (below_step (by repeat (first | (with_reducible first | exact HB.out | apply below_alloc | apply pw_below_drewN | apply below_drew1 | refine below_set ?_ GE121.out) | exact HB.out)) hb); clear HO_9; clear HO_122016; clear BK121; clear HB; have HO_9 := n0_; have HO_122016 := n1_; have BK121 := n2_; have HB := n3_; clear n0_ n1_ n2_ n3_; (try clear hb); (try clear hb2); (try clear hk); (try clear hi)))
                                                      go_ret
                                                      exact ⟨by first | rfl | (simp [errW_none, errW_some] <;> rfl) | (simp [*, errW_none, errW_some] <;> rfl), by repeat (first | (with_reducible first | exact HB.out | apply below_alloc | apply pw_below_drewN | apply below_drew1 | refine below_set ?_ GE121.out) | exact HB.out)⟩
                                  · rw [if_neg c59] at H
                                    exact absurd H (by simp)
                              · rw [if_neg c38] at H
                                exact absurd H (by simp)
                            · rw [if_neg c37] at H
                              exact absurd H (by simp)
                    · rw [if_neg c34] at H
                      exact absurd H (by simp)
      
/-- THE ONE PURE STATEMENT of celluloidlaw04_HuffBack: yours. -/
def celluloidlaw04_HuffBack.Pure : Prop := ∀ (l0 : List Int) (a1 : Int) (a2 : ByteArray), l0.length ≤ maxLen → l0.length * 8 ≤ 140737488351232 → (∀ x ∈ l0, (Lit.int .i64 x).wf = true) → (Lit.int .i64 a1).wf = true → a2.size ≤ 140737488351232 → ∃ k, celluloidlaw04_HuffBack.f k l0 a1 a2 = some true
theorem celluloidlaw04_HuffBack.walk (P : celluloidlaw04_HuffBack.Pure) (a0 : Option Addr) (len0 cap0 : Nat) (z0 : List Int) (a1 : Int) (a2 : ByteArray) (w : World) (w0 : (a0 = none ∧ len0 = 0 ∧ cap0 = 0 ∧ z0 = []) ∨ ∃ x, a0 = some x ∧ len0 ≤ cap0 ∧ cap0 ≤ maxLen ∧ z0.length = cap0 ∧ (∀ i, i < z0.length → w.cell? (x.add i) = some (.int .i64 (z0.getD i 0))) ∧ ∀ n ∈ z0, (Lit.int .i64 n).wf = true) (y0 : len0 * 8 ≤ 140737488351232) (w1 : (Lit.int .i64 a1).wf = true) (w2 : a2.size ≤ 140737488351232) :
    Calls Try.prog 5 #[.slice a0 len0 cap0, .int .i64 a1, .string a2] w fun e w' => e = .returned (.bool true) ∧ Below w.heap.size w w' := by
  obtain ⟨l0, rfl, hr0, hm0, hw0, hc0⟩ := ReadsInt.ofRowC w0
  obtain ⟨k, h⟩ := P l0 a1 a2 hm0 y0 hw0 w1 w2
  refine (celluloidlaw04_HuffBack.calls k _ _ l0 a1 a2 true w (Kd.C_of_reads (d := (0 : Int)) (h1 := fun _ => rfl) hr0) hc0 h ⟨rfl⟩).mono ?_
  rintro e w' ⟨rfl, hd⟩
  exact ⟨rfl, hd⟩

end Go.Proofs.Ytpbhkdamkbopkaa.GBack
