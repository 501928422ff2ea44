-- Written by a program of this session (wip/tools/print2.py) for this claim.
import Derived.Test.YtpbhkdamkbopkaaGRunsx0
import Derived.Test.YtpbhkdamkbopkaaGRunsx3
namespace Go.Proofs.Ytpbhkdamkbopkaa.GRuns
open Go.RowKit Go.Proofs.YtpbhkdamkbopkaaW.PrintWords Go.Proofs.YtpbhkdamkbopkaaW.PrintLast Go.Proofs.YtpbhkdamkbopkaaW.PrintMore Go.Proofs.Ytpbhkdamkbopkaa.Wr0
attribute [local go_sem] max2_int min2_int max_two min_two max_three min_three max_four min_four   -- for this text's walks alone
set_option linter.unusedVariables false
set_option linter.unusedSimpArgs false

/-! ### celluloidlaw06_DeflateRuns: function 8 -/
def celluloidlaw06_DeflateRuns.j0 : Nat → ByteArray → Int → Int → Int → Int → Int → Bool → Option (Bool)
  | 0, _, _, _, _, _, _, _ => none
  | k + 1, x0, x1, x5, x6, x7, x8, x26 => if x26 = true then ((celluloidref06_Run.f k x0 x1).bind fun bt130 => (if x5 = bt130.1 then (if x6 = bt130.2 then ((celluloidlaw06_awake.f k).bind fun t132 => (some t132)) else (some false)) else (some false))) else (if x5 = x7 then (if x6 = x8 then ((celluloidlaw06_awake.f k).bind fun t133 => (some t133)) else (some false)) else (some false))
def celluloidlaw06_DeflateRuns.f (k : Nat) (a0 : ByteArray) (a1 : Int) : Option (Bool) := if (a0.size : Int) > 2048 then ((celluloidlaw06_awake.f k).bind fun t127 => (some t127)) else ((deflate_Run.f k a0 a1).bind fun bt128 => (if a1 ≥ 0 then (celluloidlaw06_DeflateRuns.j0 k a0 a1 bt128.1 bt128.2 0 0 (decide (a1 < (a0.size : Int)))) else (celluloidlaw06_DeflateRuns.j0 k a0 a1 bt128.1 bt128.2 0 0 false)))
theorem celluloidlaw06_DeflateRuns.mono_l : ∀ k, (∀ y0 y1 y2 y3 y4 y5 y6, LeO (celluloidlaw06_DeflateRuns.j0 k y0 y1 y2 y3 y4 y5 y6) (celluloidlaw06_DeflateRuns.j0 (k + 1) y0 y1 y2 y3 y4 y5 y6))
  | 0 => fun _ _ _ _ _ _ _ r h => by simp [celluloidlaw06_DeflateRuns.j0] at h
  | k + 1 => by
    have ih0 := celluloidlaw06_DeflateRuns.mono_l k
    · intro y0 y1 y2 y3 y4 y5 y6
      unfold celluloidlaw06_DeflateRuns.j0
      repeat' first
      | (with_reducible exact ih0 _ _ _ _ _ _ _)
      | (with_reducible exact celluloidlaw06_awake.mono _)
      | (with_reducible exact celluloidref06_Run.mono _ _ _)
      | (with_reducible exact deflate_Run.mono _ _ _)
      | (with_reducible exact LeO.refl _)
      | (with_reducible exact LeO.none _)
      | (with_reducible refine LeO.ite ?_ ?_)
      | (with_reducible refine LeO.bind ?_ (fun _ => ?_))
      | exact ih0 _ _ _ _ _ _ _
      | exact celluloidlaw06_awake.mono _
      | exact celluloidref06_Run.mono _ _ _
      | exact deflate_Run.mono _ _ _
      | exact LeO.none _
      | refine LeO.ite ?_ ?_
      | refine LeO.bind ?_ (fun _ => ?_)
theorem celluloidlaw06_DeflateRuns.mono : ∀ a0 a1 k, LeO (celluloidlaw06_DeflateRuns.f k a0 a1) (celluloidlaw06_DeflateRuns.f (k + 1) a0 a1) := by
  intro a0 a1 k
  have ih0 := celluloidlaw06_DeflateRuns.mono_l k
  unfold celluloidlaw06_DeflateRuns.f
  repeat' first
      | (with_reducible exact ih0 _ _ _ _ _ _ _)
      | (with_reducible exact celluloidlaw06_awake.mono _)
      | (with_reducible exact celluloidref06_Run.mono _ _ _)
      | (with_reducible exact deflate_Run.mono _ _ _)
      | (with_reducible exact LeO.refl _)
      | (with_reducible exact LeO.none _)
      | (with_reducible refine LeO.ite ?_ ?_)
      | (with_reducible refine LeO.bind ?_ (fun _ => ?_))
      | exact ih0 _ _ _ _ _ _ _
      | exact celluloidlaw06_awake.mono _
      | exact celluloidref06_Run.mono _ _ _
      | exact deflate_Run.mono _ _ _
      | exact LeO.none _
      | refine LeO.ite ?_ ?_
      | refine LeO.bind ?_ (fun _ => ?_)
set_option maxHeartbeats 8000000 in
set_option maxRecDepth 100000 in
theorem celluloidlaw06_DeflateRuns.calls (k : Nat) (a0 : ByteArray) (a1 : Int) (r : Bool) (w : World) (h : celluloidlaw06_DeflateRuns.f k a0 a1 = some r) (hr_ : Aside0 (r = true)) :
    Calls Try.prog 8 #[.string a0, .int .i64 a1] w fun e w' => e = .returned (.bool r) ∧ Below w.heap.size w w' := by
  have HB := Aside0.mk (Below.refl w.heap.size w)
  have H : (if (a0.size : Int) > 2048 then ((celluloidlaw06_awake.f k).bind fun t127 => (some t127)) else ((deflate_Run.f k a0 a1).bind fun bt128 => (if a1 ≥ 0 then (celluloidlaw06_DeflateRuns.j0 k a0 a1 bt128.1 bt128.2 0 0 (decide (a1 < (a0.size : Int)))) else (celluloidlaw06_DeflateRuns.j0 k a0 a1 bt128.1 bt128.2 0 0 false)))) = some r := h
  clear h
  by_cases c3 : (a0.size : Int) > 2048
  · rw [if_pos c3] at H
    have c3b0 : decide (2048 < (a0.size : Int)) = true := decide_eq_true c3
    have c3b1 : decide (2048 < a0.size) = true := decide_eq_true (by omega)
    clear c3
    replace H := Option.bind_eq_some_iff.mp H
    obtain ⟨t127, A40, H⟩ := H
    replace H : (some t127) = some r := H
    have A4 := Aside0.mk A40
    clear A40
    first
    | exact absurd (Option.some.inj H) (by rw [hr_.out]; decide)
    | obtain rfl := Option.some.inj H
      go_enter Try.func8, Try.ntmps8
      go_wp2_with (first | ((with_reducible refine gate_callee (f := 36) rfl ?_); refine goesL_ (some 12) rfl rfl Try.func36 (by kernel_rfl) rfl #[] rfl (by (try simp only [List.map_toArray, List.map_cons, List.map_nil]); first | done | rfl | (simp only [List.length_drop, List.length_take]; rfl)) ?_; (with_reducible refine (celluloidlaw06_awake.calls k  t127 _ A4.out).mono ?_); rintro e w5 ⟨rfl, hb⟩; refine ⟨_, rfl, ?_⟩; have n0_ := Aside0.mk (below_step (by repeat (first | (with_reducible first | exact HB.out | apply below_alloc | apply pw_below_drewN | apply below_drew1) | exact HB.out)) hb); clear HB; have HB := n0_; clear n0_; (try clear hb); (try clear hb2); (try clear hk); (try clear hi)))
      go_ret
      exact ⟨by first | rfl | (simp [errW_none, errW_some] <;> rfl) | (simp [*, errW_none, errW_some] <;> rfl), by repeat (first | (with_reducible first | exact HB.out | apply below_alloc | apply pw_below_drewN | apply below_drew1) | exact HB.out)⟩
  · rw [if_neg c3] at H
    have c3b0 : decide (2048 < (a0.size : Int)) = false := decide_eq_false c3
    have c3b1 : decide (2048 < a0.size) = false := decide_eq_false (by omega)
    clear c3
    replace H := Option.bind_eq_some_iff.mp H
    obtain ⟨⟨t128, t129⟩, A60, H⟩ := H
    replace H : (if a1 ≥ 0 then (celluloidlaw06_DeflateRuns.j0 k a0 a1 t128 t129 0 0 (decide (a1 < (a0.size : Int)))) else (celluloidlaw06_DeflateRuns.j0 k a0 a1 t128 t129 0 0 false)) = some r := H
    have A6 := Aside0.mk A60
    clear A60
    have HC7 := Aside0.mk H
    clear H
    go_enter Try.func8, Try.ntmps8
    go_upto_region 5 with (first | ((with_reducible refine gate_callee (f := 37) rfl ?_); refine goesL_ (some 16) rfl rfl Try.func37 (by kernel_rfl) rfl #[.string a0, .int .i64 a1] rfl (by (try simp only [List.map_toArray, List.map_cons, List.map_nil]); first | done | rfl | (simp only [List.length_drop, List.length_take]; rfl)) ?_; (with_reducible refine (deflate_Run.calls k a0 a1 t128 t129 _ A6.out).mono ?_); rintro e w8 ⟨rfl, hb⟩; refine ⟨_, rfl, ?_⟩; have n0_ := Aside0.mk (below_step (by repeat (first | (with_reducible first | exact HB.out | apply below_alloc | apply pw_below_drewN | apply below_drew1) | exact HB.out)) hb); clear HB; have HB := n0_; clear n0_; (try clear hb); (try clear hb2); (try clear hk); (try clear hi)))
    (try simp only [Act.put, List.setIfInBounds_toArray, List.set_cons_zero, List.set_cons_succ])
    go_cut [26] (fun v26 wc => ∃ (kq : Nat) (x26_6 : Bool), v26 = .bool x26_6 ∧ Aside0 (celluloidlaw06_DeflateRuns.j0 kq a0 a1 t128 t129 0 0 x26_6 = some r) ∧ Aside0 (kq ≤ k) ∧ Aside0 (Below w.heap.size w wc))
    case first =>
      have H := HC7.out
      clear HC7
      by_cases c9 : a1 ≥ 0
      · rw [if_pos c9] at H
        have c9b0 : decide (0 ≤ a1) = true := decide_eq_true c9
        clear c9
        (first | rw [c9b0] | (simp only [i64_w, i32_w]; rw [c9b0]) | skip)
        have H' := Aside0.mk H
        clear H
        go_wp2
        go_meet
        case rel => exact ⟨_, (decide (a1 < (a0.size : Int))), (by first | rfl | (simp; done) | (simp [*]; done)), H', ⟨by first | omega | exact Nat.le_refl _⟩, ⟨by repeat (first | (with_reducible first | exact HB.out | apply below_alloc | apply pw_below_drewN | apply below_drew1) | exact HB.out)⟩⟩
      · rw [if_neg c9] at H
        have c9b0 : decide (0 ≤ a1) = false := decide_eq_false c9
        clear c9
        (first | rw [c9b0] | (simp only [i64_w, i32_w]; rw [c9b0]) | skip)
        have H' := Aside0.mk H
        clear H
        go_wp2
        go_meet
        case rel => exact ⟨_, (false), (by first | rfl | (simp; done) | (simp [*]; done)), H', ⟨by first | omega | exact Nat.le_refl _⟩, ⟨by repeat (first | (with_reducible first | exact HB.out | apply below_alloc | apply pw_below_drewN | apply below_drew1) | exact HB.out)⟩⟩
    case rest =>
      clear HC7
      try clear p2
      try clear c3
      try clear c3b0
      try clear c3b1
      try clear c8
      try clear c9
      try clear c9b0
      obtain ⟨kq, x26_6, rfl, HA, HJ6, HB⟩ := hcut
      cases kq with
      | zero => exact absurd HA.out (by simp [celluloidlaw06_DeflateRuns.j0])
      | succ kj6 =>
        have H := HA.out
        clear HA
        simp only [celluloidlaw06_DeflateRuns.j0] at H
        by_cases c10 : x26_6 = true
        · subst c10
          have H1 : ((celluloidref06_Run.f kj6 a0 a1).bind fun bt130 => (if t128 = bt130.1 then (if t129 = bt130.2 then ((celluloidlaw06_awake.f kj6).bind fun t132 => (some t132)) else (some false)) else (some false))) = some r := by rw [if_pos rfl] at H; exact H
          clear H
          have H := H1
          clear H1
          replace H := Option.bind_eq_some_iff.mp H
          obtain ⟨⟨t130, t131⟩, A110, H⟩ := H
          replace H : (if t128 = t130 then (if t129 = t131 then ((celluloidlaw06_awake.f kj6).bind fun t132 => (some t132)) else (some false)) else (some false)) = some r := H
          have A11 := Aside0.mk A110
          clear A110
          by_cases c12 : t128 = t130
          · rw [if_pos c12] at H
            have c12b0 : (t128 == t130) = true := beq_iff_eq.mpr c12
            have c12b1 : (t128 != t130) = false := bne_eq_false_iff_eq.mpr c12
            clear c12
            by_cases c13 : t129 = t131
            · rw [if_pos c13] at H
              have c13b0 : (t129 == t131) = true := beq_iff_eq.mpr c13
              have c13b1 : (t129 != t131) = false := bne_eq_false_iff_eq.mpr c13
              clear c13
              replace H := Option.bind_eq_some_iff.mp H
              obtain ⟨t132, A140, H⟩ := H
              replace H : (some t132) = some r := H
              have A14 := Aside0.mk A140
              clear A140
              first
              | exact absurd (Option.some.inj H) (by rw [hr_.out]; decide)
              | obtain rfl := Option.some.inj H
                go_wp2_with (first | ((with_reducible refine gate_callee (f := 38) rfl ?_); refine goesL_ (some 30) rfl rfl Try.func38 (by kernel_rfl) rfl #[.string a0, .int .i64 a1] rfl (by (try simp only [List.map_toArray, List.map_cons, List.map_nil]); first | done | rfl | (simp only [List.length_drop, List.length_take]; rfl)) ?_; (with_reducible refine (celluloidref06_Run.calls kj6 a0 a1 t130 t131 _ A11.out).mono ?_); rintro e w' ⟨rfl, ⟨nd, rfl⟩⟩; refine ⟨_, rfl, ?_⟩) | (go_at_call 36; (with_reducible refine (celluloidlaw06_awake.calls kj6  t132 _ A14.out).mono ?_); rintro e w15 ⟨rfl, hb⟩; have n0_ := Aside0.mk (below_step (by repeat (first | (with_reducible first | exact HB.out | apply below_alloc | apply pw_below_drewN | apply below_drew1) | exact HB.out)) hb); clear HB; have HB := n0_; clear n0_; (try clear hb); (try clear hb2); (try clear hk); (try clear hi)))
                go_ret
                exact ⟨by first | rfl | (simp [errW_none, errW_some] <;> rfl) | (simp [*, errW_none, errW_some] <;> rfl), by repeat (first | (with_reducible first | exact HB.out | apply below_alloc | apply pw_below_drewN | apply below_drew1) | exact HB.out)⟩
            · rw [if_neg c13] at H
              have c13b0 : (t129 == t131) = false := beq_eq_false_iff_ne.mpr c13
              have c13b1 : (t129 != t131) = true := bne_iff_ne.mpr c13
              first
              | exact absurd (Option.some.inj H) (by rw [hr_.out]; decide)
              | obtain rfl := Option.some.inj H
                go_wp2_with (first | ((with_reducible refine gate_callee (f := 38) rfl ?_); refine goesL_ (some 30) rfl rfl Try.func38 (by kernel_rfl) rfl #[.string a0, .int .i64 a1] rfl (by (try simp only [List.map_toArray, List.map_cons, List.map_nil]); first | done | rfl | (simp only [List.length_drop, List.length_take]; rfl)) ?_; (with_reducible refine (celluloidref06_Run.calls kj6 a0 a1 t130 t131 _ A11.out).mono ?_); rintro e w' ⟨rfl, ⟨nd, rfl⟩⟩; refine ⟨_, rfl, ?_⟩))
                go_ret
                exact ⟨by first | rfl | (simp [errW_none, errW_some] <;> rfl) | (simp [*, errW_none, errW_some] <;> rfl), by repeat (first | (with_reducible first | exact HB.out | apply below_alloc | apply pw_below_drewN | apply below_drew1) | exact HB.out)⟩
          · rw [if_neg c12] at H
            have c12b0 : (t128 == t130) = false := beq_eq_false_iff_ne.mpr c12
            have c12b1 : (t128 != t130) = true := bne_iff_ne.mpr c12
            first
            | exact absurd (Option.some.inj H) (by rw [hr_.out]; decide)
            | obtain rfl := Option.some.inj H
              go_wp2_with (first | ((with_reducible refine gate_callee (f := 38) rfl ?_); refine goesL_ (some 30) rfl rfl Try.func38 (by kernel_rfl) rfl #[.string a0, .int .i64 a1] rfl (by (try simp only [List.map_toArray, List.map_cons, List.map_nil]); first | done | rfl | (simp only [List.length_drop, List.length_take]; rfl)) ?_; (with_reducible refine (celluloidref06_Run.calls kj6 a0 a1 t130 t131 _ A11.out).mono ?_); rintro e w' ⟨rfl, ⟨nd, rfl⟩⟩; refine ⟨_, rfl, ?_⟩))
              go_ret
              exact ⟨by first | rfl | (simp [errW_none, errW_some] <;> rfl) | (simp [*, errW_none, errW_some] <;> rfl), by repeat (first | (with_reducible first | exact HB.out | apply below_alloc | apply pw_below_drewN | apply below_drew1) | exact HB.out)⟩
        · replace c10 := Bool.eq_false_iff.mpr c10
          subst c10
          have H1 : (if t128 = 0 then (if t129 = 0 then ((celluloidlaw06_awake.f kj6).bind fun t133 => (some t133)) else (some false)) else (some false)) = some r := by rw [if_neg (show ¬ (false = true) by decide)] at H; exact H
          clear H
          have H := H1
          clear H1
          by_cases c16 : t128 = 0
          · rw [if_pos c16] at H
            have c16b0 : (t128 == 0) = true := beq_iff_eq.mpr c16
            have c16b1 : (t128 != 0) = false := bne_eq_false_iff_eq.mpr c16
            clear c16
            by_cases c17 : t129 = 0
            · rw [if_pos c17] at H
              have c17b0 : (t129 == 0) = true := beq_iff_eq.mpr c17
              have c17b1 : (t129 != 0) = false := bne_eq_false_iff_eq.mpr c17
              clear c17
              replace H := Option.bind_eq_some_iff.mp H
              obtain ⟨t133, A180, H⟩ := H
              replace H : (some t133) = some r := H
              have A18 := Aside0.mk A180
              clear A180
              first
              | exact absurd (Option.some.inj H) (by rw [hr_.out]; decide)
              | obtain rfl := Option.some.inj H
                go_wp2_with (first | (go_at_call 36; (with_reducible refine (celluloidlaw06_awake.calls kj6  t133 _ A18.out).mono ?_); rintro e w19 ⟨rfl, hb⟩; have n0_ := Aside0.mk (below_step (by repeat (first | (with_reducible first | exact HB.out | apply below_alloc | apply pw_below_drewN | apply below_drew1) | exact HB.out)) hb); clear HB; have HB := n0_; clear n0_; (try clear hb); (try clear hb2); (try clear hk); (try clear hi)))
                go_ret
                exact ⟨by first | rfl | (simp [errW_none, errW_some] <;> rfl) | (simp [*, errW_none, errW_some] <;> rfl), by repeat (first | (with_reducible first | exact HB.out | apply below_alloc | apply pw_below_drewN | apply below_drew1) | exact HB.out)⟩
            · rw [if_neg c17] at H
              have c17b0 : (t129 == 0) = false := beq_eq_false_iff_ne.mpr c17
              have c17b1 : (t129 != 0) = true := bne_iff_ne.mpr c17
              first
              | exact absurd (Option.some.inj H) (by rw [hr_.out]; decide)
              | obtain rfl := Option.some.inj H
                go_wp2
                go_ret
                exact ⟨by first | rfl | (simp [errW_none, errW_some] <;> rfl) | (simp [*, errW_none, errW_some] <;> rfl), by repeat (first | (with_reducible first | exact HB.out | apply below_alloc | apply pw_below_drewN | apply below_drew1) | exact HB.out)⟩
          · rw [if_neg c16] at H
            have c16b0 : (t128 == 0) = false := beq_eq_false_iff_ne.mpr c16
            have c16b1 : (t128 != 0) = true := bne_iff_ne.mpr c16
            first
            | exact absurd (Option.some.inj H) (by rw [hr_.out]; decide)
            | obtain rfl := Option.some.inj H
              go_wp2
              go_ret
              exact ⟨by first | rfl | (simp [errW_none, errW_some] <;> rfl) | (simp [*, errW_none, errW_some] <;> rfl), by repeat (first | (with_reducible first | exact HB.out | apply below_alloc | apply pw_below_drewN | apply below_drew1) | exact HB.out)⟩
  
/-- THE ONE PURE STATEMENT of celluloidlaw06_DeflateRuns: yours. -/
def celluloidlaw06_DeflateRuns.Pure : Prop := ∀ (a0 : ByteArray) (a1 : Int), a0.size ≤ 140737488351232 → (Lit.int .i64 a1).wf = true → ∃ k, celluloidlaw06_DeflateRuns.f k a0 a1 = some true
theorem celluloidlaw06_DeflateRuns.walk (P : celluloidlaw06_DeflateRuns.Pure) (a0 : ByteArray) (a1 : Int) (w : World) (w0 : a0.size ≤ 140737488351232) (w1 : (Lit.int .i64 a1).wf = true) :
    Calls Try.prog 8 #[.string a0, .int .i64 a1] w fun e w' => e = .returned (.bool true) ∧ Below w.heap.size w w' := by
  obtain ⟨k, h⟩ := P a0 a1 w0 w1
  refine (celluloidlaw06_DeflateRuns.calls k a0 a1 true w h ⟨rfl⟩).mono ?_
  rintro e w' ⟨rfl, hd⟩
  exact ⟨rfl, hd⟩

end Go.Proofs.Ytpbhkdamkbopkaa.GRuns
