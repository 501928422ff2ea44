-- Written by a program of this session (wip/tools/print2.py) for this claim.
import Derived.Test.YtpbhkdamkbopkaaGHuffx0
import Derived.Test.YtpbhkdamkbopkaaGHuffx1
import Derived.Test.YtpbhkdamkbopkaaGHuffx2
import Derived.Test.YtpbhkdamkbopkaaGHuffx3
namespace Go.Proofs.Ytpbhkdamkbopkaa.GHuff
open Go.RowKit Go.Proofs.YtpbhkdamkbopkaaW.PrintWords Go.Proofs.YtpbhkdamkbopkaaW.PrintLast Go.Proofs.YtpbhkdamkbopkaaW.PrintMore Go.Proofs.Ytpbhkdamkbopkaa.Ext Go.Proofs.Ytpbhkdamkbopkaa.ExtAwake
attribute [local go_sem] max2_int min2_int max_two min_two max_three min_three max_four min_four   -- for this text's walks alone
set_option linter.unusedVariables false
set_option linter.unusedSimpArgs false

/-! ### celluloidref04_Next: function 31 -/
mutual
def celluloidref04_Next.l0 : Nat → List Int → ByteArray → Int → List Int → Int → Int → Option (Int × Int × Int)
  | 0, _, _, _, _, _, _ => none
  | k + 1, x0, x1, x2, x9, x10, x11 => if x11 < 16 then (celluloidref04_Next.l1 k x0 x1 x2 x9 x10 x11 false 0) else (some (0, 0, 4))
def celluloidref04_Next.l1 : Nat → List Int → ByteArray → Int → List Int → Int → Int → Bool → Int → Option (Int × Int × Int)
  | 0, _, _, _, _, _, _, _, _ => none
  | k + 1, x0, x1, x2, x9, x10, x11, x12, x13 => if x13 < (x0.length : Int) then (if 0 ≤ x13 then (if (rd x0 x13) < x11 then (celluloidref04_Next.j2 k x0 x1 x2 x9 x10 x11 x12 x13 true) else (celluloidref04_Next.j2 k x0 x1 x2 x9 x10 x11 x12 x13 ((rd x0 x13) == 0))) else (none)) else (if x12 = true then ((celluloidref04_Bit.f k x1 (wrap64 (x2 + x11))).bind fun t161 => (if t161 < 0 then (some (0, 0, 2)) else (celluloidref04_Next.l0 k x0 x1 x2 x9 (wrap64 ((wrap64 (2 * x10)) + t161)) (wrap64 (x11 + 1))))) else (some (0, 0, 4)))
def celluloidref04_Next.j2 : Nat → List Int → ByteArray → Int → List Int → Int → Int → Bool → Int → Bool → Option (Int × Int × Int)
  | 0, _, _, _, _, _, _, _, _, _ => none
  | k + 1, x0, x1, x2, x9, x10, x11, x12, x13, x43 => if x43 = true then (celluloidref04_Next.l1 k x0 x1 x2 x9 x10 x11 x12 (wrap64 (x13 + 1))) else (if 0 ≤ x13 then (if x13 < (x9.length : Int) then (celluloidref04_Next.l2 k x0 x1 x2 x9 x10 x11 x12 x13 (rd x9 x13) x11) else (none)) else (none))
def celluloidref04_Next.l2 : Nat → List Int → ByteArray → Int → List Int → Int → Int → Bool → Int → Int → Int → Option (Int × Int × Int)
  | 0, _, _, _, _, _, _, _, _, _, _ => none
  | k + 1, x0, x1, x2, x9, x10, x11, x12, x13, x14, x15 => if 0 ≤ x13 then (if x13 < (x0.length : Int) then (if x15 < (rd x0 x13) then (celluloidref04_Next.l2 k x0 x1 x2 x9 x10 x11 x12 x13 (wrap64 (Int.tdiv x14 2)) (wrap64 (x15 + 1))) else (if x14 = x10 then (if (rd x0 x13) = x11 then (some (x13, wrap64 (x2 + x11), 0)) else (celluloidref04_Next.l1 k x0 x1 x2 x9 x10 x11 true (wrap64 (x13 + 1)))) else (celluloidref04_Next.l1 k x0 x1 x2 x9 x10 x11 x12 (wrap64 (x13 + 1))))) else (none)) else (none)
end
def celluloidref04_Next.f (k : Nat) (l0 : List Int) (a1 : ByteArray) (a2 : Int) : Option (Int × Int × Int) := if a2 < 0 then (some (0, 0, 1)) else ((celluloidref04_Codes.f k l0).bind fun t153 => (celluloidref04_Next.l0 k l0 a1 a2 t153 0 0))
theorem celluloidref04_Next.mono_l : ∀ k, (∀ y0 y1 y2 y3 y4 y5, LeO (celluloidref04_Next.l0 k y0 y1 y2 y3 y4 y5) (celluloidref04_Next.l0 (k + 1) y0 y1 y2 y3 y4 y5)) ∧ (∀ y0 y1 y2 y3 y4 y5 y6 y7, LeO (celluloidref04_Next.l1 k y0 y1 y2 y3 y4 y5 y6 y7) (celluloidref04_Next.l1 (k + 1) y0 y1 y2 y3 y4 y5 y6 y7)) ∧ (∀ y0 y1 y2 y3 y4 y5 y6 y7 y8, LeO (celluloidref04_Next.j2 k y0 y1 y2 y3 y4 y5 y6 y7 y8) (celluloidref04_Next.j2 (k + 1) y0 y1 y2 y3 y4 y5 y6 y7 y8)) ∧ (∀ y0 y1 y2 y3 y4 y5 y6 y7 y8 y9, LeO (celluloidref04_Next.l2 k y0 y1 y2 y3 y4 y5 y6 y7 y8 y9) (celluloidref04_Next.l2 (k + 1) y0 y1 y2 y3 y4 y5 y6 y7 y8 y9))
  | 0 => ⟨fun _ _ _ _ _ _ r h => by simp [celluloidref04_Next.l0] at h, fun _ _ _ _ _ _ _ _ r h => by simp [celluloidref04_Next.l1] at h, fun _ _ _ _ _ _ _ _ _ r h => by simp [celluloidref04_Next.j2] at h, fun _ _ _ _ _ _ _ _ _ _ r h => by simp [celluloidref04_Next.l2] at h⟩
  | k + 1 => by
    obtain ⟨ih0, ih1, ih2, ih3⟩ := celluloidref04_Next.mono_l k
    refine ⟨?_, ?_, ?_, ?_⟩
    · intro y0 y1 y2 y3 y4 y5
      unfold celluloidref04_Next.l0
      repeat' first
      | (with_reducible exact ih0 _ _ _ _ _ _)
      | (with_reducible exact ih1 _ _ _ _ _ _ _ _)
      | (with_reducible exact ih2 _ _ _ _ _ _ _ _ _)
      | (with_reducible exact ih3 _ _ _ _ _ _ _ _ _ _)
      | (with_reducible exact celluloidref04_Bit.mono _ _ _)
      | (with_reducible exact celluloidref04_Codes.mono _ _)
      | (with_reducible exact LeO.refl _)
      | (with_reducible exact LeO.none _)
      | (with_reducible refine LeO.ite ?_ ?_)
      | (with_reducible refine LeO.bind ?_ (fun _ => ?_))
      | exact ih0 _ _ _ _ _ _
      | exact ih1 _ _ _ _ _ _ _ _
      | exact ih2 _ _ _ _ _ _ _ _ _
      | exact ih3 _ _ _ _ _ _ _ _ _ _
      | exact celluloidref04_Bit.mono _ _ _
      | exact celluloidref04_Codes.mono _ _
      | exact LeO.none _
      | refine LeO.ite ?_ ?_
      | refine LeO.bind ?_ (fun _ => ?_)
    · intro y0 y1 y2 y3 y4 y5 y6 y7
      unfold celluloidref04_Next.l1
      repeat' first
      | (with_reducible exact ih0 _ _ _ _ _ _)
      | (with_reducible exact ih1 _ _ _ _ _ _ _ _)
      | (with_reducible exact ih2 _ _ _ _ _ _ _ _ _)
      | (with_reducible exact ih3 _ _ _ _ _ _ _ _ _ _)
      | (with_reducible exact celluloidref04_Bit.mono _ _ _)
      | (with_reducible exact celluloidref04_Codes.mono _ _)
      | (with_reducible exact LeO.refl _)
      | (with_reducible exact LeO.none _)
      | (with_reducible refine LeO.ite ?_ ?_)
      | (with_reducible refine LeO.bind ?_ (fun _ => ?_))
      | exact ih0 _ _ _ _ _ _
      | exact ih1 _ _ _ _ _ _ _ _
      | exact ih2 _ _ _ _ _ _ _ _ _
      | exact ih3 _ _ _ _ _ _ _ _ _ _
      | exact celluloidref04_Bit.mono _ _ _
      | exact celluloidref04_Codes.mono _ _
      | exact LeO.none _
      | refine LeO.ite ?_ ?_
      | refine LeO.bind ?_ (fun _ => ?_)
    · intro y0 y1 y2 y3 y4 y5 y6 y7 y8
      unfold celluloidref04_Next.j2
      repeat' first
      | (with_reducible exact ih0 _ _ _ _ _ _)
      | (with_reducible exact ih1 _ _ _ _ _ _ _ _)
      | (with_reducible exact ih2 _ _ _ _ _ _ _ _ _)
      | (with_reducible exact ih3 _ _ _ _ _ _ _ _ _ _)
      | (with_reducible exact celluloidref04_Bit.mono _ _ _)
      | (with_reducible exact celluloidref04_Codes.mono _ _)
      | (with_reducible exact LeO.refl _)
      | (with_reducible exact LeO.none _)
      | (with_reducible refine LeO.ite ?_ ?_)
      | (with_reducible refine LeO.bind ?_ (fun _ => ?_))
      | exact ih0 _ _ _ _ _ _
      | exact ih1 _ _ _ _ _ _ _ _
      | exact ih2 _ _ _ _ _ _ _ _ _
      | exact ih3 _ _ _ _ _ _ _ _ _ _
      | exact celluloidref04_Bit.mono _ _ _
      | exact celluloidref04_Codes.mono _ _
      | exact LeO.none _
      | refine LeO.ite ?_ ?_
      | refine LeO.bind ?_ (fun _ => ?_)
    · intro y0 y1 y2 y3 y4 y5 y6 y7 y8 y9
      unfold celluloidref04_Next.l2
      repeat' first
      | (with_reducible exact ih0 _ _ _ _ _ _)
      | (with_reducible exact ih1 _ _ _ _ _ _ _ _)
      | (with_reducible exact ih2 _ _ _ _ _ _ _ _ _)
      | (with_reducible exact ih3 _ _ _ _ _ _ _ _ _ _)
      | (with_reducible exact celluloidref04_Bit.mono _ _ _)
      | (with_reducible exact celluloidref04_Codes.mono _ _)
      | (with_reducible exact LeO.refl _)
      | (with_reducible exact LeO.none _)
      | (with_reducible refine LeO.ite ?_ ?_)
      | (with_reducible refine LeO.bind ?_ (fun _ => ?_))
      | exact ih0 _ _ _ _ _ _
      | exact ih1 _ _ _ _ _ _ _ _
      | exact ih2 _ _ _ _ _ _ _ _ _
      | exact ih3 _ _ _ _ _ _ _ _ _ _
      | exact celluloidref04_Bit.mono _ _ _
      | exact celluloidref04_Codes.mono _ _
      | exact LeO.none _
      | refine LeO.ite ?_ ?_
      | refine LeO.bind ?_ (fun _ => ?_)
theorem celluloidref04_Next.mono : ∀ a0 a1 a2 k, LeO (celluloidref04_Next.f k a0 a1 a2) (celluloidref04_Next.f (k + 1) a0 a1 a2) := by
  intro a0 a1 a2 k
  obtain ⟨ih0, ih1, ih2, ih3⟩ := celluloidref04_Next.mono_l k
  unfold celluloidref04_Next.f
  repeat' first
      | (with_reducible exact ih0 _ _ _ _ _ _)
      | (with_reducible exact ih1 _ _ _ _ _ _ _ _)
      | (with_reducible exact ih2 _ _ _ _ _ _ _ _ _)
      | (with_reducible exact ih3 _ _ _ _ _ _ _ _ _ _)
      | (with_reducible exact celluloidref04_Bit.mono _ _ _)
      | (with_reducible exact celluloidref04_Codes.mono _ _)
      | (with_reducible exact LeO.refl _)
      | (with_reducible exact LeO.none _)
      | (with_reducible refine LeO.ite ?_ ?_)
      | (with_reducible refine LeO.bind ?_ (fun _ => ?_))
      | exact ih0 _ _ _ _ _ _
      | exact ih1 _ _ _ _ _ _ _ _
      | exact ih2 _ _ _ _ _ _ _ _ _
      | exact ih3 _ _ _ _ _ _ _ _ _ _
      | exact celluloidref04_Bit.mono _ _ _
      | exact celluloidref04_Codes.mono _ _
      | exact LeO.none _
      | refine LeO.ite ?_ ?_
      | refine LeO.bind ?_ (fun _ => ?_)
set_option maxHeartbeats 8000000 in
set_option maxRecDepth 100000 in
theorem celluloidref04_Next.calls (k : Nat) (A0 : Option Addr) (c0 : Nat) (l0 : List Int) (a1 : ByteArray) (a2 : Int) (r1 : Int) (r2 : Int) (r3 : Int) (w : World) (hr0 : Kd.C (Kd.int .i64) w A0 l0.length l0) (hc0 : l0.length ≤ c0) (h : celluloidref04_Next.f k l0 a1 a2 = some (r1, r2, r3)) :
    Calls Try.prog 31 #[.slice A0 l0.length c0, .string a1, .int .i64 a2] w fun e w' => e = .returned (.tuple #[.int .i64 r1, .int .i64 r2, .int .i64 r3]) ∧ Below w.heap.size w w' := by
  have HR0 := Aside0.mk hr0
  have HC0 := Aside0.mk hc0
  clear hr0 hc0
  have HB := Aside0.mk (Below.refl w.heap.size w)
  have H : (if a2 < 0 then (some (0, 0, 1)) else ((celluloidref04_Codes.f k l0).bind fun t153 => (celluloidref04_Next.l0 k l0 a1 a2 t153 0 0))) = some (r1, r2, r3) := h
  clear h
  by_cases c4 : a2 < 0
  · rw [if_pos c4] at H
    have c4b0 : decide (a2 < 0) = true := decide_eq_true c4
    clear c4
    simp only [Option.some.injEq, Prod.mk.injEq] at H
    obtain ⟨rfl, rfl, rfl⟩ := H
    go_enter Try.func31, Try.ntmps31
    go_wp2
    go_ret3
    exact ⟨by first | rfl | (simp [errW_none, errW_some] <;> rfl) | (simp [*, errW_none, errW_some] <;> rfl), by repeat (first | (with_reducible first | exact HB.out | apply below_alloc | apply pw_below_drewN | apply below_drew1) | exact HB.out)⟩
  · rw [if_neg c4] at H
    have c4b0 : decide (a2 < 0) = false := decide_eq_false c4
    clear c4
    replace H := Option.bind_eq_some_iff.mp H
    obtain ⟨t153, A50, H⟩ := H
    replace H : (celluloidref04_Next.l0 k l0 a1 a2 t153 0 0) = some (r1, r2, r3) := H
    have A5 := Aside0.mk A50
    clear A50
    have H' := Aside0.mk H
    clear H
    go_enter Try.func31, Try.ntmps31
    go_wp2_with (first | ((with_reducible refine gate_callee (f := 29) rfl ?_); refine goesL_ (some 20) rfl rfl Try.func29 (by kernel_rfl) rfl #[.slice A0 l0.length c0] rfl (by (try simp only [List.map_toArray, List.map_cons, List.map_nil]); first | done | rfl | (simp only [List.length_drop, List.length_take]; rfl)) ?_; (with_reducible refine (celluloidref04_Codes.calls k _ _ l0 t153 _ ?side1 ?side2 A5.out).mono ?_); (case side1 => repeat (first | exact HR0.out | (with_reducible refine Kd.C_alloc ?_ _) | (with_reducible refine Kd.C_drewN ?_ _) | (with_reducible refine Kd.C_drew ?_))); (case side2 => exact HC0.out); rintro e w6 ⟨v154, rfl, ho0, hb⟩; refine ⟨_, rfl, ?_⟩; have n0_ := Aside0.mk (Kd.R_lower ho0 (below_size (by repeat (first | (with_reducible first | exact HB.out | apply below_alloc | apply pw_below_drewN | apply below_drew1) | exact HB.out)))); have n1_ := Aside0.mk (below_step (by repeat (first | (with_reducible first | exact HB.out | apply below_alloc | apply pw_below_drewN | apply below_drew1) | exact HB.out)) hb); clear HB; have HO155 := n0_; have HB := n1_; clear n0_ n1_; (try clear hb); (try clear hb2); (try clear hk); (try clear hi); (try clear ho0)))
    go_loopg [10, 11] k (fun kq v10 v11 w' => ∃ (x10_1 : Int) (x11_1 : Int), v10 = .int .i64 x10_1 ∧ v11 = .int .i64 x11_1 ∧ Aside0 (celluloidref04_Next.l0 kq l0 a1 a2 t153 x10_1 x11_1 = some (r1, r2, r3)) ∧ Aside0 (kq ≤ k) ∧ Aside0 (Kd.R (Kd.int .i64) 3 w' w.heap.size (fun _ => True) v154 t153) ∧ Aside0 (Below w.heap.size w w'))
    case atStart => exact ⟨(0), (0), (by first | rfl | (simp; done) | (simp [*]; done)), (by first | rfl | (simp; done) | (simp [*]; done)), H', ⟨Nat.le_refl _⟩, ⟨by (with_reducible repeat (first | apply Kd.R_alloc | apply Kd.R_drewN | apply Kd.R_drew)); exact HO155.out⟩, ⟨by repeat (first | (with_reducible first | exact HB.out | apply below_alloc | apply pw_below_drewN | apply below_drew1) | exact HB.out)⟩⟩
    case round =>
      clear H'
      try clear c2
      try clear p2
      try clear c3
      try clear c4
      try clear c4b0
      obtain ⟨x10_1, x11_1, rfl, rfl, HA, HK1, HO_9, HB⟩ := hrel
      cases gk with
      | zero => exact absurd HA.out (by simp [celluloidref04_Next.l0])
      | succ k1 =>
        have H := HA.out
        clear HA
        simp only [celluloidref04_Next.l0] at H
        by_cases c7 : x11_1 < 16
        · rw [if_pos c7] at H
          have c7b0 : decide (x11_1 < 16) = true := decide_eq_true c7
          clear c7
          have H' := Aside0.mk H
          clear H
          go_wp2
          go_loopg [12, 13] k1 (fun kq v12 v13 w' => ∃ (x12_2 : Bool) (x13_2 : Int), v12 = .bool x12_2 ∧ v13 = .int .i64 x13_2 ∧ Aside0 (celluloidref04_Next.l1 kq l0 a1 a2 t153 x10_1 x11_1 x12_2 x13_2 = some (r1, r2, r3)) ∧ Aside0 (kq ≤ k1) ∧ Aside0 (Kd.R (Kd.int .i64) 3 w' w.heap.size (fun _ => True) v154 t153) ∧ Aside0 (Below w.heap.size w w'))
          case atStart => exact ⟨(false), (0), (by first | rfl | (simp; done) | (simp [*]; done)), (by first | rfl | (simp; done) | (simp [*]; done)), H', ⟨Nat.le_refl _⟩, ⟨by (with_reducible repeat (first | apply Kd.R_alloc | apply Kd.R_drewN | apply Kd.R_drew)); exact HO_9.out⟩, ⟨by repeat (first | (with_reducible first | exact HB.out | apply below_alloc | apply pw_below_drewN | apply below_drew1) | exact HB.out)⟩⟩
          case round =>
            clear H'
            try clear c2
            try clear p2
            try clear c3
            try clear c4
            try clear c4b0
            try clear c7
            try clear c7b0
            try clear p2
            obtain ⟨x12_2, x13_2, rfl, rfl, HA, HK2, HO_9, HB⟩ := hrel
            cases gk with
            | zero => exact absurd HA.out (by simp [celluloidref04_Next.l1])
            | succ k2 =>
              have H := HA.out
              clear HA
              simp only [celluloidref04_Next.l1] at H
              by_cases c8 : x13_2 < (l0.length : Int)
              · rw [if_pos c8] at H
                have c8b0 : decide (x13_2 < (l0.length : Int)) = true := decide_eq_true c8
                clear c8
                have HC9 := Aside0.mk H
                clear H
                go_upto_region 12 with (fail)
                go_cut [43] (fun v43 wc => ∃ (kq : Nat) (x43_8 : Bool), v43 = .bool x43_8 ∧ Aside0 (celluloidref04_Next.j2 kq l0 a1 a2 t153 x10_1 x11_1 x12_2 x13_2 x43_8 = some (r1, r2, r3)) ∧ Aside0 (kq ≤ k2) ∧ Aside0 (Kd.R (Kd.int .i64) 3 wc w.heap.size (fun _ => True) v154 t153) ∧ Aside0 (Below w.heap.size w wc))
                case first =>
                  have H := HC9.out
                  clear HC9
                  by_cases c10 : 0 ≤ x13_2
                  · rw [if_pos c10] at H
                    have c10b0 : decide (0 ≤ x13_2) = true := decide_eq_true c10
                    clear c10
                    (first | rw [c10b0] | (simp only [i64_w, i32_w]; rw [c10b0]) | skip)
                    by_cases c11 : (rd l0 x13_2) < x11_1
                    · rw [if_pos c11] at H
                      have c11b0 : decide ((rd l0 x13_2) < x11_1) = true := decide_eq_true c11
                      clear c11
                      have H' := Aside0.mk H
                      clear H
                      have p156 : 0 ≤ (x13_2 : Int) := of_decide_eq_true (by first | (with_reducible assumption) | assumption)
                      have q156 : x13_2 < (l0.length : Int) := of_decide_eq_true (by first | (with_reducible assumption) | assumption)
                      obtain ⟨ad156, e156, hx156_0⟩ := Kd.at_int HR0.out x13_2 p156 q156
                      cases e156
                      replace hx156_0 := (HB.out.cell (World.block_lt_of_cell? w _ hx156_0)).trans hx156_0
                      replace p156 := eq_true p156
                      replace q156 := eq_true q156
                      go_wp2
                      go_meet
                      case rel => exact ⟨_, (true), (by first | rfl | (simp; done) | (simp [*]; done)), H', ⟨by have := HK1.out; have := HK2.out; first | omega | exact Nat.le_refl _⟩, ⟨by (with_reducible repeat (first | apply Kd.R_alloc | apply Kd.R_drewN | apply Kd.R_drew)); exact HO_9.out⟩, ⟨by repeat (first | (with_reducible first | exact HB.out | apply below_alloc | apply pw_below_drewN | apply below_drew1) | exact HB.out)⟩⟩
                    · rw [if_neg c11] at H
                      have c11b0 : decide ((rd l0 x13_2) < x11_1) = false := decide_eq_false c11
                      clear c11
                      have H' := Aside0.mk H
                      clear H
                      have p156 : 0 ≤ (x13_2 : Int) := of_decide_eq_true (by first | (with_reducible assumption) | assumption)
                      have q156 : x13_2 < (l0.length : Int) := of_decide_eq_true (by first | (with_reducible assumption) | assumption)
                      obtain ⟨ad156, e156, hx156_0⟩ := Kd.at_int HR0.out x13_2 p156 q156
                      cases e156
                      replace hx156_0 := (HB.out.cell (World.block_lt_of_cell? w _ hx156_0)).trans hx156_0
                      replace p156 := eq_true p156
                      replace q156 := eq_true q156
                      have p157 : 0 ≤ (x13_2 : Int) := of_decide_eq_true (by first | (with_reducible assumption) | assumption)
                      have q157 : x13_2 < (l0.length : Int) := of_decide_eq_true (by first | (with_reducible assumption) | assumption)
                      obtain ⟨ad157, e157, hx157_0⟩ := Kd.at_int HR0.out x13_2 p157 q157
                      obtain rfl : ad156 = ad157 := (by injection e157)
                      replace hx157_0 := (HB.out.cell (World.block_lt_of_cell? w _ hx157_0)).trans hx157_0
                      replace p157 := eq_true p157
                      replace q157 := eq_true q157
                      go_wp2
                      go_meet
                      case rel => exact ⟨_, (((rd l0 x13_2) == 0)), (by first | rfl | (simp; done) | (simp [*]; done)), H', ⟨by have := HK1.out; have := HK2.out; first | omega | exact Nat.le_refl _⟩, ⟨by (with_reducible repeat (first | apply Kd.R_alloc | apply Kd.R_drewN | apply Kd.R_drew)); exact HO_9.out⟩, ⟨by repeat (first | (with_reducible first | exact HB.out | apply below_alloc | apply pw_below_drewN | apply below_drew1) | exact HB.out)⟩⟩
                  · rw [if_neg c10] at H
                    exact absurd H (by simp)
                case rest =>
                  clear HC9
                  try clear c1
                  try clear p1
                  try clear q1
                  try clear hx1
                  try clear c2
                  try clear p2
                  try clear c3
                  try clear c4
                  try clear c4b0
                  try clear c7
                  try clear c7b0
                  try clear c8
                  try clear c8b0
                  try clear c10
                  try clear c10b0
                  try clear c11
                  try clear c11b0
                  try clear hx156_0
                  try clear hx157_0
                  try clear p156
                  try clear p157
                  try clear p2
                  try clear q156
                  try clear q157
                  obtain ⟨kq, x43_8, rfl, HA, HJ8, HO_9, HB⟩ := hcut
                  cases kq with
                  | zero => exact absurd HA.out (by simp [celluloidref04_Next.j2])
                  | succ kj8 =>
                    have H := HA.out
                    clear HA
                    simp only [celluloidref04_Next.j2] at H
                    by_cases c12 : x43_8 = true
                    · subst c12
                      have H1 : (celluloidref04_Next.l1 kj8 l0 a1 a2 t153 x10_1 x11_1 x12_2 (wrap64 (x13_2 + 1))) = some (r1, r2, r3) := by rw [if_pos rfl] at H; exact H
                      clear H
                      have H := H1
                      clear H1
                      have H' := Aside0.mk H
                      clear H
                      go_wp2
                      go_roundg kj8
                      case measure => have := HK1.out; have := HK2.out; have := HJ8.out; omega
                      case rel => exact ⟨(x12_2), (wrap64 (x13_2 + 1)), (by first | rfl | (simp; done) | (simp [*]; done)), (by first | rfl | (simp; done) | (simp [*]; done)), H', ⟨by have := HK1.out; have := HK2.out; have := HJ8.out; omega⟩, ⟨by (with_reducible repeat (first | apply Kd.R_alloc | apply Kd.R_drewN | apply Kd.R_drew)); exact HO_9.out⟩, ⟨by repeat (first | (with_reducible first | exact HB.out | apply below_alloc | apply pw_below_drewN | apply below_drew1) | exact HB.out)⟩⟩
                    · replace c12 := Bool.eq_false_iff.mpr c12
                      subst c12
                      have H1 : (if 0 ≤ x13_2 then (if x13_2 < (t153.length : Int) then (celluloidref04_Next.l2 kj8 l0 a1 a2 t153 x10_1 x11_1 x12_2 x13_2 (rd t153 x13_2) x11_1) else (none)) else (none)) = some (r1, r2, r3) := by rw [if_neg (show ¬ (false = true) by decide)] at H; exact H
                      clear H
                      have H := H1
                      clear H1
                      by_cases c13 : 0 ≤ x13_2
                      · rw [if_pos c13] at H
                        have c13b0 : decide (0 ≤ x13_2) = true := decide_eq_true c13
                        clear c13
                        by_cases c14 : x13_2 < (t153.length : Int)
                        · rw [if_pos c14] at H
                          have c14b0 : decide (x13_2 < (t153.length : Int)) = true := decide_eq_true c14
                          clear c14
                          have H' := Aside0.mk H
                          clear H
                          obtain ⟨Ao15, co15, eo15⟩ := Kd.R_slice HO_9.out
                          subst eo15
                          have p158 : 0 ≤ (x13_2 : Int) := of_decide_eq_true (by first | (with_reducible assumption) | assumption)
                          have q158 : x13_2 < (t153.length : Int) := of_decide_eq_true (by first | (with_reducible assumption) | assumption)
                          obtain ⟨ad158, e158, hx158_0⟩ := Kd.at_int (Kd.R_reads' HO_9.out).2.2 x13_2 p158 q158
                          cases e158
                          replace p158 := eq_true p158
                          replace q158 := eq_true q158
                          go_wp2
                          go_loopg [14, 15] kj8 (fun kq v14 v15 w' => ∃ (x14_4 : Int) (x15_4 : Int), v14 = .int .i64 x14_4 ∧ v15 = .int .i64 x15_4 ∧ Aside0 (celluloidref04_Next.l2 kq l0 a1 a2 t153 x10_1 x11_1 x12_2 x13_2 x14_4 x15_4 = some (r1, r2, r3)) ∧ Aside0 (kq ≤ kj8) ∧ Aside0 (Kd.R (Kd.int .i64) 3 w' w.heap.size (fun _ => True) (.slice (some ad158) t153.length co15) t153) ∧ Aside0 (Below w.heap.size w w'))
                          case atStart => exact ⟨(rd t153 x13_2), (x11_1), (by first | rfl | (simp; done) | (simp [*]; done)), (by first | rfl | (simp; done) | (simp [*]; done)), H', ⟨Nat.le_refl _⟩, ⟨by (with_reducible repeat (first | apply Kd.R_alloc | apply Kd.R_drewN | apply Kd.R_drew)); exact HO_9.out⟩, ⟨by repeat (first | (with_reducible first | exact HB.out | apply below_alloc | apply pw_below_drewN | apply below_drew1) | exact HB.out)⟩⟩
                          case round =>
                            clear H'
                            try clear c1
                            try clear p1
                            try clear q1
                            try clear hx1
                            try clear c2
                            try clear p2
                            try clear c3
                            try clear c4
                            try clear c4b0
                            try clear p6
                            try clear c7
                            try clear c7b0
                            try clear c8
                            try clear c8b0
                            try clear c10
                            try clear c10b0
                            try clear c11
                            try clear c11b0
                            try clear c12
                            try clear c13
                            try clear c13b0
                            try clear c14
                            try clear c14b0
                            try clear p15
                            try clear q15
                            try clear hx15
                            try clear hx156_0
                            try clear hx157_0
                            try clear hx158_0
                            try clear p1
                            try clear p156
                            try clear p157
                            try clear p158
                            try clear p2
                            try clear q1
                            try clear q156
                            try clear q157
                            try clear q158
                            obtain ⟨x14_4, x15_4, rfl, rfl, HA, HK4, HO_9, HB⟩ := hrel
                            cases gk with
                            | zero => exact absurd HA.out (by simp [celluloidref04_Next.l2])
                            | succ k4 =>
                              have H := HA.out
                              clear HA
                              simp only [celluloidref04_Next.l2] at H
                              by_cases c16 : 0 ≤ x13_2
                              · rw [if_pos c16] at H
                                have c16b0 : decide (0 ≤ x13_2) = true := decide_eq_true c16
                                clear c16
                                by_cases c17 : x13_2 < (l0.length : Int)
                                · rw [if_pos c17] at H
                                  have c17b0 : decide (x13_2 < (l0.length : Int)) = true := decide_eq_true c17
                                  clear c17
                                  by_cases c18 : x15_4 < (rd l0 x13_2)
                                  · rw [if_pos c18] at H
                                    have c18b0 : decide (x15_4 < (rd l0 x13_2)) = true := decide_eq_true c18
                                    clear c18
                                    have H' := Aside0.mk H
                                    clear H
                                    have p159 : 0 ≤ (x13_2 : Int) := of_decide_eq_true (by first | (with_reducible assumption) | assumption)
                                    have q159 : x13_2 < (l0.length : Int) := of_decide_eq_true (by first | (with_reducible assumption) | assumption)
                                    obtain ⟨ad159, e159, hx159_0⟩ := Kd.at_int HR0.out x13_2 p159 q159
                                    cases e159
                                    replace hx159_0 := (HB.out.cell (World.block_lt_of_cell? w _ hx159_0)).trans hx159_0
                                    replace p159 := eq_true p159
                                    replace q159 := eq_true q159
                                    go_wp2
                                    go_roundg k4
                                    case measure => have := HK1.out; have := HK2.out; have := HJ8.out; have := HK4.out; omega
                                    case rel => exact ⟨(wrap64 (Int.tdiv x14_4 2)), (wrap64 (x15_4 + 1)), (by first | rfl | (simp; done) | (simp [*]; done)), (by first | rfl | (simp; done) | (simp [*]; done)), H', ⟨by have := HK1.out; have := HK2.out; have := HJ8.out; have := HK4.out; omega⟩, ⟨by (with_reducible repeat (first | apply Kd.R_alloc | apply Kd.R_drewN | apply Kd.R_drew)); exact HO_9.out⟩, ⟨by repeat (first | (with_reducible first | exact HB.out | apply below_alloc | apply pw_below_drewN | apply below_drew1) | exact HB.out)⟩⟩
                                  · rw [if_neg c18] at H
                                    have c18b0 : decide (x15_4 < (rd l0 x13_2)) = false := decide_eq_false c18
                                    clear c18
                                    by_cases c19 : x14_4 = x10_1
                                    · rw [if_pos c19] at H
                                      have c19b0 : (x14_4 == x10_1) = true := beq_iff_eq.mpr c19
                                      have c19b1 : (x14_4 != x10_1) = false := bne_eq_false_iff_eq.mpr c19
                                      clear c19
                                      by_cases c20 : (rd l0 x13_2) = x11_1
                                      · rw [if_pos c20] at H
                                        have c20b0 : ((rd l0 x13_2) == x11_1) = true := beq_iff_eq.mpr c20
                                        have c20b1 : ((rd l0 x13_2) != x11_1) = false := bne_eq_false_iff_eq.mpr c20
                                        clear c20
                                        simp only [Option.some.injEq, Prod.mk.injEq] at H
                                        obtain ⟨rfl, rfl, rfl⟩ := H
                                        have p159 : 0 ≤ (x13_2 : Int) := of_decide_eq_true (by first | (with_reducible assumption) | assumption)
                                        have q159 : x13_2 < (l0.length : Int) := of_decide_eq_true (by first | (with_reducible assumption) | assumption)
                                        obtain ⟨ad159, e159, hx159_0⟩ := Kd.at_int HR0.out x13_2 p159 q159
                                        cases e159
                                        replace hx159_0 := (HB.out.cell (World.block_lt_of_cell? w _ hx159_0)).trans hx159_0
                                        replace p159 := eq_true p159
                                        replace q159 := eq_true q159
                                        have p160 : 0 ≤ (x13_2 : Int) := of_decide_eq_true (by first | (with_reducible assumption) | assumption)
                                        have q160 : x13_2 < (l0.length : Int) := of_decide_eq_true (by first | (with_reducible assumption) | assumption)
                                        obtain ⟨ad160, e160, hx160_0⟩ := Kd.at_int HR0.out x13_2 p160 q160
                                        obtain rfl : ad159 = ad160 := (by injection e160)
                                        replace hx160_0 := (HB.out.cell (World.block_lt_of_cell? w _ hx160_0)).trans hx160_0
                                        replace p160 := eq_true p160
                                        replace q160 := eq_true q160
                                        go_wp2
                                        go_ret3
                                        exact ⟨by first | rfl | (simp [errW_none, errW_some] <;> rfl) | (simp [*, errW_none, errW_some] <;> rfl), by repeat (first | (with_reducible first | exact HB.out | apply below_alloc | apply pw_below_drewN | apply below_drew1) | exact HB.out)⟩
                                      · rw [if_neg c20] at H
                                        have c20b0 : ((rd l0 x13_2) == x11_1) = false := beq_eq_false_iff_ne.mpr c20
                                        have c20b1 : ((rd l0 x13_2) != x11_1) = true := bne_iff_ne.mpr c20
                                        have H' := Aside0.mk H
                                        clear H
                                        have p159 : 0 ≤ (x13_2 : Int) := of_decide_eq_true (by first | (with_reducible assumption) | assumption)
                                        have q159 : x13_2 < (l0.length : Int) := of_decide_eq_true (by first | (with_reducible assumption) | assumption)
                                        obtain ⟨ad159, e159, hx159_0⟩ := Kd.at_int HR0.out x13_2 p159 q159
                                        cases e159
                                        replace hx159_0 := (HB.out.cell (World.block_lt_of_cell? w _ hx159_0)).trans hx159_0
                                        replace p159 := eq_true p159
                                        replace q159 := eq_true q159
                                        have p160 : 0 ≤ (x13_2 : Int) := of_decide_eq_true (by first | (with_reducible assumption) | assumption)
                                        have q160 : x13_2 < (l0.length : Int) := of_decide_eq_true (by first | (with_reducible assumption) | assumption)
                                        obtain ⟨ad160, e160, hx160_0⟩ := Kd.at_int HR0.out x13_2 p160 q160
                                        obtain rfl : ad159 = ad160 := (by injection e160)
                                        replace hx160_0 := (HB.out.cell (World.block_lt_of_cell? w _ hx160_0)).trans hx160_0
                                        replace p160 := eq_true p160
                                        replace q160 := eq_true q160
                                        go_wp2
                                        go_roundg k4
                                        case measure => have := HK1.out; have := HK2.out; have := HJ8.out; have := HK4.out; omega
                                        case rel => exact ⟨(true), (wrap64 (x13_2 + 1)), (by first | rfl | (simp; done) | (simp [*]; done)), (by first | rfl | (simp; done) | (simp [*]; done)), H', ⟨by have := HK1.out; have := HK2.out; have := HJ8.out; have := HK4.out; omega⟩, ⟨by (with_reducible repeat (first | apply Kd.R_alloc | apply Kd.R_drewN | apply Kd.R_drew)); exact HO_9.out⟩, ⟨by repeat (first | (with_reducible first | exact HB.out | apply below_alloc | apply pw_below_drewN | apply below_drew1) | exact HB.out)⟩⟩
                                    · rw [if_neg c19] at H
                                      have c19b0 : (x14_4 == x10_1) = false := beq_eq_false_iff_ne.mpr c19
                                      have c19b1 : (x14_4 != x10_1) = true := bne_iff_ne.mpr c19
                                      have H' := Aside0.mk H
                                      clear H
                                      have p159 : 0 ≤ (x13_2 : Int) := of_decide_eq_true (by first | (with_reducible assumption) | assumption)
                                      have q159 : x13_2 < (l0.length : Int) := of_decide_eq_true (by first | (with_reducible assumption) | assumption)
                                      obtain ⟨ad159, e159, hx159_0⟩ := Kd.at_int HR0.out x13_2 p159 q159
                                      cases e159
                                      replace hx159_0 := (HB.out.cell (World.block_lt_of_cell? w _ hx159_0)).trans hx159_0
                                      replace p159 := eq_true p159
                                      replace q159 := eq_true q159
                                      go_wp2
                                      go_roundg k4
                                      case measure => have := HK1.out; have := HK2.out; have := HJ8.out; have := HK4.out; omega
                                      case rel => exact ⟨(x12_2), (wrap64 (x13_2 + 1)), (by first | rfl | (simp; done) | (simp [*]; done)), (by first | rfl | (simp; done) | (simp [*]; done)), H', ⟨by have := HK1.out; have := HK2.out; have := HJ8.out; have := HK4.out; omega⟩, ⟨by (with_reducible repeat (first | apply Kd.R_alloc | apply Kd.R_drewN | apply Kd.R_drew)); exact HO_9.out⟩, ⟨by repeat (first | (with_reducible first | exact HB.out | apply below_alloc | apply pw_below_drewN | apply below_drew1) | exact HB.out)⟩⟩
                                · rw [if_neg c17] at H
                                  exact absurd H (by simp)
                              · rw [if_neg c16] at H
                                exact absurd H (by simp)
                        · rw [if_neg c14] at H
                          exact absurd H (by simp)
                      · rw [if_neg c13] at H
                        exact absurd H (by simp)
              · rw [if_neg c8] at H
                have c8b0 : decide (x13_2 < (l0.length : Int)) = false := decide_eq_false c8
                clear c8
                by_cases c21 : x12_2 = true
                · subst c21
                  have H1 : ((celluloidref04_Bit.f k2 a1 (wrap64 (a2 + x11_1))).bind fun t161 => (if t161 < 0 then (some (0, 0, 2)) else (celluloidref04_Next.l0 k2 l0 a1 a2 t153 (wrap64 ((wrap64 (2 * x10_1)) + t161)) (wrap64 (x11_1 + 1))))) = some (r1, r2, r3) := by rw [if_pos rfl] at H; exact H
                  clear H
                  have H := H1
                  clear H1
                  replace H := Option.bind_eq_some_iff.mp H
                  obtain ⟨t161, A220, H⟩ := H
                  replace H : (if t161 < 0 then (some (0, 0, 2)) else (celluloidref04_Next.l0 k2 l0 a1 a2 t153 (wrap64 ((wrap64 (2 * x10_1)) + t161)) (wrap64 (x11_1 + 1)))) = some (r1, r2, r3) := H
                  have A22 := Aside0.mk A220
                  clear A220
                  by_cases c23 : t161 < 0
                  · rw [if_pos c23] at H
                    have c23b0 : decide (t161 < 0) = true := decide_eq_true c23
                    clear c23
                    simp only [Option.some.injEq, Prod.mk.injEq] at H
                    obtain ⟨rfl, rfl, rfl⟩ := H
                    go_wp2_with (first | ((with_reducible refine gate_callee (f := 35) rfl ?_); refine goesL_ (some 78) rfl rfl Try.func35 (by kernel_rfl) rfl #[.string a1, .int .i64 (wrap64 (a2 + x11_1))] rfl (by (try simp only [List.map_toArray, List.map_cons, List.map_nil]); first | done | rfl | (simp only [List.length_drop, List.length_take]; rfl)) ?_; (with_reducible refine (celluloidref04_Bit.calls k2 a1 (wrap64 (a2 + x11_1)) t161 _ A22.out).mono ?_); rintro e w' ⟨rfl, ⟨nd, rfl⟩⟩; refine ⟨_, rfl, ?_⟩))
                    go_ret3
                    exact ⟨by first | rfl | (simp [errW_none, errW_some] <;> rfl) | (simp [*, errW_none, errW_some] <;> rfl), by repeat (first | (with_reducible first | exact HB.out | apply below_alloc | apply pw_below_drewN | apply below_drew1) | exact HB.out)⟩
                  · rw [if_neg c23] at H
                    have c23b0 : decide (t161 < 0) = false := decide_eq_false c23
                    clear c23
                    have H' := Aside0.mk H
                    clear H
                    go_wp2_with (first | ((with_reducible refine gate_callee (f := 35) rfl ?_); refine goesL_ (some 78) rfl rfl Try.func35 (by kernel_rfl) rfl #[.string a1, .int .i64 (wrap64 (a2 + x11_1))] rfl (by (try simp only [List.map_toArray, List.map_cons, List.map_nil]); first | done | rfl | (simp only [List.length_drop, List.length_take]; rfl)) ?_; (with_reducible refine (celluloidref04_Bit.calls k2 a1 (wrap64 (a2 + x11_1)) t161 _ A22.out).mono ?_); rintro e w' ⟨rfl, ⟨nd, rfl⟩⟩; refine ⟨_, rfl, ?_⟩))
                    go_roundg k2
                    case measure => have := HK1.out; have := HK2.out; omega
                    case rel => exact ⟨(wrap64 ((wrap64 (2 * x10_1)) + t161)), (wrap64 (x11_1 + 1)), (by first | rfl | (simp; done) | (simp [*]; done)), (by first | rfl | (simp; done) | (simp [*]; done)), H', ⟨by have := HK1.out; have := HK2.out; omega⟩, ⟨by (with_reducible repeat (first | apply Kd.R_alloc | apply Kd.R_drewN | apply Kd.R_drew)); exact HO_9.out⟩, ⟨by repeat (first | (with_reducible first | exact HB.out | apply below_alloc | apply pw_below_drewN | apply below_drew1) | exact HB.out)⟩⟩
                · replace c21 := Bool.eq_false_iff.mpr c21
                  subst c21
                  have H1 : (some (0, 0, 4)) = some (r1, r2, r3) := by rw [if_neg (show ¬ (false = true) by decide)] at H; exact H
                  clear H
                  have H := H1
                  clear H1
                  simp only [Option.some.injEq, Prod.mk.injEq] at H
                  obtain ⟨rfl, rfl, rfl⟩ := H
                  go_wp2
                  go_ret3
                  exact ⟨by first | rfl | (simp [errW_none, errW_some] <;> rfl) | (simp [*, errW_none, errW_some] <;> rfl), by repeat (first | (with_reducible first | exact HB.out | apply below_alloc | apply pw_below_drewN | apply below_drew1) | exact HB.out)⟩
        · rw [if_neg c7] at H
          have c7b0 : decide (x11_1 < 16) = false := decide_eq_false c7
          clear c7
          simp only [Option.some.injEq, Prod.mk.injEq] at H
          obtain ⟨rfl, rfl, rfl⟩ := H
          go_wp2
          go_ret3
          exact ⟨by first | rfl | (simp [errW_none, errW_some] <;> rfl) | (simp [*, errW_none, errW_some] <;> rfl), by repeat (first | (with_reducible first | exact HB.out | apply below_alloc | apply pw_below_drewN | apply below_drew1) | exact HB.out)⟩

/-! ### celluloidlaw04_HuffReads: function 4 -/
def celluloidlaw04_HuffReads.j0 : Nat → List Int → ByteArray → Int → Bool → Option (Bool)
  | 0, _, _, _, _ => none
  | k + 1, x0, x1, x2, x22 => if x22 = true then ((celluloidlaw04_awake.f).bind fun t162 => (some t162)) else ((huff_New.f x0).bind fun bt163 => (if bt163.2.2.2.2.2.2.2.2.2.2.2.2.2.2.2.2.2 = 0 then ((huff_Next.f bt163.1 bt163.2.1 bt163.2.2.1 bt163.2.2.2.1 bt163.2.2.2.2.1 bt163.2.2.2.2.2.1 bt163.2.2.2.2.2.2.1 bt163.2.2.2.2.2.2.2.1 bt163.2.2.2.2.2.2.2.2.1 bt163.2.2.2.2.2.2.2.2.2.1 bt163.2.2.2.2.2.2.2.2.2.2.1 bt163.2.2.2.2.2.2.2.2.2.2.2.1 bt163.2.2.2.2.2.2.2.2.2.2.2.2.1 bt163.2.2.2.2.2.2.2.2.2.2.2.2.2.1 bt163.2.2.2.2.2.2.2.2.2.2.2.2.2.2.1 bt163.2.2.2.2.2.2.2.2.2.2.2.2.2.2.2.1 bt163.2.2.2.2.2.2.2.2.2.2.2.2.2.2.2.2.1 x1 x2).bind fun bt184 => ((celluloidref04_Next.f k x0 x1 x2).bind fun bt187 => (if bt184.1 = bt187.1 then (if bt184.2.1 = bt187.2.1 then (if bt184.2.2 = bt187.2.2 then ((celluloidlaw04_awake.f).bind fun t190 => (some t190)) else (some false)) else (some false)) else (some false)))) else ((celluloidref04_Error.f k x0).bind fun t191 => (if t191 = bt163.2.2.2.2.2.2.2.2.2.2.2.2.2.2.2.2.2 then ((celluloidlaw04_awake.f).bind fun t192 => (some t192)) else (some false)))))
def celluloidlaw04_HuffReads.f (k : Nat) (l0 : List Int) (a1 : ByteArray) (a2 : Int) : Option (Bool) := if (l0.length : Int) > 400 then (celluloidlaw04_HuffReads.j0 k l0 a1 a2 true) else (celluloidlaw04_HuffReads.j0 k l0 a1 a2 (decide ((a1.size : Int) > 1024)))
theorem celluloidlaw04_HuffReads.mono_l : ∀ k, (∀ y0 y1 y2 y3, LeO (celluloidlaw04_HuffReads.j0 k y0 y1 y2 y3) (celluloidlaw04_HuffReads.j0 (k + 1) y0 y1 y2 y3))
  | 0 => fun _ _ _ _ r h => by simp [celluloidlaw04_HuffReads.j0] at h
  | k + 1 => by
    have ih0 := celluloidlaw04_HuffReads.mono_l k
    · intro y0 y1 y2 y3
      unfold celluloidlaw04_HuffReads.j0
      repeat' first
      | (with_reducible exact ih0 _ _ _ _)
      | (with_reducible exact celluloidref04_Error.mono _ _)
      | (with_reducible exact celluloidref04_Next.mono _ _ _ _)
      | (with_reducible exact LeO.refl _)
      | (with_reducible exact LeO.none _)
      | (with_reducible refine LeO.ite ?_ ?_)
      | (with_reducible refine LeO.bind ?_ (fun _ => ?_))
      | exact ih0 _ _ _ _
      | exact celluloidref04_Error.mono _ _
      | exact celluloidref04_Next.mono _ _ _ _
      | exact LeO.none _
      | refine LeO.ite ?_ ?_
      | refine LeO.bind ?_ (fun _ => ?_)
theorem celluloidlaw04_HuffReads.mono : ∀ a0 a1 a2 k, LeO (celluloidlaw04_HuffReads.f k a0 a1 a2) (celluloidlaw04_HuffReads.f (k + 1) a0 a1 a2) := by
  intro a0 a1 a2 k
  have ih0 := celluloidlaw04_HuffReads.mono_l k
  unfold celluloidlaw04_HuffReads.f
  repeat' first
      | (with_reducible exact ih0 _ _ _ _)
      | (with_reducible exact celluloidref04_Error.mono _ _)
      | (with_reducible exact celluloidref04_Next.mono _ _ _ _)
      | (with_reducible exact LeO.refl _)
      | (with_reducible exact LeO.none _)
      | (with_reducible refine LeO.ite ?_ ?_)
      | (with_reducible refine LeO.bind ?_ (fun _ => ?_))
      | exact ih0 _ _ _ _
      | exact celluloidref04_Error.mono _ _
      | exact celluloidref04_Next.mono _ _ _ _
      | exact LeO.none _
      | refine LeO.ite ?_ ?_
      | refine LeO.bind ?_ (fun _ => ?_)
set_option maxHeartbeats 8000000 in
set_option maxRecDepth 100000 in
theorem celluloidlaw04_HuffReads.calls (k : Nat) (A0 : Option Addr) (c0 : Nat) (l0 : List Int) (a1 : ByteArray) (a2 : Int) (r : Bool) (w : World) (hr0 : Kd.C (Kd.int .i64) w A0 l0.length l0) (hc0 : l0.length ≤ c0) (h : celluloidlaw04_HuffReads.f k l0 a1 a2 = some r) (hr_ : Aside0 (r = true)) :
    Calls Try.prog 4 #[.slice A0 l0.length c0, .string a1, .int .i64 a2] w fun e w' => e = .returned (.bool r) ∧ Below w.heap.size w w' := by
  have hu26 := Try.underlying26
  have HR0 := Aside0.mk hr0
  have HC0 := Aside0.mk hc0
  clear hr0 hc0
  have HB := Aside0.mk (Below.refl w.heap.size w)
  have H : (if (l0.length : Int) > 400 then (celluloidlaw04_HuffReads.j0 k l0 a1 a2 true) else (celluloidlaw04_HuffReads.j0 k l0 a1 a2 (decide ((a1.size : Int) > 1024)))) = some r := h
  clear h
  have HC4 := Aside0.mk H
  clear H
  as_aux_lemma =>
    go_enter Try.func4, Try.ntmps4
    go_upto_region 1 with (fail)
    go_cut [22] (fun v22 wc => ∃ (kq : Nat) (x22_3 : Bool), v22 = .bool x22_3 ∧ Aside0 (celluloidlaw04_HuffReads.j0 kq l0 a1 a2 x22_3 = some r) ∧ Aside0 (kq ≤ k) ∧ Aside0 (Below w.heap.size w wc))
    case first =>
      have H := HC4.out
      clear HC4
      by_cases c5 : (l0.length : Int) > 400
      · rw [if_pos c5] at H
        have c5b0 : decide (400 < (l0.length : Int)) = true := decide_eq_true c5
        have c5b1 : decide (400 < l0.length) = true := decide_eq_true (by omega)
        clear c5
        (first | rw [c5b0] | (simp only [i64_w, i32_w]; rw [c5b0]) | skip)
        have H' := Aside0.mk H
        clear H
        go_wp2_with ((with_reducible refine gate_load (t := 26) rfl ?_); refine wpList_load_row rfl 26 _ rfl _ rfl 26 ?lcs (0, 0) _ ?lb Try.underlying26 rfl ?li ?_; (case lb => (with_reducible repeat (first | refine blk_drewN ?_ _ | refine blk_drew ?_ | refine blk_alloc ?_ _)); exact Aside0.out (by assumption)); (case li => exact info26))
        go_meet
        case rel => exact ⟨_, (true), (by first | rfl | (simp; done) | (simp [*]; done)), H', ⟨by first | omega | exact Nat.le_refl _⟩, ⟨by repeat (first | (with_reducible first | exact HB.out | apply below_alloc | apply pw_below_drewN | apply below_drew1) | exact HB.out)⟩⟩
      · rw [if_neg c5] at H
        have c5b0 : decide (400 < (l0.length : Int)) = false := decide_eq_false c5
        have c5b1 : decide (400 < l0.length) = false := decide_eq_false (by omega)
        clear c5
        (first | rw [c5b0] | (simp only [i64_w, i32_w]; rw [c5b0]) | skip)
        have H' := Aside0.mk H
        clear H
        go_wp2_with ((with_reducible refine gate_load (t := 26) rfl ?_); refine wpList_load_row rfl 26 _ rfl _ rfl 26 ?lcs (0, 0) _ ?lb Try.underlying26 rfl ?li ?_; (case lb => (with_reducible repeat (first | refine blk_drewN ?_ _ | refine blk_drew ?_ | refine blk_alloc ?_ _)); exact Aside0.out (by assumption)); (case li => exact info26))
        go_meet
        case rel => exact ⟨_, (decide ((a1.size : Int) > 1024)), (by first | rfl | (simp; done) | (simp [*]; done)), H', ⟨by first | omega | exact Nat.le_refl _⟩, ⟨by repeat (first | (with_reducible first | exact HB.out | apply below_alloc | apply pw_below_drewN | apply below_drew1) | exact HB.out)⟩⟩
    case rest =>
      clear HC4
      try clear p2
      try clear c4
      try clear c5
      try clear c5b0
      try clear c5b1
      obtain ⟨kq, x22_3, rfl, HA, HJ3, HB⟩ := hcut
      cases kq with
      | zero => exact absurd HA.out (by simp [celluloidlaw04_HuffReads.j0])
      | succ kj3 =>
        have H := HA.out
        clear HA
        simp only [celluloidlaw04_HuffReads.j0] at H
        by_cases c6 : x22_3 = true
        · subst c6
          have H1 : ((celluloidlaw04_awake.f).bind fun t162 => (some t162)) = some r := by rw [if_pos rfl] at H; exact H
          clear H
          have H := H1
          clear H1
          replace H := Option.bind_eq_some_iff.mp H
          obtain ⟨t162, A70, H⟩ := H
          replace H : (some t162) = some r := H
          have A7 := Aside0.mk A70
          clear A70
          first
          | exact absurd (Option.some.inj H) (by rw [hr_.out]; decide)
          | obtain rfl := Option.some.inj H
            go_wp2_with (first | ((with_reducible refine gate_load (t := 26) rfl ?_); refine wpList_load_row rfl 26 _ rfl _ rfl 26 ?lcs (0, 0) _ ?lb Try.underlying26 rfl ?li ?_; (case lb => (with_reducible repeat (first | refine blk_drewN ?_ _ | refine blk_drew ?_ | refine blk_alloc ?_ _)); exact Aside0.out (by assumption)); (case li => exact info26)) | ((with_reducible refine gate_callee (f := 25) rfl ?_); refine goesL_ (some 23) rfl rfl Try.func25 (by kernel_rfl) rfl #[] rfl (by (try simp only [List.map_toArray, List.map_cons, List.map_nil]); first | done | rfl | (simp only [List.length_drop, List.length_take]; rfl)) ?_; (with_reducible refine (celluloidlaw04_awake.calls  t162 _ A7.out).mono ?_); rintro e w8 ⟨rfl, hb⟩; refine ⟨_, rfl, ?_⟩; have n0_ := Aside0.mk (below_step (by repeat (first | (with_reducible first | exact HB.out | apply below_alloc | apply pw_below_drewN | apply below_drew1) | exact HB.out)) hb); clear HB; have HB := n0_; clear n0_; (try clear hb); (try clear hb2); (try clear hk); (try clear hi)))
            go_ret
            exact ⟨by first | rfl | (simp [errW_none, errW_some] <;> rfl) | (simp [*, errW_none, errW_some] <;> rfl), by repeat (first | (with_reducible first | exact HB.out | apply below_alloc | apply pw_below_drewN | apply below_drew1) | exact HB.out)⟩
        · replace c6 := Bool.eq_false_iff.mpr c6
          subst c6
          have H1 : ((huff_New.f l0).bind fun bt163 => (if bt163.2.2.2.2.2.2.2.2.2.2.2.2.2.2.2.2.2 = 0 then ((huff_Next.f bt163.1 bt163.2.1 bt163.2.2.1 bt163.2.2.2.1 bt163.2.2.2.2.1 bt163.2.2.2.2.2.1 bt163.2.2.2.2.2.2.1 bt163.2.2.2.2.2.2.2.1 bt163.2.2.2.2.2.2.2.2.1 bt163.2.2.2.2.2.2.2.2.2.1 bt163.2.2.2.2.2.2.2.2.2.2.1 bt163.2.2.2.2.2.2.2.2.2.2.2.1 bt163.2.2.2.2.2.2.2.2.2.2.2.2.1 bt163.2.2.2.2.2.2.2.2.2.2.2.2.2.1 bt163.2.2.2.2.2.2.2.2.2.2.2.2.2.2.1 bt163.2.2.2.2.2.2.2.2.2.2.2.2.2.2.2.1 bt163.2.2.2.2.2.2.2.2.2.2.2.2.2.2.2.2.1 a1 a2).bind fun bt184 => ((celluloidref04_Next.f kj3 l0 a1 a2).bind fun bt187 => (if bt184.1 = bt187.1 then (if bt184.2.1 = bt187.2.1 then (if bt184.2.2 = bt187.2.2 then ((celluloidlaw04_awake.f).bind fun t190 => (some t190)) else (some false)) else (some false)) else (some false)))) else ((celluloidref04_Error.f kj3 l0).bind fun t191 => (if t191 = bt163.2.2.2.2.2.2.2.2.2.2.2.2.2.2.2.2.2 then ((celluloidlaw04_awake.f).bind fun t192 => (some t192)) else (some false))))) = some r := by rw [if_neg (show ¬ (false = true) by decide)] at H; exact H
          clear H
          have H := H1
          clear H1
          replace H := Option.bind_eq_some_iff.mp H
          obtain ⟨⟨t163, t164, t165, t166, t167, t168, t169, t170, t171, t172, t173, t174, t175, t176, t177, t178, t179, t182⟩, A90, H⟩ := H
          replace H : (if t182 = 0 then ((huff_Next.f t163 t164 t165 t166 t167 t168 t169 t170 t171 t172 t173 t174 t175 t176 t177 t178 t179 a1 a2).bind fun bt184 => ((celluloidref04_Next.f kj3 l0 a1 a2).bind fun bt187 => (if bt184.1 = bt187.1 then (if bt184.2.1 = bt187.2.1 then (if bt184.2.2 = bt187.2.2 then ((celluloidlaw04_awake.f).bind fun t190 => (some t190)) else (some false)) else (some false)) else (some false)))) else ((celluloidref04_Error.f kj3 l0).bind fun t191 => (if t191 = t182 then ((celluloidlaw04_awake.f).bind fun t192 => (some t192)) else (some false)))) = some r := H
          have A9 := Aside0.mk A90
          clear A90
          by_cases c10 : t182 = 0
          · rw [if_pos c10] at H
            have c10b0 : (t182 == 0) = true := beq_iff_eq.mpr c10
            have c10b1 : (t182 != 0) = false := bne_eq_false_iff_eq.mpr c10
            clear c10
            replace H := Option.bind_eq_some_iff.mp H
            obtain ⟨⟨t184, t185, t186⟩, A110, H⟩ := H
            replace H : ((celluloidref04_Next.f kj3 l0 a1 a2).bind fun bt187 => (if t184 = bt187.1 then (if t185 = bt187.2.1 then (if t186 = bt187.2.2 then ((celluloidlaw04_awake.f).bind fun t190 => (some t190)) else (some false)) else (some false)) else (some false))) = some r := H
            have A11 := Aside0.mk A110
            clear A110
            replace H := Option.bind_eq_some_iff.mp H
            obtain ⟨⟨t187, t188, t189⟩, A120, H⟩ := H
            replace H : (if t184 = t187 then (if t185 = t188 then (if t186 = t189 then ((celluloidlaw04_awake.f).bind fun t190 => (some t190)) else (some false)) else (some false)) else (some false)) = some r := H
            have A12 := Aside0.mk A120
            clear A120
            by_cases c13 : t184 = t187
            · rw [if_pos c13] at H
              have c13b0 : (t184 == t187) = true := beq_iff_eq.mpr c13
              have c13b1 : (t184 != t187) = false := bne_eq_false_iff_eq.mpr c13
              clear c13
              by_cases c14 : t185 = t188
              · rw [if_pos c14] at H
                have c14b0 : (t185 == t188) = true := beq_iff_eq.mpr c14
                have c14b1 : (t185 != t188) = false := bne_eq_false_iff_eq.mpr c14
                clear c14
                by_cases c15 : t186 = t189
                · rw [if_pos c15] at H
                  have c15b0 : (t186 == t189) = true := beq_iff_eq.mpr c15
                  have c15b1 : (t186 != t189) = false := bne_eq_false_iff_eq.mpr c15
                  clear c15
                  replace H := Option.bind_eq_some_iff.mp H
                  obtain ⟨t190, A160, H⟩ := H
                  replace H : (some t190) = some r := H
                  have A16 := Aside0.mk A160
                  clear A160
                  first
                  | exact absurd (Option.some.inj H) (by rw [hr_.out]; decide)
                  | obtain rfl := Option.some.inj H
                    go_wp2_with (first | ((with_reducible refine gate_load (t := 26) rfl ?_); refine wpList_load_row rfl 26 _ rfl _ rfl 26 ?lcs (0, 0) _ ?lb Try.underlying26 rfl ?li ?_; (case lb => (with_reducible repeat (first | refine blk_drewN ?_ _ | refine blk_drew ?_ | refine blk_alloc ?_ _)); exact Aside0.out (by assumption)); (case li => exact info26)) | ((with_reducible refine gate_callee (f := 26) rfl ?_); refine goesL_ (some 26) rfl rfl Try.func26 (by kernel_rfl) rfl #[.slice A0 l0.length c0] rfl (by (try simp only [List.map_toArray, List.map_cons, List.map_nil]); first | done | rfl | (simp only [List.length_drop, List.length_take]; rfl)) ?_; (with_reducible refine (huff_New.calls _ _ l0 t163 t164 t165 t166 t167 t168 t169 t170 t171 t172 t173 t174 t175 t176 t177 t178 t179 t182 _ ?side1 ?side2 A9.out).mono ?_); (case side1 => repeat (first | exact (Kd.C_below HR0.out HB.out) | (with_reducible refine Kd.C_alloc ?_ _) | (with_reducible refine Kd.C_drewN ?_ _) | (with_reducible refine Kd.C_drew ?_))); (case side2 => exact HC0.out); rintro e w17 ⟨v180, rfl, ho0, hb⟩; refine ⟨_, rfl, ?_⟩; have n0_ := Aside0.mk (Kd.R_lower ho0 (below_size (by repeat (first | (with_reducible first | exact HB.out | apply below_alloc | apply pw_below_drewN | apply below_drew1) | exact HB.out)))); have n1_ := Aside0.mk (below_step (by repeat (first | (with_reducible first | exact HB.out | apply below_alloc | apply pw_below_drewN | apply below_drew1) | exact HB.out)) hb); clear HB; have HO181 := n0_; have HB := n1_; clear n0_ n1_; (try clear hb); (try clear hb2); (try clear hk); (try clear hi); (try clear ho0); obtain ⟨Ao18, co18, eo18⟩ := Kd.R_slice HO181.out; subst eo18) | ((with_reducible refine gate_dst (N := 7) rfl ?_); (try (refine gate_guard (by rfl) ?_; dsimp only)); refine box2_event ?hg (N := 7) ?hd (cs0 := #[.int .i64 0, .int .i64 0, .int .i64 0, .int .i64 0, .int .i64 0, .int .i64 0, .int .i64 0, .int .i64 0, .int .i64 0, .int .i64 0, .int .i64 0, .int .i64 0, .int .i64 0, .int .i64 0, .int .i64 0, .int .i64 0, .slice none 0 0]) (cs := #[.int .i64 t163, .int .i64 t164, .int .i64 t165, .int .i64 t166, .int .i64 t167, .int .i64 t168, .int .i64 t169, .int .i64 t170, .int .i64 t171, .int .i64 t172, .int .i64 t173, .int .i64 t174, .int .i64 t175, .int .i64 t176, .int .i64 t177, .int .i64 t178, .slice Ao18 t179.length co18]) (t := 26) (y := (.tmp 27)) ?hr rfl rfl rfl rfl rfl ?hi rfl ?h1 ?_; (case hd => rfl); (case hg => rfl); (case hr => first | (go_simp; done) | (go_simp; rfl)); (case hi => exact info26); (case h1 => first | rfl | (simp [Value.oneCell']; done) | (simp; done)); intro gb183 hg w19 hbox hb; have n0_ := Aside0.mk (Kd.R_below (by (with_reducible repeat (first | apply Kd.R_alloc | apply Kd.R_drewN | apply Kd.R_drew)); exact HO181.out) hb); have n1_ := Aside0.mk (below_step (by repeat (first | (with_reducible first | exact HB.out | apply below_alloc | apply pw_below_drewN | apply below_drew1) | exact HB.out)) hb); have n2_ := Aside0.mk (hbox); have n3_ := Aside0.mk ((by rw [hg]; exact (below_size (by repeat (first | (with_reducible first | exact HB.out | apply below_alloc | apply pw_below_drewN | apply below_drew1) | exact HB.out))) : w.heap.size ≤ gb183)); have n4_ := Aside0.mk ((by rw [hg]; exact (below_size (by repeat (first | (with_reducible first | exact HB.out | apply below_alloc | apply pw_below_drewN | apply below_drew1) | exact HB.out))) : w.heap.size ≤ gb183)); clear HO181; clear HB; have HO181 := n0_; have HB := n1_; have BK183 := n2_; have GW183 := n3_; have GE183 := n4_; clear n0_ n1_ n2_ n3_ n4_; clear hb hbox hg; have hcz20_0 : w19.cell? ⟨gb183, 0, none⟩ = some (.int .i64 t163) := (blk_cell BK183.out 0).trans rfl; have hcz20_1 : w19.cell? ⟨gb183, 1, none⟩ = some (.int .i64 t164) := (blk_cell BK183.out 1).trans rfl; have hcz20_2 : w19.cell? ⟨gb183, 2, none⟩ = some (.int .i64 t165) := (blk_cell BK183.out 2).trans rfl; have hcz20_3 : w19.cell? ⟨gb183, 3, none⟩ = some (.int .i64 t166) := (blk_cell BK183.out 3).trans rfl; have hcz20_4 : w19.cell? ⟨gb183, 4, none⟩ = some (.int .i64 t167) := (blk_cell BK183.out 4).trans rfl; have hcz20_5 : w19.cell? ⟨gb183, 5, none⟩ = some (.int .i64 t168) := (blk_cell BK183.out 5).trans rfl; have hcz20_6 : w19.cell? ⟨gb183, 6, none⟩ = some (.int .i64 t169) := (blk_cell BK183.out 6).trans rfl; have hcz20_7 : w19.cell? ⟨gb183, 7, none⟩ = some (.int .i64 t170) := (blk_cell BK183.out 7).trans rfl; have hcz20_8 : w19.cell? ⟨gb183, 8, none⟩ = some (.int .i64 t171) := (blk_cell BK183.out 8).trans rfl; have hcz20_9 : w19.cell? ⟨gb183, 9, none⟩ = some (.int .i64 t172) := (blk_cell BK183.out 9).trans rfl; have hcz20_10 : w19.cell? ⟨gb183, 10, none⟩ = some (.int .i64 t173) := (blk_cell BK183.out 10).trans rfl; have hcz20_11 : w19.cell? ⟨gb183, 11, none⟩ = some (.int .i64 t174) := (blk_cell BK183.out 11).trans rfl; have hcz20_12 : w19.cell? ⟨gb183, 12, none⟩ = some (.int .i64 t175) := (blk_cell BK183.out 12).trans rfl; have hcz20_13 : w19.cell? ⟨gb183, 13, none⟩ = some (.int .i64 t176) := (blk_cell BK183.out 13).trans rfl; have hcz20_14 : w19.cell? ⟨gb183, 14, none⟩ = some (.int .i64 t177) := (blk_cell BK183.out 14).trans rfl; have hcz20_15 : w19.cell? ⟨gb183, 15, none⟩ = some (.int .i64 t178) := (blk_cell BK183.out 15).trans rfl; have hcz20_16 : w19.cell? ⟨gb183, 16, none⟩ = some (.slice Ao18 t179.length co18) := (blk_cell BK183.out 16).trans rfl; have hfz20_0 := blk_frozen BK183.out 0; have hfz20_1 := blk_frozen BK183.out 1; have hfz20_2 := blk_frozen BK183.out 2; have hfz20_3 := blk_frozen BK183.out 3; have hfz20_4 := blk_frozen BK183.out 4; have hfz20_5 := blk_frozen BK183.out 5; have hfz20_6 := blk_frozen BK183.out 6; have hfz20_7 := blk_frozen BK183.out 7; have hfz20_8 := blk_frozen BK183.out 8; have hfz20_9 := blk_frozen BK183.out 9; have hfz20_10 := blk_frozen BK183.out 10; have hfz20_11 := blk_frozen BK183.out 11; have hfz20_12 := blk_frozen BK183.out 12; have hfz20_13 := blk_frozen BK183.out 13; have hfz20_14 := blk_frozen BK183.out 14; have hfz20_15 := blk_frozen BK183.out 15; have hfz20_16 := blk_frozen BK183.out 16) | ((with_reducible refine gate_callee (f := 30) rfl ?_); refine goesL_ (some 42) rfl rfl Try.func30 (by kernel_rfl) rfl #[.agg #[.int .i64 t163, .int .i64 t164, .int .i64 t165, .int .i64 t166, .int .i64 t167, .int .i64 t168, .int .i64 t169, .int .i64 t170, .int .i64 t171, .int .i64 t172, .int .i64 t173, .int .i64 t174, .int .i64 t175, .int .i64 t176, .int .i64 t177, .int .i64 t178, .slice Ao18 t179.length co18], .string a1, .int .i64 a2] rfl (by (try simp only [List.map_toArray, List.map_cons, List.map_nil]); first | done | rfl | (simp only [List.length_drop, List.length_take]; rfl)) ?_; (with_reducible refine (huff_Next.calls t163 t164 t165 t166 t167 t168 t169 t170 t171 t172 t173 t174 t175 t176 t177 t178 _ _ t179 a1 a2 t184 t185 t186 _ ?side1 ?side2 A11.out).mono ?_); (case side1 => repeat (first | exact (Kd.R_reads' HO181.out).2.2 | (with_reducible refine Kd.C_alloc ?_ _) | (with_reducible refine Kd.C_drewN ?_ _) | (with_reducible refine Kd.C_drew ?_))); (case side2 => exact (Kd.R_reads' HO181.out).2.1); rintro e w21 ⟨rfl, hb⟩; refine ⟨_, rfl, ?_⟩; have n0_ := Aside0.mk (Kd.R_below (by (with_reducible repeat (first | apply Kd.R_alloc | apply Kd.R_drewN | apply Kd.R_drew)); exact HO181.out) hb); have n1_ := Aside0.mk (blk_below (g := gb183) (o := .cells #[.int .i64 t163, .int .i64 t164, .int .i64 t165, .int .i64 t166, .int .i64 t167, .int .i64 t168, .int .i64 t169, .int .i64 t170, .int .i64 t171, .int .i64 t172, .int .i64 t173, .int .i64 t174, .int .i64 t175, .int .i64 t176, .int .i64 t177, .int .i64 t178, .slice Ao18 t179.length co18] 26 (0, 0)) (by (with_reducible repeat (first | refine blk_drewN ?_ _ | refine blk_drew ?_ | refine blk_alloc ?_ _)); exact BK183.out) hb); have n2_ := Aside0.mk (below_step (by repeat (first | (with_reducible first | exact HB.out | apply below_alloc | apply pw_below_drewN | apply below_drew1 | refine below_set ?_ GE183.out) | exact HB.out)) hb); clear HO181; clear BK183; clear HB; have HO181 := n0_; have BK183 := n1_; have HB := n2_; clear n0_ n1_ n2_; (try clear hb); (try clear hb2); (try clear hk); (try clear hi)) | ((with_reducible refine gate_callee (f := 31) rfl ?_); refine goesL_ (some 50) rfl rfl Try.func31 (by kernel_rfl) rfl #[.slice A0 l0.length c0, .string a1, .int .i64 a2] rfl (by (try simp only [List.map_toArray, List.map_cons, List.map_nil]); first | done | rfl | (simp only [List.length_drop, List.length_take]; rfl)) ?_; (with_reducible refine (celluloidref04_Next.calls kj3 _ _ l0 a1 a2 t187 t188 t189 _ ?side1 ?side2 A12.out).mono ?_); (case side1 => repeat (first | exact (Kd.C_below HR0.out HB.out) | (with_reducible refine Kd.C_alloc ?_ _) | (with_reducible refine Kd.C_drewN ?_ _) | (with_reducible refine Kd.C_drew ?_))); (case side2 => exact HC0.out); rintro e w22 ⟨rfl, hb⟩; refine ⟨_, rfl, ?_⟩; have n0_ := Aside0.mk (Kd.R_below (by (with_reducible repeat (first | apply Kd.R_alloc | apply Kd.R_drewN | apply Kd.R_drew)); exact HO181.out) hb); have n1_ := Aside0.mk (blk_below (g := gb183) (o := .cells #[.int .i64 t163, .int .i64 t164, .int .i64 t165, .int .i64 t166, .int .i64 t167, .int .i64 t168, .int .i64 t169, .int .i64 t170, .int .i64 t171, .int .i64 t172, .int .i64 t173, .int .i64 t174, .int .i64 t175, .int .i64 t176, .int .i64 t177, .int .i64 t178, .slice Ao18 t179.length co18] 26 (0, 0)) (by (with_reducible repeat (first | refine blk_drewN ?_ _ | refine blk_drew ?_ | refine blk_alloc ?_ _)); exact BK183.out) hb); have n2_ := Aside0.mk (below_step (by repeat (first | (with_reducible first | exact HB.out | apply below_alloc | apply pw_below_drewN | apply below_drew1 | refine below_set ?_ GE183.out) | exact HB.out)) hb); clear HO181; clear BK183; clear HB; have HO181 := n0_; have BK183 := n1_; have HB := n2_; clear n0_ n1_ n2_; (try clear hb); (try clear hb2); (try clear hk); (try clear hi)) | (go_at_call 25; (with_reducible refine (celluloidlaw04_awake.calls  t190 _ A16.out).mono ?_); rintro e w23 ⟨rfl, hb⟩; have n0_ := Aside0.mk (Kd.R_below (by (with_reducible repeat (first | apply Kd.R_alloc | apply Kd.R_drewN | apply Kd.R_drew)); exact HO181.out) hb); have n1_ := Aside0.mk (blk_below (g := gb183) (o := .cells #[.int .i64 t163, .int .i64 t164, .int .i64 t165, .int .i64 t166, .int .i64 t167, .int .i64 t168, .int .i64 t169, .int .i64 t170, .int .i64 t171, .int .i64 t172, .int .i64 t173, .int .i64 t174, .int .i64 t175, .int .i64 t176, .int .i64 t177, .int .i64 t178, .slice Ao18 t179.length co18] 26 (0, 0)) (by (with_reducible repeat (first | refine blk_drewN ?_ _ | refine blk_drew ?_ | refine blk_alloc ?_ _)); exact BK183.out) hb); have n2_ := Aside0.mk (below_step (by repeat (first | (with_reducible first | exact HB.out | apply below_alloc | apply pw_below_drewN | apply below_drew1 | refine below_set ?_ GE183.out) | exact HB.out)) hb); clear HO181; clear BK183; clear HB; have HO181 := n0_; have BK183 := n1_; have HB := n2_; clear n0_ n1_ n2_; (try clear hb); (try clear hb2); (try clear hk); (try clear hi)))
                    go_ret
                    exact ⟨by first | rfl | (simp [errW_none, errW_some] <;> rfl) | (simp [*, errW_none, errW_some] <;> rfl), by repeat (first | (with_reducible first | exact HB.out | apply below_alloc | apply pw_below_drewN | apply below_drew1 | refine below_set ?_ GE183.out) | exact HB.out)⟩
                · rw [if_neg c15] at H
                  have c15b0 : (t186 == t189) = false := beq_eq_false_iff_ne.mpr c15
                  have c15b1 : (t186 != t189) = true := bne_iff_ne.mpr c15
                  first
                  | exact absurd (Option.some.inj H) (by rw [hr_.out]; decide)
                  | obtain rfl := Option.some.inj H
                    go_wp2_with (first | ((with_reducible refine gate_load (t := 26) rfl ?_); refine wpList_load_row rfl 26 _ rfl _ rfl 26 ?lcs (0, 0) _ ?lb Try.underlying26 rfl ?li ?_; (case lb => (with_reducible repeat (first | refine blk_drewN ?_ _ | refine blk_drew ?_ | refine blk_alloc ?_ _)); exact Aside0.out (by assumption)); (case li => exact info26)) | ((with_reducible refine gate_callee (f := 26) rfl ?_); refine goesL_ (some 26) rfl rfl Try.func26 (by kernel_rfl) rfl #[.slice A0 l0.length c0] rfl (by (try simp only [List.map_toArray, List.map_cons, List.map_nil]); first | done | rfl | (simp only [List.length_drop, List.length_take]; rfl)) ?_; (with_reducible refine (huff_New.calls _ _ l0 t163 t164 t165 t166 t167 t168 t169 t170 t171 t172 t173 t174 t175 t176 t177 t178 t179 t182 _ ?side1 ?side2 A9.out).mono ?_); (case side1 => repeat (first | exact (Kd.C_below HR0.out HB.out) | (with_reducible refine Kd.C_alloc ?_ _) | (with_reducible refine Kd.C_drewN ?_ _) | (with_reducible refine Kd.C_drew ?_))); (case side2 => exact HC0.out); rintro e w24 ⟨v180, rfl, ho0, hb⟩; refine ⟨_, rfl, ?_⟩; have n0_ := Aside0.mk (Kd.R_lower ho0 (below_size (by repeat (first | (with_reducible first | exact HB.out | apply below_alloc | apply pw_below_drewN | apply below_drew1) | exact HB.out)))); have n1_ := Aside0.mk (below_step (by repeat (first | (with_reducible first | exact HB.out | apply below_alloc | apply pw_below_drewN | apply below_drew1) | exact HB.out)) hb); clear HB; have HO181 := n0_; have HB := n1_; clear n0_ n1_; (try clear hb); (try clear hb2); (try clear hk); (try clear hi); (try clear ho0); obtain ⟨Ao25, co25, eo25⟩ := Kd.R_slice HO181.out; subst eo25) | ((with_reducible refine gate_dst (N := 7) rfl ?_); (try (refine gate_guard (by rfl) ?_; dsimp only)); refine box2_event ?hg (N := 7) ?hd (cs0 := #[.int .i64 0, .int .i64 0, .int .i64 0, .int .i64 0, .int .i64 0, .int .i64 0, .int .i64 0, .int .i64 0, .int .i64 0, .int .i64 0, .int .i64 0, .int .i64 0, .int .i64 0, .int .i64 0, .int .i64 0, .int .i64 0, .slice none 0 0]) (cs := #[.int .i64 t163, .int .i64 t164, .int .i64 t165, .int .i64 t166, .int .i64 t167, .int .i64 t168, .int .i64 t169, .int .i64 t170, .int .i64 t171, .int .i64 t172, .int .i64 t173, .int .i64 t174, .int .i64 t175, .int .i64 t176, .int .i64 t177, .int .i64 t178, .slice Ao25 t179.length co25]) (t := 26) (y := (.tmp 27)) ?hr rfl rfl rfl rfl rfl ?hi rfl ?h1 ?_; (case hd => rfl); (case hg => rfl); (case hr => first | (go_simp; done) | (go_simp; rfl)); (case hi => exact info26); (case h1 => first | rfl | (simp [Value.oneCell']; done) | (simp; done)); intro gb183 hg w26 hbox hb; have n0_ := Aside0.mk (Kd.R_below (by (with_reducible repeat (first | apply Kd.R_alloc | apply Kd.R_drewN | apply Kd.R_drew)); exact HO181.out) hb); have n1_ := Aside0.mk (below_step (by repeat (first | (with_reducible first | exact HB.out | apply below_alloc | apply pw_below_drewN | apply below_drew1) | exact HB.out)) hb); have n2_ := Aside0.mk (hbox); have n3_ := Aside0.mk ((by rw [hg]; exact (below_size (by repeat (first | (with_reducible first | exact HB.out | apply below_alloc | apply pw_below_drewN | apply below_drew1) | exact HB.out))) : w.heap.size ≤ gb183)); have n4_ := Aside0.mk ((by rw [hg]; exact (below_size (by repeat (first | (with_reducible first | exact HB.out | apply below_alloc | apply pw_below_drewN | apply below_drew1) | exact HB.out))) : w.heap.size ≤ gb183)); clear HO181; clear HB; have HO181 := n0_; have HB := n1_; have BK183 := n2_; have GW183 := n3_; have GE183 := n4_; clear n0_ n1_ n2_ n3_ n4_; clear hb hbox hg; have hcz27_0 : w26.cell? ⟨gb183, 0, none⟩ = some (.int .i64 t163) := (blk_cell BK183.out 0).trans rfl; have hcz27_1 : w26.cell? ⟨gb183, 1, none⟩ = some (.int .i64 t164) := (blk_cell BK183.out 1).trans rfl; have hcz27_2 : w26.cell? ⟨gb183, 2, none⟩ = some (.int .i64 t165) := (blk_cell BK183.out 2).trans rfl; have hcz27_3 : w26.cell? ⟨gb183, 3, none⟩ = some (.int .i64 t166) := (blk_cell BK183.out 3).trans rfl; have hcz27_4 : w26.cell? ⟨gb183, 4, none⟩ = some (.int .i64 t167) := (blk_cell BK183.out 4).trans rfl; have hcz27_5 : w26.cell? ⟨gb183, 5, none⟩ = some (.int .i64 t168) := (blk_cell BK183.out 5).trans rfl; have hcz27_6 : w26.cell? ⟨gb183, 6, none⟩ = some (.int .i64 t169) := (blk_cell BK183.out 6).trans rfl; have hcz27_7 : w26.cell? ⟨gb183, 7, none⟩ = some (.int .i64 t170) := (blk_cell BK183.out 7).trans rfl; have hcz27_8 : w26.cell? ⟨gb183, 8, none⟩ = some (.int .i64 t171) := (blk_cell BK183.out 8).trans rfl; have hcz27_9 : w26.cell? ⟨gb183, 9, none⟩ = some (.int .i64 t172) := (blk_cell BK183.out 9).trans rfl; have hcz27_10 : w26.cell? ⟨gb183, 10, none⟩ = some (.int .i64 t173) := (blk_cell BK183.out 10).trans rfl; have hcz27_11 : w26.cell? ⟨gb183, 11, none⟩ = some (.int .i64 t174) := (blk_cell BK183.out 11).trans rfl; have hcz27_12 : w26.cell? ⟨gb183, 12, none⟩ = some (.int .i64 t175) := (blk_cell BK183.out 12).trans rfl; have hcz27_13 : w26.cell? ⟨gb183, 13, none⟩ = some (.int .i64 t176) := (blk_cell BK183.out 13).trans rfl; have hcz27_14 : w26.cell? ⟨gb183, 14, none⟩ = some (.int .i64 t177) := (blk_cell BK183.out 14).trans rfl; have hcz27_15 : w26.cell? ⟨gb183, 15, none⟩ = some (.int .i64 t178) := (blk_cell BK183.out 15).trans rfl; have hcz27_16 : w26.cell? ⟨gb183, 16, none⟩ = some (.slice Ao25 t179.length co25) := (blk_cell BK183.out 16).trans rfl; have hfz27_0 := blk_frozen BK183.out 0; have hfz27_1 := blk_frozen BK183.out 1; have hfz27_2 := blk_frozen BK183.out 2; have hfz27_3 := blk_frozen BK183.out 3; have hfz27_4 := blk_frozen BK183.out 4; have hfz27_5 := blk_frozen BK183.out 5; have hfz27_6 := blk_frozen BK183.out 6; have hfz27_7 := blk_frozen BK183.out 7; have hfz27_8 := blk_frozen BK183.out 8; have hfz27_9 := blk_frozen BK183.out 9; have hfz27_10 := blk_frozen BK183.out 10; have hfz27_11 := blk_frozen BK183.out 11; have hfz27_12 := blk_frozen BK183.out 12; have hfz27_13 := blk_frozen BK183.out 13; have hfz27_14 := blk_frozen BK183.out 14; have hfz27_15 := blk_frozen BK183.out 15; have hfz27_16 := blk_frozen BK183.out 16) | ((with_reducible refine gate_callee (f := 30) rfl ?_); refine goesL_ (some 42) rfl rfl Try.func30 (by kernel_rfl) rfl #[.agg #[.int .i64 t163, .int .i64 t164, .int .i64 t165, .int .i64 t166, .int .i64 t167, .int .i64 t168, .int .i64 t169, .int .i64 t170, .int .i64 t171, .int .i64 t172, .int .i64 t173, .int .i64 t174, .int .i64 t175, .int .i64 t176, .int .i64 t177, .int .i64 t178, .slice Ao25 t179.length co25], .string a1, .int .i64 a2] rfl (by (try simp only [List.map_toArray, List.map_cons, List.map_nil]); first | done | rfl | (simp only [List.length_drop, List.length_take]; rfl)) ?_; (with_reducible refine (huff_Next.calls t163 t164 t165 t166 t167 t168 t169 t170 t171 t172 t173 t174 t175 t176 t177 t178 _ _ t179 a1 a2 t184 t185 t186 _ ?side1 ?side2 A11.out).mono ?_); (case side1 => repeat (first | exact (Kd.R_reads' HO181.out).2.2 | (with_reducible refine Kd.C_alloc ?_ _) | (with_reducible refine Kd.C_drewN ?_ _) | (with_reducible refine Kd.C_drew ?_))); (case side2 => exact (Kd.R_reads' HO181.out).2.1); rintro e w28 ⟨rfl, hb⟩; refine ⟨_, rfl, ?_⟩; have n0_ := Aside0.mk (Kd.R_below (by (with_reducible repeat (first | apply Kd.R_alloc | apply Kd.R_drewN | apply Kd.R_drew)); exact HO181.out) hb); have n1_ := Aside0.mk (blk_below (g := gb183) (o := .cells #[.int .i64 t163, .int .i64 t164, .int .i64 t165, .int .i64 t166, .int .i64 t167, .int .i64 t168, .int .i64 t169, .int .i64 t170, .int .i64 t171, .int .i64 t172, .int .i64 t173, .int .i64 t174, .int .i64 t175, .int .i64 t176, .int .i64 t177, .int .i64 t178, .slice Ao25 t179.length co25] 26 (0, 0)) (by (with_reducible repeat (first | refine blk_drewN ?_ _ | refine blk_drew ?_ | refine blk_alloc ?_ _)); exact BK183.out) hb); have n2_ := Aside0.mk (below_step (by repeat (first | (with_reducible first | exact HB.out | apply below_alloc | apply pw_below_drewN | apply below_drew1 | refine below_set ?_ GE183.out) | exact HB.out)) hb); clear HO181; clear BK183; clear HB; have HO181 := n0_; have BK183 := n1_; have HB := n2_; clear n0_ n1_ n2_; (try clear hb); (try clear hb2); (try clear hk); (try clear hi)) | ((with_reducible refine gate_callee (f := 31) rfl ?_); refine goesL_ (some 50) rfl rfl Try.func31 (by kernel_rfl) rfl #[.slice A0 l0.length c0, .string a1, .int .i64 a2] rfl (by (try simp only [List.map_toArray, List.map_cons, List.map_nil]); first | done | rfl | (simp only [List.length_drop, List.length_take]; rfl)) ?_; (with_reducible refine (celluloidref04_Next.calls kj3 _ _ l0 a1 a2 t187 t188 t189 _ ?side1 ?side2 A12.out).mono ?_); (case side1 => repeat (first | exact (Kd.C_below HR0.out HB.out) | (with_reducible refine Kd.C_alloc ?_ _) | (with_reducible refine Kd.C_drewN ?_ _) | (with_reducible refine Kd.C_drew ?_))); (case side2 => exact HC0.out); rintro e w29 ⟨rfl, hb⟩; refine ⟨_, rfl, ?_⟩; have n0_ := Aside0.mk (Kd.R_below (by (with_reducible repeat (first | apply Kd.R_alloc | apply Kd.R_drewN | apply Kd.R_drew)); exact HO181.out) hb); have n1_ := Aside0.mk (blk_below (g := gb183) (o := .cells #[.int .i64 t163, .int .i64 t164, .int .i64 t165, .int .i64 t166, .int .i64 t167, .int .i64 t168, .int .i64 t169, .int .i64 t170, .int .i64 t171, .int .i64 t172, .int .i64 t173, .int .i64 t174, .int .i64 t175, .int .i64 t176, .int .i64 t177, .int .i64 t178, .slice Ao25 t179.length co25] 26 (0, 0)) (by (with_reducible repeat (first | refine blk_drewN ?_ _ | refine blk_drew ?_ | refine blk_alloc ?_ _)); exact BK183.out) hb); have n2_ := Aside0.mk (below_step (by repeat (first | (with_reducible first | exact HB.out | apply below_alloc | apply pw_below_drewN | apply below_drew1 | refine below_set ?_ GE183.out) | exact HB.out)) hb); clear HO181; clear BK183; clear HB; have HO181 := n0_; have BK183 := n1_; have HB := n2_; clear n0_ n1_ n2_; (try clear hb); (try clear hb2); (try clear hk); (try clear hi)))
                    go_ret
                    exact ⟨by first | rfl | (simp [errW_none, errW_some] <;> rfl) | (simp [*, errW_none, errW_some] <;> rfl), by repeat (first | (with_reducible first | exact HB.out | apply below_alloc | apply pw_below_drewN | apply below_drew1 | refine below_set ?_ GE183.out) | exact HB.out)⟩
              · rw [if_neg c14] at H
                have c14b0 : (t185 == t188) = false := beq_eq_false_iff_ne.mpr c14
                have c14b1 : (t185 != t188) = true := bne_iff_ne.mpr c14
                first
                | exact absurd (Option.some.inj H) (by rw [hr_.out]; decide)
                | obtain rfl := Option.some.inj H
                  go_wp2_with (first | ((with_reducible refine gate_load (t := 26) rfl ?_); refine wpList_load_row rfl 26 _ rfl _ rfl 26 ?lcs (0, 0) _ ?lb Try.underlying26 rfl ?li ?_; (case lb => (with_reducible repeat (first | refine blk_drewN ?_ _ | refine blk_drew ?_ | refine blk_alloc ?_ _)); exact Aside0.out (by assumption)); (case li => exact info26)) | ((with_reducible refine gate_callee (f := 26) rfl ?_); refine goesL_ (some 26) rfl rfl Try.func26 (by kernel_rfl) rfl #[.slice A0 l0.length c0] rfl (by (try simp only [List.map_toArray, List.map_cons, List.map_nil]); first | done | rfl | (simp only [List.length_drop, List.length_take]; rfl)) ?_; (with_reducible refine (huff_New.calls _ _ l0 t163 t164 t165 t166 t167 t168 t169 t170 t171 t172 t173 t174 t175 t176 t177 t178 t179 t182 _ ?side1 ?side2 A9.out).mono ?_); (case side1 => repeat (first | exact (Kd.C_below HR0.out HB.out) | (with_reducible refine Kd.C_alloc ?_ _) | (with_reducible refine Kd.C_drewN ?_ _) | (with_reducible refine Kd.C_drew ?_))); (case side2 => exact HC0.out); rintro e w30 ⟨v180, rfl, ho0, hb⟩; refine ⟨_, rfl, ?_⟩; have n0_ := Aside0.mk (Kd.R_lower ho0 (below_size (by repeat (first | (with_reducible first | exact HB.out | apply below_alloc | apply pw_below_drewN | apply below_drew1) | exact HB.out)))); have n1_ := Aside0.mk (below_step (by repeat (first | (with_reducible first | exact HB.out | apply below_alloc | apply pw_below_drewN | apply below_drew1) | exact HB.out)) hb); clear HB; have HO181 := n0_; have HB := n1_; clear n0_ n1_; (try clear hb); (try clear hb2); (try clear hk); (try clear hi); (try clear ho0); obtain ⟨Ao31, co31, eo31⟩ := Kd.R_slice HO181.out; subst eo31) | ((with_reducible refine gate_dst (N := 7) rfl ?_); (try (refine gate_guard (by rfl) ?_; dsimp only)); refine box2_event ?hg (N := 7) ?hd (cs0 := #[.int .i64 0, .int .i64 0, .int .i64 0, .int .i64 0, .int .i64 0, .int .i64 0, .int .i64 0, .int .i64 0, .int .i64 0, .int .i64 0, .int .i64 0, .int .i64 0, .int .i64 0, .int .i64 0, .int .i64 0, .int .i64 0, .slice none 0 0]) (cs := #[.int .i64 t163, .int .i64 t164, .int .i64 t165, .int .i64 t166, .int .i64 t167, .int .i64 t168, .int .i64 t169, .int .i64 t170, .int .i64 t171, .int .i64 t172, .int .i64 t173, .int .i64 t174, .int .i64 t175, .int .i64 t176, .int .i64 t177, .int .i64 t178, .slice Ao31 t179.length co31]) (t := 26) (y := (.tmp 27)) ?hr rfl rfl rfl rfl rfl ?hi rfl ?h1 ?_; (case hd => rfl); (case hg => rfl); (case hr => first | (go_simp; done) | (go_simp; rfl)); (case hi => exact info26); (case h1 => first | rfl | (simp [Value.oneCell']; done) | (simp; done)); intro gb183 hg w32 hbox hb; have n0_ := Aside0.mk (Kd.R_below (by (with_reducible repeat (first | apply Kd.R_alloc | apply Kd.R_drewN | apply Kd.R_drew)); exact HO181.out) hb); have n1_ := Aside0.mk (below_step (by repeat (first | (with_reducible first | exact HB.out | apply below_alloc | apply pw_below_drewN | apply below_drew1) | exact HB.out)) hb); have n2_ := Aside0.mk (hbox); have n3_ := Aside0.mk ((by rw [hg]; exact (below_size (by repeat (first | (with_reducible first | exact HB.out | apply below_alloc | apply pw_below_drewN | apply below_drew1) | exact HB.out))) : w.heap.size ≤ gb183)); have n4_ := Aside0.mk ((by rw [hg]; exact (below_size (by repeat (first | (with_reducible first | exact HB.out | apply below_alloc | apply pw_below_drewN | apply below_drew1) | exact HB.out))) : w.heap.size ≤ gb183)); clear HO181; clear HB; have HO181 := n0_; have HB := n1_; have BK183 := n2_; have GW183 := n3_; have GE183 := n4_; clear n0_ n1_ n2_ n3_ n4_; clear hb hbox hg; have hcz33_0 : w32.cell? ⟨gb183, 0, none⟩ = some (.int .i64 t163) := (blk_cell BK183.out 0).trans rfl; have hcz33_1 : w32.cell? ⟨gb183, 1, none⟩ = some (.int .i64 t164) := (blk_cell BK183.out 1).trans rfl; have hcz33_2 : w32.cell? ⟨gb183, 2, none⟩ = some (.int .i64 t165) := (blk_cell BK183.out 2).trans rfl; have hcz33_3 : w32.cell? ⟨gb183, 3, none⟩ = some (.int .i64 t166) := (blk_cell BK183.out 3).trans rfl; have hcz33_4 : w32.cell? ⟨gb183, 4, none⟩ = some (.int .i64 t167) := (blk_cell BK183.out 4).trans rfl; have hcz33_5 : w32.cell? ⟨gb183, 5, none⟩ = some (.int .i64 t168) := (blk_cell BK183.out 5).trans rfl; have hcz33_6 : w32.cell? ⟨gb183, 6, none⟩ = some (.int .i64 t169) := (blk_cell BK183.out 6).trans rfl; have hcz33_7 : w32.cell? ⟨gb183, 7, none⟩ = some (.int .i64 t170) := (blk_cell BK183.out 7).trans rfl; have hcz33_8 : w32.cell? ⟨gb183, 8, none⟩ = some (.int .i64 t171) := (blk_cell BK183.out 8).trans rfl; have hcz33_9 : w32.cell? ⟨gb183, 9, none⟩ = some (.int .i64 t172) := (blk_cell BK183.out 9).trans rfl; have hcz33_10 : w32.cell? ⟨gb183, 10, none⟩ = some (.int .i64 t173) := (blk_cell BK183.out 10).trans rfl; have hcz33_11 : w32.cell? ⟨gb183, 11, none⟩ = some (.int .i64 t174) := (blk_cell BK183.out 11).trans rfl; have hcz33_12 : w32.cell? ⟨gb183, 12, none⟩ = some (.int .i64 t175) := (blk_cell BK183.out 12).trans rfl; have hcz33_13 : w32.cell? ⟨gb183, 13, none⟩ = some (.int .i64 t176) := (blk_cell BK183.out 13).trans rfl; have hcz33_14 : w32.cell? ⟨gb183, 14, none⟩ = some (.int .i64 t177) := (blk_cell BK183.out 14).trans rfl; have hcz33_15 : w32.cell? ⟨gb183, 15, none⟩ = some (.int .i64 t178) := (blk_cell BK183.out 15).trans rfl; have hcz33_16 : w32.cell? ⟨gb183, 16, none⟩ = some (.slice Ao31 t179.length co31) := (blk_cell BK183.out 16).trans rfl; have hfz33_0 := blk_frozen BK183.out 0; have hfz33_1 := blk_frozen BK183.out 1; have hfz33_2 := blk_frozen BK183.out 2; have hfz33_3 := blk_frozen BK183.out 3; have hfz33_4 := blk_frozen BK183.out 4; have hfz33_5 := blk_frozen BK183.out 5; have hfz33_6 := blk_frozen BK183.out 6; have hfz33_7 := blk_frozen BK183.out 7; have hfz33_8 := blk_frozen BK183.out 8; have hfz33_9 := blk_frozen BK183.out 9; have hfz33_10 := blk_frozen BK183.out 10; have hfz33_11 := blk_frozen BK183.out 11; have hfz33_12 := blk_frozen BK183.out 12; have hfz33_13 := blk_frozen BK183.out 13; have hfz33_14 := blk_frozen BK183.out 14; have hfz33_15 := blk_frozen BK183.out 15; have hfz33_16 := blk_frozen BK183.out 16) | ((with_reducible refine gate_callee (f := 30) rfl ?_); refine goesL_ (some 42) rfl rfl Try.func30 (by kernel_rfl) rfl #[.agg #[.int .i64 t163, .int .i64 t164, .int .i64 t165, .int .i64 t166, .int .i64 t167, .int .i64 t168, .int .i64 t169, .int .i64 t170, .int .i64 t171, .int .i64 t172, .int .i64 t173, .int .i64 t174, .int .i64 t175, .int .i64 t176, .int .i64 t177, .int .i64 t178, .slice Ao31 t179.length co31], .string a1, .int .i64 a2] rfl (by (try simp only [List.map_toArray, List.map_cons, List.map_nil]); first | done | rfl | (simp only [List.length_drop, List.length_take]; rfl)) ?_; (with_reducible refine (huff_Next.calls t163 t164 t165 t166 t167 t168 t169 t170 t171 t172 t173 t174 t175 t176 t177 t178 _ _ t179 a1 a2 t184 t185 t186 _ ?side1 ?side2 A11.out).mono ?_); (case side1 => repeat (first | exact (Kd.R_reads' HO181.out).2.2 | (with_reducible refine Kd.C_alloc ?_ _) | (with_reducible refine Kd.C_drewN ?_ _) | (with_reducible refine Kd.C_drew ?_))); (case side2 => exact (Kd.R_reads' HO181.out).2.1); rintro e w34 ⟨rfl, hb⟩; refine ⟨_, rfl, ?_⟩; have n0_ := Aside0.mk (Kd.R_below (by (with_reducible repeat (first | apply Kd.R_alloc | apply Kd.R_drewN | apply Kd.R_drew)); exact HO181.out) hb); have n1_ := Aside0.mk (blk_below (g := gb183) (o := .cells #[.int .i64 t163, .int .i64 t164, .int .i64 t165, .int .i64 t166, .int .i64 t167, .int .i64 t168, .int .i64 t169, .int .i64 t170, .int .i64 t171, .int .i64 t172, .int .i64 t173, .int .i64 t174, .int .i64 t175, .int .i64 t176, .int .i64 t177, .int .i64 t178, .slice Ao31 t179.length co31] 26 (0, 0)) (by (with_reducible repeat (first | refine blk_drewN ?_ _ | refine blk_drew ?_ | refine blk_alloc ?_ _)); exact BK183.out) hb); have n2_ := Aside0.mk (below_step (by repeat (first | (with_reducible first | exact HB.out | apply below_alloc | apply pw_below_drewN | apply below_drew1 | refine below_set ?_ GE183.out) | exact HB.out)) hb); clear HO181; clear BK183; clear HB; have HO181 := n0_; have BK183 := n1_; have HB := n2_; clear n0_ n1_ n2_; (try clear hb); (try clear hb2); (try clear hk); (try clear hi)) | ((with_reducible refine gate_callee (f := 31) rfl ?_); refine goesL_ (some 50) rfl rfl Try.func31 (by kernel_rfl) rfl #[.slice A0 l0.length c0, .string a1, .int .i64 a2] rfl (by (try simp only [List.map_toArray, List.map_cons, List.map_nil]); first | done | rfl | (simp only [List.length_drop, List.length_take]; rfl)) ?_; (with_reducible refine (celluloidref04_Next.calls kj3 _ _ l0 a1 a2 t187 t188 t189 _ ?side1 ?side2 A12.out).mono ?_); (case side1 => repeat (first | exact (Kd.C_below HR0.out HB.out) | (with_reducible refine Kd.C_alloc ?_ _) | (with_reducible refine Kd.C_drewN ?_ _) | (with_reducible refine Kd.C_drew ?_))); (case side2 => exact HC0.out); rintro e w35 ⟨rfl, hb⟩; refine ⟨_, rfl, ?_⟩; have n0_ := Aside0.mk (Kd.R_below (by (with_reducible repeat (first | apply Kd.R_alloc | apply Kd.R_drewN | apply Kd.R_drew)); exact HO181.out) hb); have n1_ := Aside0.mk (blk_below (g := gb183) (o := .cells #[.int .i64 t163, .int .i64 t164, .int .i64 t165, .int .i64 t166, .int .i64 t167, .int .i64 t168, .int .i64 t169, .int .i64 t170, .int .i64 t171, .int .i64 t172, .int .i64 t173, .int .i64 t174, .int .i64 t175, .int .i64 t176, .int .i64 t177, .int .i64 t178, .slice Ao31 t179.length co31] 26 (0, 0)) (by (with_reducible repeat (first | refine blk_drewN ?_ _ | refine blk_drew ?_ | refine blk_alloc ?_ _)); exact BK183.out) hb); have n2_ := Aside0.mk (below_step (by repeat (first | (with_reducible first | exact HB.out | apply below_alloc | apply pw_below_drewN | apply below_drew1 | refine below_set ?_ GE183.out) | exact HB.out)) hb); clear HO181; clear BK183; clear HB; have HO181 := n0_; have BK183 := n1_; have HB := n2_; clear n0_ n1_ n2_; (try clear hb); (try clear hb2); (try clear hk); (try clear hi)))
                  go_ret
                  exact ⟨by first | rfl | (simp [errW_none, errW_some] <;> rfl) | (simp [*, errW_none, errW_some] <;> rfl), by repeat (first | (with_reducible first | exact HB.out | apply below_alloc | apply pw_below_drewN | apply below_drew1 | refine below_set ?_ GE183.out) | exact HB.out)⟩
            · rw [if_neg c13] at H
              have c13b0 : (t184 == t187) = false := beq_eq_false_iff_ne.mpr c13
              have c13b1 : (t184 != t187) = true := bne_iff_ne.mpr c13
              first
              | exact absurd (Option.some.inj H) (by rw [hr_.out]; decide)
              | obtain rfl := Option.some.inj H
                go_wp2_with (first | ((with_reducible refine gate_load (t := 26) rfl ?_); refine wpList_load_row rfl 26 _ rfl _ rfl 26 ?lcs (0, 0) _ ?lb Try.underlying26 rfl ?li ?_; (case lb => (with_reducible repeat (first | refine blk_drewN ?_ _ | refine blk_drew ?_ | refine blk_alloc ?_ _)); exact Aside0.out (by assumption)); (case li => exact info26)) | ((with_reducible refine gate_callee (f := 26) rfl ?_); refine goesL_ (some 26) rfl rfl Try.func26 (by kernel_rfl) rfl #[.slice A0 l0.length c0] rfl (by (try simp only [List.map_toArray, List.map_cons, List.map_nil]); first | done | rfl | (simp only [List.length_drop, List.length_take]; rfl)) ?_; (with_reducible refine (huff_New.calls _ _ l0 t163 t164 t165 t166 t167 t168 t169 t170 t171 t172 t173 t174 t175 t176 t177 t178 t179 t182 _ ?side1 ?side2 A9.out).mono ?_); (case side1 => repeat (first | exact (Kd.C_below HR0.out HB.out) | (with_reducible refine Kd.C_alloc ?_ _) | (with_reducible refine Kd.C_drewN ?_ _) | (with_reducible refine Kd.C_drew ?_))); (case side2 => exact HC0.out); rintro e w36 ⟨v180, rfl, ho0, hb⟩; refine ⟨_, rfl, ?_⟩; have n0_ := Aside0.mk (Kd.R_lower ho0 (below_size (by repeat (first | (with_reducible first | exact HB.out | apply below_alloc | apply pw_below_drewN | apply below_drew1) | exact HB.out)))); have n1_ := Aside0.mk (below_step (by repeat (first | (with_reducible first | exact HB.out | apply below_alloc | apply pw_below_drewN | apply below_drew1) | exact HB.out)) hb); clear HB; have HO181 := n0_; have HB := n1_; clear n0_ n1_; (try clear hb); (try clear hb2); (try clear hk); (try clear hi); (try clear ho0); obtain ⟨Ao37, co37, eo37⟩ := Kd.R_slice HO181.out; subst eo37) | ((with_reducible refine gate_dst (N := 7) rfl ?_); (try (refine gate_guard (by rfl) ?_; dsimp only)); refine box2_event ?hg (N := 7) ?hd (cs0 := #[.int .i64 0, .int .i64 0, .int .i64 0, .int .i64 0, .int .i64 0, .int .i64 0, .int .i64 0, .int .i64 0, .int .i64 0, .int .i64 0, .int .i64 0, .int .i64 0, .int .i64 0, .int .i64 0, .int .i64 0, .int .i64 0, .slice none 0 0]) (cs := #[.int .i64 t163, .int .i64 t164, .int .i64 t165, .int .i64 t166, .int .i64 t167, .int .i64 t168, .int .i64 t169, .int .i64 t170, .int .i64 t171, .int .i64 t172, .int .i64 t173, .int .i64 t174, .int .i64 t175, .int .i64 t176, .int .i64 t177, .int .i64 t178, .slice Ao37 t179.length co37]) (t := 26) (y := (.tmp 27)) ?hr rfl rfl rfl rfl rfl ?hi rfl ?h1 ?_; (case hd => rfl); (case hg => rfl); (case hr => first | (go_simp; done) | (go_simp; rfl)); (case hi => exact info26); (case h1 => first | rfl | (simp [Value.oneCell']; done) | (simp; done)); intro gb183 hg w38 hbox hb; have n0_ := Aside0.mk (Kd.R_below (by (with_reducible repeat (first | apply Kd.R_alloc | apply Kd.R_drewN | apply Kd.R_drew)); exact HO181.out) hb); have n1_ := Aside0.mk (below_step (by repeat (first | (with_reducible first | exact HB.out | apply below_alloc | apply pw_below_drewN | apply below_drew1) | exact HB.out)) hb); have n2_ := Aside0.mk (hbox); have n3_ := Aside0.mk ((by rw [hg]; exact (below_size (by repeat (first | (with_reducible first | exact HB.out | apply below_alloc | apply pw_below_drewN | apply below_drew1) | exact HB.out))) : w.heap.size ≤ gb183)); have n4_ := Aside0.mk ((by rw [hg]; exact (below_size (by repeat (first | (with_reducible first | exact HB.out | apply below_alloc | apply pw_below_drewN | apply below_drew1) | exact HB.out))) : w.heap.size ≤ gb183)); clear HO181; clear HB; have HO181 := n0_; have HB := n1_; have BK183 := n2_; have GW183 := n3_; have GE183 := n4_; clear n0_ n1_ n2_ n3_ n4_; clear hb hbox hg; have hcz39_0 : w38.cell? ⟨gb183, 0, none⟩ = some (.int .i64 t163) := (blk_cell BK183.out 0).trans rfl; have hcz39_1 : w38.cell? ⟨gb183, 1, none⟩ = some (.int .i64 t164) := (blk_cell BK183.out 1).trans rfl; have hcz39_2 : w38.cell? ⟨gb183, 2, none⟩ = some (.int .i64 t165) := (blk_cell BK183.out 2).trans rfl; have hcz39_3 : w38.cell? ⟨gb183, 3, none⟩ = some (.int .i64 t166) := (blk_cell BK183.out 3).trans rfl; have hcz39_4 : w38.cell? ⟨gb183, 4, none⟩ = some (.int .i64 t167) := (blk_cell BK183.out 4).trans rfl; have hcz39_5 : w38.cell? ⟨gb183, 5, none⟩ = some (.int .i64 t168) := (blk_cell BK183.out 5).trans rfl; have hcz39_6 : w38.cell? ⟨gb183, 6, none⟩ = some (.int .i64 t169) := (blk_cell BK183.out 6).trans rfl; have hcz39_7 : w38.cell? ⟨gb183, 7, none⟩ = some (.int .i64 t170) := (blk_cell BK183.out 7).trans rfl; have hcz39_8 : w38.cell? ⟨gb183, 8, none⟩ = some (.int .i64 t171) := (blk_cell BK183.out 8).trans rfl; have hcz39_9 : w38.cell? ⟨gb183, 9, none⟩ = some (.int .i64 t172) := (blk_cell BK183.out 9).trans rfl; have hcz39_10 : w38.cell? ⟨gb183, 10, none⟩ = some (.int .i64 t173) := (blk_cell BK183.out 10).trans rfl; have hcz39_11 : w38.cell? ⟨gb183, 11, none⟩ = some (.int .i64 t174) := (blk_cell BK183.out 11).trans rfl; have hcz39_12 : w38.cell? ⟨gb183, 12, none⟩ = some (.int .i64 t175) := (blk_cell BK183.out 12).trans rfl; have hcz39_13 : w38.cell? ⟨gb183, 13, none⟩ = some (.int .i64 t176) := (blk_cell BK183.out 13).trans rfl; have hcz39_14 : w38.cell? ⟨gb183, 14, none⟩ = some (.int .i64 t177) := (blk_cell BK183.out 14).trans rfl; have hcz39_15 : w38.cell? ⟨gb183, 15, none⟩ = some (.int .i64 t178) := (blk_cell BK183.out 15).trans rfl; have hcz39_16 : w38.cell? ⟨gb183, 16, none⟩ = some (.slice Ao37 t179.length co37) := (blk_cell BK183.out 16).trans rfl; have hfz39_0 := blk_frozen BK183.out 0; have hfz39_1 := blk_frozen BK183.out 1; have hfz39_2 := blk_frozen BK183.out 2; have hfz39_3 := blk_frozen BK183.out 3; have hfz39_4 := blk_frozen BK183.out 4; have hfz39_5 := blk_frozen BK183.out 5; have hfz39_6 := blk_frozen BK183.out 6; have hfz39_7 := blk_frozen BK183.out 7; have hfz39_8 := blk_frozen BK183.out 8; have hfz39_9 := blk_frozen BK183.out 9; have hfz39_10 := blk_frozen BK183.out 10; have hfz39_11 := blk_frozen BK183.out 11; have hfz39_12 := blk_frozen BK183.out 12; have hfz39_13 := blk_frozen BK183.out 13; have hfz39_14 := blk_frozen BK183.out 14; have hfz39_15 := blk_frozen BK183.out 15; have hfz39_16 := blk_frozen BK183.out 16) | ((with_reducible refine gate_callee (f := 30) rfl ?_); refine goesL_ (some 42) rfl rfl Try.func30 (by kernel_rfl) rfl #[.agg #[.int .i64 t163, .int .i64 t164, .int .i64 t165, .int .i64 t166, .int .i64 t167, .int .i64 t168, .int .i64 t169, .int .i64 t170, .int .i64 t171, .int .i64 t172, .int .i64 t173, .int .i64 t174, .int .i64 t175, .int .i64 t176, .int .i64 t177, .int .i64 t178, .slice Ao37 t179.length co37], .string a1, .int .i64 a2] rfl (by (try simp only [List.map_toArray, List.map_cons, List.map_nil]); first | done | rfl | (simp only [List.length_drop, List.length_take]; rfl)) ?_; (with_reducible refine (huff_Next.calls t163 t164 t165 t166 t167 t168 t169 t170 t171 t172 t173 t174 t175 t176 t177 t178 _ _ t179 a1 a2 t184 t185 t186 _ ?side1 ?side2 A11.out).mono ?_); (case side1 => repeat (first | exact (Kd.R_reads' HO181.out).2.2 | (with_reducible refine Kd.C_alloc ?_ _) | (with_reducible refine Kd.C_drewN ?_ _) | (with_reducible refine Kd.C_drew ?_))); (case side2 => exact (Kd.R_reads' HO181.out).2.1); rintro e w40 ⟨rfl, hb⟩; refine ⟨_, rfl, ?_⟩; have n0_ := Aside0.mk (Kd.R_below (by (with_reducible repeat (first | apply Kd.R_alloc | apply Kd.R_drewN | apply Kd.R_drew)); exact HO181.out) hb); have n1_ := Aside0.mk (blk_below (g := gb183) (o := .cells #[.int .i64 t163, .int .i64 t164, .int .i64 t165, .int .i64 t166, .int .i64 t167, .int .i64 t168, .int .i64 t169, .int .i64 t170, .int .i64 t171, .int .i64 t172, .int .i64 t173, .int .i64 t174, .int .i64 t175, .int .i64 t176, .int .i64 t177, .int .i64 t178, .slice Ao37 t179.length co37] 26 (0, 0)) (by (with_reducible repeat (first | refine blk_drewN ?_ _ | refine blk_drew ?_ | refine blk_alloc ?_ _)); exact BK183.out) hb); have n2_ := Aside0.mk (below_step (by repeat (first | (with_reducible first | exact HB.out | apply below_alloc | apply pw_below_drewN | apply below_drew1 | refine below_set ?_ GE183.out) | exact HB.out)) hb); clear HO181; clear BK183; clear HB; have HO181 := n0_; have BK183 := n1_; have HB := n2_; clear n0_ n1_ n2_; (try clear hb); (try clear hb2); (try clear hk); (try clear hi)) | ((with_reducible refine gate_callee (f := 31) rfl ?_); refine goesL_ (some 50) rfl rfl Try.func31 (by kernel_rfl) rfl #[.slice A0 l0.length c0, .string a1, .int .i64 a2] rfl (by (try simp only [List.map_toArray, List.map_cons, List.map_nil]); first | done | rfl | (simp only [List.length_drop, List.length_take]; rfl)) ?_; (with_reducible refine (celluloidref04_Next.calls kj3 _ _ l0 a1 a2 t187 t188 t189 _ ?side1 ?side2 A12.out).mono ?_); (case side1 => repeat (first | exact (Kd.C_below HR0.out HB.out) | (with_reducible refine Kd.C_alloc ?_ _) | (with_reducible refine Kd.C_drewN ?_ _) | (with_reducible refine Kd.C_drew ?_))); (case side2 => exact HC0.out); rintro e w41 ⟨rfl, hb⟩; refine ⟨_, rfl, ?_⟩; have n0_ := Aside0.mk (Kd.R_below (by (with_reducible repeat (first | apply Kd.R_alloc | apply Kd.R_drewN | apply Kd.R_drew)); exact HO181.out) hb); have n1_ := Aside0.mk (blk_below (g := gb183) (o := .cells #[.int .i64 t163, .int .i64 t164, .int .i64 t165, .int .i64 t166, .int .i64 t167, .int .i64 t168, .int .i64 t169, .int .i64 t170, .int .i64 t171, .int .i64 t172, .int .i64 t173, .int .i64 t174, .int .i64 t175, .int .i64 t176, .int .i64 t177, .int .i64 t178, .slice Ao37 t179.length co37] 26 (0, 0)) (by (with_reducible repeat (first | refine blk_drewN ?_ _ | refine blk_drew ?_ | refine blk_alloc ?_ _)); exact BK183.out) hb); have n2_ := Aside0.mk (below_step (by repeat (first | (with_reducible first | exact HB.out | apply below_alloc | apply pw_below_drewN | apply below_drew1 | refine below_set ?_ GE183.out) | exact HB.out)) hb); clear HO181; clear BK183; clear HB; have HO181 := n0_; have BK183 := n1_; have HB := n2_; clear n0_ n1_ n2_; (try clear hb); (try clear hb2); (try clear hk); (try clear hi)))
                go_ret
                exact ⟨by first | rfl | (simp [errW_none, errW_some] <;> rfl) | (simp [*, errW_none, errW_some] <;> rfl), by repeat (first | (with_reducible first | exact HB.out | apply below_alloc | apply pw_below_drewN | apply below_drew1 | refine below_set ?_ GE183.out) | exact HB.out)⟩
          · rw [if_neg c10] at H
            have c10b0 : (t182 == 0) = false := beq_eq_false_iff_ne.mpr c10
            have c10b1 : (t182 != 0) = true := bne_iff_ne.mpr c10
            replace H := Option.bind_eq_some_iff.mp H
            obtain ⟨t191, A420, H⟩ := H
            replace H : (if t191 = t182 then ((celluloidlaw04_awake.f).bind fun t192 => (some t192)) else (some false)) = some r := H
            have A42 := Aside0.mk A420
            clear A420
            by_cases c43 : t191 = t182
            · rw [if_pos c43] at H
              have c43b0 : (t191 == t182) = true := beq_iff_eq.mpr c43
              have c43b1 : (t191 != t182) = false := bne_eq_false_iff_eq.mpr c43
              clear c43
              replace H := Option.bind_eq_some_iff.mp H
              obtain ⟨t192, A440, H⟩ := H
              replace H : (some t192) = some r := H
              have A44 := Aside0.mk A440
              clear A440
              first
              | exact absurd (Option.some.inj H) (by rw [hr_.out]; decide)
              | obtain rfl := Option.some.inj H
                go_wp2_with (first | ((with_reducible refine gate_load (t := 26) rfl ?_); refine wpList_load_row rfl 26 _ rfl _ rfl 26 ?lcs (0, 0) _ ?lb Try.underlying26 rfl ?li ?_; (case lb => (with_reducible repeat (first | refine blk_drewN ?_ _ | refine blk_drew ?_ | refine blk_alloc ?_ _)); exact Aside0.out (by assumption)); (case li => exact info26)) | ((with_reducible refine gate_callee (f := 26) rfl ?_); refine goesL_ (some 26) rfl rfl Try.func26 (by kernel_rfl) rfl #[.slice A0 l0.length c0] rfl (by (try simp only [List.map_toArray, List.map_cons, List.map_nil]); first | done | rfl | (simp only [List.length_drop, List.length_take]; rfl)) ?_; (with_reducible refine (huff_New.calls _ _ l0 t163 t164 t165 t166 t167 t168 t169 t170 t171 t172 t173 t174 t175 t176 t177 t178 t179 t182 _ ?side1 ?side2 A9.out).mono ?_); (case side1 => repeat (first | exact (Kd.C_below HR0.out HB.out) | (with_reducible refine Kd.C_alloc ?_ _) | (with_reducible refine Kd.C_drewN ?_ _) | (with_reducible refine Kd.C_drew ?_))); (case side2 => exact HC0.out); rintro e w45 ⟨v180, rfl, ho0, hb⟩; refine ⟨_, rfl, ?_⟩; have n0_ := Aside0.mk (Kd.R_lower ho0 (below_size (by repeat (first | (with_reducible first | exact HB.out | apply below_alloc | apply pw_below_drewN | apply below_drew1) | exact HB.out)))); have n1_ := Aside0.mk (below_step (by repeat (first | (with_reducible first | exact HB.out | apply below_alloc | apply pw_below_drewN | apply below_drew1) | exact HB.out)) hb); clear HB; have HO181 := n0_; have HB := n1_; clear n0_ n1_; (try clear hb); (try clear hb2); (try clear hk); (try clear hi); (try clear ho0); obtain ⟨Ao46, co46, eo46⟩ := Kd.R_slice HO181.out; subst eo46) | ((with_reducible refine gate_dst (N := 7) rfl ?_); (try (refine gate_guard (by rfl) ?_; dsimp only)); refine box2_event ?hg (N := 7) ?hd (cs0 := #[.int .i64 0, .int .i64 0, .int .i64 0, .int .i64 0, .int .i64 0, .int .i64 0, .int .i64 0, .int .i64 0, .int .i64 0, .int .i64 0, .int .i64 0, .int .i64 0, .int .i64 0, .int .i64 0, .int .i64 0, .int .i64 0, .slice none 0 0]) (cs := #[.int .i64 t163, .int .i64 t164, .int .i64 t165, .int .i64 t166, .int .i64 t167, .int .i64 t168, .int .i64 t169, .int .i64 t170, .int .i64 t171, .int .i64 t172, .int .i64 t173, .int .i64 t174, .int .i64 t175, .int .i64 t176, .int .i64 t177, .int .i64 t178, .slice Ao46 t179.length co46]) (t := 26) (y := (.tmp 27)) ?hr rfl rfl rfl rfl rfl ?hi rfl ?h1 ?_; (case hd => rfl); (case hg => rfl); (case hr => first | (go_simp; done) | (go_simp; rfl)); (case hi => exact info26); (case h1 => first | rfl | (simp [Value.oneCell']; done) | (simp; done)); intro gb183 hg w47 hbox hb; have n0_ := Aside0.mk (Kd.R_below (by (with_reducible repeat (first | apply Kd.R_alloc | apply Kd.R_drewN | apply Kd.R_drew)); exact HO181.out) hb); have n1_ := Aside0.mk (below_step (by repeat (first | (with_reducible first | exact HB.out | apply below_alloc | apply pw_below_drewN | apply below_drew1) | exact HB.out)) hb); have n2_ := Aside0.mk (hbox); have n3_ := Aside0.mk ((by rw [hg]; exact (below_size (by repeat (first | (with_reducible first | exact HB.out | apply below_alloc | apply pw_below_drewN | apply below_drew1) | exact HB.out))) : w.heap.size ≤ gb183)); have n4_ := Aside0.mk ((by rw [hg]; exact (below_size (by repeat (first | (with_reducible first | exact HB.out | apply below_alloc | apply pw_below_drewN | apply below_drew1) | exact HB.out))) : w.heap.size ≤ gb183)); clear HO181; clear HB; have HO181 := n0_; have HB := n1_; have BK183 := n2_; have GW183 := n3_; have GE183 := n4_; clear n0_ n1_ n2_ n3_ n4_; clear hb hbox hg) | ((with_reducible refine gate_callee (f := 28) rfl ?_); refine goesL_ (some 32) rfl rfl Try.func28 (by kernel_rfl) rfl #[.slice A0 l0.length c0] rfl (by (try simp only [List.map_toArray, List.map_cons, List.map_nil]); first | done | rfl | (simp only [List.length_drop, List.length_take]; rfl)) ?_; (with_reducible refine (celluloidref04_Error.calls kj3 _ _ l0 t191 _ ?side1 ?side2 A42.out).mono ?_); (case side1 => repeat (first | exact (Kd.C_below HR0.out HB.out) | (with_reducible refine Kd.C_alloc ?_ _) | (with_reducible refine Kd.C_drewN ?_ _) | (with_reducible refine Kd.C_drew ?_))); (case side2 => exact HC0.out); rintro e w' ⟨rfl, ⟨nd, rfl⟩⟩; refine ⟨_, rfl, ?_⟩) | (go_at_call 25; (with_reducible refine (celluloidlaw04_awake.calls  t192 _ A44.out).mono ?_); rintro e w48 ⟨rfl, hb⟩; have n0_ := Aside0.mk (Kd.R_below (by (with_reducible repeat (first | apply Kd.R_alloc | apply Kd.R_drewN | apply Kd.R_drew)); exact HO181.out) hb); have n1_ := Aside0.mk (blk_below (g := gb183) (o := .cells #[.int .i64 t163, .int .i64 t164, .int .i64 t165, .int .i64 t166, .int .i64 t167, .int .i64 t168, .int .i64 t169, .int .i64 t170, .int .i64 t171, .int .i64 t172, .int .i64 t173, .int .i64 t174, .int .i64 t175, .int .i64 t176, .int .i64 t177, .int .i64 t178, .slice Ao46 t179.length co46] 26 (0, 0)) (by (with_reducible repeat (first | refine blk_drewN ?_ _ | refine blk_drew ?_ | refine blk_alloc ?_ _)); exact BK183.out) hb); have n2_ := Aside0.mk (below_step (by repeat (first | (with_reducible first | exact HB.out | apply below_alloc | apply pw_below_drewN | apply below_drew1 | refine below_set ?_ GE183.out) | exact HB.out)) hb); clear HO181; clear BK183; clear HB; have HO181 := n0_; have BK183 := n1_; have HB := n2_; clear n0_ n1_ n2_; (try clear hb); (try clear hb2); (try clear hk); (try clear hi)))
                go_ret
                exact ⟨by first | rfl | (simp [errW_none, errW_some] <;> rfl) | (simp [*, errW_none, errW_some] <;> rfl), by repeat (first | (with_reducible first | exact HB.out | apply below_alloc | apply pw_below_drewN | apply below_drew1 | refine below_set ?_ GE183.out) | exact HB.out)⟩
            · rw [if_neg c43] at H
              have c43b0 : (t191 == t182) = false := beq_eq_false_iff_ne.mpr c43
              have c43b1 : (t191 != t182) = true := bne_iff_ne.mpr c43
              first
              | exact absurd (Option.some.inj H) (by rw [hr_.out]; decide)
              | obtain rfl := Option.some.inj H
                go_wp2_with (first | ((with_reducible refine gate_load (t := 26) rfl ?_); refine wpList_load_row rfl 26 _ rfl _ rfl 26 ?lcs (0, 0) _ ?lb Try.underlying26 rfl ?li ?_; (case lb => (with_reducible repeat (first | refine blk_drewN ?_ _ | refine blk_drew ?_ | refine blk_alloc ?_ _)); exact Aside0.out (by assumption)); (case li => exact info26)) | ((with_reducible refine gate_callee (f := 26) rfl ?_); refine goesL_ (some 26) rfl rfl Try.func26 (by kernel_rfl) rfl #[.slice A0 l0.length c0] rfl (by (try simp only [List.map_toArray, List.map_cons, List.map_nil]); first | done | rfl | (simp only [List.length_drop, List.length_take]; rfl)) ?_; (with_reducible refine (huff_New.calls _ _ l0 t163 t164 t165 t166 t167 t168 t169 t170 t171 t172 t173 t174 t175 t176 t177 t178 t179 t182 _ ?side1 ?side2 A9.out).mono ?_); (case side1 => repeat (first | exact (Kd.C_below HR0.out HB.out) | (with_reducible refine Kd.C_alloc ?_ _) | (with_reducible refine Kd.C_drewN ?_ _) | (with_reducible refine Kd.C_drew ?_))); (case side2 => exact HC0.out); rintro e w49 ⟨v180, rfl, ho0, hb⟩; refine ⟨_, rfl, ?_⟩; have n0_ := Aside0.mk (Kd.R_lower ho0 (below_size (by repeat (first | (with_reducible first | exact HB.out | apply below_alloc | apply pw_below_drewN | apply below_drew1) | exact HB.out)))); have n1_ := Aside0.mk (below_step (by repeat (first | (with_reducible first | exact HB.out | apply below_alloc | apply pw_below_drewN | apply below_drew1) | exact HB.out)) hb); clear HB; have HO181 := n0_; have HB := n1_; clear n0_ n1_; (try clear hb); (try clear hb2); (try clear hk); (try clear hi); (try clear ho0); obtain ⟨Ao50, co50, eo50⟩ := Kd.R_slice HO181.out; subst eo50) | ((with_reducible refine gate_dst (N := 7) rfl ?_); (try (refine gate_guard (by rfl) ?_; dsimp only)); refine box2_event ?hg (N := 7) ?hd (cs0 := #[.int .i64 0, .int .i64 0, .int .i64 0, .int .i64 0, .int .i64 0, .int .i64 0, .int .i64 0, .int .i64 0, .int .i64 0, .int .i64 0, .int .i64 0, .int .i64 0, .int .i64 0, .int .i64 0, .int .i64 0, .int .i64 0, .slice none 0 0]) (cs := #[.int .i64 t163, .int .i64 t164, .int .i64 t165, .int .i64 t166, .int .i64 t167, .int .i64 t168, .int .i64 t169, .int .i64 t170, .int .i64 t171, .int .i64 t172, .int .i64 t173, .int .i64 t174, .int .i64 t175, .int .i64 t176, .int .i64 t177, .int .i64 t178, .slice Ao50 t179.length co50]) (t := 26) (y := (.tmp 27)) ?hr rfl rfl rfl rfl rfl ?hi rfl ?h1 ?_; (case hd => rfl); (case hg => rfl); (case hr => first | (go_simp; done) | (go_simp; rfl)); (case hi => exact info26); (case h1 => first | rfl | (simp [Value.oneCell']; done) | (simp; done)); intro gb183 hg w51 hbox hb; have n0_ := Aside0.mk (Kd.R_below (by (with_reducible repeat (first | apply Kd.R_alloc | apply Kd.R_drewN | apply Kd.R_drew)); exact HO181.out) hb); have n1_ := Aside0.mk (below_step (by repeat (first | (with_reducible first | exact HB.out | apply below_alloc | apply pw_below_drewN | apply below_drew1) | exact HB.out)) hb); have n2_ := Aside0.mk (hbox); have n3_ := Aside0.mk ((by rw [hg]; exact (below_size (by repeat (first | (with_reducible first | exact HB.out | apply below_alloc | apply pw_below_drewN | apply below_drew1) | exact HB.out))) : w.heap.size ≤ gb183)); have n4_ := Aside0.mk ((by rw [hg]; exact (below_size (by repeat (first | (with_reducible first | exact HB.out | apply below_alloc | apply pw_below_drewN | apply below_drew1) | exact HB.out))) : w.heap.size ≤ gb183)); clear HO181; clear HB; have HO181 := n0_; have HB := n1_; have BK183 := n2_; have GW183 := n3_; have GE183 := n4_; clear n0_ n1_ n2_ n3_ n4_; clear hb hbox hg) | ((with_reducible refine gate_callee (f := 28) rfl ?_); refine goesL_ (some 32) rfl rfl Try.func28 (by kernel_rfl) rfl #[.slice A0 l0.length c0] rfl (by (try simp only [List.map_toArray, List.map_cons, List.map_nil]); first | done | rfl | (simp only [List.length_drop, List.length_take]; rfl)) ?_; (with_reducible refine (celluloidref04_Error.calls kj3 _ _ l0 t191 _ ?side1 ?side2 A42.out).mono ?_); (case side1 => repeat (first | exact (Kd.C_below HR0.out HB.out) | (with_reducible refine Kd.C_alloc ?_ _) | (with_reducible refine Kd.C_drewN ?_ _) | (with_reducible refine Kd.C_drew ?_))); (case side2 => exact HC0.out); rintro e w' ⟨rfl, ⟨nd, rfl⟩⟩; refine ⟨_, rfl, ?_⟩))
                go_ret
                exact ⟨by first | rfl | (simp [errW_none, errW_some] <;> rfl) | (simp [*, errW_none, errW_some] <;> rfl), by repeat (first | (with_reducible first | exact HB.out | apply below_alloc | apply pw_below_drewN | apply below_drew1 | refine below_set ?_ GE183.out) | exact HB.out)⟩
    
/-- THE ONE PURE STATEMENT of celluloidlaw04_HuffReads: yours. -/
def celluloidlaw04_HuffReads.Pure : Prop := ∀ (l0 : List Int) (a1 : ByteArray) (a2 : Int), l0.length ≤ maxLen → l0.length * 8 ≤ 140737488351232 → (∀ x ∈ l0, (Lit.int .i64 x).wf = true) → a1.size ≤ 140737488351232 → (Lit.int .i64 a2).wf = true → ∃ k, celluloidlaw04_HuffReads.f k l0 a1 a2 = some true
theorem celluloidlaw04_HuffReads.walk (P : celluloidlaw04_HuffReads.Pure) (a0 : Option Addr) (len0 cap0 : Nat) (z0 : List Int) (a1 : ByteArray) (a2 : Int) (w : World) (w0 : (a0 = none ∧ len0 = 0 ∧ cap0 = 0 ∧ z0 = []) ∨ ∃ x, a0 = some x ∧ len0 ≤ cap0 ∧ cap0 ≤ maxLen ∧ z0.length = cap0 ∧ (∀ i, i < z0.length → w.cell? (x.add i) = some (.int .i64 (z0.getD i 0))) ∧ ∀ n ∈ z0, (Lit.int .i64 n).wf = true) (y0 : len0 * 8 ≤ 140737488351232) (w1 : a1.size ≤ 140737488351232) (w2 : (Lit.int .i64 a2).wf = true) :
    Calls Try.prog 4 #[.slice a0 len0 cap0, .string a1, .int .i64 a2] w fun e w' => e = .returned (.bool true) ∧ Below w.heap.size w w' := by
  obtain ⟨l0, rfl, hr0, hm0, hw0, hc0⟩ := ReadsInt.ofRowC w0
  obtain ⟨k, h⟩ := P l0 a1 a2 hm0 y0 hw0 w1 w2
  refine (celluloidlaw04_HuffReads.calls k _ _ l0 a1 a2 true w (Kd.C_of_reads (d := (0 : Int)) (h1 := fun _ => rfl) hr0) hc0 h ⟨rfl⟩).mono ?_
  rintro e w' ⟨rfl, hd⟩
  exact ⟨rfl, hd⟩

end Go.Proofs.Ytpbhkdamkbopkaa.GHuff
