-- Written by a program of this session (wip/tools/print2.py) for this claim.
import Derived.Test.YtpbhkdamkbopkaaGEndsx0
import Derived.Test.YtpbhkdamkbopkaaGEndsx1
namespace Go.Proofs.Ytpbhkdamkbopkaa.GEnds
open Go.RowKit Go.Proofs.YtpbhkdamkbopkaaW.PrintWords Go.Proofs.YtpbhkdamkbopkaaW.PrintLast Go.Proofs.YtpbhkdamkbopkaaW.PrintMore Go.Proofs.Ytpbhkdamkbopkaa.Wr2
attribute [local go_sem] max2_int min2_int max_two min_two max_three min_three max_four min_four   -- for this text's walks alone
set_option linter.unusedVariables false
set_option linter.unusedSimpArgs false

/-! ### celluloidlaw05_InflateStored: function 14 -/
def celluloidlaw05_InflateStored.j0 : Nat → ByteArray → Int → ByteArray → Int → Bool → Option (Bool)
  | 0, _, _, _, _, _ => none
  | k + 1, x0, x1, x12, x13, x80 => if x80 = true then (some false) else (if x1 = 0 then (if x12.toList = x0.toList then (if x13 = 0 then ((celluloidlaw05_awake.f k).bind fun t229 => (some t229)) else (some false)) else (some false)) else (if x12.toList = ([] : List UInt8) then (if x13 = 5 then ((celluloidlaw05_awake.f k).bind fun t230 => (some t230)) else (some false)) else (some false)))
def celluloidlaw05_InflateStored.f (k : Nat) (a0 : ByteArray) (a1 : Int) : Option (Bool) := if (a0.size : Int) > 4096 then ((celluloidlaw05_awake.f k).bind fun t216 => (some t216)) else ((some (([((a0.size : Int)) % 256, ((a0.size : Int) / 256) % 256, (Go.bits .xor .i64 (-1) (a0.size : Int)) % 256, ((Go.bits .xor .i64 (-1) (a0.size : Int)) / 256) % 256] : List Int) : List Int)).bind fun y217 => (if 1 + (strOfNums y217).size ≤ 9223372036854775807 then (if ((⟨#[1]⟩ : ByteArray) ++ (strOfNums y217)).size + a0.size ≤ 9223372036854775807 then ((inflate_Raw.f (((⟨#[1]⟩ : ByteArray) ++ (strOfNums y217)) ++ a0) 4096).bind fun bt220 => ((adler_Sum.f k a0).bind fun t223 => ((some (([(t223 / 16777216) % 256, (t223 / 65536) % 256, (t223 / 256) % 256, Go.bits .xor .u8 ((t223) % 256) a1] : List Int) : List Int)).bind fun y224 => (if 2 + (((⟨#[1]⟩ : ByteArray) ++ (strOfNums y217)) ++ a0).size ≤ 9223372036854775807 then (if ((⟨#[120, 156]⟩ : ByteArray) ++ (((⟨#[1]⟩ : ByteArray) ++ (strOfNums y217)) ++ a0)).size + (strOfNums y224).size ≤ 9223372036854775807 then ((inflate_Open.f k (((⟨#[120, 156]⟩ : ByteArray) ++ (((⟨#[1]⟩ : ByteArray) ++ (strOfNums y217)) ++ a0)) ++ (strOfNums y224)) 4096).bind fun bt227 => (if bt220.1.toList = a0.toList then (if bt220.2.1 = (wrap64 ((a0.size : Int) + 5)) then (celluloidlaw05_InflateStored.j0 k a0 a1 bt227.1 bt227.2 (bt220.2.2 != 0)) else (celluloidlaw05_InflateStored.j0 k a0 a1 bt227.1 bt227.2 true)) else (celluloidlaw05_InflateStored.j0 k a0 a1 bt227.1 bt227.2 true))) else (none)) else (none))))) else (none)) else (none)))
theorem celluloidlaw05_InflateStored.mono_l : ∀ k, (∀ y0 y1 y2 y3 y4, LeO (celluloidlaw05_InflateStored.j0 k y0 y1 y2 y3 y4) (celluloidlaw05_InflateStored.j0 (k + 1) y0 y1 y2 y3 y4))
  | 0 => fun _ _ _ _ _ r h => by simp [celluloidlaw05_InflateStored.j0] at h
  | k + 1 => by
    have ih0 := celluloidlaw05_InflateStored.mono_l k
    · intro y0 y1 y2 y3 y4
      unfold celluloidlaw05_InflateStored.j0
      repeat' first
      | (with_reducible exact ih0 _ _ _ _ _)
      | (with_reducible exact adler_Sum.mono _ _)
      | (with_reducible exact celluloidlaw05_awake.mono _)
      | (with_reducible exact inflate_Open.mono _ _ _)
      | (with_reducible exact LeO.refl _)
      | (with_reducible exact LeO.none _)
      | (with_reducible refine LeO.ite ?_ ?_)
      | (with_reducible refine LeO.bind ?_ (fun _ => ?_))
      | exact ih0 _ _ _ _ _
      | exact adler_Sum.mono _ _
      | exact celluloidlaw05_awake.mono _
      | exact inflate_Open.mono _ _ _
      | exact LeO.none _
      | refine LeO.ite ?_ ?_
      | refine LeO.bind ?_ (fun _ => ?_)
theorem celluloidlaw05_InflateStored.mono : ∀ a0 a1 k, LeO (celluloidlaw05_InflateStored.f k a0 a1) (celluloidlaw05_InflateStored.f (k + 1) a0 a1) := by
  intro a0 a1 k
  have ih0 := celluloidlaw05_InflateStored.mono_l k
  unfold celluloidlaw05_InflateStored.f
  repeat' first
      | (with_reducible exact ih0 _ _ _ _ _)
      | (with_reducible exact adler_Sum.mono _ _)
      | (with_reducible exact celluloidlaw05_awake.mono _)
      | (with_reducible exact inflate_Open.mono _ _ _)
      | (with_reducible exact LeO.refl _)
      | (with_reducible exact LeO.none _)
      | (with_reducible refine LeO.ite ?_ ?_)
      | (with_reducible refine LeO.bind ?_ (fun _ => ?_))
      | exact ih0 _ _ _ _ _
      | exact adler_Sum.mono _ _
      | exact celluloidlaw05_awake.mono _
      | exact inflate_Open.mono _ _ _
      | exact LeO.none _
      | refine LeO.ite ?_ ?_
      | refine LeO.bind ?_ (fun _ => ?_)
theorem celluloidlaw05_InflateStored.j0_dead (k : Nat) : ∀ y0 y1 y2 y3, celluloidlaw05_InflateStored.j0 k y0 y1 y2 y3 true ≠ some true := by
  cases k <;> intros <;> simp [celluloidlaw05_InflateStored.j0]
set_option maxHeartbeats 8000000 in
set_option maxRecDepth 100000 in
theorem celluloidlaw05_InflateStored.calls (k : Nat) (a0 : ByteArray) (a1 : Int) (r : Bool) (w : World) (h : celluloidlaw05_InflateStored.f k a0 a1 = some r) (hr_ : Aside0 (r = true)) :
    Calls Try.prog 14 #[.string a0, .int .u8 a1] w fun e w' => e = .returned (.bool r) ∧ Below w.heap.size w w' := by
  have HB := Aside0.mk (Below.refl w.heap.size w)
  have H : (if (a0.size : Int) > 4096 then ((celluloidlaw05_awake.f k).bind fun t216 => (some t216)) else ((some (([((a0.size : Int)) % 256, ((a0.size : Int) / 256) % 256, (Go.bits .xor .i64 (-1) (a0.size : Int)) % 256, ((Go.bits .xor .i64 (-1) (a0.size : Int)) / 256) % 256] : List Int) : List Int)).bind fun y217 => (if 1 + (strOfNums y217).size ≤ 9223372036854775807 then (if ((⟨#[1]⟩ : ByteArray) ++ (strOfNums y217)).size + a0.size ≤ 9223372036854775807 then ((inflate_Raw.f (((⟨#[1]⟩ : ByteArray) ++ (strOfNums y217)) ++ a0) 4096).bind fun bt220 => ((adler_Sum.f k a0).bind fun t223 => ((some (([(t223 / 16777216) % 256, (t223 / 65536) % 256, (t223 / 256) % 256, Go.bits .xor .u8 ((t223) % 256) a1] : List Int) : List Int)).bind fun y224 => (if 2 + (((⟨#[1]⟩ : ByteArray) ++ (strOfNums y217)) ++ a0).size ≤ 9223372036854775807 then (if ((⟨#[120, 156]⟩ : ByteArray) ++ (((⟨#[1]⟩ : ByteArray) ++ (strOfNums y217)) ++ a0)).size + (strOfNums y224).size ≤ 9223372036854775807 then ((inflate_Open.f k (((⟨#[120, 156]⟩ : ByteArray) ++ (((⟨#[1]⟩ : ByteArray) ++ (strOfNums y217)) ++ a0)) ++ (strOfNums y224)) 4096).bind fun bt227 => (if bt220.1.toList = a0.toList then (if bt220.2.1 = (wrap64 ((a0.size : Int) + 5)) then (celluloidlaw05_InflateStored.j0 k a0 a1 bt227.1 bt227.2 (bt220.2.2 != 0)) else (celluloidlaw05_InflateStored.j0 k a0 a1 bt227.1 bt227.2 true)) else (celluloidlaw05_InflateStored.j0 k a0 a1 bt227.1 bt227.2 true))) else (none)) else (none))))) else (none)) else (none)))) = some r := h
  clear h
  by_cases c3 : (a0.size : Int) > 4096
  · rw [if_pos c3] at H
    have c3b0 : decide (4096 < (a0.size : Int)) = true := decide_eq_true c3
    have c3b1 : decide (4096 < a0.size) = true := decide_eq_true (by omega)
    clear c3
    replace H := Option.bind_eq_some_iff.mp H
    obtain ⟨t216, A40, H⟩ := H
    replace H : (some t216) = some r := H
    have A4 := Aside0.mk A40
    clear A40
    first
    | exact absurd (Option.some.inj H) (by rw [hr_.out]; decide)
    | obtain rfl := Option.some.inj H
      go_enter Try.func14, Try.ntmps14
      go_wp2_with (first | ((with_reducible refine gate_callee (f := 43) rfl ?_); refine goesL_ (some 17) rfl rfl Try.func43 (by kernel_rfl) rfl #[] rfl (by (try simp only [List.map_toArray, List.map_cons, List.map_nil]); first | done | rfl | (simp only [List.length_drop, List.length_take]; rfl)) ?_; (with_reducible refine (celluloidlaw05_awake.calls k  t216 _ A4.out).mono ?_); rintro e w5 ⟨rfl, hb⟩; refine ⟨_, rfl, ?_⟩; have n0_ := Aside0.mk (below_step (by repeat (first | (with_reducible first | exact HB.out | apply below_alloc | apply pw_below_drewN | apply below_drew1) | exact HB.out)) hb); clear HB; have HB := n0_; clear n0_; (try clear hb); (try clear hb2); (try clear hk); (try clear hi)))
      go_ret
      exact ⟨by first | rfl | (simp [errW_none, errW_some] <;> rfl) | (simp [*, errW_none, errW_some] <;> rfl), by repeat (first | (with_reducible first | exact HB.out | apply below_alloc | apply pw_below_drewN | apply below_drew1) | exact HB.out)⟩
  · rw [if_neg c3] at H
    have c3b0 : decide (4096 < (a0.size : Int)) = false := decide_eq_false c3
    have c3b1 : decide (4096 < a0.size) = false := decide_eq_false (by omega)
    clear c3
    obtain ⟨y217, hy217⟩ : ∃ y_ : List Int, y_ = (([((a0.size : Int)) % 256, ((a0.size : Int) / 256) % 256, (Go.bits .xor .i64 (-1) (a0.size : Int)) % 256, ((Go.bits .xor .i64 (-1) (a0.size : Int)) / 256) % 256] : List Int)) := ⟨_, rfl⟩
    replace H : (if 1 + (strOfNums y217).size ≤ 9223372036854775807 then (if ((⟨#[1]⟩ : ByteArray) ++ (strOfNums y217)).size + a0.size ≤ 9223372036854775807 then ((inflate_Raw.f (((⟨#[1]⟩ : ByteArray) ++ (strOfNums y217)) ++ a0) 4096).bind fun bt220 => ((adler_Sum.f k a0).bind fun t223 => ((some (([(t223 / 16777216) % 256, (t223 / 65536) % 256, (t223 / 256) % 256, Go.bits .xor .u8 ((t223) % 256) a1] : List Int) : List Int)).bind fun y224 => (if 2 + (((⟨#[1]⟩ : ByteArray) ++ (strOfNums y217)) ++ a0).size ≤ 9223372036854775807 then (if ((⟨#[120, 156]⟩ : ByteArray) ++ (((⟨#[1]⟩ : ByteArray) ++ (strOfNums y217)) ++ a0)).size + (strOfNums y224).size ≤ 9223372036854775807 then ((inflate_Open.f k (((⟨#[120, 156]⟩ : ByteArray) ++ (((⟨#[1]⟩ : ByteArray) ++ (strOfNums y217)) ++ a0)) ++ (strOfNums y224)) 4096).bind fun bt227 => (if bt220.1.toList = a0.toList then (if bt220.2.1 = (wrap64 ((a0.size : Int) + 5)) then (celluloidlaw05_InflateStored.j0 k a0 a1 bt227.1 bt227.2 (bt220.2.2 != 0)) else (celluloidlaw05_InflateStored.j0 k a0 a1 bt227.1 bt227.2 true)) else (celluloidlaw05_InflateStored.j0 k a0 a1 bt227.1 bt227.2 true))) else (none)) else (none))))) else (none)) else (none)) = some r := by first | (rw [hy217]; with_reducible exact H) | (have H2_ := (Option.bind_some _ _).symm.trans H; rw [hy217]; with_reducible exact H2_) | (have H2_ := (Option.bind_some _ _).symm.trans H; with_reducible exact H2_) | with_reducible exact H | (rw [hy217]; exact H) | exact H
    have Ny217 := Aside0.mk hy217
    clear hy217
    by_cases c6 : 1 + (strOfNums y217).size ≤ 9223372036854775807
    · rw [if_pos c6] at H
      have c6b0 := eq_true c6
      have c6b1 : decide (1 + (strOfNums y217).size ≤ 9223372036854775807) = true := decide_eq_true c6
      try have c6b2 : (9223372036854775807 < 1 + (strOfNums y217).size) = False := eq_false (Nat.not_lt.2 c6)
      by_cases c7 : ((⟨#[1]⟩ : ByteArray) ++ (strOfNums y217)).size + a0.size ≤ 9223372036854775807
      · rw [if_pos c7] at H
        have c7b0 := eq_true c7
        have c7b1 : decide (((⟨#[1]⟩ : ByteArray) ++ (strOfNums y217)).size + a0.size ≤ 9223372036854775807) = true := decide_eq_true c7
        try have c7b2 : (9223372036854775807 < ((⟨#[1]⟩ : ByteArray) ++ (strOfNums y217)).size + a0.size) = False := eq_false (Nat.not_lt.2 c7)
        have c7b3 := c7b2
        simp only [ByteArray.size_append, show (⟨#[1]⟩ : ByteArray).size = 1 from rfl] at c7b3
        replace H := Option.bind_eq_some_iff.mp H
        obtain ⟨⟨t220, t221, t222⟩, A80, H⟩ := H
        replace H : ((adler_Sum.f k a0).bind fun t223 => ((some (([(t223 / 16777216) % 256, (t223 / 65536) % 256, (t223 / 256) % 256, Go.bits .xor .u8 ((t223) % 256) a1] : List Int) : List Int)).bind fun y224 => (if 2 + (((⟨#[1]⟩ : ByteArray) ++ (strOfNums y217)) ++ a0).size ≤ 9223372036854775807 then (if ((⟨#[120, 156]⟩ : ByteArray) ++ (((⟨#[1]⟩ : ByteArray) ++ (strOfNums y217)) ++ a0)).size + (strOfNums y224).size ≤ 9223372036854775807 then ((inflate_Open.f k (((⟨#[120, 156]⟩ : ByteArray) ++ (((⟨#[1]⟩ : ByteArray) ++ (strOfNums y217)) ++ a0)) ++ (strOfNums y224)) 4096).bind fun bt227 => (if t220.toList = a0.toList then (if t221 = (wrap64 ((a0.size : Int) + 5)) then (celluloidlaw05_InflateStored.j0 k a0 a1 bt227.1 bt227.2 (t222 != 0)) else (celluloidlaw05_InflateStored.j0 k a0 a1 bt227.1 bt227.2 true)) else (celluloidlaw05_InflateStored.j0 k a0 a1 bt227.1 bt227.2 true))) else (none)) else (none)))) = some r := H
        have A8 := Aside0.mk A80
        clear A80
        replace H := Option.bind_eq_some_iff.mp H
        obtain ⟨t223, A90, H⟩ := H
        replace H : ((some (([(t223 / 16777216) % 256, (t223 / 65536) % 256, (t223 / 256) % 256, Go.bits .xor .u8 ((t223) % 256) a1] : List Int) : List Int)).bind fun y224 => (if 2 + (((⟨#[1]⟩ : ByteArray) ++ (strOfNums y217)) ++ a0).size ≤ 9223372036854775807 then (if ((⟨#[120, 156]⟩ : ByteArray) ++ (((⟨#[1]⟩ : ByteArray) ++ (strOfNums y217)) ++ a0)).size + (strOfNums y224).size ≤ 9223372036854775807 then ((inflate_Open.f k (((⟨#[120, 156]⟩ : ByteArray) ++ (((⟨#[1]⟩ : ByteArray) ++ (strOfNums y217)) ++ a0)) ++ (strOfNums y224)) 4096).bind fun bt227 => (if t220.toList = a0.toList then (if t221 = (wrap64 ((a0.size : Int) + 5)) then (celluloidlaw05_InflateStored.j0 k a0 a1 bt227.1 bt227.2 (t222 != 0)) else (celluloidlaw05_InflateStored.j0 k a0 a1 bt227.1 bt227.2 true)) else (celluloidlaw05_InflateStored.j0 k a0 a1 bt227.1 bt227.2 true))) else (none)) else (none))) = some r := H
        have A9 := Aside0.mk A90
        clear A90
        obtain ⟨y224, hy224⟩ : ∃ y_ : List Int, y_ = (([(t223 / 16777216) % 256, (t223 / 65536) % 256, (t223 / 256) % 256, Go.bits .xor .u8 ((t223) % 256) a1] : List Int)) := ⟨_, rfl⟩
        replace H : (if 2 + (((⟨#[1]⟩ : ByteArray) ++ (strOfNums y217)) ++ a0).size ≤ 9223372036854775807 then (if ((⟨#[120, 156]⟩ : ByteArray) ++ (((⟨#[1]⟩ : ByteArray) ++ (strOfNums y217)) ++ a0)).size + (strOfNums y224).size ≤ 9223372036854775807 then ((inflate_Open.f k (((⟨#[120, 156]⟩ : ByteArray) ++ (((⟨#[1]⟩ : ByteArray) ++ (strOfNums y217)) ++ a0)) ++ (strOfNums y224)) 4096).bind fun bt227 => (if t220.toList = a0.toList then (if t221 = (wrap64 ((a0.size : Int) + 5)) then (celluloidlaw05_InflateStored.j0 k a0 a1 bt227.1 bt227.2 (t222 != 0)) else (celluloidlaw05_InflateStored.j0 k a0 a1 bt227.1 bt227.2 true)) else (celluloidlaw05_InflateStored.j0 k a0 a1 bt227.1 bt227.2 true))) else (none)) else (none)) = some r := by first | (rw [hy224]; with_reducible exact H) | (have H2_ := (Option.bind_some _ _).symm.trans H; rw [hy224]; with_reducible exact H2_) | (have H2_ := (Option.bind_some _ _).symm.trans H; with_reducible exact H2_) | with_reducible exact H | (rw [hy224]; exact H) | exact H
        have Ny224 := Aside0.mk hy224
        clear hy224
        by_cases c10 : 2 + (((⟨#[1]⟩ : ByteArray) ++ (strOfNums y217)) ++ a0).size ≤ 9223372036854775807
        · rw [if_pos c10] at H
          have c10b0 := eq_true c10
          have c10b1 : decide (2 + (((⟨#[1]⟩ : ByteArray) ++ (strOfNums y217)) ++ a0).size ≤ 9223372036854775807) = true := decide_eq_true c10
          try have c10b2 : (9223372036854775807 < 2 + (((⟨#[1]⟩ : ByteArray) ++ (strOfNums y217)) ++ a0).size) = False := eq_false (Nat.not_lt.2 c10)
          have c10b3 := c10b2
          simp only [ByteArray.size_append, show (⟨#[1]⟩ : ByteArray).size = 1 from rfl] at c10b3
          by_cases c11 : ((⟨#[120, 156]⟩ : ByteArray) ++ (((⟨#[1]⟩ : ByteArray) ++ (strOfNums y217)) ++ a0)).size + (strOfNums y224).size ≤ 9223372036854775807
          · rw [if_pos c11] at H
            have c11b0 := eq_true c11
            have c11b1 : decide (((⟨#[120, 156]⟩ : ByteArray) ++ (((⟨#[1]⟩ : ByteArray) ++ (strOfNums y217)) ++ a0)).size + (strOfNums y224).size ≤ 9223372036854775807) = true := decide_eq_true c11
            try have c11b2 : (9223372036854775807 < ((⟨#[120, 156]⟩ : ByteArray) ++ (((⟨#[1]⟩ : ByteArray) ++ (strOfNums y217)) ++ a0)).size + (strOfNums y224).size) = False := eq_false (Nat.not_lt.2 c11)
            have c11b3 := c11b2
            simp only [ByteArray.size_append, show (⟨#[120, 156]⟩ : ByteArray).size = 2 from rfl, show (⟨#[1]⟩ : ByteArray).size = 1 from rfl] at c11b3
            replace H := Option.bind_eq_some_iff.mp H
            obtain ⟨⟨t227, t228⟩, A120, H⟩ := H
            replace H : (if t220.toList = a0.toList then (if t221 = (wrap64 ((a0.size : Int) + 5)) then (celluloidlaw05_InflateStored.j0 k a0 a1 t227 t228 (t222 != 0)) else (celluloidlaw05_InflateStored.j0 k a0 a1 t227 t228 true)) else (celluloidlaw05_InflateStored.j0 k a0 a1 t227 t228 true)) = some r := H
            have A12 := Aside0.mk A120
            clear A120
            have HC13 := Aside0.mk H
            clear H
            go_enter Try.func14, Try.ntmps14
            go_upto_region 9 with (first | ((with_reducible refine gate_dst (N := 32) rfl ?_); refine Kd.R_lit (Kd.int .u8) _ 5 ?hg (N := 32) ?hd (xs := ([((a0.size : Int)) % 256, ((a0.size : Int) / 256) % 256, (Go.bits .xor .i64 (-1) (a0.size : Int)) % 256, ((Go.bits .xor .i64 (-1) (a0.size : Int)) / 256) % 256] : List Int)) (inner := [.int .u8 (((a0.size : Int)) % 256), .int .u8 (((a0.size : Int) / 256) % 256), .int .u8 ((Go.bits .xor .i64 (-1) (a0.size : Int)) % 256), .int .u8 (((Go.bits .xor .i64 (-1) (a0.size : Int)) / 256) % 256)]) (ok := fun _ => True) (okp := fun _ => True) ?hr ?hp (fun _ hk => hk) trivial (Below.refl _ _) (Nat.le_refl _) (by simp) ?_; (case hd => rfl); (case hg => rfl); (case hr => first | (go_simp; done) | (go_simp; rfl)); (case hp => exact (Reps.one (show Kd.M (Kd.int .u8) _ _ _ (((a0.size : Int)) % 256) [.int .u8 (((a0.size : Int)) % 256)] from rfl) (Reps.one (show Kd.M (Kd.int .u8) _ _ _ (((a0.size : Int) / 256) % 256) [.int .u8 (((a0.size : Int) / 256) % 256)] from rfl) (Reps.one (show Kd.M (Kd.int .u8) _ _ _ ((Go.bits .xor .i64 (-1) (a0.size : Int)) % 256) [.int .u8 ((Go.bits .xor .i64 (-1) (a0.size : Int)) % 256)] from rfl) (Reps.one (show Kd.M (Kd.int .u8) _ _ _ (((Go.bits .xor .i64 (-1) (a0.size : Int)) / 256) % 256) [.int .u8 (((Go.bits .xor .i64 (-1) (a0.size : Int)) / 256) % 256)] from rfl) (Reps.none _ _)))))); intro v218 w14 ho15 hb hg_ hnew_; clear hg_ hnew_; (first | rw [← Ny217.out] at ho15 | (simp only [Int.reduceToNat] at ho15; rw [← Ny217.out] at ho15)); have n0_ := Aside0.mk (Kd.R_lower ho15 (below_size (by repeat (first | (with_reducible first | exact HB.out | apply below_alloc | apply pw_below_drewN | apply below_drew1) | exact HB.out)))); have n1_ := Aside0.mk (below_step (by repeat (first | (with_reducible first | exact HB.out | apply below_alloc | apply pw_below_drewN | apply below_drew1) | exact HB.out)) hb); clear HB; have HO219 := n0_; have HB := n1_; clear n0_ n1_; clear hb ho15; have hcv16 := own_string (P := Try.prog) Try.underlying40 Try.underlying5 Try.underlying9 (Kd.own_of_R HO219.out)) | ((with_reducible refine gate_callee (f := 44) rfl ?_); refine goesL_ (some 39) rfl rfl Try.func44 (by kernel_rfl) rfl #[.string (((⟨#[1]⟩ : ByteArray) ++ (strOfNums y217)) ++ a0), .int .i64 4096] rfl (by (try simp only [List.map_toArray, List.map_cons, List.map_nil]); first | done | rfl | (simp only [List.length_drop, List.length_take]; rfl)) ?_; (with_reducible refine (inflate_Raw.calls (((⟨#[1]⟩ : ByteArray) ++ (strOfNums y217)) ++ a0) 4096 t220 t221 t222 _ A8.out).mono ?_); rintro e w17 ⟨rfl, hb⟩; refine ⟨_, rfl, ?_⟩; have n0_ := Aside0.mk (Kd.R_below (by (with_reducible repeat (first | apply Kd.R_alloc | apply Kd.R_drewN | apply Kd.R_drew)); exact HO219.out) hb); have n1_ := Aside0.mk (below_step (by repeat (first | (with_reducible first | exact HB.out | apply below_alloc | apply pw_below_drewN | apply below_drew1) | exact HB.out)) hb); clear HO219; clear HB; have HO219 := n0_; have HB := n1_; clear n0_ n1_; (try clear hb); (try clear hb2); (try clear hk); (try clear hi)) | ((with_reducible refine gate_callee (f := 48) rfl ?_); refine goesL_ (some 44) rfl rfl Try.func48 (by kernel_rfl) rfl #[.string a0] rfl (by (try simp only [List.map_toArray, List.map_cons, List.map_nil]); first | done | rfl | (simp only [List.length_drop, List.length_take]; rfl)) ?_; (with_reducible refine (adler_Sum.calls k a0 t223 _ A9.out).mono ?_); rintro e w' ⟨rfl, ⟨nd, rfl⟩⟩; refine ⟨_, rfl, ?_⟩) | ((with_reducible refine gate_dst (N := 58) rfl ?_); refine Kd.R_lit (Kd.int .u8) _ 5 ?hg (N := 58) ?hd (xs := ([(t223 / 16777216) % 256, (t223 / 65536) % 256, (t223 / 256) % 256, Go.bits .xor .u8 ((t223) % 256) a1] : List Int)) (inner := [.int .u8 ((t223 / 16777216) % 256), .int .u8 ((t223 / 65536) % 256), .int .u8 ((t223 / 256) % 256), .int .u8 (Go.bits .xor .u8 ((t223) % 256) a1)]) (ok := fun _ => True) (okp := fun _ => True) ?hr ?hp (fun _ hk => hk) trivial (Below.refl _ _) (Nat.le_refl _) (by simp) ?_; (case hd => rfl); (case hg => rfl); (case hr => first | (go_simp; done) | (go_simp; rfl)); (case hp => exact (Reps.one (show Kd.M (Kd.int .u8) _ _ _ ((t223 / 16777216) % 256) [.int .u8 ((t223 / 16777216) % 256)] from rfl) (Reps.one (show Kd.M (Kd.int .u8) _ _ _ ((t223 / 65536) % 256) [.int .u8 ((t223 / 65536) % 256)] from rfl) (Reps.one (show Kd.M (Kd.int .u8) _ _ _ ((t223 / 256) % 256) [.int .u8 ((t223 / 256) % 256)] from rfl) (Reps.one (show Kd.M (Kd.int .u8) _ _ _ (Go.bits .xor .u8 ((t223) % 256) a1) [.int .u8 (Go.bits .xor .u8 ((t223) % 256) a1)] from rfl) (Reps.none _ _)))))); intro v225 w18 ho19 hb hg_ hnew_; clear hg_ hnew_; (first | rw [← Ny224.out] at ho19 | (simp only [Int.reduceToNat] at ho19; rw [← Ny224.out] at ho19)); have n0_ := Aside0.mk (Kd.R_elder' (by (with_reducible repeat (first | apply Kd.R_alloc | apply Kd.R_drewN | apply Kd.R_drew)); exact HO219.out) (Kd.R_base ho19) hb); have n1_ := Aside0.mk (Kd.R_lower (Kd.R_new' ho19 (Kd.R_lt (by (with_reducible repeat (first | apply Kd.R_alloc | apply Kd.R_drewN | apply Kd.R_drew)); exact HO219.out))) (below_size (by repeat (first | (with_reducible first | exact HB.out | apply below_alloc | apply pw_below_drewN | apply below_drew1) | exact HB.out)))); have n2_ := Aside0.mk (below_step (by repeat (first | (with_reducible first | exact HB.out | apply below_alloc | apply pw_below_drewN | apply below_drew1) | exact HB.out)) hb); clear HO219; clear HB; have HO219 := n0_; have HO226 := n1_; have HB := n2_; clear n0_ n1_ n2_; clear hb ho19; have hcv20 := own_string (P := Try.prog) Try.underlying40 Try.underlying5 Try.underlying9 (Kd.own_of_R HO226.out)) | ((with_reducible refine gate_callee (f := 46) rfl ?_); refine goesL_ (some 65) rfl rfl Try.func46 (by kernel_rfl) rfl #[.string (((⟨#[120, 156]⟩ : ByteArray) ++ (((⟨#[1]⟩ : ByteArray) ++ (strOfNums y217)) ++ a0)) ++ (strOfNums y224)), .int .i64 4096] rfl (by (try simp only [List.map_toArray, List.map_cons, List.map_nil]); first | done | rfl | (simp only [List.length_drop, List.length_take]; rfl)) ?_; (with_reducible refine (inflate_Open.calls k (((⟨#[120, 156]⟩ : ByteArray) ++ (((⟨#[1]⟩ : ByteArray) ++ (strOfNums y217)) ++ a0)) ++ (strOfNums y224)) 4096 t227 t228 _ A12.out).mono ?_); rintro e w21 ⟨rfl, hb⟩; refine ⟨_, rfl, ?_⟩; have n0_ := Aside0.mk (Kd.R_below (by (with_reducible repeat (first | apply Kd.R_alloc | apply Kd.R_drewN | apply Kd.R_drew)); exact HO219.out) hb); have n1_ := Aside0.mk (Kd.R_below (by (with_reducible repeat (first | apply Kd.R_alloc | apply Kd.R_drewN | apply Kd.R_drew)); exact HO226.out) hb); have n2_ := Aside0.mk (below_step (by repeat (first | (with_reducible first | exact HB.out | apply below_alloc | apply pw_below_drewN | apply below_drew1) | exact HB.out)) hb); clear HO219; clear HO226; clear HB; have HO219 := n0_; have HO226 := n1_; have HB := n2_; clear n0_ n1_ n2_; (try clear hb); (try clear hb2); (try clear hk); (try clear hi)))
            (try simp only [Act.put, List.setIfInBounds_toArray, List.set_cons_zero, List.set_cons_succ])
            go_cut [80] (fun v80 wc => ∃ (kq : Nat) (x80_12 : Bool), v80 = .bool x80_12 ∧ Aside0 (celluloidlaw05_InflateStored.j0 kq a0 a1 t227 t228 x80_12 = some r) ∧ Aside0 (kq ≤ k) ∧ Aside0 (Below w.heap.size w wc))
            case first =>
              have H := HC13.out
              clear HC13
              by_cases c22 : t220.toList = a0.toList
              · rw [if_pos c22] at H
                have c22b0 : (t220.toList == a0.toList) = true := beq_iff_eq.mpr c22
                have c22b1 : (t220.toList != a0.toList) = false := bne_eq_false_iff_eq.mpr c22
                clear c22
                (first | rw [c22b0] | (simp only [i64_w, i32_w]; rw [c22b0]) | skip)
                by_cases c23 : t221 = (wrap64 ((a0.size : Int) + 5))
                · rw [if_pos c23] at H
                  have c23b0 : (t221 == (wrap64 ((a0.size : Int) + 5))) = true := beq_iff_eq.mpr c23
                  have c23b1 : (t221 != (wrap64 ((a0.size : Int) + 5))) = false := bne_eq_false_iff_eq.mpr c23
                  clear c23
                  have H' := Aside0.mk H
                  clear H
                  go_wp2
                  go_meet
                  case rel => exact ⟨_, ((t222 != 0)), (by first | rfl | (simp; done) | (simp [*]; done)), H', ⟨by first | omega | exact Nat.le_refl _⟩, ⟨by repeat (first | (with_reducible first | exact HB.out | apply below_alloc | apply pw_below_drewN | apply below_drew1) | exact HB.out)⟩⟩
                · rw [if_neg c23] at H
                  have c23b0 : (t221 == (wrap64 ((a0.size : Int) + 5))) = false := beq_eq_false_iff_ne.mpr c23
                  have c23b1 : (t221 != (wrap64 ((a0.size : Int) + 5))) = true := bne_iff_ne.mpr c23
                  exact absurd (H.trans (congrArg some hr_.out)) (celluloidlaw05_InflateStored.j0_dead _ _ _ _ _)
              · rw [if_neg c22] at H
                have c22b0 : (t220.toList == a0.toList) = false := beq_eq_false_iff_ne.mpr c22
                have c22b1 : (t220.toList != a0.toList) = true := bne_iff_ne.mpr c22
                (first | rw [c22b0] | (simp only [i64_w, i32_w]; rw [c22b0]) | skip)
                exact absurd (H.trans (congrArg some hr_.out)) (celluloidlaw05_InflateStored.j0_dead _ _ _ _ _)
            case rest =>
              clear HC13
              try clear c1
              try clear hcv1
              try clear c2
              try clear p2
              try clear hcv2
              try clear c3
              try clear c3b0
              try clear c3b1
              try clear c4
              try clear c6
              try clear c6b0
              try clear c6b1
              try clear c6b2
              try clear p6
              try clear c7
              try clear c7b0
              try clear c7b1
              try clear c7b2
              try clear c10
              try clear c10b0
              try clear c10b1
              try clear c10b2
              try clear c11
              try clear c11b0
              try clear c11b1
              try clear c11b2
              try clear c14
              try clear hcv16
              try clear hcv20
              try clear c22
              try clear c22b0
              try clear c22b1
              try clear c23
              try clear c23b0
              try clear c23b1
              obtain ⟨kq, x80_12, rfl, HA, HJ12, HB⟩ := hcut
              cases kq with
              | zero => exact absurd HA.out (by simp [celluloidlaw05_InflateStored.j0])
              | succ kj12 =>
                have H := HA.out
                clear HA
                simp only [celluloidlaw05_InflateStored.j0] at H
                by_cases c24 : x80_12 = true
                · subst c24
                  have H1 : (some false) = some r := by rw [if_pos rfl] at H; exact H
                  clear H
                  have H := H1
                  clear H1
                  first
                  | exact absurd (Option.some.inj H) (by rw [hr_.out]; decide)
                  | obtain rfl := Option.some.inj H
                    go_wp2
                    go_ret
                    exact ⟨by first | rfl | (simp [errW_none, errW_some] <;> rfl) | (simp [*, errW_none, errW_some] <;> rfl), by repeat (first | (with_reducible first | exact HB.out | apply below_alloc | apply pw_below_drewN | apply below_drew1) | exact HB.out)⟩
                · replace c24 := Bool.eq_false_iff.mpr c24
                  subst c24
                  have H1 : (if a1 = 0 then (if t227.toList = a0.toList then (if t228 = 0 then ((celluloidlaw05_awake.f kj12).bind fun t229 => (some t229)) else (some false)) else (some false)) else (if t227.toList = ([] : List UInt8) then (if t228 = 5 then ((celluloidlaw05_awake.f kj12).bind fun t230 => (some t230)) else (some false)) else (some false))) = some r := by rw [if_neg (show ¬ (false = true) by decide)] at H; exact H
                  clear H
                  have H := H1
                  clear H1
                  by_cases c25 : a1 = 0
                  · rw [if_pos c25] at H
                    have c25b0 : (a1 == 0) = true := beq_iff_eq.mpr c25
                    have c25b1 : (a1 != 0) = false := bne_eq_false_iff_eq.mpr c25
                    clear c25
                    by_cases c26 : t227.toList = a0.toList
                    · rw [if_pos c26] at H
                      have c26b0 : (t227.toList == a0.toList) = true := beq_iff_eq.mpr c26
                      have c26b1 : (t227.toList != a0.toList) = false := bne_eq_false_iff_eq.mpr c26
                      clear c26
                      by_cases c27 : t228 = 0
                      · rw [if_pos c27] at H
                        have c27b0 : (t228 == 0) = true := beq_iff_eq.mpr c27
                        have c27b1 : (t228 != 0) = false := bne_eq_false_iff_eq.mpr c27
                        clear c27
                        replace H := Option.bind_eq_some_iff.mp H
                        obtain ⟨t229, A280, H⟩ := H
                        replace H : (some t229) = some r := H
                        have A28 := Aside0.mk A280
                        clear A280
                        first
                        | exact absurd (Option.some.inj H) (by rw [hr_.out]; decide)
                        | obtain rfl := Option.some.inj H
                          go_wp2_with (first | (go_at_call 43; (with_reducible refine (celluloidlaw05_awake.calls kj12  t229 _ A28.out).mono ?_); rintro e w29 ⟨rfl, hb⟩; have n0_ := Aside0.mk (below_step (by repeat (first | (with_reducible first | exact HB.out | apply below_alloc | apply pw_below_drewN | apply below_drew1) | exact HB.out)) hb); clear HB; have HB := n0_; clear n0_; (try clear hb); (try clear hb2); (try clear hk); (try clear hi)))
                          go_ret
                          exact ⟨by first | rfl | (simp [errW_none, errW_some] <;> rfl) | (simp [*, errW_none, errW_some] <;> rfl), by repeat (first | (with_reducible first | exact HB.out | apply below_alloc | apply pw_below_drewN | apply below_drew1) | exact HB.out)⟩
                      · rw [if_neg c27] at H
                        have c27b0 : (t228 == 0) = false := beq_eq_false_iff_ne.mpr c27
                        have c27b1 : (t228 != 0) = true := bne_iff_ne.mpr c27
                        first
                        | exact absurd (Option.some.inj H) (by rw [hr_.out]; decide)
                        | obtain rfl := Option.some.inj H
                          go_wp2
                          go_ret
                          exact ⟨by first | rfl | (simp [errW_none, errW_some] <;> rfl) | (simp [*, errW_none, errW_some] <;> rfl), by repeat (first | (with_reducible first | exact HB.out | apply below_alloc | apply pw_below_drewN | apply below_drew1) | exact HB.out)⟩
                    · rw [if_neg c26] at H
                      have c26b0 : (t227.toList == a0.toList) = false := beq_eq_false_iff_ne.mpr c26
                      have c26b1 : (t227.toList != a0.toList) = true := bne_iff_ne.mpr c26
                      first
                      | exact absurd (Option.some.inj H) (by rw [hr_.out]; decide)
                      | obtain rfl := Option.some.inj H
                        go_wp2
                        go_ret
                        exact ⟨by first | rfl | (simp [errW_none, errW_some] <;> rfl) | (simp [*, errW_none, errW_some] <;> rfl), by repeat (first | (with_reducible first | exact HB.out | apply below_alloc | apply pw_below_drewN | apply below_drew1) | exact HB.out)⟩
                  · rw [if_neg c25] at H
                    have c25b0 : (a1 == 0) = false := beq_eq_false_iff_ne.mpr c25
                    have c25b1 : (a1 != 0) = true := bne_iff_ne.mpr c25
                    by_cases c30 : t227.toList = ([] : List UInt8)
                    · rw [if_pos c30] at H
                      have c30b0 : (t227.toList == ([] : List UInt8)) = true := beq_iff_eq.mpr c30
                      have c30b1 : (t227.toList != ([] : List UInt8)) = false := bne_eq_false_iff_eq.mpr c30
                      clear c30
                      by_cases c31 : t228 = 5
                      · rw [if_pos c31] at H
                        have c31b0 : (t228 == 5) = true := beq_iff_eq.mpr c31
                        have c31b1 : (t228 != 5) = false := bne_eq_false_iff_eq.mpr c31
                        clear c31
                        replace H := Option.bind_eq_some_iff.mp H
                        obtain ⟨t230, A320, H⟩ := H
                        replace H : (some t230) = some r := H
                        have A32 := Aside0.mk A320
                        clear A320
                        first
                        | exact absurd (Option.some.inj H) (by rw [hr_.out]; decide)
                        | obtain rfl := Option.some.inj H
                          go_wp2_with (first | (go_at_call 43; (with_reducible refine (celluloidlaw05_awake.calls kj12  t230 _ A32.out).mono ?_); rintro e w33 ⟨rfl, hb⟩; have n0_ := Aside0.mk (below_step (by repeat (first | (with_reducible first | exact HB.out | apply below_alloc | apply pw_below_drewN | apply below_drew1) | exact HB.out)) hb); clear HB; have HB := n0_; clear n0_; (try clear hb); (try clear hb2); (try clear hk); (try clear hi)))
                          go_ret
                          exact ⟨by first | rfl | (simp [errW_none, errW_some] <;> rfl) | (simp [*, errW_none, errW_some] <;> rfl), by repeat (first | (with_reducible first | exact HB.out | apply below_alloc | apply pw_below_drewN | apply below_drew1) | exact HB.out)⟩
                      · rw [if_neg c31] at H
                        have c31b0 : (t228 == 5) = false := beq_eq_false_iff_ne.mpr c31
                        have c31b1 : (t228 != 5) = true := bne_iff_ne.mpr c31
                        first
                        | exact absurd (Option.some.inj H) (by rw [hr_.out]; decide)
                        | obtain rfl := Option.some.inj H
                          go_wp2
                          go_ret
                          exact ⟨by first | rfl | (simp [errW_none, errW_some] <;> rfl) | (simp [*, errW_none, errW_some] <;> rfl), by repeat (first | (with_reducible first | exact HB.out | apply below_alloc | apply pw_below_drewN | apply below_drew1) | exact HB.out)⟩
                    · rw [if_neg c30] at H
                      have c30b0 : (t227.toList == ([] : List UInt8)) = false := beq_eq_false_iff_ne.mpr c30
                      have c30b1 : (t227.toList != ([] : List UInt8)) = true := bne_iff_ne.mpr c30
                      first
                      | exact absurd (Option.some.inj H) (by rw [hr_.out]; decide)
                      | obtain rfl := Option.some.inj H
                        go_wp2
                        go_ret
                        exact ⟨by first | rfl | (simp [errW_none, errW_some] <;> rfl) | (simp [*, errW_none, errW_some] <;> rfl), by repeat (first | (with_reducible first | exact HB.out | apply below_alloc | apply pw_below_drewN | apply below_drew1) | exact HB.out)⟩
          · rw [if_neg c11] at H
            exact absurd H (by simp)
        · rw [if_neg c10] at H
          exact absurd H (by simp)
      · rw [if_neg c7] at H
        exact absurd H (by simp)
    · rw [if_neg c6] at H
      exact absurd H (by simp)

/-- THE ONE PURE STATEMENT of celluloidlaw05_InflateStored: yours. -/
def celluloidlaw05_InflateStored.Pure : Prop := ∀ (a0 : ByteArray) (a1 : Int), a0.size ≤ 140737488351232 → (Lit.int .u8 a1).wf = true → ∃ k, celluloidlaw05_InflateStored.f k a0 a1 = some true
theorem celluloidlaw05_InflateStored.walk (P : celluloidlaw05_InflateStored.Pure) (a0 : ByteArray) (a1 : Int) (w : World) (w0 : a0.size ≤ 140737488351232) (w1 : (Lit.int .u8 a1).wf = true) :
    Calls Try.prog 14 #[.string a0, .int .u8 a1] w fun e w' => e = .returned (.bool true) ∧ Below w.heap.size w w' := by
  obtain ⟨k, h⟩ := P a0 a1 w0 w1
  refine (celluloidlaw05_InflateStored.calls k a0 a1 true w h ⟨rfl⟩).mono ?_
  rintro e w' ⟨rfl, hd⟩
  exact ⟨rfl, hd⟩

/-! ### celluloidlaw05_InflateEnds: function 15 -/
mutual
def celluloidlaw05_InflateEnds.j0 : Nat → ByteArray → ByteArray → Int → Bool → Option (Bool)
  | 0, _, _, _, _ => none
  | k + 1, x0, x1, x2, x26 => if x26 = true then ((celluloidlaw05_awake.f k).bind fun t231 => (some t231)) else ((inflate_Raw.f x0 x2).bind fun bt232 => (if bt232.2.2 = 0 then (if bt232.2.1 < 1 then (celluloidlaw05_InflateEnds.j1 k x0 x1 x2 bt232.1 bt232.2.1 true) else (celluloidlaw05_InflateEnds.j1 k x0 x1 x2 bt232.1 bt232.2.1 (decide (bt232.2.1 > (x0.size : Int))))) else (if bt232.1.toList = ([] : List UInt8) then (if bt232.2.1 = 0 then ((celluloidlaw05_awake.f k).bind fun t235 => (some t235)) else (some false)) else (some false))))
def celluloidlaw05_InflateEnds.j1 : Nat → ByteArray → ByteArray → Int → ByteArray → Int → Bool → Option (Bool)
  | 0, _, _, _, _, _, _ => none
  | k + 1, x0, x1, x2, x7, x8, x53 => if x53 = true then (some false) else (if x0.size + x1.size ≤ 9223372036854775807 then ((inflate_Raw.f (x0 ++ x1) x2).bind fun bt236 => (if 0 ≤ x8 then (if x8 ≤ (x0.size : Int) then ((inflate_Raw.f (x0.extract 0 (x8 : Int).toNat) (x7.size : Int)).bind fun bt239 => (if (x7.size : Int) > x2 then (celluloidlaw05_InflateEnds.j2 k x0 x7 true) else (if bt236.1.toList = x7.toList then (if bt236.2.1 = x8 then (if bt236.2.2 = 0 then (if bt239.1.toList = x7.toList then (if bt239.2.1 = x8 then (celluloidlaw05_InflateEnds.j2 k x0 x7 (bt239.2.2 != 0)) else (celluloidlaw05_InflateEnds.j2 k x0 x7 true)) else (celluloidlaw05_InflateEnds.j2 k x0 x7 true)) else (celluloidlaw05_InflateEnds.j2 k x0 x7 true)) else (celluloidlaw05_InflateEnds.j2 k x0 x7 true)) else (celluloidlaw05_InflateEnds.j2 k x0 x7 true)))) else (none)) else (none))) else (none))
def celluloidlaw05_InflateEnds.j2 : Nat → ByteArray → ByteArray → Bool → Option (Bool)
  | 0, _, _, _ => none
  | k + 1, x0, x7, x104 => if x104 = true then (some false) else (if (x7.size : Int) > 0 then ((inflate_Raw.f x0 (wrap64 ((x7.size : Int) - 1))).bind fun bt242 => (if bt242.2.2 = 7 then ((celluloidlaw05_awake.f k).bind fun t245 => (some t245)) else (some false))) else ((celluloidlaw05_awake.f k).bind fun t246 => (some t246)))
end
def celluloidlaw05_InflateEnds.f (k : Nat) (a0 : ByteArray) (a1 : ByteArray) (a2 : Int) : Option (Bool) := if (a0.size : Int) > 1024 then (celluloidlaw05_InflateEnds.j0 k a0 a1 a2 true) else (celluloidlaw05_InflateEnds.j0 k a0 a1 a2 (decide ((a1.size : Int) > 100)))
theorem celluloidlaw05_InflateEnds.mono_l : ∀ k, (∀ y0 y1 y2 y3, LeO (celluloidlaw05_InflateEnds.j0 k y0 y1 y2 y3) (celluloidlaw05_InflateEnds.j0 (k + 1) y0 y1 y2 y3)) ∧ (∀ y0 y1 y2 y3 y4 y5, LeO (celluloidlaw05_InflateEnds.j1 k y0 y1 y2 y3 y4 y5) (celluloidlaw05_InflateEnds.j1 (k + 1) y0 y1 y2 y3 y4 y5)) ∧ (∀ y0 y1 y2, LeO (celluloidlaw05_InflateEnds.j2 k y0 y1 y2) (celluloidlaw05_InflateEnds.j2 (k + 1) y0 y1 y2))
  | 0 => ⟨fun _ _ _ _ r h => by simp [celluloidlaw05_InflateEnds.j0] at h, fun _ _ _ _ _ _ r h => by simp [celluloidlaw05_InflateEnds.j1] at h, fun _ _ _ r h => by simp [celluloidlaw05_InflateEnds.j2] at h⟩
  | k + 1 => by
    obtain ⟨ih0, ih1, ih2⟩ := celluloidlaw05_InflateEnds.mono_l k
    refine ⟨?_, ?_, ?_⟩
    · intro y0 y1 y2 y3
      unfold celluloidlaw05_InflateEnds.j0
      repeat' first
      | (with_reducible exact ih0 _ _ _ _)
      | (with_reducible exact ih1 _ _ _ _ _ _)
      | (with_reducible exact ih2 _ _ _)
      | (with_reducible exact celluloidlaw05_awake.mono _)
      | (with_reducible exact LeO.refl _)
      | (with_reducible exact LeO.none _)
      | (with_reducible refine LeO.ite ?_ ?_)
      | (with_reducible refine LeO.bind ?_ (fun _ => ?_))
      | exact ih0 _ _ _ _
      | exact ih1 _ _ _ _ _ _
      | exact ih2 _ _ _
      | exact celluloidlaw05_awake.mono _
      | exact LeO.none _
      | refine LeO.ite ?_ ?_
      | refine LeO.bind ?_ (fun _ => ?_)
    · intro y0 y1 y2 y3 y4 y5
      unfold celluloidlaw05_InflateEnds.j1
      repeat' first
      | (with_reducible exact ih0 _ _ _ _)
      | (with_reducible exact ih1 _ _ _ _ _ _)
      | (with_reducible exact ih2 _ _ _)
      | (with_reducible exact celluloidlaw05_awake.mono _)
      | (with_reducible exact LeO.refl _)
      | (with_reducible exact LeO.none _)
      | (with_reducible refine LeO.ite ?_ ?_)
      | (with_reducible refine LeO.bind ?_ (fun _ => ?_))
      | exact ih0 _ _ _ _
      | exact ih1 _ _ _ _ _ _
      | exact ih2 _ _ _
      | exact celluloidlaw05_awake.mono _
      | exact LeO.none _
      | refine LeO.ite ?_ ?_
      | refine LeO.bind ?_ (fun _ => ?_)
    · intro y0 y1 y2
      unfold celluloidlaw05_InflateEnds.j2
      repeat' first
      | (with_reducible exact ih0 _ _ _ _)
      | (with_reducible exact ih1 _ _ _ _ _ _)
      | (with_reducible exact ih2 _ _ _)
      | (with_reducible exact celluloidlaw05_awake.mono _)
      | (with_reducible exact LeO.refl _)
      | (with_reducible exact LeO.none _)
      | (with_reducible refine LeO.ite ?_ ?_)
      | (with_reducible refine LeO.bind ?_ (fun _ => ?_))
      | exact ih0 _ _ _ _
      | exact ih1 _ _ _ _ _ _
      | exact ih2 _ _ _
      | exact celluloidlaw05_awake.mono _
      | exact LeO.none _
      | refine LeO.ite ?_ ?_
      | refine LeO.bind ?_ (fun _ => ?_)
theorem celluloidlaw05_InflateEnds.mono : ∀ a0 a1 a2 k, LeO (celluloidlaw05_InflateEnds.f k a0 a1 a2) (celluloidlaw05_InflateEnds.f (k + 1) a0 a1 a2) := by
  intro a0 a1 a2 k
  obtain ⟨ih0, ih1, ih2⟩ := celluloidlaw05_InflateEnds.mono_l k
  unfold celluloidlaw05_InflateEnds.f
  repeat' first
      | (with_reducible exact ih0 _ _ _ _)
      | (with_reducible exact ih1 _ _ _ _ _ _)
      | (with_reducible exact ih2 _ _ _)
      | (with_reducible exact celluloidlaw05_awake.mono _)
      | (with_reducible exact LeO.refl _)
      | (with_reducible exact LeO.none _)
      | (with_reducible refine LeO.ite ?_ ?_)
      | (with_reducible refine LeO.bind ?_ (fun _ => ?_))
      | exact ih0 _ _ _ _
      | exact ih1 _ _ _ _ _ _
      | exact ih2 _ _ _
      | exact celluloidlaw05_awake.mono _
      | exact LeO.none _
      | refine LeO.ite ?_ ?_
      | refine LeO.bind ?_ (fun _ => ?_)
theorem celluloidlaw05_InflateEnds.j1_dead (k : Nat) : ∀ y0 y1 y2 y3 y4, celluloidlaw05_InflateEnds.j1 k y0 y1 y2 y3 y4 true ≠ some true := by
  cases k <;> intros <;> simp [celluloidlaw05_InflateEnds.j1]
theorem celluloidlaw05_InflateEnds.j2_dead (k : Nat) : ∀ y0 y1, celluloidlaw05_InflateEnds.j2 k y0 y1 true ≠ some true := by
  cases k <;> intros <;> simp [celluloidlaw05_InflateEnds.j2]
set_option maxHeartbeats 8000000 in
set_option maxRecDepth 100000 in
theorem celluloidlaw05_InflateEnds.calls (k : Nat) (a0 : ByteArray) (a1 : ByteArray) (a2 : Int) (r : Bool) (w : World) (h : celluloidlaw05_InflateEnds.f k a0 a1 a2 = some r) (hr_ : Aside0 (r = true)) :
    Calls Try.prog 15 #[.string a0, .string a1, .int .i64 a2] w fun e w' => e = .returned (.bool r) ∧ Below w.heap.size w w' := by
  have HB := Aside0.mk (Below.refl w.heap.size w)
  have H : (if (a0.size : Int) > 1024 then (celluloidlaw05_InflateEnds.j0 k a0 a1 a2 true) else (celluloidlaw05_InflateEnds.j0 k a0 a1 a2 (decide ((a1.size : Int) > 100)))) = some r := h
  clear h
  have HC4 := Aside0.mk H
  clear H
  go_enter Try.func15, Try.ntmps15
  go_upto_region 1 with (fail)
  go_cut [26] (fun v26 wc => ∃ (kq : Nat) (x26_3 : Bool), v26 = .bool x26_3 ∧ Aside0 (celluloidlaw05_InflateEnds.j0 kq a0 a1 a2 x26_3 = some r) ∧ Aside0 (kq ≤ k) ∧ Aside0 (Below w.heap.size w wc))
  case first =>
    have H := HC4.out
    clear HC4
    by_cases c5 : (a0.size : Int) > 1024
    · rw [if_pos c5] at H
      have c5b0 : decide (1024 < (a0.size : Int)) = true := decide_eq_true c5
      have c5b1 : decide (1024 < a0.size) = true := decide_eq_true (by omega)
      clear c5
      (first | rw [c5b0] | (simp only [i64_w, i32_w]; rw [c5b0]) | skip)
      have H' := Aside0.mk H
      clear H
      go_wp2
      go_meet
      case rel => exact ⟨_, (true), (by first | rfl | (simp; done) | (simp [*]; done)), H', ⟨by first | omega | exact Nat.le_refl _⟩, ⟨by repeat (first | (with_reducible first | exact HB.out | apply below_alloc | apply pw_below_drewN | apply below_drew1) | exact HB.out)⟩⟩
    · rw [if_neg c5] at H
      have c5b0 : decide (1024 < (a0.size : Int)) = false := decide_eq_false c5
      have c5b1 : decide (1024 < a0.size) = false := decide_eq_false (by omega)
      clear c5
      (first | rw [c5b0] | (simp only [i64_w, i32_w]; rw [c5b0]) | skip)
      have H' := Aside0.mk H
      clear H
      go_wp2
      go_meet
      case rel => exact ⟨_, (decide ((a1.size : Int) > 100)), (by first | rfl | (simp; done) | (simp [*]; done)), H', ⟨by first | omega | exact Nat.le_refl _⟩, ⟨by repeat (first | (with_reducible first | exact HB.out | apply below_alloc | apply pw_below_drewN | apply below_drew1) | exact HB.out)⟩⟩
  case rest =>
    clear HC4
    try clear c1
    try clear p2
    try clear c5
    try clear c5b0
    try clear c5b1
    obtain ⟨kq, x26_3, rfl, HA, HJ3, HB⟩ := hcut
    cases kq with
    | zero => exact absurd HA.out (by simp [celluloidlaw05_InflateEnds.j0])
    | succ kj3 =>
      have H := HA.out
      clear HA
      simp only [celluloidlaw05_InflateEnds.j0] at H
      by_cases c6 : x26_3 = true
      · subst c6
        have H1 : ((celluloidlaw05_awake.f kj3).bind fun t231 => (some t231)) = some r := by rw [if_pos rfl] at H; exact H
        clear H
        have H := H1
        clear H1
        replace H := Option.bind_eq_some_iff.mp H
        obtain ⟨t231, A70, H⟩ := H
        replace H : (some t231) = some r := H
        have A7 := Aside0.mk A70
        clear A70
        first
        | exact absurd (Option.some.inj H) (by rw [hr_.out]; decide)
        | obtain rfl := Option.some.inj H
          go_wp2_with (first | ((with_reducible refine gate_callee (f := 43) rfl ?_); refine goesL_ (some 27) rfl rfl Try.func43 (by kernel_rfl) rfl #[] rfl (by (try simp only [List.map_toArray, List.map_cons, List.map_nil]); first | done | rfl | (simp only [List.length_drop, List.length_take]; rfl)) ?_; (with_reducible refine (celluloidlaw05_awake.calls kj3  t231 _ A7.out).mono ?_); rintro e w8 ⟨rfl, hb⟩; refine ⟨_, rfl, ?_⟩; have n0_ := Aside0.mk (below_step (by repeat (first | (with_reducible first | exact HB.out | apply below_alloc | apply pw_below_drewN | apply below_drew1) | exact HB.out)) hb); clear HB; have HB := n0_; clear n0_; (try clear hb); (try clear hb2); (try clear hk); (try clear hi)))
          go_ret
          exact ⟨by first | rfl | (simp [errW_none, errW_some] <;> rfl) | (simp [*, errW_none, errW_some] <;> rfl), by repeat (first | (with_reducible first | exact HB.out | apply below_alloc | apply pw_below_drewN | apply below_drew1) | exact HB.out)⟩
      · replace c6 := Bool.eq_false_iff.mpr c6
        subst c6
        have H1 : ((inflate_Raw.f a0 a2).bind fun bt232 => (if bt232.2.2 = 0 then (if bt232.2.1 < 1 then (celluloidlaw05_InflateEnds.j1 kj3 a0 a1 a2 bt232.1 bt232.2.1 true) else (celluloidlaw05_InflateEnds.j1 kj3 a0 a1 a2 bt232.1 bt232.2.1 (decide (bt232.2.1 > (a0.size : Int))))) else (if bt232.1.toList = ([] : List UInt8) then (if bt232.2.1 = 0 then ((celluloidlaw05_awake.f kj3).bind fun t235 => (some t235)) else (some false)) else (some false)))) = some r := by rw [if_neg (show ¬ (false = true) by decide)] at H; exact H
        clear H
        have H := H1
        clear H1
        replace H := Option.bind_eq_some_iff.mp H
        obtain ⟨⟨t232, t233, t234⟩, A90, H⟩ := H
        replace H : (if t234 = 0 then (if t233 < 1 then (celluloidlaw05_InflateEnds.j1 kj3 a0 a1 a2 t232 t233 true) else (celluloidlaw05_InflateEnds.j1 kj3 a0 a1 a2 t232 t233 (decide (t233 > (a0.size : Int))))) else (if t232.toList = ([] : List UInt8) then (if t233 = 0 then ((celluloidlaw05_awake.f kj3).bind fun t235 => (some t235)) else (some false)) else (some false))) = some r := H
        have A9 := Aside0.mk A90
        clear A90
        by_cases c10 : t234 = 0
        · rw [if_pos c10] at H
          have c10b0 : (t234 == 0) = true := beq_iff_eq.mpr c10
          have c10b1 : (t234 != 0) = false := bne_eq_false_iff_eq.mpr c10
          clear c10
          have HC11 := Aside0.mk H
          clear H
          go_upto_region 6 with (first | ((with_reducible refine gate_callee (f := 44) rfl ?_); refine goesL_ (some 31) rfl rfl Try.func44 (by kernel_rfl) rfl #[.string a0, .int .i64 a2] rfl (by (try simp only [List.map_toArray, List.map_cons, List.map_nil]); first | done | rfl | (simp only [List.length_drop, List.length_take]; rfl)) ?_; (with_reducible refine (inflate_Raw.calls a0 a2 t232 t233 t234 _ A9.out).mono ?_); rintro e w12 ⟨rfl, hb⟩; refine ⟨_, rfl, ?_⟩; have n0_ := Aside0.mk (below_step (by repeat (first | (with_reducible first | exact HB.out | apply below_alloc | apply pw_below_drewN | apply below_drew1) | exact HB.out)) hb); clear HB; have HB := n0_; clear n0_; (try clear hb); (try clear hb2); (try clear hk); (try clear hi)))
          (try simp only [Act.put, List.setIfInBounds_toArray, List.set_cons_zero, List.set_cons_succ])
          go_cut [53] (fun v53 wc => ∃ (kq : Nat) (x53_10 : Bool), v53 = .bool x53_10 ∧ Aside0 (celluloidlaw05_InflateEnds.j1 kq a0 a1 a2 t232 t233 x53_10 = some r) ∧ Aside0 (kq ≤ kj3) ∧ Aside0 (Below w.heap.size w wc))
          case first =>
            have H := HC11.out
            clear HC11
            by_cases c13 : t233 < 1
            · rw [if_pos c13] at H
              have c13b0 : decide (t233 < 1) = true := decide_eq_true c13
              clear c13
              (first | rw [c13b0] | (simp only [i64_w, i32_w]; rw [c13b0]) | skip)
              exact absurd (H.trans (congrArg some hr_.out)) (celluloidlaw05_InflateEnds.j1_dead _ _ _ _ _ _)
            · rw [if_neg c13] at H
              have c13b0 : decide (t233 < 1) = false := decide_eq_false c13
              clear c13
              (first | rw [c13b0] | (simp only [i64_w, i32_w]; rw [c13b0]) | skip)
              have H' := Aside0.mk H
              clear H
              go_wp2
              go_meet
              case rel => exact ⟨_, (decide (t233 > (a0.size : Int))), (by first | rfl | (simp; done) | (simp [*]; done)), H', ⟨by have := HJ3.out; first | omega | exact Nat.le_refl _⟩, ⟨by repeat (first | (with_reducible first | exact HB.out | apply below_alloc | apply pw_below_drewN | apply below_drew1) | exact HB.out)⟩⟩
          case rest =>
            clear HC11
            try clear c1
            try clear p2
            try clear c4
            try clear c5
            try clear c5b0
            try clear c5b1
            try clear c6
            try clear c10
            try clear c10b0
            try clear c10b1
            try clear c13
            try clear c13b0
            try clear p2
            obtain ⟨kq, x53_10, rfl, HA, HJ10, HB⟩ := hcut
            cases kq with
            | zero => exact absurd HA.out (by simp [celluloidlaw05_InflateEnds.j1])
            | succ kj10 =>
              have H := HA.out
              clear HA
              simp only [celluloidlaw05_InflateEnds.j1] at H
              by_cases c14 : x53_10 = true
              · subst c14
                have H1 : (some false) = some r := by rw [if_pos rfl] at H; exact H
                clear H
                have H := H1
                clear H1
                first
                | exact absurd (Option.some.inj H) (by rw [hr_.out]; decide)
                | obtain rfl := Option.some.inj H
                  go_wp2
                  go_ret
                  exact ⟨by first | rfl | (simp [errW_none, errW_some] <;> rfl) | (simp [*, errW_none, errW_some] <;> rfl), by repeat (first | (with_reducible first | exact HB.out | apply below_alloc | apply pw_below_drewN | apply below_drew1) | exact HB.out)⟩
              · replace c14 := Bool.eq_false_iff.mpr c14
                subst c14
                have H1 : (if a0.size + a1.size ≤ 9223372036854775807 then ((inflate_Raw.f (a0 ++ a1) a2).bind fun bt236 => (if 0 ≤ t233 then (if t233 ≤ (a0.size : Int) then ((inflate_Raw.f (a0.extract 0 (t233 : Int).toNat) (t232.size : Int)).bind fun bt239 => (if (t232.size : Int) > a2 then (celluloidlaw05_InflateEnds.j2 kj10 a0 t232 true) else (if bt236.1.toList = t232.toList then (if bt236.2.1 = t233 then (if bt236.2.2 = 0 then (if bt239.1.toList = t232.toList then (if bt239.2.1 = t233 then (celluloidlaw05_InflateEnds.j2 kj10 a0 t232 (bt239.2.2 != 0)) else (celluloidlaw05_InflateEnds.j2 kj10 a0 t232 true)) else (celluloidlaw05_InflateEnds.j2 kj10 a0 t232 true)) else (celluloidlaw05_InflateEnds.j2 kj10 a0 t232 true)) else (celluloidlaw05_InflateEnds.j2 kj10 a0 t232 true)) else (celluloidlaw05_InflateEnds.j2 kj10 a0 t232 true)))) else (none)) else (none))) else (none)) = some r := by rw [if_neg (show ¬ (false = true) by decide)] at H; exact H
                clear H
                have H := H1
                clear H1
                by_cases c15 : a0.size + a1.size ≤ 9223372036854775807
                · rw [if_pos c15] at H
                  have c15b0 := eq_true c15
                  have c15b1 : decide (a0.size + a1.size ≤ 9223372036854775807) = true := decide_eq_true c15
                  try have c15b2 : (9223372036854775807 < a0.size + a1.size) = False := eq_false (Nat.not_lt.2 c15)
                  replace H := Option.bind_eq_some_iff.mp H
                  obtain ⟨⟨t236, t237, t238⟩, A160, H⟩ := H
                  replace H : (if 0 ≤ t233 then (if t233 ≤ (a0.size : Int) then ((inflate_Raw.f (a0.extract 0 (t233 : Int).toNat) (t232.size : Int)).bind fun bt239 => (if (t232.size : Int) > a2 then (celluloidlaw05_InflateEnds.j2 kj10 a0 t232 true) else (if t236.toList = t232.toList then (if t237 = t233 then (if t238 = 0 then (if bt239.1.toList = t232.toList then (if bt239.2.1 = t233 then (celluloidlaw05_InflateEnds.j2 kj10 a0 t232 (bt239.2.2 != 0)) else (celluloidlaw05_InflateEnds.j2 kj10 a0 t232 true)) else (celluloidlaw05_InflateEnds.j2 kj10 a0 t232 true)) else (celluloidlaw05_InflateEnds.j2 kj10 a0 t232 true)) else (celluloidlaw05_InflateEnds.j2 kj10 a0 t232 true)) else (celluloidlaw05_InflateEnds.j2 kj10 a0 t232 true)))) else (none)) else (none)) = some r := H
                  have A16 := Aside0.mk A160
                  clear A160
                  by_cases c17 : 0 ≤ t233
                  · rw [if_pos c17] at H
                    have c17b0 := eq_true c17
                    have c17b1 : decide (0 ≤ t233) = true := decide_eq_true c17
                    clear c17
                    by_cases c18 : t233 ≤ (a0.size : Int)
                    · rw [if_pos c18] at H
                      have c18b0 := eq_true c18
                      have c18b1 : decide (t233 ≤ (a0.size : Int)) = true := decide_eq_true c18
                      clear c18
                      replace H := Option.bind_eq_some_iff.mp H
                      obtain ⟨⟨t239, t240, t241⟩, A190, H⟩ := H
                      replace H : (if (t232.size : Int) > a2 then (celluloidlaw05_InflateEnds.j2 kj10 a0 t232 true) else (if t236.toList = t232.toList then (if t237 = t233 then (if t238 = 0 then (if t239.toList = t232.toList then (if t240 = t233 then (celluloidlaw05_InflateEnds.j2 kj10 a0 t232 (t241 != 0)) else (celluloidlaw05_InflateEnds.j2 kj10 a0 t232 true)) else (celluloidlaw05_InflateEnds.j2 kj10 a0 t232 true)) else (celluloidlaw05_InflateEnds.j2 kj10 a0 t232 true)) else (celluloidlaw05_InflateEnds.j2 kj10 a0 t232 true)) else (celluloidlaw05_InflateEnds.j2 kj10 a0 t232 true))) = some r := H
                      have A19 := Aside0.mk A190
                      clear A190
                      have HC20 := Aside0.mk H
                      clear H
                      go_upto_region 10 with (first | ((with_reducible refine gate_callee (f := 44) rfl ?_); refine goesL_ (some 59) rfl rfl Try.func44 (by kernel_rfl) rfl #[.string (a0 ++ a1), .int .i64 a2] rfl (by (try simp only [List.map_toArray, List.map_cons, List.map_nil]); first | done | rfl | (simp only [List.length_drop, List.length_take]; rfl)) ?_; (with_reducible refine (inflate_Raw.calls (a0 ++ a1) a2 t236 t237 t238 _ A16.out).mono ?_); rintro e w21 ⟨rfl, hb⟩; refine ⟨_, rfl, ?_⟩; have n0_ := Aside0.mk (below_step (by repeat (first | (with_reducible first | exact HB.out | apply below_alloc | apply pw_below_drewN | apply below_drew1) | exact HB.out)) hb); clear HB; have HB := n0_; clear n0_; (try clear hb); (try clear hb2); (try clear hk); (try clear hi)) | ((with_reducible refine gate_callee (f := 44) rfl ?_); refine goesL_ (some 69) rfl rfl Try.func44 (by kernel_rfl) rfl #[.string (a0.extract 0 (t233 : Int).toNat), .int .i64 (t232.size : Int)] rfl (by (try simp only [List.map_toArray, List.map_cons, List.map_nil]); first | done | rfl | (simp only [List.length_drop, List.length_take]; rfl)) ?_; (with_reducible refine (inflate_Raw.calls (a0.extract 0 (t233 : Int).toNat) (t232.size : Int) t239 t240 t241 _ A19.out).mono ?_); rintro e w22 ⟨rfl, hb⟩; refine ⟨_, rfl, ?_⟩; have n0_ := Aside0.mk (below_step (by repeat (first | (with_reducible first | exact HB.out | apply below_alloc | apply pw_below_drewN | apply below_drew1) | exact HB.out)) hb); clear HB; have HB := n0_; clear n0_; (try clear hb); (try clear hb2); (try clear hk); (try clear hi)))
                      (try simp only [Act.put, List.setIfInBounds_toArray, List.set_cons_zero, List.set_cons_succ])
                      go_cut [104] (fun v104 wc => ∃ (kq : Nat) (x104_19 : Bool), v104 = .bool x104_19 ∧ Aside0 (celluloidlaw05_InflateEnds.j2 kq a0 t232 x104_19 = some r) ∧ Aside0 (kq ≤ kj10) ∧ Aside0 (Below w.heap.size w wc))
                      case first =>
                        have H := HC20.out
                        clear HC20
                        by_cases c23 : (t232.size : Int) > a2
                        · rw [if_pos c23] at H
                          have c23b0 : decide (a2 < (t232.size : Int)) = true := decide_eq_true c23
                          clear c23
                          (first | rw [c23b0] | (simp only [i64_w, i32_w]; rw [c23b0]) | skip)
                          exact absurd (H.trans (congrArg some hr_.out)) (celluloidlaw05_InflateEnds.j2_dead _ _ _)
                        · rw [if_neg c23] at H
                          have c23b0 : decide (a2 < (t232.size : Int)) = false := decide_eq_false c23
                          clear c23
                          (first | rw [c23b0] | (simp only [i64_w, i32_w]; rw [c23b0]) | skip)
                          by_cases c24 : t236.toList = t232.toList
                          · rw [if_pos c24] at H
                            have c24b0 : (t236.toList == t232.toList) = true := beq_iff_eq.mpr c24
                            have c24b1 : (t236.toList != t232.toList) = false := bne_eq_false_iff_eq.mpr c24
                            clear c24
                            by_cases c25 : t237 = t233
                            · rw [if_pos c25] at H
                              have c25b0 : (t237 == t233) = true := beq_iff_eq.mpr c25
                              have c25b1 : (t237 != t233) = false := bne_eq_false_iff_eq.mpr c25
                              clear c25
                              by_cases c26 : t238 = 0
                              · rw [if_pos c26] at H
                                have c26b0 : (t238 == 0) = true := beq_iff_eq.mpr c26
                                have c26b1 : (t238 != 0) = false := bne_eq_false_iff_eq.mpr c26
                                clear c26
                                by_cases c27 : t239.toList = t232.toList
                                · rw [if_pos c27] at H
                                  have c27b0 : (t239.toList == t232.toList) = true := beq_iff_eq.mpr c27
                                  have c27b1 : (t239.toList != t232.toList) = false := bne_eq_false_iff_eq.mpr c27
                                  clear c27
                                  by_cases c28 : t240 = t233
                                  · rw [if_pos c28] at H
                                    have c28b0 : (t240 == t233) = true := beq_iff_eq.mpr c28
                                    have c28b1 : (t240 != t233) = false := bne_eq_false_iff_eq.mpr c28
                                    clear c28
                                    have H' := Aside0.mk H
                                    clear H
                                    go_wp2
                                    go_meet
                                    case rel => exact ⟨_, ((t241 != 0)), (by first | rfl | (simp; done) | (simp [*]; done)), H', ⟨by have := HJ3.out; have := HJ10.out; first | omega | exact Nat.le_refl _⟩, ⟨by repeat (first | (with_reducible first | exact HB.out | apply below_alloc | apply pw_below_drewN | apply below_drew1) | exact HB.out)⟩⟩
                                  · rw [if_neg c28] at H
                                    have c28b0 : (t240 == t233) = false := beq_eq_false_iff_ne.mpr c28
                                    have c28b1 : (t240 != t233) = true := bne_iff_ne.mpr c28
                                    exact absurd (H.trans (congrArg some hr_.out)) (celluloidlaw05_InflateEnds.j2_dead _ _ _)
                                · rw [if_neg c27] at H
                                  have c27b0 : (t239.toList == t232.toList) = false := beq_eq_false_iff_ne.mpr c27
                                  have c27b1 : (t239.toList != t232.toList) = true := bne_iff_ne.mpr c27
                                  exact absurd (H.trans (congrArg some hr_.out)) (celluloidlaw05_InflateEnds.j2_dead _ _ _)
                              · rw [if_neg c26] at H
                                have c26b0 : (t238 == 0) = false := beq_eq_false_iff_ne.mpr c26
                                have c26b1 : (t238 != 0) = true := bne_iff_ne.mpr c26
                                exact absurd (H.trans (congrArg some hr_.out)) (celluloidlaw05_InflateEnds.j2_dead _ _ _)
                            · rw [if_neg c25] at H
                              have c25b0 : (t237 == t233) = false := beq_eq_false_iff_ne.mpr c25
                              have c25b1 : (t237 != t233) = true := bne_iff_ne.mpr c25
                              exact absurd (H.trans (congrArg some hr_.out)) (celluloidlaw05_InflateEnds.j2_dead _ _ _)
                          · rw [if_neg c24] at H
                            have c24b0 : (t236.toList == t232.toList) = false := beq_eq_false_iff_ne.mpr c24
                            have c24b1 : (t236.toList != t232.toList) = true := bne_iff_ne.mpr c24
                            exact absurd (H.trans (congrArg some hr_.out)) (celluloidlaw05_InflateEnds.j2_dead _ _ _)
                      case rest =>
                        clear HC20
                        try clear c1
                        try clear c2
                        try clear p2
                        try clear c4
                        try clear c5
                        try clear c5b0
                        try clear c5b1
                        try clear c6
                        try clear c10
                        try clear c10b0
                        try clear c10b1
                        try clear c13
                        try clear c13b0
                        try clear c14
                        try clear c15
                        try clear c15b0
                        try clear c15b1
                        try clear c15b2
                        try clear c17
                        try clear c17b0
                        try clear c17b1
                        try clear c18
                        try clear c18b0
                        try clear c18b1
                        try clear c23
                        try clear c23b0
                        try clear c24
                        try clear c24b0
                        try clear c24b1
                        try clear c25
                        try clear c25b0
                        try clear c25b1
                        try clear c26
                        try clear c26b0
                        try clear c26b1
                        try clear c27
                        try clear c27b0
                        try clear c27b1
                        try clear c28
                        try clear c28b0
                        try clear c28b1
                        try clear p2
                        obtain ⟨kq, x104_19, rfl, HA, HJ19, HB⟩ := hcut
                        cases kq with
                        | zero => exact absurd HA.out (by simp [celluloidlaw05_InflateEnds.j2])
                        | succ kj19 =>
                          have H := HA.out
                          clear HA
                          simp only [celluloidlaw05_InflateEnds.j2] at H
                          by_cases c29 : x104_19 = true
                          · subst c29
                            have H1 : (some false) = some r := by rw [if_pos rfl] at H; exact H
                            clear H
                            have H := H1
                            clear H1
                            first
                            | exact absurd (Option.some.inj H) (by rw [hr_.out]; decide)
                            | obtain rfl := Option.some.inj H
                              go_wp2
                              go_ret
                              exact ⟨by first | rfl | (simp [errW_none, errW_some] <;> rfl) | (simp [*, errW_none, errW_some] <;> rfl), by repeat (first | (with_reducible first | exact HB.out | apply below_alloc | apply pw_below_drewN | apply below_drew1) | exact HB.out)⟩
                          · replace c29 := Bool.eq_false_iff.mpr c29
                            subst c29
                            have H1 : (if (t232.size : Int) > 0 then ((inflate_Raw.f a0 (wrap64 ((t232.size : Int) - 1))).bind fun bt242 => (if bt242.2.2 = 7 then ((celluloidlaw05_awake.f kj19).bind fun t245 => (some t245)) else (some false))) else ((celluloidlaw05_awake.f kj19).bind fun t246 => (some t246))) = some r := by rw [if_neg (show ¬ (false = true) by decide)] at H; exact H
                            clear H
                            have H := H1
                            clear H1
                            by_cases c30 : (t232.size : Int) > 0
                            · rw [if_pos c30] at H
                              have c30b0 : decide (0 < (t232.size : Int)) = true := decide_eq_true c30
                              have c30b1 : decide (0 < t232.size) = true := decide_eq_true (by omega)
                              clear c30
                              replace H := Option.bind_eq_some_iff.mp H
                              obtain ⟨⟨t242, t243, t244⟩, A310, H⟩ := H
                              replace H : (if t244 = 7 then ((celluloidlaw05_awake.f kj19).bind fun t245 => (some t245)) else (some false)) = some r := H
                              have A31 := Aside0.mk A310
                              clear A310
                              by_cases c32 : t244 = 7
                              · rw [if_pos c32] at H
                                have c32b0 : (t244 == 7) = true := beq_iff_eq.mpr c32
                                have c32b1 : (t244 != 7) = false := bne_eq_false_iff_eq.mpr c32
                                clear c32
                                replace H := Option.bind_eq_some_iff.mp H
                                obtain ⟨t245, A330, H⟩ := H
                                replace H : (some t245) = some r := H
                                have A33 := Aside0.mk A330
                                clear A330
                                first
                                | exact absurd (Option.some.inj H) (by rw [hr_.out]; decide)
                                | obtain rfl := Option.some.inj H
                                  go_wp2_with (first | ((with_reducible refine gate_callee (f := 44) rfl ?_); refine goesL_ (some 113) rfl rfl Try.func44 (by kernel_rfl) rfl #[.string a0, .int .i64 (wrap64 ((t232.size : Int) - 1))] rfl (by (try simp only [List.map_toArray, List.map_cons, List.map_nil]); first | done | rfl | (simp only [List.length_drop, List.length_take]; rfl)) ?_; (with_reducible refine (inflate_Raw.calls a0 (wrap64 ((t232.size : Int) - 1)) t242 t243 t244 _ A31.out).mono ?_); rintro e w34 ⟨rfl, hb⟩; refine ⟨_, rfl, ?_⟩; have n0_ := Aside0.mk (below_step (by repeat (first | (with_reducible first | exact HB.out | apply below_alloc | apply pw_below_drewN | apply below_drew1) | exact HB.out)) hb); clear HB; have HB := n0_; clear n0_; (try clear hb); (try clear hb2); (try clear hk); (try clear hi)) | (go_at_call 43; (with_reducible refine (celluloidlaw05_awake.calls kj19  t245 _ A33.out).mono ?_); rintro e w35 ⟨rfl, hb⟩; have n0_ := Aside0.mk (below_step (by repeat (first | (with_reducible first | exact HB.out | apply below_alloc | apply pw_below_drewN | apply below_drew1) | exact HB.out)) hb); clear HB; have HB := n0_; clear n0_; (try clear hb); (try clear hb2); (try clear hk); (try clear hi)))
                                  go_ret
                                  exact ⟨by first | rfl | (simp [errW_none, errW_some] <;> rfl) | (simp [*, errW_none, errW_some] <;> rfl), by repeat (first | (with_reducible first | exact HB.out | apply below_alloc | apply pw_below_drewN | apply below_drew1) | exact HB.out)⟩
                              · rw [if_neg c32] at H
                                have c32b0 : (t244 == 7) = false := beq_eq_false_iff_ne.mpr c32
                                have c32b1 : (t244 != 7) = true := bne_iff_ne.mpr c32
                                first
                                | exact absurd (Option.some.inj H) (by rw [hr_.out]; decide)
                                | obtain rfl := Option.some.inj H
                                  go_wp2_with (first | ((with_reducible refine gate_callee (f := 44) rfl ?_); refine goesL_ (some 113) rfl rfl Try.func44 (by kernel_rfl) rfl #[.string a0, .int .i64 (wrap64 ((t232.size : Int) - 1))] rfl (by (try simp only [List.map_toArray, List.map_cons, List.map_nil]); first | done | rfl | (simp only [List.length_drop, List.length_take]; rfl)) ?_; (with_reducible refine (inflate_Raw.calls a0 (wrap64 ((t232.size : Int) - 1)) t242 t243 t244 _ A31.out).mono ?_); rintro e w36 ⟨rfl, hb⟩; refine ⟨_, rfl, ?_⟩; have n0_ := Aside0.mk (below_step (by repeat (first | (with_reducible first | exact HB.out | apply below_alloc | apply pw_below_drewN | apply below_drew1) | exact HB.out)) hb); clear HB; have HB := n0_; clear n0_; (try clear hb); (try clear hb2); (try clear hk); (try clear hi)))
                                  go_ret
                                  exact ⟨by first | rfl | (simp [errW_none, errW_some] <;> rfl) | (simp [*, errW_none, errW_some] <;> rfl), by repeat (first | (with_reducible first | exact HB.out | apply below_alloc | apply pw_below_drewN | apply below_drew1) | exact HB.out)⟩
                            · rw [if_neg c30] at H
                              have c30b0 : decide (0 < (t232.size : Int)) = false := decide_eq_false c30
                              have c30b1 : decide (0 < t232.size) = false := decide_eq_false (by omega)
                              clear c30
                              replace H := Option.bind_eq_some_iff.mp H
                              obtain ⟨t246, A370, H⟩ := H
                              replace H : (some t246) = some r := H
                              have A37 := Aside0.mk A370
                              clear A370
                              first
                              | exact absurd (Option.some.inj H) (by rw [hr_.out]; decide)
                              | obtain rfl := Option.some.inj H
                                go_wp2_with (first | ((with_reducible refine gate_callee (f := 43) rfl ?_); refine goesL_ (some 122) rfl rfl Try.func43 (by kernel_rfl) rfl #[] rfl (by (try simp only [List.map_toArray, List.map_cons, List.map_nil]); first | done | rfl | (simp only [List.length_drop, List.length_take]; rfl)) ?_; (with_reducible refine (celluloidlaw05_awake.calls kj19  t246 _ A37.out).mono ?_); rintro e w38 ⟨rfl, hb⟩; refine ⟨_, rfl, ?_⟩; have n0_ := Aside0.mk (below_step (by repeat (first | (with_reducible first | exact HB.out | apply below_alloc | apply pw_below_drewN | apply below_drew1) | exact HB.out)) hb); clear HB; have HB := n0_; clear n0_; (try clear hb); (try clear hb2); (try clear hk); (try clear hi)))
                                go_ret
                                exact ⟨by first | rfl | (simp [errW_none, errW_some] <;> rfl) | (simp [*, errW_none, errW_some] <;> rfl), by repeat (first | (with_reducible first | exact HB.out | apply below_alloc | apply pw_below_drewN | apply below_drew1) | exact HB.out)⟩
                    · rw [if_neg c18] at H
                      exact absurd H (by simp)
                  · rw [if_neg c17] at H
                    exact absurd H (by simp)
                · rw [if_neg c15] at H
                  exact absurd H (by simp)
        · rw [if_neg c10] at H
          have c10b0 : (t234 == 0) = false := beq_eq_false_iff_ne.mpr c10
          have c10b1 : (t234 != 0) = true := bne_iff_ne.mpr c10
          by_cases c39 : t232.toList = ([] : List UInt8)
          · rw [if_pos c39] at H
            have c39b0 : (t232.toList == ([] : List UInt8)) = true := beq_iff_eq.mpr c39
            have c39b1 : (t232.toList != ([] : List UInt8)) = false := bne_eq_false_iff_eq.mpr c39
            clear c39
            by_cases c40 : t233 = 0
            · rw [if_pos c40] at H
              have c40b0 : (t233 == 0) = true := beq_iff_eq.mpr c40
              have c40b1 : (t233 != 0) = false := bne_eq_false_iff_eq.mpr c40
              clear c40
              replace H := Option.bind_eq_some_iff.mp H
              obtain ⟨t235, A410, H⟩ := H
              replace H : (some t235) = some r := H
              have A41 := Aside0.mk A410
              clear A410
              first
              | exact absurd (Option.some.inj H) (by rw [hr_.out]; decide)
              | obtain rfl := Option.some.inj H
                go_wp2_with (first | ((with_reducible refine gate_callee (f := 44) rfl ?_); refine goesL_ (some 31) rfl rfl Try.func44 (by kernel_rfl) rfl #[.string a0, .int .i64 a2] rfl (by (try simp only [List.map_toArray, List.map_cons, List.map_nil]); first | done | rfl | (simp only [List.length_drop, List.length_take]; rfl)) ?_; (with_reducible refine (inflate_Raw.calls a0 a2 t232 t233 t234 _ A9.out).mono ?_); rintro e w42 ⟨rfl, hb⟩; refine ⟨_, rfl, ?_⟩; have n0_ := Aside0.mk (below_step (by repeat (first | (with_reducible first | exact HB.out | apply below_alloc | apply pw_below_drewN | apply below_drew1) | exact HB.out)) hb); clear HB; have HB := n0_; clear n0_; (try clear hb); (try clear hb2); (try clear hk); (try clear hi)) | (go_at_call 43; (with_reducible refine (celluloidlaw05_awake.calls kj3  t235 _ A41.out).mono ?_); rintro e w43 ⟨rfl, hb⟩; have n0_ := Aside0.mk (below_step (by repeat (first | (with_reducible first | exact HB.out | apply below_alloc | apply pw_below_drewN | apply below_drew1) | exact HB.out)) hb); clear HB; have HB := n0_; clear n0_; (try clear hb); (try clear hb2); (try clear hk); (try clear hi)))
                go_ret
                exact ⟨by first | rfl | (simp [errW_none, errW_some] <;> rfl) | (simp [*, errW_none, errW_some] <;> rfl), by repeat (first | (with_reducible first | exact HB.out | apply below_alloc | apply pw_below_drewN | apply below_drew1) | exact HB.out)⟩
            · rw [if_neg c40] at H
              have c40b0 : (t233 == 0) = false := beq_eq_false_iff_ne.mpr c40
              have c40b1 : (t233 != 0) = true := bne_iff_ne.mpr c40
              first
              | exact absurd (Option.some.inj H) (by rw [hr_.out]; decide)
              | obtain rfl := Option.some.inj H
                go_wp2_with (first | ((with_reducible refine gate_callee (f := 44) rfl ?_); refine goesL_ (some 31) rfl rfl Try.func44 (by kernel_rfl) rfl #[.string a0, .int .i64 a2] rfl (by (try simp only [List.map_toArray, List.map_cons, List.map_nil]); first | done | rfl | (simp only [List.length_drop, List.length_take]; rfl)) ?_; (with_reducible refine (inflate_Raw.calls a0 a2 t232 t233 t234 _ A9.out).mono ?_); rintro e w44 ⟨rfl, hb⟩; refine ⟨_, rfl, ?_⟩; have n0_ := Aside0.mk (below_step (by repeat (first | (with_reducible first | exact HB.out | apply below_alloc | apply pw_below_drewN | apply below_drew1) | exact HB.out)) hb); clear HB; have HB := n0_; clear n0_; (try clear hb); (try clear hb2); (try clear hk); (try clear hi)))
                go_ret
                exact ⟨by first | rfl | (simp [errW_none, errW_some] <;> rfl) | (simp [*, errW_none, errW_some] <;> rfl), by repeat (first | (with_reducible first | exact HB.out | apply below_alloc | apply pw_below_drewN | apply below_drew1) | exact HB.out)⟩
          · rw [if_neg c39] at H
            have c39b0 : (t232.toList == ([] : List UInt8)) = false := beq_eq_false_iff_ne.mpr c39
            have c39b1 : (t232.toList != ([] : List UInt8)) = true := bne_iff_ne.mpr c39
            first
            | exact absurd (Option.some.inj H) (by rw [hr_.out]; decide)
            | obtain rfl := Option.some.inj H
              go_wp2_with (first | ((with_reducible refine gate_callee (f := 44) rfl ?_); refine goesL_ (some 31) rfl rfl Try.func44 (by kernel_rfl) rfl #[.string a0, .int .i64 a2] rfl (by (try simp only [List.map_toArray, List.map_cons, List.map_nil]); first | done | rfl | (simp only [List.length_drop, List.length_take]; rfl)) ?_; (with_reducible refine (inflate_Raw.calls a0 a2 t232 t233 t234 _ A9.out).mono ?_); rintro e w45 ⟨rfl, hb⟩; refine ⟨_, rfl, ?_⟩; have n0_ := Aside0.mk (below_step (by repeat (first | (with_reducible first | exact HB.out | apply below_alloc | apply pw_below_drewN | apply below_drew1) | exact HB.out)) hb); clear HB; have HB := n0_; clear n0_; (try clear hb); (try clear hb2); (try clear hk); (try clear hi)))
              go_ret
              exact ⟨by first | rfl | (simp [errW_none, errW_some] <;> rfl) | (simp [*, errW_none, errW_some] <;> rfl), by repeat (first | (with_reducible first | exact HB.out | apply below_alloc | apply pw_below_drewN | apply below_drew1) | exact HB.out)⟩
  
/-- THE ONE PURE STATEMENT of celluloidlaw05_InflateEnds: yours. -/
def celluloidlaw05_InflateEnds.Pure : Prop := ∀ (a0 : ByteArray) (a1 : ByteArray) (a2 : Int), a0.size ≤ 140737488351232 → a1.size ≤ 140737488351232 → (Lit.int .i64 a2).wf = true → ∃ k, celluloidlaw05_InflateEnds.f k a0 a1 a2 = some true
theorem celluloidlaw05_InflateEnds.walk (P : celluloidlaw05_InflateEnds.Pure) (a0 : ByteArray) (a1 : ByteArray) (a2 : Int) (w : World) (w0 : a0.size ≤ 140737488351232) (w1 : a1.size ≤ 140737488351232) (w2 : (Lit.int .i64 a2).wf = true) :
    Calls Try.prog 15 #[.string a0, .string a1, .int .i64 a2] w fun e w' => e = .returned (.bool true) ∧ Below w.heap.size w w' := by
  obtain ⟨k, h⟩ := P a0 a1 a2 w0 w1 w2
  refine (celluloidlaw05_InflateEnds.calls k a0 a1 a2 true w h ⟨rfl⟩).mono ?_
  rintro e w' ⟨rfl, hd⟩
  exact ⟨rfl, hd⟩

end Go.Proofs.Ytpbhkdamkbopkaa.GEnds
