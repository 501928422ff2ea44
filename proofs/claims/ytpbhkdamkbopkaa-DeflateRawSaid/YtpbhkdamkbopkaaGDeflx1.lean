-- Written by a program of this session (wip/tools/print2.py) for this claim.
import Derived.Test.YtpbhkdamkbopkaaGDeflx0
namespace Go.Proofs.Ytpbhkdamkbopkaa.GDefl
open Go.RowKit Go.Proofs.YtpbhkdamkbopkaaW.PrintWords Go.Proofs.YtpbhkdamkbopkaaW.PrintLast Go.Proofs.YtpbhkdamkbopkaaW.PrintMore Go.Proofs.Ytpbhkdamkbopkaa.Wr1 Go.Proofs.Ytpbhkdamkbopkaa.GRuns
attribute [local go_sem] max2_int min2_int max_two min_two max_three min_three max_four min_four   -- for this text's walks alone
set_option linter.unusedVariables false
set_option linter.unusedSimpArgs false

-- walked by hand: function 61 (deflate_at)

-- walked by hand: function 89 (deflate_alike)

-- walked by hand: function 62 (deflate_best)

-- walked by hand: function 37 (deflate_Run)

-- NOT PRINTED: function 63 (deflate_writer_bits)

-- NOT PRINTED: function 90 (deflate_writer_code)

-- NOT PRINTED: function 64 (deflate_writer_symbol)

-- walked by hand: function 91 (deflate_lengthOf)

-- walked by hand: function 92 (deflate_distanceOf)

-- NOT PRINTED: function 65 (deflate_writer_run)

-- walked by hand: function 39 (deflate_Raw)

-- walked by hand: function 36 (celluloidlaw06_awake)

/-! ### adler_parts: function 102 -/
def adler_parts.f (a0 : Int) : Option (Int × Int) := some (Int.tmod (wrap64 (Go.bits .and .u32 ((a0) % 4294967296) 65535)) 65521, (((a0) % 4294967296) / 65536) % 65521)
set_option maxHeartbeats 8000000 in
set_option maxRecDepth 100000 in
theorem adler_parts.calls (a0 : Int) (r1 : Int) (r2 : Int) (w : World) (h : adler_parts.f a0 = some (r1, r2)) :
    Calls Try.prog 102 #[.int .i64 a0] w fun e w' => e = .returned (.tuple #[.int .i64 r1, .int .i64 r2]) ∧ Drawn0 w w' := by
  have H : (some (Int.tmod (wrap64 (Go.bits .and .u32 ((a0) % 4294967296) 65535)) 65521, (((a0) % 4294967296) / 65536) % 65521)) = some (r1, r2) := h
  clear h
  simp only [Option.some.injEq, Prod.mk.injEq] at H
  obtain ⟨rfl, rfl⟩ := H
  go_enter Try.func102, Try.ntmps102
  go_wp2
  go_ret2
  exact ⟨by first | rfl | (simp; done) | (simp [*]; done), by repeat (first | exact Drawn0.refl _ | apply Drawn0.step)⟩

/-! ### adler_More: function 77 -/
def adler_More.l0 : Nat → ByteArray → Int → Int → Int → Int → Option (Int)
  | 0, _, _, _, _, _ => none
  | k + 1, x1, x5, x6, x14, x15 => if x15 < x14 then (if 0 ≤ x15 then (if x15 < (x1.size : Int) then (adler_More.l0 k x1 (Int.tmod (wrap64 (x5 + (wrap64 (bt x1 x15)))) 65521) (Int.tmod (wrap64 (x6 + (Int.tmod (wrap64 (x5 + (wrap64 (bt x1 x15)))) 65521))) 65521) x14 (wrap64 (x15 + 1))) else (none)) else (none)) else (some (Go.bits .or .i64 (wrap64 (x6 * 65536)) x5))
def adler_More.f (k : Nat) (a0 : Int) (a1 : ByteArray) : Option (Int) := (adler_parts.f a0).bind fun bt103 => (adler_More.l0 k a1 bt103.1 bt103.2 (a1.size : Int) 0)
theorem adler_More.mono_l : ∀ k, (∀ y0 y1 y2 y3 y4, LeO (adler_More.l0 k y0 y1 y2 y3 y4) (adler_More.l0 (k + 1) y0 y1 y2 y3 y4))
  | 0 => fun _ _ _ _ _ r h => by simp [adler_More.l0] at h
  | k + 1 => by
    have ih0 := adler_More.mono_l k
    · intro y0 y1 y2 y3 y4
      unfold adler_More.l0
      repeat' first
      | (with_reducible exact ih0 _ _ _ _ _)
      | (with_reducible exact LeO.refl _)
      | (with_reducible exact LeO.none _)
      | (with_reducible refine LeO.ite ?_ ?_)
      | (with_reducible refine LeO.bind ?_ (fun _ => ?_))
      | exact ih0 _ _ _ _ _
      | exact LeO.none _
      | refine LeO.ite ?_ ?_
      | refine LeO.bind ?_ (fun _ => ?_)
theorem adler_More.mono : ∀ a0 a1 k, LeO (adler_More.f k a0 a1) (adler_More.f (k + 1) a0 a1) := by
  intro a0 a1 k
  have ih0 := adler_More.mono_l k
  unfold adler_More.f
  repeat' first
      | (with_reducible exact ih0 _ _ _ _ _)
      | (with_reducible exact LeO.refl _)
      | (with_reducible exact LeO.none _)
      | (with_reducible refine LeO.ite ?_ ?_)
      | (with_reducible refine LeO.bind ?_ (fun _ => ?_))
      | exact ih0 _ _ _ _ _
      | exact LeO.none _
      | refine LeO.ite ?_ ?_
      | refine LeO.bind ?_ (fun _ => ?_)
set_option maxHeartbeats 8000000 in
set_option maxRecDepth 100000 in
theorem adler_More.calls (k : Nat) (a0 : Int) (a1 : ByteArray) (r : Int) (w : World) (h : adler_More.f k a0 a1 = some r) :
    Calls Try.prog 77 #[.int .i64 a0, .string a1] w fun e w' => e = .returned (.int .i64 r) ∧ Drawn0 w w' := by
  have H : ((adler_parts.f a0).bind fun bt103 => (adler_More.l0 k a1 bt103.1 bt103.2 (a1.size : Int) 0)) = some r := h
  clear h
  replace H := Option.bind_eq_some_iff.mp H
  obtain ⟨⟨t103, t104⟩, A30, H⟩ := H
  replace H : (adler_More.l0 k a1 t103 t104 (a1.size : Int) 0) = some r := H
  have A3 := Aside0.mk A30
  clear A30
  have H' := Aside0.mk H
  clear H
  go_enter Try.func77, Try.ntmps77
  go_wp2_with (first | ((with_reducible refine gate_callee (f := 102) rfl ?_); refine goesL_ (some 10) rfl rfl Try.func102 (by kernel_rfl) rfl #[.int .i64 a0] rfl (by (try simp only [List.map_toArray, List.map_cons, List.map_nil]); first | done | rfl | (simp only [List.length_drop, List.length_take]; rfl)) ?_; (with_reducible refine (adler_parts.calls a0 t103 t104 _ A3.out).mono ?_); rintro e w' ⟨rfl, ⟨nd, rfl⟩⟩; refine ⟨_, rfl, ?_⟩))
  go_loopg [5, 6, 15] k (fun kq v5 v6 v15 w' => ∃ (x5_1 : Int) (x6_1 : Int) (x15_1 : Int), v5 = .int .i64 x5_1 ∧ v6 = .int .i64 x6_1 ∧ v15 = .int .i64 x15_1 ∧ Aside0 (adler_More.l0 kq a1 x5_1 x6_1 (a1.size : Int) x15_1 = some r) ∧ Aside0 (kq ≤ k) ∧ Drawn0 w w')
  case atStart => exact ⟨(t103), (t104), (0), (by first | rfl | (simp; done) | (simp [*]; done)), (by first | rfl | (simp; done) | (simp [*]; done)), (by first | rfl | (simp; done) | (simp [*]; done)), H', ⟨Nat.le_refl _⟩, by repeat (first | exact Drawn0.refl _ | apply Drawn0.step)⟩
  case round =>
    clear H'
    try clear c1
    try clear p2
    obtain ⟨x5_1, x6_1, x15_1, rfl, rfl, rfl, HA, HK1, ⟨m1, rfl⟩⟩ := hrel
    cases gk with
    | zero => exact absurd HA.out (by simp [adler_More.l0])
    | succ k1 =>
      have H := HA.out
      clear HA
      simp only [adler_More.l0] at H
      by_cases c4 : x15_1 < (a1.size : Int)
      · rw [if_pos c4] at H
        have c4b0 : decide (x15_1 < (a1.size : Int)) = true := decide_eq_true c4
        clear c4
        by_cases c5 : 0 ≤ x15_1
        · rw [if_pos c5] at H
          have c5b0 : decide (0 ≤ x15_1) = true := decide_eq_true c5
          clear c5
          by_cases c6 : x15_1 < (a1.size : Int)
          · rw [if_pos c6] at H
            have c6b0 : decide (x15_1 < (a1.size : Int)) = true := decide_eq_true c6
            clear c6
            have H' := Aside0.mk H
            clear H
            have p7 : 0 ≤ (x15_1 : Int) := of_decide_eq_true (by first | (with_reducible assumption) | assumption)
            have q7 : x15_1 < (a1.size : Int) := of_decide_eq_true (by first | (with_reducible assumption) | assumption)
            have hx7 := bt_at a1 x15_1
            replace p7 := eq_true p7
            replace q7 := eq_true q7
            go_wp2
            go_roundg k1
            case measure => have := HK1.out; omega
            case rel => exact ⟨(Int.tmod (wrap64 (x5_1 + (wrap64 (bt a1 x15_1)))) 65521), (Int.tmod (wrap64 (x6_1 + (Int.tmod (wrap64 (x5_1 + (wrap64 (bt a1 x15_1)))) 65521))) 65521), (wrap64 (x15_1 + 1)), (by first | rfl | (simp; done) | (simp [*]; done)), (by first | rfl | (simp; done) | (simp [*]; done)), (by first | rfl | (simp; done) | (simp [*]; done)), H', ⟨by have := HK1.out; omega⟩, by repeat (first | exact Drawn0.refl _ | apply Drawn0.step)⟩
          · rw [if_neg c6] at H
            exact absurd H (by simp)
        · rw [if_neg c5] at H
          exact absurd H (by simp)
      · rw [if_neg c4] at H
        have c4b0 : decide (x15_1 < (a1.size : Int)) = false := decide_eq_false c4
        clear c4
        obtain rfl := Option.some.inj H
        go_wp2
        go_ret
        exact ⟨by first | rfl | (simp; done) | (simp [*]; done), by repeat (first | exact Drawn0.refl _ | apply Drawn0.step)⟩

/-! ### adler_Sum: function 48 -/
def adler_Sum.f (k : Nat) (a0 : ByteArray) : Option (Int) := (adler_More.f k 1 a0).bind fun t105 => (some t105)
theorem adler_Sum.mono : ∀ a0 k, LeO (adler_Sum.f k a0) (adler_Sum.f (k + 1) a0) := by
  intro a0 k
  unfold adler_Sum.f
  repeat' first
      | (with_reducible exact adler_More.mono _ _ _)
      | (with_reducible exact LeO.refl _)
      | (with_reducible exact LeO.none _)
      | (with_reducible refine LeO.ite ?_ ?_)
      | (with_reducible refine LeO.bind ?_ (fun _ => ?_))
      | exact adler_More.mono _ _ _
      | exact LeO.none _
      | refine LeO.ite ?_ ?_
      | refine LeO.bind ?_ (fun _ => ?_)
set_option maxHeartbeats 8000000 in
set_option maxRecDepth 100000 in
theorem adler_Sum.calls (k : Nat) (a0 : ByteArray) (r : Int) (w : World) (h : adler_Sum.f k a0 = some r) :
    Calls Try.prog 48 #[.string a0] w fun e w' => e = .returned (.int .i64 r) ∧ Drawn0 w w' := by
  have H : ((adler_More.f k 1 a0).bind fun t105 => (some t105)) = some r := h
  clear h
  replace H := Option.bind_eq_some_iff.mp H
  obtain ⟨t105, A20, H⟩ := H
  replace H : (some t105) = some r := H
  have A2 := Aside0.mk A20
  clear A20
  obtain rfl := Option.some.inj H
  go_enter Try.func48, Try.ntmps48
  go_wp2_with (first | ((with_reducible refine gate_callee (f := 77) rfl ?_); refine goesL_ (some 4) rfl rfl Try.func77 (by kernel_rfl) rfl #[.int .i64 1, .string a0] rfl (by (try simp only [List.map_toArray, List.map_cons, List.map_nil]); first | done | rfl | (simp only [List.length_drop, List.length_take]; rfl)) ?_; (with_reducible refine (adler_More.calls k 1 a0 t105 _ A2.out).mono ?_); rintro e w' ⟨rfl, ⟨nd, rfl⟩⟩; refine ⟨_, rfl, ?_⟩))
  go_ret
  exact ⟨by first | rfl | (simp; done) | (simp [*]; done), by repeat (first | exact Drawn0.refl _ | apply Drawn0.step)⟩

/-! ### deflate_Close: function 40 -/
def deflate_Close.f (k : Nat) (a0 : ByteArray) : Option (ByteArray × Int) := (deflate_Raw.f a0).bind fun bt106 => (if bt106.2 = 0 then ((adler_Sum.f k a0).bind fun t108 => (if 2 + bt106.1.size ≤ 9223372036854775807 then ((some (([(t108 / 16777216) % 256, (t108 / 65536) % 256, (t108 / 256) % 256, (t108) % 256] : List Int) : List Int)).bind fun y109 => (if ((⟨#[120, 156]⟩ : ByteArray) ++ bt106.1).size + (strOfNums y109).size ≤ 9223372036854775807 then (some (((⟨#[120, 156]⟩ : ByteArray) ++ bt106.1) ++ (strOfNums y109), 0)) else (none))) else (none))) else (some ((⟨#[]⟩ : ByteArray), bt106.2)))
theorem deflate_Close.mono : ∀ a0 k, LeO (deflate_Close.f k a0) (deflate_Close.f (k + 1) a0) := by
  intro a0 k
  unfold deflate_Close.f
  repeat' first
      | (with_reducible exact adler_Sum.mono _ _)
      | (with_reducible exact LeO.refl _)
      | (with_reducible exact LeO.none _)
      | (with_reducible refine LeO.ite ?_ ?_)
      | (with_reducible refine LeO.bind ?_ (fun _ => ?_))
      | exact adler_Sum.mono _ _
      | exact LeO.none _
      | refine LeO.ite ?_ ?_
      | refine LeO.bind ?_ (fun _ => ?_)
set_option maxHeartbeats 8000000 in
set_option maxRecDepth 100000 in
theorem deflate_Close.calls (k : Nat) (a0 : ByteArray) (r1 : ByteArray) (r2 : Int) (w : World) (h : deflate_Close.f k a0 = some (r1, r2)) :
    Calls Try.prog 40 #[.string a0] w fun e w' => e = .returned (.tuple #[.string r1, .int .i64 r2]) ∧ Below w.heap.size w w' := by
  have HB := Aside0.mk (Below.refl w.heap.size w)
  have H : ((deflate_Raw.f a0).bind fun bt106 => (if bt106.2 = 0 then ((adler_Sum.f k a0).bind fun t108 => (if 2 + bt106.1.size ≤ 9223372036854775807 then ((some (([(t108 / 16777216) % 256, (t108 / 65536) % 256, (t108 / 256) % 256, (t108) % 256] : List Int) : List Int)).bind fun y109 => (if ((⟨#[120, 156]⟩ : ByteArray) ++ bt106.1).size + (strOfNums y109).size ≤ 9223372036854775807 then (some (((⟨#[120, 156]⟩ : ByteArray) ++ bt106.1) ++ (strOfNums y109), 0)) else (none))) else (none))) else (some ((⟨#[]⟩ : ByteArray), bt106.2)))) = some (r1, r2) := h
  clear h
  replace H := Option.bind_eq_some_iff.mp H
  obtain ⟨⟨t106, t107⟩, A20, H⟩ := H
  replace H : (if t107 = 0 then ((adler_Sum.f k a0).bind fun t108 => (if 2 + t106.size ≤ 9223372036854775807 then ((some (([(t108 / 16777216) % 256, (t108 / 65536) % 256, (t108 / 256) % 256, (t108) % 256] : List Int) : List Int)).bind fun y109 => (if ((⟨#[120, 156]⟩ : ByteArray) ++ t106).size + (strOfNums y109).size ≤ 9223372036854775807 then (some (((⟨#[120, 156]⟩ : ByteArray) ++ t106) ++ (strOfNums y109), 0)) else (none))) else (none))) else (some ((⟨#[]⟩ : ByteArray), t107))) = some (r1, r2) := H
  have A2 := Aside0.mk A20
  clear A20
  by_cases c3 : t107 = 0
  · rw [if_pos c3] at H
    have c3b0 : (t107 == 0) = true := beq_iff_eq.mpr c3
    have c3b1 : (t107 != 0) = false := bne_eq_false_iff_eq.mpr c3
    clear c3
    replace H := Option.bind_eq_some_iff.mp H
    obtain ⟨t108, A40, H⟩ := H
    replace H : (if 2 + t106.size ≤ 9223372036854775807 then ((some (([(t108 / 16777216) % 256, (t108 / 65536) % 256, (t108 / 256) % 256, (t108) % 256] : List Int) : List Int)).bind fun y109 => (if ((⟨#[120, 156]⟩ : ByteArray) ++ t106).size + (strOfNums y109).size ≤ 9223372036854775807 then (some (((⟨#[120, 156]⟩ : ByteArray) ++ t106) ++ (strOfNums y109), 0)) else (none))) else (none)) = some (r1, r2) := H
    have A4 := Aside0.mk A40
    clear A40
    by_cases c5 : 2 + t106.size ≤ 9223372036854775807
    · rw [if_pos c5] at H
      have c5b0 := eq_true c5
      have c5b1 : decide (2 + t106.size ≤ 9223372036854775807) = true := decide_eq_true c5
      try have c5b2 : (9223372036854775807 < 2 + t106.size) = False := eq_false (Nat.not_lt.2 c5)
      obtain ⟨y109, hy109⟩ : ∃ y_ : List Int, y_ = (([(t108 / 16777216) % 256, (t108 / 65536) % 256, (t108 / 256) % 256, (t108) % 256] : List Int)) := ⟨_, rfl⟩
      replace H : (if ((⟨#[120, 156]⟩ : ByteArray) ++ t106).size + (strOfNums y109).size ≤ 9223372036854775807 then (some (((⟨#[120, 156]⟩ : ByteArray) ++ t106) ++ (strOfNums y109), 0)) else (none)) = some (r1, r2) := by first | (rw [hy109]; with_reducible exact H) | (have H2_ := (Option.bind_some _ _).symm.trans H; rw [hy109]; with_reducible exact H2_) | (have H2_ := (Option.bind_some _ _).symm.trans H; with_reducible exact H2_) | with_reducible exact H | (rw [hy109]; exact H) | exact H
      have Ny109 := Aside0.mk hy109
      clear hy109
      by_cases c6 : ((⟨#[120, 156]⟩ : ByteArray) ++ t106).size + (strOfNums y109).size ≤ 9223372036854775807
      · rw [if_pos c6] at H
        have c6b0 := eq_true c6
        have c6b1 : decide (((⟨#[120, 156]⟩ : ByteArray) ++ t106).size + (strOfNums y109).size ≤ 9223372036854775807) = true := decide_eq_true c6
        try have c6b2 : (9223372036854775807 < ((⟨#[120, 156]⟩ : ByteArray) ++ t106).size + (strOfNums y109).size) = False := eq_false (Nat.not_lt.2 c6)
        simp only [Option.some.injEq, Prod.mk.injEq] at H
        obtain ⟨rfl, rfl⟩ := H
        go_enter Try.func40, Try.ntmps40
        go_wp2_with (first | ((with_reducible refine gate_callee (f := 39) rfl ?_); refine goesL_ (some 9) rfl rfl Try.func39 (by kernel_rfl) rfl #[.string a0] rfl (by (try simp only [List.map_toArray, List.map_cons, List.map_nil]); first | done | rfl | (simp only [List.length_drop, List.length_take]; rfl)) ?_; (with_reducible refine (deflate_Raw.calls a0 t106 t107 _ A2.out).mono ?_); rintro e w7 ⟨rfl, hb⟩; refine ⟨_, rfl, ?_⟩; have n0_ := Aside0.mk (below_step (by repeat (first | (with_reducible first | exact HB.out | apply below_alloc | apply pw_below_drewN | apply below_drew1) | exact HB.out)) hb); clear HB; have HB := n0_; clear n0_; (try clear hb); (try clear hb2); (try clear hk); (try clear hi)) | ((with_reducible refine gate_callee (f := 48) rfl ?_); refine goesL_ (some 16) rfl rfl Try.func48 (by kernel_rfl) rfl #[.string a0] rfl (by (try simp only [List.map_toArray, List.map_cons, List.map_nil]); first | done | rfl | (simp only [List.length_drop, List.length_take]; rfl)) ?_; (with_reducible refine (adler_Sum.calls k a0 t108 _ A4.out).mono ?_); rintro e w' ⟨rfl, ⟨nd, rfl⟩⟩; refine ⟨_, rfl, ?_⟩) | ((with_reducible refine gate_dst (N := 30) rfl ?_); refine Kd.R_lit (Kd.int .u8) _ 5 ?hg (N := 30) ?hd (xs := ([(t108 / 16777216) % 256, (t108 / 65536) % 256, (t108 / 256) % 256, (t108) % 256] : List Int)) (inner := [.int .u8 ((t108 / 16777216) % 256), .int .u8 ((t108 / 65536) % 256), .int .u8 ((t108 / 256) % 256), .int .u8 ((t108) % 256)]) (ok := fun _ => True) (okp := fun _ => True) ?hr ?hp (fun _ hk => hk) trivial (Below.refl _ _) (Nat.le_refl _) (by simp) ?_; (case hd => rfl); (case hg => rfl); (case hr => first | (go_simp; done) | (go_simp; rfl)); (case hp => exact (Reps.one (show Kd.M (Kd.int .u8) _ _ _ ((t108 / 16777216) % 256) [.int .u8 ((t108 / 16777216) % 256)] from rfl) (Reps.one (show Kd.M (Kd.int .u8) _ _ _ ((t108 / 65536) % 256) [.int .u8 ((t108 / 65536) % 256)] from rfl) (Reps.one (show Kd.M (Kd.int .u8) _ _ _ ((t108 / 256) % 256) [.int .u8 ((t108 / 256) % 256)] from rfl) (Reps.one (show Kd.M (Kd.int .u8) _ _ _ ((t108) % 256) [.int .u8 ((t108) % 256)] from rfl) (Reps.none _ _)))))); intro v110 w8 ho9 hb hg_ hnew_; clear hg_ hnew_; (first | rw [← Ny109.out] at ho9 | (simp only [Int.reduceToNat] at ho9; rw [← Ny109.out] at ho9)); have n0_ := Aside0.mk (Kd.R_lower ho9 (below_size (by repeat (first | (with_reducible first | exact HB.out | apply below_alloc | apply pw_below_drewN | apply below_drew1) | exact HB.out)))); have n1_ := Aside0.mk (below_step (by repeat (first | (with_reducible first | exact HB.out | apply below_alloc | apply pw_below_drewN | apply below_drew1) | exact HB.out)) hb); clear HB; have HO111 := n0_; have HB := n1_; clear n0_ n1_; clear hb ho9; have hcv10 := own_string (P := Try.prog) Try.underlying40 Try.underlying5 Try.underlying9 (Kd.own_of_R HO111.out)))
        go_ret2
        exact ⟨by first | rfl | (simp [errW_none, errW_some] <;> rfl) | (simp [*, errW_none, errW_some] <;> rfl), by repeat (first | (with_reducible first | exact HB.out | apply below_alloc | apply pw_below_drewN | apply below_drew1) | exact HB.out)⟩
      · rw [if_neg c6] at H
        exact absurd H (by simp)
    · rw [if_neg c5] at H
      exact absurd H (by simp)
  · rw [if_neg c3] at H
    have c3b0 : (t107 == 0) = false := beq_eq_false_iff_ne.mpr c3
    have c3b1 : (t107 != 0) = true := bne_iff_ne.mpr c3
    simp only [Option.some.injEq, Prod.mk.injEq] at H
    obtain ⟨rfl, rfl⟩ := H
    go_enter Try.func40, Try.ntmps40
    go_wp2_with (first | ((with_reducible refine gate_callee (f := 39) rfl ?_); refine goesL_ (some 9) rfl rfl Try.func39 (by kernel_rfl) rfl #[.string a0] rfl (by (try simp only [List.map_toArray, List.map_cons, List.map_nil]); first | done | rfl | (simp only [List.length_drop, List.length_take]; rfl)) ?_; (with_reducible refine (deflate_Raw.calls a0 t106 t107 _ A2.out).mono ?_); rintro e w11 ⟨rfl, hb⟩; refine ⟨_, rfl, ?_⟩; have n0_ := Aside0.mk (below_step (by repeat (first | (with_reducible first | exact HB.out | apply below_alloc | apply pw_below_drewN | apply below_drew1) | exact HB.out)) hb); clear HB; have HB := n0_; clear n0_; (try clear hb); (try clear hb2); (try clear hk); (try clear hi)))
    go_ret2
    exact ⟨by first | rfl | (simp [errW_none, errW_some] <;> rfl) | (simp [*, errW_none, errW_some] <;> rfl), by repeat (first | (with_reducible first | exact HB.out | apply below_alloc | apply pw_below_drewN | apply below_drew1) | exact HB.out)⟩

end Go.Proofs.Ytpbhkdamkbopkaa.GDefl
