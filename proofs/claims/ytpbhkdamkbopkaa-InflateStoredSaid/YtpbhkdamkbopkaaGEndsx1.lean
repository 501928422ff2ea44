-- Written by a program of this session (wip/tools/print2.py) for this claim.
import Derived.Test.YtpbhkdamkbopkaaGEndsx0
namespace Go.Proofs.Ytpbhkdamkbopkaa.GEnds
open Go.RowKit Go.Proofs.YtpbhkdamkbopkaaW.PrintWords Go.Proofs.YtpbhkdamkbopkaaW.PrintLast Go.Proofs.YtpbhkdamkbopkaaW.PrintMore Go.Proofs.Ytpbhkdamkbopkaa.Wr2
attribute [local go_sem] max2_int min2_int max_two min_two max_three min_three max_four min_four   -- for this text's walks alone
set_option linter.unusedVariables false
set_option linter.unusedSimpArgs false

-- walked by hand: function 34 (huff_Bit)

-- walked by hand: function 32 (huff_Bits)

-- walked by hand: function 100 (inflate_reader_fail)

-- walked by hand: function 94 (inflate_reader_bits)

-- NOT PRINTED: function 95 (inflate_reader_stored)

-- walked by hand: function 118 (bits_Mul32)

-- walked by hand: function 119 (bits_Mul64)

-- walked by hand: function 115 (bits_Mul)

-- NOT PRINTED: function 109 (slices_Repeat_int_int)

-- NOT PRINTED: function 96 (inflate_plain)

-- walked by hand: function 110 (inflate_bases)

-- NOT PRINTED: function 30 (huff_Next)

-- NOT PRINTED: function 111 (inflate_reader_next)

-- NOT PRINTED: function 97 (inflate_reader_codes)

-- NOT PRINTED: function 88 (slices_IndexFunc_int_int)

-- NOT PRINTED: function 59 (slices_ContainsFunc_int_int)

-- NOT PRINTED: function 26 (huff_New)

-- NOT PRINTED: function 98 (inflate_reader_table)

-- NOT PRINTED: function 112 (inflate_reader_lengthen)

-- NOT PRINTED: function 99 (inflate_reader_lengths)

-- NOT PRINTED: function 72 (inflate_reader_block)

-- walked by hand: function 44 (inflate_Raw)

/-! ### adler_parts: function 102 -/
def adler_parts.f (a0 : Int) : Option (Int × Int) := some (Int.tmod (wrap64 (Go.bits .and .u32 ((a0) % 4294967296) 65535)) 65521, (((a0) % 4294967296) / 65536) % 65521)
set_option maxHeartbeats 8000000 in
set_option maxRecDepth 100000 in
theorem adler_parts.calls (a0 : Int) (r1 : Int) (r2 : Int) (w : World) (h : adler_parts.f a0 = some (r1, r2)) :
    Calls Try.prog 102 #[.int .i64 a0] w fun e w' => e = .returned (.tuple #[.int .i64 r1, .int .i64 r2]) ∧ Drawn0 w w' := by
  have H : (some (Int.tmod (wrap64 (Go.bits .and .u32 ((a0) % 4294967296) 65535)) 65521, (((a0) % 4294967296) / 65536) % 65521)) = some (r1, r2) := h
  clear h
  simp only [Option.some.injEq, Prod.mk.injEq] at H
  obtain ⟨rfl, rfl⟩ := H
  go_enter Try.func102, Try.ntmps102
  go_wp2
  go_ret2
  exact ⟨by first | rfl | (simp; done) | (simp [*]; done), by repeat (first | exact Drawn0.refl _ | apply Drawn0.step)⟩

/-! ### adler_More: function 77 -/
def adler_More.l0 : Nat → ByteArray → Int → Int → Int → Int → Option (Int)
  | 0, _, _, _, _, _ => none
  | k + 1, x1, x5, x6, x14, x15 => if x15 < x14 then (if 0 ≤ x15 then (if x15 < (x1.size : Int) then (adler_More.l0 k x1 (Int.tmod (wrap64 (x5 + (wrap64 (bt x1 x15)))) 65521) (Int.tmod (wrap64 (x6 + (Int.tmod (wrap64 (x5 + (wrap64 (bt x1 x15)))) 65521))) 65521) x14 (wrap64 (x15 + 1))) else (none)) else (none)) else (some (Go.bits .or .i64 (wrap64 (x6 * 65536)) x5))
def adler_More.f (k : Nat) (a0 : Int) (a1 : ByteArray) : Option (Int) := (adler_parts.f a0).bind fun bt201 => (adler_More.l0 k a1 bt201.1 bt201.2 (a1.size : Int) 0)
theorem adler_More.mono_l : ∀ k, (∀ y0 y1 y2 y3 y4, LeO (adler_More.l0 k y0 y1 y2 y3 y4) (adler_More.l0 (k + 1) y0 y1 y2 y3 y4))
  | 0 => fun _ _ _ _ _ r h => by simp [adler_More.l0] at h
  | k + 1 => by
    have ih0 := adler_More.mono_l k
    · intro y0 y1 y2 y3 y4
      unfold adler_More.l0
      repeat' first
      | (with_reducible exact ih0 _ _ _ _ _)
      | (with_reducible exact LeO.refl _)
      | (with_reducible exact LeO.none _)
      | (with_reducible refine LeO.ite ?_ ?_)
      | (with_reducible refine LeO.bind ?_ (fun _ => ?_))
      | exact ih0 _ _ _ _ _
      | exact LeO.none _
      | refine LeO.ite ?_ ?_
      | refine LeO.bind ?_ (fun _ => ?_)
theorem adler_More.mono : ∀ a0 a1 k, LeO (adler_More.f k a0 a1) (adler_More.f (k + 1) a0 a1) := by
  intro a0 a1 k
  have ih0 := adler_More.mono_l k
  unfold adler_More.f
  repeat' first
      | (with_reducible exact ih0 _ _ _ _ _)
      | (with_reducible exact LeO.refl _)
      | (with_reducible exact LeO.none _)
      | (with_reducible refine LeO.ite ?_ ?_)
      | (with_reducible refine LeO.bind ?_ (fun _ => ?_))
      | exact ih0 _ _ _ _ _
      | exact LeO.none _
      | refine LeO.ite ?_ ?_
      | refine LeO.bind ?_ (fun _ => ?_)
set_option maxHeartbeats 8000000 in
set_option maxRecDepth 100000 in
theorem adler_More.calls (k : Nat) (a0 : Int) (a1 : ByteArray) (r : Int) (w : World) (h : adler_More.f k a0 a1 = some r) :
    Calls Try.prog 77 #[.int .i64 a0, .string a1] w fun e w' => e = .returned (.int .i64 r) ∧ Drawn0 w w' := by
  have H : ((adler_parts.f a0).bind fun bt201 => (adler_More.l0 k a1 bt201.1 bt201.2 (a1.size : Int) 0)) = some r := h
  clear h
  replace H := Option.bind_eq_some_iff.mp H
  obtain ⟨⟨t201, t202⟩, A30, H⟩ := H
  replace H : (adler_More.l0 k a1 t201 t202 (a1.size : Int) 0) = some r := H
  have A3 := Aside0.mk A30
  clear A30
  have H' := Aside0.mk H
  clear H
  go_enter Try.func77, Try.ntmps77
  go_wp2_with (first | ((with_reducible refine gate_callee (f := 102) rfl ?_); refine goesL_ (some 10) rfl rfl Try.func102 (by kernel_rfl) rfl #[.int .i64 a0] rfl (by (try simp only [List.map_toArray, List.map_cons, List.map_nil]); first | done | rfl | (simp only [List.length_drop, List.length_take]; rfl)) ?_; (with_reducible refine (adler_parts.calls a0 t201 t202 _ A3.out).mono ?_); rintro e w' ⟨rfl, ⟨nd, rfl⟩⟩; refine ⟨_, rfl, ?_⟩))
  go_loopg [5, 6, 15] k (fun kq v5 v6 v15 w' => ∃ (x5_1 : Int) (x6_1 : Int) (x15_1 : Int), v5 = .int .i64 x5_1 ∧ v6 = .int .i64 x6_1 ∧ v15 = .int .i64 x15_1 ∧ Aside0 (adler_More.l0 kq a1 x5_1 x6_1 (a1.size : Int) x15_1 = some r) ∧ Aside0 (kq ≤ k) ∧ Drawn0 w w')
  case atStart => exact ⟨(t201), (t202), (0), (by first | rfl | (simp; done) | (simp [*]; done)), (by first | rfl | (simp; done) | (simp [*]; done)), (by first | rfl | (simp; done) | (simp [*]; done)), H', ⟨Nat.le_refl _⟩, by repeat (first | exact Drawn0.refl _ | apply Drawn0.step)⟩
  case round =>
    clear H'
    try clear c1
    try clear p2
    obtain ⟨x5_1, x6_1, x15_1, rfl, rfl, rfl, HA, HK1, ⟨m1, rfl⟩⟩ := hrel
    cases gk with
    | zero => exact absurd HA.out (by simp [adler_More.l0])
    | succ k1 =>
      have H := HA.out
      clear HA
      simp only [adler_More.l0] at H
      by_cases c4 : x15_1 < (a1.size : Int)
      · rw [if_pos c4] at H
        have c4b0 : decide (x15_1 < (a1.size : Int)) = true := decide_eq_true c4
        clear c4
        by_cases c5 : 0 ≤ x15_1
        · rw [if_pos c5] at H
          have c5b0 : decide (0 ≤ x15_1) = true := decide_eq_true c5
          clear c5
          by_cases c6 : x15_1 < (a1.size : Int)
          · rw [if_pos c6] at H
            have c6b0 : decide (x15_1 < (a1.size : Int)) = true := decide_eq_true c6
            clear c6
            have H' := Aside0.mk H
            clear H
            have p7 : 0 ≤ (x15_1 : Int) := of_decide_eq_true (by first | (with_reducible assumption) | assumption)
            have q7 : x15_1 < (a1.size : Int) := of_decide_eq_true (by first | (with_reducible assumption) | assumption)
            have hx7 := bt_at a1 x15_1
            replace p7 := eq_true p7
            replace q7 := eq_true q7
            go_wp2
            go_roundg k1
            case measure => have := HK1.out; omega
            case rel => exact ⟨(Int.tmod (wrap64 (x5_1 + (wrap64 (bt a1 x15_1)))) 65521), (Int.tmod (wrap64 (x6_1 + (Int.tmod (wrap64 (x5_1 + (wrap64 (bt a1 x15_1)))) 65521))) 65521), (wrap64 (x15_1 + 1)), (by first | rfl | (simp; done) | (simp [*]; done)), (by first | rfl | (simp; done) | (simp [*]; done)), (by first | rfl | (simp; done) | (simp [*]; done)), H', ⟨by have := HK1.out; omega⟩, by repeat (first | exact Drawn0.refl _ | apply Drawn0.step)⟩
          · rw [if_neg c6] at H
            exact absurd H (by simp)
        · rw [if_neg c5] at H
          exact absurd H (by simp)
      · rw [if_neg c4] at H
        have c4b0 : decide (x15_1 < (a1.size : Int)) = false := decide_eq_false c4
        clear c4
        obtain rfl := Option.some.inj H
        go_wp2
        go_ret
        exact ⟨by first | rfl | (simp; done) | (simp [*]; done), by repeat (first | exact Drawn0.refl _ | apply Drawn0.step)⟩

/-! ### adler_Sum: function 48 -/
def adler_Sum.f (k : Nat) (a0 : ByteArray) : Option (Int) := (adler_More.f k 1 a0).bind fun t203 => (some t203)
theorem adler_Sum.mono : ∀ a0 k, LeO (adler_Sum.f k a0) (adler_Sum.f (k + 1) a0) := by
  intro a0 k
  unfold adler_Sum.f
  repeat' first
      | (with_reducible exact adler_More.mono _ _ _)
      | (with_reducible exact LeO.refl _)
      | (with_reducible exact LeO.none _)
      | (with_reducible refine LeO.ite ?_ ?_)
      | (with_reducible refine LeO.bind ?_ (fun _ => ?_))
      | exact adler_More.mono _ _ _
      | exact LeO.none _
      | refine LeO.ite ?_ ?_
      | refine LeO.bind ?_ (fun _ => ?_)
set_option maxHeartbeats 8000000 in
set_option maxRecDepth 100000 in
theorem adler_Sum.calls (k : Nat) (a0 : ByteArray) (r : Int) (w : World) (h : adler_Sum.f k a0 = some r) :
    Calls Try.prog 48 #[.string a0] w fun e w' => e = .returned (.int .i64 r) ∧ Drawn0 w w' := by
  have H : ((adler_More.f k 1 a0).bind fun t203 => (some t203)) = some r := h
  clear h
  replace H := Option.bind_eq_some_iff.mp H
  obtain ⟨t203, A20, H⟩ := H
  replace H : (some t203) = some r := H
  have A2 := Aside0.mk A20
  clear A20
  obtain rfl := Option.some.inj H
  go_enter Try.func48, Try.ntmps48
  go_wp2_with (first | ((with_reducible refine gate_callee (f := 77) rfl ?_); refine goesL_ (some 4) rfl rfl Try.func77 (by kernel_rfl) rfl #[.int .i64 1, .string a0] rfl (by (try simp only [List.map_toArray, List.map_cons, List.map_nil]); first | done | rfl | (simp only [List.length_drop, List.length_take]; rfl)) ?_; (with_reducible refine (adler_More.calls k 1 a0 t203 _ A2.out).mono ?_); rintro e w' ⟨rfl, ⟨nd, rfl⟩⟩; refine ⟨_, rfl, ?_⟩))
  go_ret
  exact ⟨by first | rfl | (simp; done) | (simp [*]; done), by repeat (first | exact Drawn0.refl _ | apply Drawn0.step)⟩

/-! ### inflate_Open: function 46 -/
def inflate_Open.j0 : Nat → ByteArray → Int → Bool → Option (ByteArray × Int)
  | 0, _, _, _ => none
  | k + 1, x0, x1, x11 => if x11 = true then (some ((⟨#[]⟩ : ByteArray), 1)) else (if (x0.size : Int) < 2 then (some ((⟨#[]⟩ : ByteArray), 2)) else (if 0 < (x0.size : Int) then (if (Go.bits .and .u8 (bt x0 0) 15) = 8 then (if ((bt x0 0) / 16) > 7 then (some ((⟨#[]⟩ : ByteArray), 3)) else (if 1 < (x0.size : Int) then (if (Int.tmod (Go.bits .or .i64 (wrap64 ((wrap64 (bt x0 0)) * 256)) (wrap64 (bt x0 1))) 31) = 0 then (if (Go.bits .and .u8 (bt x0 1) 32) = 0 then (if 2 ≤ (x0.size : Int) then ((inflate_Raw.f (x0.extract 2 x0.size) x1).bind fun bt204 => (if bt204.2.2 = 0 then (if 0 ≤ (wrap64 (2 + bt204.2.1)) then (if (wrap64 (2 + bt204.2.1)) ≤ (x0.size : Int) then (if ((x0.extract ((wrap64 (2 + bt204.2.1)) : Int).toNat x0.size).size : Int) < 4 then (some ((⟨#[]⟩ : ByteArray), 2)) else (if 0 < ((x0.extract ((wrap64 (2 + bt204.2.1)) : Int).toNat x0.size).size : Int) then (if 1 < ((x0.extract ((wrap64 (2 + bt204.2.1)) : Int).toNat x0.size).size : Int) then (if 2 < ((x0.extract ((wrap64 (2 + bt204.2.1)) : Int).toNat x0.size).size : Int) then (if 3 < ((x0.extract ((wrap64 (2 + bt204.2.1)) : Int).toNat x0.size).size : Int) then ((adler_Sum.f k bt204.1).bind fun t207 => (if (Go.bits .or .i64 (Go.bits .or .i64 (Go.bits .or .i64 (wrap64 ((wrap64 (bt (x0.extract ((wrap64 (2 + bt204.2.1)) : Int).toNat x0.size) 0)) * 16777216)) (wrap64 ((wrap64 (bt (x0.extract ((wrap64 (2 + bt204.2.1)) : Int).toNat x0.size) 1)) * 65536))) (wrap64 ((wrap64 (bt (x0.extract ((wrap64 (2 + bt204.2.1)) : Int).toNat x0.size) 2)) * 256))) (wrap64 (bt (x0.extract ((wrap64 (2 + bt204.2.1)) : Int).toNat x0.size) 3))) = t207 then (if ((x0.extract ((wrap64 (2 + bt204.2.1)) : Int).toNat x0.size).size : Int) > 4 then (some ((⟨#[]⟩ : ByteArray), 3)) else (some (bt204.1, 0))) else (some ((⟨#[]⟩ : ByteArray), 5)))) else (none)) else (none)) else (none)) else (none))) else (none)) else (none)) else (some ((⟨#[]⟩ : ByteArray), bt204.2.2)))) else (none)) else (some ((⟨#[]⟩ : ByteArray), 3))) else (some ((⟨#[]⟩ : ByteArray), 3))) else (none))) else (some ((⟨#[]⟩ : ByteArray), 3))) else (none)))
def inflate_Open.f (k : Nat) (a0 : ByteArray) (a1 : Int) : Option (ByteArray × Int) := if a1 < 0 then (inflate_Open.j0 k a0 a1 true) else (inflate_Open.j0 k a0 a1 (decide (a1 > 262144)))
theorem inflate_Open.mono_l : ∀ k, (∀ y0 y1 y2, LeO (inflate_Open.j0 k y0 y1 y2) (inflate_Open.j0 (k + 1) y0 y1 y2))
  | 0 => fun _ _ _ r h => by simp [inflate_Open.j0] at h
  | k + 1 => by
    have ih0 := inflate_Open.mono_l k
    · intro y0 y1 y2
      unfold inflate_Open.j0
      repeat' first
      | (with_reducible exact ih0 _ _ _)
      | (with_reducible exact adler_Sum.mono _ _)
      | (with_reducible exact LeO.refl _)
      | (with_reducible exact LeO.none _)
      | (with_reducible refine LeO.ite ?_ ?_)
      | (with_reducible refine LeO.bind ?_ (fun _ => ?_))
      | exact ih0 _ _ _
      | exact adler_Sum.mono _ _
      | exact LeO.none _
      | refine LeO.ite ?_ ?_
      | refine LeO.bind ?_ (fun _ => ?_)
theorem inflate_Open.mono : ∀ a0 a1 k, LeO (inflate_Open.f k a0 a1) (inflate_Open.f (k + 1) a0 a1) := by
  intro a0 a1 k
  have ih0 := inflate_Open.mono_l k
  unfold inflate_Open.f
  repeat' first
      | (with_reducible exact ih0 _ _ _)
      | (with_reducible exact adler_Sum.mono _ _)
      | (with_reducible exact LeO.refl _)
      | (with_reducible exact LeO.none _)
      | (with_reducible refine LeO.ite ?_ ?_)
      | (with_reducible refine LeO.bind ?_ (fun _ => ?_))
      | exact ih0 _ _ _
      | exact adler_Sum.mono _ _
      | exact LeO.none _
      | refine LeO.ite ?_ ?_
      | refine LeO.bind ?_ (fun _ => ?_)
set_option maxHeartbeats 8000000 in
set_option maxRecDepth 100000 in
theorem inflate_Open.calls (k : Nat) (a0 : ByteArray) (a1 : Int) (r1 : ByteArray) (r2 : Int) (w : World) (h : inflate_Open.f k a0 a1 = some (r1, r2)) :
    Calls Try.prog 46 #[.string a0, .int .i64 a1] w fun e w' => e = .returned (.tuple #[.string r1, .int .i64 r2]) ∧ Below w.heap.size w w' := by
  have HB := Aside0.mk (Below.refl w.heap.size w)
  have H : (if a1 < 0 then (inflate_Open.j0 k a0 a1 true) else (inflate_Open.j0 k a0 a1 (decide (a1 > 262144)))) = some (r1, r2) := h
  clear h
  have HC3 := Aside0.mk H
  clear H
  go_enter Try.func46, Try.ntmps46
  go_upto_region 1 with (fail)
  repeat (go_quiet (fail); go_upto_region 1 with (fail))
  go_cut [11] (fun v11 wc => ∃ (kq : Nat) (x11_2 : Bool), v11 = .bool x11_2 ∧ Aside0 (inflate_Open.j0 kq a0 a1 x11_2 = some (r1, r2)) ∧ Aside0 (kq ≤ k) ∧ Aside0 (Below w.heap.size w wc))
  case first =>
    have H := HC3.out
    clear HC3
    by_cases c4 : a1 < 0
    · rw [if_pos c4] at H
      have c4b0 : decide (a1 < 0) = true := decide_eq_true c4
      clear c4
      (first | rw [c4b0] | (simp only [i64_w, i32_w]; rw [c4b0]) | skip)
      have H' := Aside0.mk H
      clear H
      go_wp2
      repeat (go_quiet (fail); try go_wp2)
      go_meet
      case rel => exact ⟨_, (true), (by first | rfl | (simp; done) | (simp [*]; done)), H', ⟨by first | omega | exact Nat.le_refl _⟩, ⟨by repeat (first | (with_reducible first | exact HB.out | apply below_alloc | apply pw_below_drewN | apply below_drew1) | exact HB.out)⟩⟩
    · rw [if_neg c4] at H
      have c4b0 : decide (a1 < 0) = false := decide_eq_false c4
      clear c4
      (first | rw [c4b0] | (simp only [i64_w, i32_w]; rw [c4b0]) | skip)
      have H' := Aside0.mk H
      clear H
      go_wp2
      repeat (go_quiet (fail); try go_wp2)
      go_meet
      case rel => exact ⟨_, (decide (a1 > 262144)), (by first | rfl | (simp; done) | (simp [*]; done)), H', ⟨by first | omega | exact Nat.le_refl _⟩, ⟨by repeat (first | (with_reducible first | exact HB.out | apply below_alloc | apply pw_below_drewN | apply below_drew1) | exact HB.out)⟩⟩
  case rest =>
    clear HC3
    try clear p2
    try clear c4
    try clear c4b0
    obtain ⟨kq, x11_2, rfl, HA, HJ2, HB⟩ := hcut
    cases kq with
    | zero => exact absurd HA.out (by simp [inflate_Open.j0])
    | succ kj2 =>
      have H := HA.out
      clear HA
      simp only [inflate_Open.j0] at H
      by_cases c5 : x11_2 = true
      · subst c5
        have H1 : (some ((⟨#[]⟩ : ByteArray), 1)) = some (r1, r2) := by rw [if_pos rfl] at H; exact H
        clear H
        have H := H1
        clear H1
        simp only [Option.some.injEq, Prod.mk.injEq] at H
        obtain ⟨rfl, rfl⟩ := H
        go_wp2
        repeat (go_quiet (fail); try go_wp2)
        go_ret2
        exact ⟨by first | rfl | (simp [errW_none, errW_some] <;> rfl) | (simp [*, errW_none, errW_some] <;> rfl), by repeat (first | (with_reducible first | exact HB.out | apply below_alloc | apply pw_below_drewN | apply below_drew1) | exact HB.out)⟩
      · replace c5 := Bool.eq_false_iff.mpr c5
        subst c5
        have H1 : (if (a0.size : Int) < 2 then (some ((⟨#[]⟩ : ByteArray), 2)) else (if 0 < (a0.size : Int) then (if (Go.bits .and .u8 (bt a0 0) 15) = 8 then (if ((bt a0 0) / 16) > 7 then (some ((⟨#[]⟩ : ByteArray), 3)) else (if 1 < (a0.size : Int) then (if (Int.tmod (Go.bits .or .i64 (wrap64 ((wrap64 (bt a0 0)) * 256)) (wrap64 (bt a0 1))) 31) = 0 then (if (Go.bits .and .u8 (bt a0 1) 32) = 0 then (if 2 ≤ (a0.size : Int) then ((inflate_Raw.f (a0.extract 2 a0.size) a1).bind fun bt204 => (if bt204.2.2 = 0 then (if 0 ≤ (wrap64 (2 + bt204.2.1)) then (if (wrap64 (2 + bt204.2.1)) ≤ (a0.size : Int) then (if ((a0.extract ((wrap64 (2 + bt204.2.1)) : Int).toNat a0.size).size : Int) < 4 then (some ((⟨#[]⟩ : ByteArray), 2)) else (if 0 < ((a0.extract ((wrap64 (2 + bt204.2.1)) : Int).toNat a0.size).size : Int) then (if 1 < ((a0.extract ((wrap64 (2 + bt204.2.1)) : Int).toNat a0.size).size : Int) then (if 2 < ((a0.extract ((wrap64 (2 + bt204.2.1)) : Int).toNat a0.size).size : Int) then (if 3 < ((a0.extract ((wrap64 (2 + bt204.2.1)) : Int).toNat a0.size).size : Int) then ((adler_Sum.f kj2 bt204.1).bind fun t207 => (if (Go.bits .or .i64 (Go.bits .or .i64 (Go.bits .or .i64 (wrap64 ((wrap64 (bt (a0.extract ((wrap64 (2 + bt204.2.1)) : Int).toNat a0.size) 0)) * 16777216)) (wrap64 ((wrap64 (bt (a0.extract ((wrap64 (2 + bt204.2.1)) : Int).toNat a0.size) 1)) * 65536))) (wrap64 ((wrap64 (bt (a0.extract ((wrap64 (2 + bt204.2.1)) : Int).toNat a0.size) 2)) * 256))) (wrap64 (bt (a0.extract ((wrap64 (2 + bt204.2.1)) : Int).toNat a0.size) 3))) = t207 then (if ((a0.extract ((wrap64 (2 + bt204.2.1)) : Int).toNat a0.size).size : Int) > 4 then (some ((⟨#[]⟩ : ByteArray), 3)) else (some (bt204.1, 0))) else (some ((⟨#[]⟩ : ByteArray), 5)))) else (none)) else (none)) else (none)) else (none))) else (none)) else (none)) else (some ((⟨#[]⟩ : ByteArray), bt204.2.2)))) else (none)) else (some ((⟨#[]⟩ : ByteArray), 3))) else (some ((⟨#[]⟩ : ByteArray), 3))) else (none))) else (some ((⟨#[]⟩ : ByteArray), 3))) else (none))) = some (r1, r2) := by rw [if_neg (show ¬ (false = true) by decide)] at H; exact H
        clear H
        have H := H1
        clear H1
        by_cases c6 : (a0.size : Int) < 2
        · rw [if_pos c6] at H
          have c6b0 : decide ((a0.size : Int) < 2) = true := decide_eq_true c6
          have c6b1 : decide (a0.size < 2) = true := decide_eq_true (by omega)
          clear c6
          simp only [Option.some.injEq, Prod.mk.injEq] at H
          obtain ⟨rfl, rfl⟩ := H
          go_wp2
          repeat (go_quiet (fail); try go_wp2)
          go_ret2
          exact ⟨by first | rfl | (simp [errW_none, errW_some] <;> rfl) | (simp [*, errW_none, errW_some] <;> rfl), by repeat (first | (with_reducible first | exact HB.out | apply below_alloc | apply pw_below_drewN | apply below_drew1) | exact HB.out)⟩
        · rw [if_neg c6] at H
          have c6b0 : decide ((a0.size : Int) < 2) = false := decide_eq_false c6
          have c6b1 : decide (a0.size < 2) = false := decide_eq_false (by omega)
          clear c6
          by_cases c7 : 0 < (a0.size : Int)
          · rw [if_pos c7] at H
            have c7b0 : decide (0 < (a0.size : Int)) = true := decide_eq_true c7
            have c7b1 : decide (0 < a0.size) = true := decide_eq_true (by omega)
            clear c7
            by_cases c9 : (Go.bits .and .u8 (bt a0 0) 15) = 8
            · rw [if_pos c9] at H
              have c9b0 : ((Go.bits .and .u8 (bt a0 0) 15) == 8) = true := beq_iff_eq.mpr c9
              have c9b1 : ((Go.bits .and .u8 (bt a0 0) 15) != 8) = false := bne_eq_false_iff_eq.mpr c9
              clear c9
              by_cases c11 : ((bt a0 0) / 16) > 7
              · rw [if_pos c11] at H
                have c11b0 : decide (7 < ((bt a0 0) / 16)) = true := decide_eq_true c11
                clear c11
                simp only [Option.some.injEq, Prod.mk.injEq] at H
                obtain ⟨rfl, rfl⟩ := H
                have p8 : 0 ≤ (0 : Int) := (by omega)
                have q8 : 0 < a0.size := (by have : (0 : Int) < (a0.size : Int) := of_decide_eq_true (by first | (with_reducible assumption) | assumption); omega)
                have hx8 : ∀ h : 0 < a0.size, ((a0[0]'h).toNat : Int) = bt a0 0 := bt_at a0 0
                clear p8
                have qi8 : (0 < (a0.size : Int)) = True := eq_true (of_decide_eq_true (by first | (with_reducible assumption) | assumption))
                replace q8 := eq_true q8
                have p10 : 0 ≤ (0 : Int) := (by omega)
                have q10 : 0 < a0.size := (by have : (0 : Int) < (a0.size : Int) := of_decide_eq_true (by first | (with_reducible assumption) | assumption); omega)
                have hx10 : ∀ h : 0 < a0.size, ((a0[0]'h).toNat : Int) = bt a0 0 := bt_at a0 0
                clear p10
                have qi10 : (0 < (a0.size : Int)) = True := eq_true (of_decide_eq_true (by first | (with_reducible assumption) | assumption))
                replace q10 := eq_true q10
                go_wp2
                repeat (go_quiet (fail); try go_wp2)
                go_ret2
                exact ⟨by first | rfl | (simp [errW_none, errW_some] <;> rfl) | (simp [*, errW_none, errW_some] <;> rfl), by repeat (first | (with_reducible first | exact HB.out | apply below_alloc | apply pw_below_drewN | apply below_drew1) | exact HB.out)⟩
              · rw [if_neg c11] at H
                have c11b0 : decide (7 < ((bt a0 0) / 16)) = false := decide_eq_false c11
                clear c11
                by_cases c13 : 1 < (a0.size : Int)
                · rw [if_pos c13] at H
                  have c13b0 : decide (1 < (a0.size : Int)) = true := decide_eq_true c13
                  have c13b1 : decide (1 < a0.size) = true := decide_eq_true (by omega)
                  clear c13
                  by_cases c15 : (Int.tmod (Go.bits .or .i64 (wrap64 ((wrap64 (bt a0 0)) * 256)) (wrap64 (bt a0 1))) 31) = 0
                  · rw [if_pos c15] at H
                    have c15b0 : ((Int.tmod (Go.bits .or .i64 (wrap64 ((wrap64 (bt a0 0)) * 256)) (wrap64 (bt a0 1))) 31) == 0) = true := beq_iff_eq.mpr c15
                    have c15b1 : ((Int.tmod (Go.bits .or .i64 (wrap64 ((wrap64 (bt a0 0)) * 256)) (wrap64 (bt a0 1))) 31) != 0) = false := bne_eq_false_iff_eq.mpr c15
                    clear c15
                    by_cases c17 : (Go.bits .and .u8 (bt a0 1) 32) = 0
                    · rw [if_pos c17] at H
                      have c17b0 : ((Go.bits .and .u8 (bt a0 1) 32) == 0) = true := beq_iff_eq.mpr c17
                      have c17b1 : ((Go.bits .and .u8 (bt a0 1) 32) != 0) = false := bne_eq_false_iff_eq.mpr c17
                      clear c17
                      by_cases c18 : 2 ≤ (a0.size : Int)
                      · rw [if_pos c18] at H
                        have c18b0 := eq_true c18
                        have c18b1 : decide (2 ≤ (a0.size : Int)) = true := decide_eq_true c18
                        clear c18
                        replace H := Option.bind_eq_some_iff.mp H
                        obtain ⟨⟨t204, t205, t206⟩, A190, H⟩ := H
                        replace H : (if t206 = 0 then (if 0 ≤ (wrap64 (2 + t205)) then (if (wrap64 (2 + t205)) ≤ (a0.size : Int) then (if ((a0.extract ((wrap64 (2 + t205)) : Int).toNat a0.size).size : Int) < 4 then (some ((⟨#[]⟩ : ByteArray), 2)) else (if 0 < ((a0.extract ((wrap64 (2 + t205)) : Int).toNat a0.size).size : Int) then (if 1 < ((a0.extract ((wrap64 (2 + t205)) : Int).toNat a0.size).size : Int) then (if 2 < ((a0.extract ((wrap64 (2 + t205)) : Int).toNat a0.size).size : Int) then (if 3 < ((a0.extract ((wrap64 (2 + t205)) : Int).toNat a0.size).size : Int) then ((adler_Sum.f kj2 t204).bind fun t207 => (if (Go.bits .or .i64 (Go.bits .or .i64 (Go.bits .or .i64 (wrap64 ((wrap64 (bt (a0.extract ((wrap64 (2 + t205)) : Int).toNat a0.size) 0)) * 16777216)) (wrap64 ((wrap64 (bt (a0.extract ((wrap64 (2 + t205)) : Int).toNat a0.size) 1)) * 65536))) (wrap64 ((wrap64 (bt (a0.extract ((wrap64 (2 + t205)) : Int).toNat a0.size) 2)) * 256))) (wrap64 (bt (a0.extract ((wrap64 (2 + t205)) : Int).toNat a0.size) 3))) = t207 then (if ((a0.extract ((wrap64 (2 + t205)) : Int).toNat a0.size).size : Int) > 4 then (some ((⟨#[]⟩ : ByteArray), 3)) else (some (t204, 0))) else (some ((⟨#[]⟩ : ByteArray), 5)))) else (none)) else (none)) else (none)) else (none))) else (none)) else (none)) else (some ((⟨#[]⟩ : ByteArray), t206))) = some (r1, r2) := H
                        have A19 := Aside0.mk A190
                        clear A190
                        by_cases c20 : t206 = 0
                        · rw [if_pos c20] at H
                          have c20b0 : (t206 == 0) = true := beq_iff_eq.mpr c20
                          have c20b1 : (t206 != 0) = false := bne_eq_false_iff_eq.mpr c20
                          clear c20
                          obtain ⟨ji21, hji21⟩ : ∃ j_ : Int, (wrap64 (2 + t205)) = j_ := ⟨_, rfl⟩
                          replace H : (if 0 ≤ (ji21) then (if (ji21) ≤ (a0.size : Int) then (if ((a0.extract ((ji21) : Int).toNat a0.size).size : Int) < 4 then (some ((⟨#[]⟩ : ByteArray), 2)) else (if 0 < ((a0.extract ((ji21) : Int).toNat a0.size).size : Int) then (if 1 < ((a0.extract ((ji21) : Int).toNat a0.size).size : Int) then (if 2 < ((a0.extract ((ji21) : Int).toNat a0.size).size : Int) then (if 3 < ((a0.extract ((ji21) : Int).toNat a0.size).size : Int) then ((adler_Sum.f kj2 t204).bind fun t207 => (if (Go.bits .or .i64 (Go.bits .or .i64 (Go.bits .or .i64 (wrap64 ((wrap64 (bt (a0.extract ((ji21) : Int).toNat a0.size) 0)) * 16777216)) (wrap64 ((wrap64 (bt (a0.extract ((ji21) : Int).toNat a0.size) 1)) * 65536))) (wrap64 ((wrap64 (bt (a0.extract ((ji21) : Int).toNat a0.size) 2)) * 256))) (wrap64 (bt (a0.extract ((ji21) : Int).toNat a0.size) 3))) = t207 then (if ((a0.extract ((ji21) : Int).toNat a0.size).size : Int) > 4 then (some ((⟨#[]⟩ : ByteArray), 3)) else (some (t204, 0))) else (some ((⟨#[]⟩ : ByteArray), 5)))) else (none)) else (none)) else (none)) else (none))) else (none)) else (none)) = some (r1, r2) := by first | (rw [hji21] at H; exact H) | (simp only [hji21] at H ⊢; exact H)
                          (try rw [hji21] at A19)
                          have hji21w : (IntKind.i64.wrap (2 + t205)) = ji21 := (i64_w _).trans hji21
                          by_cases c22 : 0 ≤ (ji21)
                          · rw [if_pos c22] at H
                            have c22b0 := eq_true c22
                            have c22b1 : decide (0 ≤ (ji21)) = true := decide_eq_true c22
                            clear c22
                            by_cases c23 : (ji21) ≤ (a0.size : Int)
                            · rw [if_pos c23] at H
                              have c23b0 := eq_true c23
                              have c23b1 : decide ((ji21) ≤ (a0.size : Int)) = true := decide_eq_true c23
                              clear c23
                              obtain ⟨rs_, hrs_⟩ : ∃ y : ByteArray, a0.extract ((ji21) : Int).toNat a0.size = y := ⟨_, rfl⟩
                              simp only [hrs_] at H
                              by_cases c24 : (rs_.size : Int) < 4
                              · rw [if_pos c24] at H
                                have c24b0 : decide ((rs_.size : Int) < 4) = true := decide_eq_true c24
                                have c24b1 : decide (rs_.size < 4) = true := decide_eq_true (by omega)
                                clear c24
                                simp only [Option.some.injEq, Prod.mk.injEq] at H
                                obtain ⟨rfl, rfl⟩ := H
                                have p8 : 0 ≤ (0 : Int) := (by omega)
                                have q8 : 0 < a0.size := (by have : (0 : Int) < (a0.size : Int) := of_decide_eq_true (by first | (with_reducible assumption) | assumption); omega)
                                have hx8 : ∀ h : 0 < a0.size, ((a0[0]'h).toNat : Int) = bt a0 0 := bt_at a0 0
                                clear p8
                                have qi8 : (0 < (a0.size : Int)) = True := eq_true (of_decide_eq_true (by first | (with_reducible assumption) | assumption))
                                replace q8 := eq_true q8
                                have p10 : 0 ≤ (0 : Int) := (by omega)
                                have q10 : 0 < a0.size := (by have : (0 : Int) < (a0.size : Int) := of_decide_eq_true (by first | (with_reducible assumption) | assumption); omega)
                                have hx10 : ∀ h : 0 < a0.size, ((a0[0]'h).toNat : Int) = bt a0 0 := bt_at a0 0
                                clear p10
                                have qi10 : (0 < (a0.size : Int)) = True := eq_true (of_decide_eq_true (by first | (with_reducible assumption) | assumption))
                                replace q10 := eq_true q10
                                have p12 : 0 ≤ (0 : Int) := (by omega)
                                have q12 : 0 < a0.size := (by have : (0 : Int) < (a0.size : Int) := of_decide_eq_true (by first | (with_reducible assumption) | assumption); omega)
                                have hx12 : ∀ h : 0 < a0.size, ((a0[0]'h).toNat : Int) = bt a0 0 := bt_at a0 0
                                clear p12
                                have qi12 : (0 < (a0.size : Int)) = True := eq_true (of_decide_eq_true (by first | (with_reducible assumption) | assumption))
                                replace q12 := eq_true q12
                                have p14 : 0 ≤ (1 : Int) := (by omega)
                                have q14 : 1 < a0.size := (by have : (1 : Int) < (a0.size : Int) := of_decide_eq_true (by first | (with_reducible assumption) | assumption); omega)
                                have hx14 : ∀ h : 1 < a0.size, ((a0[1]'h).toNat : Int) = bt a0 1 := bt_at a0 1
                                clear p14
                                have qi14 : (1 < (a0.size : Int)) = True := eq_true (of_decide_eq_true (by first | (with_reducible assumption) | assumption))
                                replace q14 := eq_true q14
                                have p16 : 0 ≤ (1 : Int) := (by omega)
                                have q16 : 1 < a0.size := (by have : (1 : Int) < (a0.size : Int) := of_decide_eq_true (by first | (with_reducible assumption) | assumption); omega)
                                have hx16 : ∀ h : 1 < a0.size, ((a0[1]'h).toNat : Int) = bt a0 1 := bt_at a0 1
                                clear p16
                                have qi16 : (1 < (a0.size : Int)) = True := eq_true (of_decide_eq_true (by first | (with_reducible assumption) | assumption))
                                replace q16 := eq_true q16
                                go_wp2_with (first | (go_at_call 44; (with_reducible refine (inflate_Raw.calls (a0.extract 2 a0.size) a1 t204 t205 t206 _ A19.out).mono ?_); rintro e w25 ⟨rfl, hb⟩; have n0_ := Aside0.mk (below_step (by repeat (first | (with_reducible first | exact HB.out | apply below_alloc | apply pw_below_drewN | apply below_drew1) | exact HB.out)) hb); clear HB; have HB := n0_; clear n0_; (try clear hb); (try clear hb2); (try clear hk); (try clear hi)))
                                repeat (go_quiet (first | (go_at_call 44; (with_reducible refine (inflate_Raw.calls (a0.extract 2 a0.size) a1 t204 t205 t206 _ A19.out).mono ?_); rintro e w25 ⟨rfl, hb⟩; have n0_ := Aside0.mk (below_step (by repeat (first | (with_reducible first | exact HB.out | apply below_alloc | apply pw_below_drewN | apply below_drew1) | exact HB.out)) hb); clear HB; have HB := n0_; clear n0_; (try clear hb); (try clear hb2); (try clear hk); (try clear hi))); try go_wp2_with (first | (go_at_call 44; (with_reducible refine (inflate_Raw.calls (a0.extract 2 a0.size) a1 t204 t205 t206 _ A19.out).mono ?_); rintro e w25 ⟨rfl, hb⟩; have n0_ := Aside0.mk (below_step (by repeat (first | (with_reducible first | exact HB.out | apply below_alloc | apply pw_below_drewN | apply below_drew1) | exact HB.out)) hb); clear HB; have HB := n0_; clear n0_; (try clear hb); (try clear hb2); (try clear hk); (try clear hi))))
                                go_ret2
                                exact ⟨by first | rfl | (simp [errW_none, errW_some] <;> rfl) | (simp only [← hji21]; first | rfl | (simp [errW_none, errW_some] <;> rfl)) | (simp [*, errW_none, errW_some] <;> rfl), by repeat (first | (with_reducible first | exact HB.out | apply below_alloc | apply pw_below_drewN | apply below_drew1) | exact HB.out)⟩
                              · rw [if_neg c24] at H
                                have c24b0 : decide ((rs_.size : Int) < 4) = false := decide_eq_false c24
                                have c24b1 : decide (rs_.size < 4) = false := decide_eq_false (by omega)
                                clear c24
                                by_cases c26 : 0 < (rs_.size : Int)
                                · rw [if_pos c26] at H
                                  have c26b0 : decide (0 < (rs_.size : Int)) = true := decide_eq_true c26
                                  have c26b1 : decide (0 < rs_.size) = true := decide_eq_true (by omega)
                                  clear c26
                                  by_cases c28 : 1 < (rs_.size : Int)
                                  · rw [if_pos c28] at H
                                    have c28b0 : decide (1 < (rs_.size : Int)) = true := decide_eq_true c28
                                    have c28b1 : decide (1 < rs_.size) = true := decide_eq_true (by omega)
                                    clear c28
                                    by_cases c30 : 2 < (rs_.size : Int)
                                    · rw [if_pos c30] at H
                                      have c30b0 : decide (2 < (rs_.size : Int)) = true := decide_eq_true c30
                                      have c30b1 : decide (2 < rs_.size) = true := decide_eq_true (by omega)
                                      clear c30
                                      by_cases c32 : 3 < (rs_.size : Int)
                                      · rw [if_pos c32] at H
                                        have c32b0 : decide (3 < (rs_.size : Int)) = true := decide_eq_true c32
                                        have c32b1 : decide (3 < rs_.size) = true := decide_eq_true (by omega)
                                        clear c32
                                        replace H := Option.bind_eq_some_iff.mp H
                                        obtain ⟨t207, A340, H⟩ := H
                                        replace H : (if (Go.bits .or .i64 (Go.bits .or .i64 (Go.bits .or .i64 (wrap64 ((wrap64 (bt rs_ 0)) * 16777216)) (wrap64 ((wrap64 (bt rs_ 1)) * 65536))) (wrap64 ((wrap64 (bt rs_ 2)) * 256))) (wrap64 (bt rs_ 3))) = t207 then (if (rs_.size : Int) > 4 then (some ((⟨#[]⟩ : ByteArray), 3)) else (some (t204, 0))) else (some ((⟨#[]⟩ : ByteArray), 5))) = some (r1, r2) := H
                                        have A34 := Aside0.mk A340
                                        clear A340
                                        by_cases c35 : (Go.bits .or .i64 (Go.bits .or .i64 (Go.bits .or .i64 (wrap64 ((wrap64 (bt rs_ 0)) * 16777216)) (wrap64 ((wrap64 (bt rs_ 1)) * 65536))) (wrap64 ((wrap64 (bt rs_ 2)) * 256))) (wrap64 (bt rs_ 3))) = t207
                                        · rw [if_pos c35] at H
                                          have c35b0 : ((Go.bits .or .i64 (Go.bits .or .i64 (Go.bits .or .i64 (wrap64 ((wrap64 (bt rs_ 0)) * 16777216)) (wrap64 ((wrap64 (bt rs_ 1)) * 65536))) (wrap64 ((wrap64 (bt rs_ 2)) * 256))) (wrap64 (bt rs_ 3))) == t207) = true := beq_iff_eq.mpr c35
                                          have c35b1 : ((Go.bits .or .i64 (Go.bits .or .i64 (Go.bits .or .i64 (wrap64 ((wrap64 (bt rs_ 0)) * 16777216)) (wrap64 ((wrap64 (bt rs_ 1)) * 65536))) (wrap64 ((wrap64 (bt rs_ 2)) * 256))) (wrap64 (bt rs_ 3))) != t207) = false := bne_eq_false_iff_eq.mpr c35
                                          clear c35
                                          by_cases c36 : (rs_.size : Int) > 4
                                          · rw [if_pos c36] at H
                                            have c36b0 : decide (4 < (rs_.size : Int)) = true := decide_eq_true c36
                                            have c36b1 : decide (4 < rs_.size) = true := decide_eq_true (by omega)
                                            clear c36
                                            simp only [Option.some.injEq, Prod.mk.injEq] at H
                                            obtain ⟨rfl, rfl⟩ := H
                                            have p8 : 0 ≤ (0 : Int) := (by omega)
                                            have q8 : 0 < a0.size := (by have : (0 : Int) < (a0.size : Int) := of_decide_eq_true (by first | (with_reducible assumption) | assumption); omega)
                                            have hx8 : ∀ h : 0 < a0.size, ((a0[0]'h).toNat : Int) = bt a0 0 := bt_at a0 0
                                            clear p8
                                            have qi8 : (0 < (a0.size : Int)) = True := eq_true (of_decide_eq_true (by first | (with_reducible assumption) | assumption))
                                            replace q8 := eq_true q8
                                            have p10 : 0 ≤ (0 : Int) := (by omega)
                                            have q10 : 0 < a0.size := (by have : (0 : Int) < (a0.size : Int) := of_decide_eq_true (by first | (with_reducible assumption) | assumption); omega)
                                            have hx10 : ∀ h : 0 < a0.size, ((a0[0]'h).toNat : Int) = bt a0 0 := bt_at a0 0
                                            clear p10
                                            have qi10 : (0 < (a0.size : Int)) = True := eq_true (of_decide_eq_true (by first | (with_reducible assumption) | assumption))
                                            replace q10 := eq_true q10
                                            have p12 : 0 ≤ (0 : Int) := (by omega)
                                            have q12 : 0 < a0.size := (by have : (0 : Int) < (a0.size : Int) := of_decide_eq_true (by first | (with_reducible assumption) | assumption); omega)
                                            have hx12 : ∀ h : 0 < a0.size, ((a0[0]'h).toNat : Int) = bt a0 0 := bt_at a0 0
                                            clear p12
                                            have qi12 : (0 < (a0.size : Int)) = True := eq_true (of_decide_eq_true (by first | (with_reducible assumption) | assumption))
                                            replace q12 := eq_true q12
                                            have p14 : 0 ≤ (1 : Int) := (by omega)
                                            have q14 : 1 < a0.size := (by have : (1 : Int) < (a0.size : Int) := of_decide_eq_true (by first | (with_reducible assumption) | assumption); omega)
                                            have hx14 : ∀ h : 1 < a0.size, ((a0[1]'h).toNat : Int) = bt a0 1 := bt_at a0 1
                                            clear p14
                                            have qi14 : (1 < (a0.size : Int)) = True := eq_true (of_decide_eq_true (by first | (with_reducible assumption) | assumption))
                                            replace q14 := eq_true q14
                                            have p16 : 0 ≤ (1 : Int) := (by omega)
                                            have q16 : 1 < a0.size := (by have : (1 : Int) < (a0.size : Int) := of_decide_eq_true (by first | (with_reducible assumption) | assumption); omega)
                                            have hx16 : ∀ h : 1 < a0.size, ((a0[1]'h).toNat : Int) = bt a0 1 := bt_at a0 1
                                            clear p16
                                            have qi16 : (1 < (a0.size : Int)) = True := eq_true (of_decide_eq_true (by first | (with_reducible assumption) | assumption))
                                            replace q16 := eq_true q16
                                            go_wp2_with (first | (go_at_call 44; (with_reducible refine (inflate_Raw.calls (a0.extract 2 a0.size) a1 t204 t205 t206 _ A19.out).mono ?_); rintro e w37 ⟨rfl, hb⟩; have n0_ := Aside0.mk (below_step (by repeat (first | (with_reducible first | exact HB.out | apply below_alloc | apply pw_below_drewN | apply below_drew1) | exact HB.out)) hb); clear HB; have HB := n0_; clear n0_; (try clear hb); (try clear hb2); (try clear hk); (try clear hi); have p27 : 0 ≤ (0 : Int) := (by omega); have q27 : 0 < rs_.size := (by have : (0 : Int) < (rs_.size : Int) := of_decide_eq_true (by first | (with_reducible assumption) | assumption); omega); have hx27 : ∀ h : 0 < rs_.size, ((rs_[0]'h).toNat : Int) = bt rs_ 0 := bt_at rs_ 0; clear p27; have qi27 : (0 < (rs_.size : Int)) = True := eq_true (of_decide_eq_true (by first | (with_reducible assumption) | assumption)); replace q27 := eq_true q27; have p29 : 0 ≤ (1 : Int) := (by omega); have q29 : 1 < rs_.size := (by have : (1 : Int) < (rs_.size : Int) := of_decide_eq_true (by first | (with_reducible assumption) | assumption); omega); have hx29 : ∀ h : 1 < rs_.size, ((rs_[1]'h).toNat : Int) = bt rs_ 1 := bt_at rs_ 1; clear p29; have qi29 : (1 < (rs_.size : Int)) = True := eq_true (of_decide_eq_true (by first | (with_reducible assumption) | assumption)); replace q29 := eq_true q29; have p31 : 0 ≤ (2 : Int) := (by omega); have q31 : 2 < rs_.size := (by have : (2 : Int) < (rs_.size : Int) := of_decide_eq_true (by first | (with_reducible assumption) | assumption); omega); have hx31 : ∀ h : 2 < rs_.size, ((rs_[2]'h).toNat : Int) = bt rs_ 2 := bt_at rs_ 2; clear p31; have qi31 : (2 < (rs_.size : Int)) = True := eq_true (of_decide_eq_true (by first | (with_reducible assumption) | assumption)); replace q31 := eq_true q31; have p33 : 0 ≤ (3 : Int) := (by omega); have q33 : 3 < rs_.size := (by have : (3 : Int) < (rs_.size : Int) := of_decide_eq_true (by first | (with_reducible assumption) | assumption); omega); have hx33 : ∀ h : 3 < rs_.size, ((rs_[3]'h).toNat : Int) = bt rs_ 3 := bt_at rs_ 3; clear p33; have qi33 : (3 < (rs_.size : Int)) = True := eq_true (of_decide_eq_true (by first | (with_reducible assumption) | assumption)); replace q33 := eq_true q33) | (go_at_call 48; (with_reducible refine (adler_Sum.calls kj2 t204 t207 _ A34.out).mono ?_); rintro e w' ⟨rfl, ⟨nd, rfl⟩⟩; (try first | exact ⟨rfl, _, World.drewN_drewN _ _ _⟩ | exact ⟨rfl, _, Eq.trans (World.drewN_drewN _ _ _) (congrArg (World.drewN _) (Nat.add_assoc _ _ _))⟩)))
                                            repeat (go_quiet (first | (go_at_call 44; (with_reducible refine (inflate_Raw.calls (a0.extract 2 a0.size) a1 t204 t205 t206 _ A19.out).mono ?_); rintro e w37 ⟨rfl, hb⟩; have n0_ := Aside0.mk (below_step (by repeat (first | (with_reducible first | exact HB.out | apply below_alloc | apply pw_below_drewN | apply below_drew1) | exact HB.out)) hb); clear HB; have HB := n0_; clear n0_; (try clear hb); (try clear hb2); (try clear hk); (try clear hi); have p27 : 0 ≤ (0 : Int) := (by omega); have q27 : 0 < rs_.size := (by have : (0 : Int) < (rs_.size : Int) := of_decide_eq_true (by first | (with_reducible assumption) | assumption); omega); have hx27 : ∀ h : 0 < rs_.size, ((rs_[0]'h).toNat : Int) = bt rs_ 0 := bt_at rs_ 0; clear p27; have qi27 : (0 < (rs_.size : Int)) = True := eq_true (of_decide_eq_true (by first | (with_reducible assumption) | assumption)); replace q27 := eq_true q27; have p29 : 0 ≤ (1 : Int) := (by omega); have q29 : 1 < rs_.size := (by have : (1 : Int) < (rs_.size : Int) := of_decide_eq_true (by first | (with_reducible assumption) | assumption); omega); have hx29 : ∀ h : 1 < rs_.size, ((rs_[1]'h).toNat : Int) = bt rs_ 1 := bt_at rs_ 1; clear p29; have qi29 : (1 < (rs_.size : Int)) = True := eq_true (of_decide_eq_true (by first | (with_reducible assumption) | assumption)); replace q29 := eq_true q29; have p31 : 0 ≤ (2 : Int) := (by omega); have q31 : 2 < rs_.size := (by have : (2 : Int) < (rs_.size : Int) := of_decide_eq_true (by first | (with_reducible assumption) | assumption); omega); have hx31 : ∀ h : 2 < rs_.size, ((rs_[2]'h).toNat : Int) = bt rs_ 2 := bt_at rs_ 2; clear p31; have qi31 : (2 < (rs_.size : Int)) = True := eq_true (of_decide_eq_true (by first | (with_reducible assumption) | assumption)); replace q31 := eq_true q31; have p33 : 0 ≤ (3 : Int) := (by omega); have q33 : 3 < rs_.size := (by have : (3 : Int) < (rs_.size : Int) := of_decide_eq_true (by first | (with_reducible assumption) | assumption); omega); have hx33 : ∀ h : 3 < rs_.size, ((rs_[3]'h).toNat : Int) = bt rs_ 3 := bt_at rs_ 3; clear p33; have qi33 : (3 < (rs_.size : Int)) = True := eq_true (of_decide_eq_true (by first | (with_reducible assumption) | assumption)); replace q33 := eq_true q33) | (go_at_call 48; (with_reducible refine (adler_Sum.calls kj2 t204 t207 _ A34.out).mono ?_); rintro e w' ⟨rfl, ⟨nd, rfl⟩⟩; (try first | exact ⟨rfl, _, World.drewN_drewN _ _ _⟩ | exact ⟨rfl, _, Eq.trans (World.drewN_drewN _ _ _) (congrArg (World.drewN _) (Nat.add_assoc _ _ _))⟩))); try go_wp2_with (first | (go_at_call 44; (with_reducible refine (inflate_Raw.calls (a0.extract 2 a0.size) a1 t204 t205 t206 _ A19.out).mono ?_); rintro e w37 ⟨rfl, hb⟩; have n0_ := Aside0.mk (below_step (by repeat (first | (with_reducible first | exact HB.out | apply below_alloc | apply pw_below_drewN | apply below_drew1) | exact HB.out)) hb); clear HB; have HB := n0_; clear n0_; (try clear hb); (try clear hb2); (try clear hk); (try clear hi); have p27 : 0 ≤ (0 : Int) := (by omega); have q27 : 0 < rs_.size := (by have : (0 : Int) < (rs_.size : Int) := of_decide_eq_true (by first | (with_reducible assumption) | assumption); omega); have hx27 : ∀ h : 0 < rs_.size, ((rs_[0]'h).toNat : Int) = bt rs_ 0 := bt_at rs_ 0; clear p27; have qi27 : (0 < (rs_.size : Int)) = True := eq_true (of_decide_eq_true (by first | (with_reducible assumption) | assumption)); replace q27 := eq_true q27; have p29 : 0 ≤ (1 : Int) := (by omega); have q29 : 1 < rs_.size := (by have : (1 : Int) < (rs_.size : Int) := of_decide_eq_true (by first | (with_reducible assumption) | assumption); omega); have hx29 : ∀ h : 1 < rs_.size, ((rs_[1]'h).toNat : Int) = bt rs_ 1 := bt_at rs_ 1; clear p29; have qi29 : (1 < (rs_.size : Int)) = True := eq_true (of_decide_eq_true (by first | (with_reducible assumption) | assumption)); replace q29 := eq_true q29; have p31 : 0 ≤ (2 : Int) := (by omega); have q31 : 2 < rs_.size := (by have : (2 : Int) < (rs_.size : Int) := of_decide_eq_true (by first | (with_reducible assumption) | assumption); omega); have hx31 : ∀ h : 2 < rs_.size, ((rs_[2]'h).toNat : Int) = bt rs_ 2 := bt_at rs_ 2; clear p31; have qi31 : (2 < (rs_.size : Int)) = True := eq_true (of_decide_eq_true (by first | (with_reducible assumption) | assumption)); replace q31 := eq_true q31; have p33 : 0 ≤ (3 : Int) := (by omega); have q33 : 3 < rs_.size := (by have : (3 : Int) < (rs_.size : Int) := of_decide_eq_true (by first | (with_reducible assumption) | assumption); omega); have hx33 : ∀ h : 3 < rs_.size, ((rs_[3]'h).toNat : Int) = bt rs_ 3 := bt_at rs_ 3; clear p33; have qi33 : (3 < (rs_.size : Int)) = True := eq_true (of_decide_eq_true (by first | (with_reducible assumption) | assumption)); replace q33 := eq_true q33) | (go_at_call 48; (with_reducible refine (adler_Sum.calls kj2 t204 t207 _ A34.out).mono ?_); rintro e w' ⟨rfl, ⟨nd, rfl⟩⟩; (try first | exact ⟨rfl, _, World.drewN_drewN _ _ _⟩ | exact ⟨rfl, _, Eq.trans (World.drewN_drewN _ _ _) (congrArg (World.drewN _) (Nat.add_assoc _ _ _))⟩))))
                                            go_ret2
                                            exact ⟨by first | rfl | (simp [errW_none, errW_some] <;> rfl) | (simp only [← hji21]; first | rfl | (simp [errW_none, errW_some] <;> rfl)) | (simp [*, errW_none, errW_some] <;> rfl), by repeat (first | (with_reducible first | exact HB.out | apply below_alloc | apply pw_below_drewN | apply below_drew1) | exact HB.out)⟩
                                          · rw [if_neg c36] at H
                                            have c36b0 : decide (4 < (rs_.size : Int)) = false := decide_eq_false c36
                                            have c36b1 : decide (4 < rs_.size) = false := decide_eq_false (by omega)
                                            clear c36
                                            simp only [Option.some.injEq, Prod.mk.injEq] at H
                                            obtain ⟨rfl, rfl⟩ := H
                                            have p8 : 0 ≤ (0 : Int) := (by omega)
                                            have q8 : 0 < a0.size := (by have : (0 : Int) < (a0.size : Int) := of_decide_eq_true (by first | (with_reducible assumption) | assumption); omega)
                                            have hx8 : ∀ h : 0 < a0.size, ((a0[0]'h).toNat : Int) = bt a0 0 := bt_at a0 0
                                            clear p8
                                            have qi8 : (0 < (a0.size : Int)) = True := eq_true (of_decide_eq_true (by first | (with_reducible assumption) | assumption))
                                            replace q8 := eq_true q8
                                            have p10 : 0 ≤ (0 : Int) := (by omega)
                                            have q10 : 0 < a0.size := (by have : (0 : Int) < (a0.size : Int) := of_decide_eq_true (by first | (with_reducible assumption) | assumption); omega)
                                            have hx10 : ∀ h : 0 < a0.size, ((a0[0]'h).toNat : Int) = bt a0 0 := bt_at a0 0
                                            clear p10
                                            have qi10 : (0 < (a0.size : Int)) = True := eq_true (of_decide_eq_true (by first | (with_reducible assumption) | assumption))
                                            replace q10 := eq_true q10
                                            have p12 : 0 ≤ (0 : Int) := (by omega)
                                            have q12 : 0 < a0.size := (by have : (0 : Int) < (a0.size : Int) := of_decide_eq_true (by first | (with_reducible assumption) | assumption); omega)
                                            have hx12 : ∀ h : 0 < a0.size, ((a0[0]'h).toNat : Int) = bt a0 0 := bt_at a0 0
                                            clear p12
                                            have qi12 : (0 < (a0.size : Int)) = True := eq_true (of_decide_eq_true (by first | (with_reducible assumption) | assumption))
                                            replace q12 := eq_true q12
                                            have p14 : 0 ≤ (1 : Int) := (by omega)
                                            have q14 : 1 < a0.size := (by have : (1 : Int) < (a0.size : Int) := of_decide_eq_true (by first | (with_reducible assumption) | assumption); omega)
                                            have hx14 : ∀ h : 1 < a0.size, ((a0[1]'h).toNat : Int) = bt a0 1 := bt_at a0 1
                                            clear p14
                                            have qi14 : (1 < (a0.size : Int)) = True := eq_true (of_decide_eq_true (by first | (with_reducible assumption) | assumption))
                                            replace q14 := eq_true q14
                                            have p16 : 0 ≤ (1 : Int) := (by omega)
                                            have q16 : 1 < a0.size := (by have : (1 : Int) < (a0.size : Int) := of_decide_eq_true (by first | (with_reducible assumption) | assumption); omega)
                                            have hx16 : ∀ h : 1 < a0.size, ((a0[1]'h).toNat : Int) = bt a0 1 := bt_at a0 1
                                            clear p16
                                            have qi16 : (1 < (a0.size : Int)) = True := eq_true (of_decide_eq_true (by first | (with_reducible assumption) | assumption))
                                            replace q16 := eq_true q16
                                            go_wp2_with (first | (go_at_call 44; (with_reducible refine (inflate_Raw.calls (a0.extract 2 a0.size) a1 t204 t205 t206 _ A19.out).mono ?_); rintro e w38 ⟨rfl, hb⟩; have n0_ := Aside0.mk (below_step (by repeat (first | (with_reducible first | exact HB.out | apply below_alloc | apply pw_below_drewN | apply below_drew1) | exact HB.out)) hb); clear HB; have HB := n0_; clear n0_; (try clear hb); (try clear hb2); (try clear hk); (try clear hi); have p27 : 0 ≤ (0 : Int) := (by omega); have q27 : 0 < rs_.size := (by have : (0 : Int) < (rs_.size : Int) := of_decide_eq_true (by first | (with_reducible assumption) | assumption); omega); have hx27 : ∀ h : 0 < rs_.size, ((rs_[0]'h).toNat : Int) = bt rs_ 0 := bt_at rs_ 0; clear p27; have qi27 : (0 < (rs_.size : Int)) = True := eq_true (of_decide_eq_true (by first | (with_reducible assumption) | assumption)); replace q27 := eq_true q27; have p29 : 0 ≤ (1 : Int) := (by omega); have q29 : 1 < rs_.size := (by have : (1 : Int) < (rs_.size : Int) := of_decide_eq_true (by first | (with_reducible assumption) | assumption); omega); have hx29 : ∀ h : 1 < rs_.size, ((rs_[1]'h).toNat : Int) = bt rs_ 1 := bt_at rs_ 1; clear p29; have qi29 : (1 < (rs_.size : Int)) = True := eq_true (of_decide_eq_true (by first | (with_reducible assumption) | assumption)); replace q29 := eq_true q29; have p31 : 0 ≤ (2 : Int) := (by omega); have q31 : 2 < rs_.size := (by have : (2 : Int) < (rs_.size : Int) := of_decide_eq_true (by first | (with_reducible assumption) | assumption); omega); have hx31 : ∀ h : 2 < rs_.size, ((rs_[2]'h).toNat : Int) = bt rs_ 2 := bt_at rs_ 2; clear p31; have qi31 : (2 < (rs_.size : Int)) = True := eq_true (of_decide_eq_true (by first | (with_reducible assumption) | assumption)); replace q31 := eq_true q31; have p33 : 0 ≤ (3 : Int) := (by omega); have q33 : 3 < rs_.size := (by have : (3 : Int) < (rs_.size : Int) := of_decide_eq_true (by first | (with_reducible assumption) | assumption); omega); have hx33 : ∀ h : 3 < rs_.size, ((rs_[3]'h).toNat : Int) = bt rs_ 3 := bt_at rs_ 3; clear p33; have qi33 : (3 < (rs_.size : Int)) = True := eq_true (of_decide_eq_true (by first | (with_reducible assumption) | assumption)); replace q33 := eq_true q33) | (go_at_call 48; (with_reducible refine (adler_Sum.calls kj2 t204 t207 _ A34.out).mono ?_); rintro e w' ⟨rfl, ⟨nd, rfl⟩⟩; (try first | exact ⟨rfl, _, World.drewN_drewN _ _ _⟩ | exact ⟨rfl, _, Eq.trans (World.drewN_drewN _ _ _) (congrArg (World.drewN _) (Nat.add_assoc _ _ _))⟩)))
                                            repeat (go_quiet (first | (go_at_call 44; (with_reducible refine (inflate_Raw.calls (a0.extract 2 a0.size) a1 t204 t205 t206 _ A19.out).mono ?_); rintro e w38 ⟨rfl, hb⟩; have n0_ := Aside0.mk (below_step (by repeat (first | (with_reducible first | exact HB.out | apply below_alloc | apply pw_below_drewN | apply below_drew1) | exact HB.out)) hb); clear HB; have HB := n0_; clear n0_; (try clear hb); (try clear hb2); (try clear hk); (try clear hi); have p27 : 0 ≤ (0 : Int) := (by omega); have q27 : 0 < rs_.size := (by have : (0 : Int) < (rs_.size : Int) := of_decide_eq_true (by first | (with_reducible assumption) | assumption); omega); have hx27 : ∀ h : 0 < rs_.size, ((rs_[0]'h).toNat : Int) = bt rs_ 0 := bt_at rs_ 0; clear p27; have qi27 : (0 < (rs_.size : Int)) = True := eq_true (of_decide_eq_true (by first | (with_reducible assumption) | assumption)); replace q27 := eq_true q27; have p29 : 0 ≤ (1 : Int) := (by omega); have q29 : 1 < rs_.size := (by have : (1 : Int) < (rs_.size : Int) := of_decide_eq_true (by first | (with_reducible assumption) | assumption); omega); have hx29 : ∀ h : 1 < rs_.size, ((rs_[1]'h).toNat : Int) = bt rs_ 1 := bt_at rs_ 1; clear p29; have qi29 : (1 < (rs_.size : Int)) = True := eq_true (of_decide_eq_true (by first | (with_reducible assumption) | assumption)); replace q29 := eq_true q29; have p31 : 0 ≤ (2 : Int) := (by omega); have q31 : 2 < rs_.size := (by have : (2 : Int) < (rs_.size : Int) := of_decide_eq_true (by first | (with_reducible assumption) | assumption); omega); have hx31 : ∀ h : 2 < rs_.size, ((rs_[2]'h).toNat : Int) = bt rs_ 2 := bt_at rs_ 2; clear p31; have qi31 : (2 < (rs_.size : Int)) = True := eq_true (of_decide_eq_true (by first | (with_reducible assumption) | assumption)); replace q31 := eq_true q31; have p33 : 0 ≤ (3 : Int) := (by omega); have q33 : 3 < rs_.size := (by have : (3 : Int) < (rs_.size : Int) := of_decide_eq_true (by first | (with_reducible assumption) | assumption); omega); have hx33 : ∀ h : 3 < rs_.size, ((rs_[3]'h).toNat : Int) = bt rs_ 3 := bt_at rs_ 3; clear p33; have qi33 : (3 < (rs_.size : Int)) = True := eq_true (of_decide_eq_true (by first | (with_reducible assumption) | assumption)); replace q33 := eq_true q33) | (go_at_call 48; (with_reducible refine (adler_Sum.calls kj2 t204 t207 _ A34.out).mono ?_); rintro e w' ⟨rfl, ⟨nd, rfl⟩⟩; (try first | exact ⟨rfl, _, World.drewN_drewN _ _ _⟩ | exact ⟨rfl, _, Eq.trans (World.drewN_drewN _ _ _) (congrArg (World.drewN _) (Nat.add_assoc _ _ _))⟩))); try go_wp2_with (first | (go_at_call 44; (with_reducible refine (inflate_Raw.calls (a0.extract 2 a0.size) a1 t204 t205 t206 _ A19.out).mono ?_); rintro e w38 ⟨rfl, hb⟩; have n0_ := Aside0.mk (below_step (by repeat (first | (with_reducible first | exact HB.out | apply below_alloc | apply pw_below_drewN | apply below_drew1) | exact HB.out)) hb); clear HB; have HB := n0_; clear n0_; (try clear hb); (try clear hb2); (try clear hk); (try clear hi); have p27 : 0 ≤ (0 : Int) := (by omega); have q27 : 0 < rs_.size := (by have : (0 : Int) < (rs_.size : Int) := of_decide_eq_true (by first | (with_reducible assumption) | assumption); omega); have hx27 : ∀ h : 0 < rs_.size, ((rs_[0]'h).toNat : Int) = bt rs_ 0 := bt_at rs_ 0; clear p27; have qi27 : (0 < (rs_.size : Int)) = True := eq_true (of_decide_eq_true (by first | (with_reducible assumption) | assumption)); replace q27 := eq_true q27; have p29 : 0 ≤ (1 : Int) := (by omega); have q29 : 1 < rs_.size := (by have : (1 : Int) < (rs_.size : Int) := of_decide_eq_true (by first | (with_reducible assumption) | assumption); omega); have hx29 : ∀ h : 1 < rs_.size, ((rs_[1]'h).toNat : Int) = bt rs_ 1 := bt_at rs_ 1; clear p29; have qi29 : (1 < (rs_.size : Int)) = True := eq_true (of_decide_eq_true (by first | (with_reducible assumption) | assumption)); replace q29 := eq_true q29; have p31 : 0 ≤ (2 : Int) := (by omega); have q31 : 2 < rs_.size := (by have : (2 : Int) < (rs_.size : Int) := of_decide_eq_true (by first | (with_reducible assumption) | assumption); omega); have hx31 : ∀ h : 2 < rs_.size, ((rs_[2]'h).toNat : Int) = bt rs_ 2 := bt_at rs_ 2; clear p31; have qi31 : (2 < (rs_.size : Int)) = True := eq_true (of_decide_eq_true (by first | (with_reducible assumption) | assumption)); replace q31 := eq_true q31; have p33 : 0 ≤ (3 : Int) := (by omega); have q33 : 3 < rs_.size := (by have : (3 : Int) < (rs_.size : Int) := of_decide_eq_true (by first | (with_reducible assumption) | assumption); omega); have hx33 : ∀ h : 3 < rs_.size, ((rs_[3]'h).toNat : Int) = bt rs_ 3 := bt_at rs_ 3; clear p33; have qi33 : (3 < (rs_.size : Int)) = True := eq_true (of_decide_eq_true (by first | (with_reducible assumption) | assumption)); replace q33 := eq_true q33) | (go_at_call 48; (with_reducible refine (adler_Sum.calls kj2 t204 t207 _ A34.out).mono ?_); rintro e w' ⟨rfl, ⟨nd, rfl⟩⟩; (try first | exact ⟨rfl, _, World.drewN_drewN _ _ _⟩ | exact ⟨rfl, _, Eq.trans (World.drewN_drewN _ _ _) (congrArg (World.drewN _) (Nat.add_assoc _ _ _))⟩))))
                                            go_ret2
                                            exact ⟨by first | rfl | (simp [errW_none, errW_some] <;> rfl) | (simp only [← hji21]; first | rfl | (simp [errW_none, errW_some] <;> rfl)) | (simp [*, errW_none, errW_some] <;> rfl), by repeat (first | (with_reducible first | exact HB.out | apply below_alloc | apply pw_below_drewN | apply below_drew1) | exact HB.out)⟩
                                        · rw [if_neg c35] at H
                                          have c35b0 : ((Go.bits .or .i64 (Go.bits .or .i64 (Go.bits .or .i64 (wrap64 ((wrap64 (bt rs_ 0)) * 16777216)) (wrap64 ((wrap64 (bt rs_ 1)) * 65536))) (wrap64 ((wrap64 (bt rs_ 2)) * 256))) (wrap64 (bt rs_ 3))) == t207) = false := beq_eq_false_iff_ne.mpr c35
                                          have c35b1 : ((Go.bits .or .i64 (Go.bits .or .i64 (Go.bits .or .i64 (wrap64 ((wrap64 (bt rs_ 0)) * 16777216)) (wrap64 ((wrap64 (bt rs_ 1)) * 65536))) (wrap64 ((wrap64 (bt rs_ 2)) * 256))) (wrap64 (bt rs_ 3))) != t207) = true := bne_iff_ne.mpr c35
                                          simp only [Option.some.injEq, Prod.mk.injEq] at H
                                          obtain ⟨rfl, rfl⟩ := H
                                          have p8 : 0 ≤ (0 : Int) := (by omega)
                                          have q8 : 0 < a0.size := (by have : (0 : Int) < (a0.size : Int) := of_decide_eq_true (by first | (with_reducible assumption) | assumption); omega)
                                          have hx8 : ∀ h : 0 < a0.size, ((a0[0]'h).toNat : Int) = bt a0 0 := bt_at a0 0
                                          clear p8
                                          have qi8 : (0 < (a0.size : Int)) = True := eq_true (of_decide_eq_true (by first | (with_reducible assumption) | assumption))
                                          replace q8 := eq_true q8
                                          have p10 : 0 ≤ (0 : Int) := (by omega)
                                          have q10 : 0 < a0.size := (by have : (0 : Int) < (a0.size : Int) := of_decide_eq_true (by first | (with_reducible assumption) | assumption); omega)
                                          have hx10 : ∀ h : 0 < a0.size, ((a0[0]'h).toNat : Int) = bt a0 0 := bt_at a0 0
                                          clear p10
                                          have qi10 : (0 < (a0.size : Int)) = True := eq_true (of_decide_eq_true (by first | (with_reducible assumption) | assumption))
                                          replace q10 := eq_true q10
                                          have p12 : 0 ≤ (0 : Int) := (by omega)
                                          have q12 : 0 < a0.size := (by have : (0 : Int) < (a0.size : Int) := of_decide_eq_true (by first | (with_reducible assumption) | assumption); omega)
                                          have hx12 : ∀ h : 0 < a0.size, ((a0[0]'h).toNat : Int) = bt a0 0 := bt_at a0 0
                                          clear p12
                                          have qi12 : (0 < (a0.size : Int)) = True := eq_true (of_decide_eq_true (by first | (with_reducible assumption) | assumption))
                                          replace q12 := eq_true q12
                                          have p14 : 0 ≤ (1 : Int) := (by omega)
                                          have q14 : 1 < a0.size := (by have : (1 : Int) < (a0.size : Int) := of_decide_eq_true (by first | (with_reducible assumption) | assumption); omega)
                                          have hx14 : ∀ h : 1 < a0.size, ((a0[1]'h).toNat : Int) = bt a0 1 := bt_at a0 1
                                          clear p14
                                          have qi14 : (1 < (a0.size : Int)) = True := eq_true (of_decide_eq_true (by first | (with_reducible assumption) | assumption))
                                          replace q14 := eq_true q14
                                          have p16 : 0 ≤ (1 : Int) := (by omega)
                                          have q16 : 1 < a0.size := (by have : (1 : Int) < (a0.size : Int) := of_decide_eq_true (by first | (with_reducible assumption) | assumption); omega)
                                          have hx16 : ∀ h : 1 < a0.size, ((a0[1]'h).toNat : Int) = bt a0 1 := bt_at a0 1
                                          clear p16
                                          have qi16 : (1 < (a0.size : Int)) = True := eq_true (of_decide_eq_true (by first | (with_reducible assumption) | assumption))
                                          replace q16 := eq_true q16
                                          go_wp2_with (first | (go_at_call 44; (with_reducible refine (inflate_Raw.calls (a0.extract 2 a0.size) a1 t204 t205 t206 _ A19.out).mono ?_); rintro e w39 ⟨rfl, hb⟩; have n0_ := Aside0.mk (below_step (by repeat (first | (with_reducible first | exact HB.out | apply below_alloc | apply pw_below_drewN | apply below_drew1) | exact HB.out)) hb); clear HB; have HB := n0_; clear n0_; (try clear hb); (try clear hb2); (try clear hk); (try clear hi); have p27 : 0 ≤ (0 : Int) := (by omega); have q27 : 0 < rs_.size := (by have : (0 : Int) < (rs_.size : Int) := of_decide_eq_true (by first | (with_reducible assumption) | assumption); omega); have hx27 : ∀ h : 0 < rs_.size, ((rs_[0]'h).toNat : Int) = bt rs_ 0 := bt_at rs_ 0; clear p27; have qi27 : (0 < (rs_.size : Int)) = True := eq_true (of_decide_eq_true (by first | (with_reducible assumption) | assumption)); replace q27 := eq_true q27; have p29 : 0 ≤ (1 : Int) := (by omega); have q29 : 1 < rs_.size := (by have : (1 : Int) < (rs_.size : Int) := of_decide_eq_true (by first | (with_reducible assumption) | assumption); omega); have hx29 : ∀ h : 1 < rs_.size, ((rs_[1]'h).toNat : Int) = bt rs_ 1 := bt_at rs_ 1; clear p29; have qi29 : (1 < (rs_.size : Int)) = True := eq_true (of_decide_eq_true (by first | (with_reducible assumption) | assumption)); replace q29 := eq_true q29; have p31 : 0 ≤ (2 : Int) := (by omega); have q31 : 2 < rs_.size := (by have : (2 : Int) < (rs_.size : Int) := of_decide_eq_true (by first | (with_reducible assumption) | assumption); omega); have hx31 : ∀ h : 2 < rs_.size, ((rs_[2]'h).toNat : Int) = bt rs_ 2 := bt_at rs_ 2; clear p31; have qi31 : (2 < (rs_.size : Int)) = True := eq_true (of_decide_eq_true (by first | (with_reducible assumption) | assumption)); replace q31 := eq_true q31; have p33 : 0 ≤ (3 : Int) := (by omega); have q33 : 3 < rs_.size := (by have : (3 : Int) < (rs_.size : Int) := of_decide_eq_true (by first | (with_reducible assumption) | assumption); omega); have hx33 : ∀ h : 3 < rs_.size, ((rs_[3]'h).toNat : Int) = bt rs_ 3 := bt_at rs_ 3; clear p33; have qi33 : (3 < (rs_.size : Int)) = True := eq_true (of_decide_eq_true (by first | (with_reducible assumption) | assumption)); replace q33 := eq_true q33) | (go_at_call 48; (with_reducible refine (adler_Sum.calls kj2 t204 t207 _ A34.out).mono ?_); rintro e w' ⟨rfl, ⟨nd, rfl⟩⟩; (try first | exact ⟨rfl, _, World.drewN_drewN _ _ _⟩ | exact ⟨rfl, _, Eq.trans (World.drewN_drewN _ _ _) (congrArg (World.drewN _) (Nat.add_assoc _ _ _))⟩)))
                                          repeat (go_quiet (first | (go_at_call 44; (with_reducible refine (inflate_Raw.calls (a0.extract 2 a0.size) a1 t204 t205 t206 _ A19.out).mono ?_); rintro e w39 ⟨rfl, hb⟩; have n0_ := Aside0.mk (below_step (by repeat (first | (with_reducible first | exact HB.out | apply below_alloc | apply pw_below_drewN | apply below_drew1) | exact HB.out)) hb); clear HB; have HB := n0_; clear n0_; (try clear hb); (try clear hb2); (try clear hk); (try clear hi); have p27 : 0 ≤ (0 : Int) := (by omega); have q27 : 0 < rs_.size := (by have : (0 : Int) < (rs_.size : Int) := of_decide_eq_true (by first | (with_reducible assumption) | assumption); omega); have hx27 : ∀ h : 0 < rs_.size, ((rs_[0]'h).toNat : Int) = bt rs_ 0 := bt_at rs_ 0; clear p27; have qi27 : (0 < (rs_.size : Int)) = True := eq_true (of_decide_eq_true (by first | (with_reducible assumption) | assumption)); replace q27 := eq_true q27; have p29 : 0 ≤ (1 : Int) := (by omega); have q29 : 1 < rs_.size := (by have : (1 : Int) < (rs_.size : Int) := of_decide_eq_true (by first | (with_reducible assumption) | assumption); omega); have hx29 : ∀ h : 1 < rs_.size, ((rs_[1]'h).toNat : Int) = bt rs_ 1 := bt_at rs_ 1; clear p29; have qi29 : (1 < (rs_.size : Int)) = True := eq_true (of_decide_eq_true (by first | (with_reducible assumption) | assumption)); replace q29 := eq_true q29; have p31 : 0 ≤ (2 : Int) := (by omega); have q31 : 2 < rs_.size := (by have : (2 : Int) < (rs_.size : Int) := of_decide_eq_true (by first | (with_reducible assumption) | assumption); omega); have hx31 : ∀ h : 2 < rs_.size, ((rs_[2]'h).toNat : Int) = bt rs_ 2 := bt_at rs_ 2; clear p31; have qi31 : (2 < (rs_.size : Int)) = True := eq_true (of_decide_eq_true (by first | (with_reducible assumption) | assumption)); replace q31 := eq_true q31; have p33 : 0 ≤ (3 : Int) := (by omega); have q33 : 3 < rs_.size := (by have : (3 : Int) < (rs_.size : Int) := of_decide_eq_true (by first | (with_reducible assumption) | assumption); omega); have hx33 : ∀ h : 3 < rs_.size, ((rs_[3]'h).toNat : Int) = bt rs_ 3 := bt_at rs_ 3; clear p33; have qi33 : (3 < (rs_.size : Int)) = True := eq_true (of_decide_eq_true (by first | (with_reducible assumption) | assumption)); replace q33 := eq_true q33) | (go_at_call 48; (with_reducible refine (adler_Sum.calls kj2 t204 t207 _ A34.out).mono ?_); rintro e w' ⟨rfl, ⟨nd, rfl⟩⟩; (try first | exact ⟨rfl, _, World.drewN_drewN _ _ _⟩ | exact ⟨rfl, _, Eq.trans (World.drewN_drewN _ _ _) (congrArg (World.drewN _) (Nat.add_assoc _ _ _))⟩))); try go_wp2_with (first | (go_at_call 44; (with_reducible refine (inflate_Raw.calls (a0.extract 2 a0.size) a1 t204 t205 t206 _ A19.out).mono ?_); rintro e w39 ⟨rfl, hb⟩; have n0_ := Aside0.mk (below_step (by repeat (first | (with_reducible first | exact HB.out | apply below_alloc | apply pw_below_drewN | apply below_drew1) | exact HB.out)) hb); clear HB; have HB := n0_; clear n0_; (try clear hb); (try clear hb2); (try clear hk); (try clear hi); have p27 : 0 ≤ (0 : Int) := (by omega); have q27 : 0 < rs_.size := (by have : (0 : Int) < (rs_.size : Int) := of_decide_eq_true (by first | (with_reducible assumption) | assumption); omega); have hx27 : ∀ h : 0 < rs_.size, ((rs_[0]'h).toNat : Int) = bt rs_ 0 := bt_at rs_ 0; clear p27; have qi27 : (0 < (rs_.size : Int)) = True := eq_true (of_decide_eq_true (by first | (with_reducible assumption) | assumption)); replace q27 := eq_true q27; have p29 : 0 ≤ (1 : Int) := (by omega); have q29 : 1 < rs_.size := (by have : (1 : Int) < (rs_.size : Int) := of_decide_eq_true (by first | (with_reducible assumption) | assumption); omega); have hx29 : ∀ h : 1 < rs_.size, ((rs_[1]'h).toNat : Int) = bt rs_ 1 := bt_at rs_ 1; clear p29; have qi29 : (1 < (rs_.size : Int)) = True := eq_true (of_decide_eq_true (by first | (with_reducible assumption) | assumption)); replace q29 := eq_true q29; have p31 : 0 ≤ (2 : Int) := (by omega); have q31 : 2 < rs_.size := (by have : (2 : Int) < (rs_.size : Int) := of_decide_eq_true (by first | (with_reducible assumption) | assumption); omega); have hx31 : ∀ h : 2 < rs_.size, ((rs_[2]'h).toNat : Int) = bt rs_ 2 := bt_at rs_ 2; clear p31; have qi31 : (2 < (rs_.size : Int)) = True := eq_true (of_decide_eq_true (by first | (with_reducible assumption) | assumption)); replace q31 := eq_true q31; have p33 : 0 ≤ (3 : Int) := (by omega); have q33 : 3 < rs_.size := (by have : (3 : Int) < (rs_.size : Int) := of_decide_eq_true (by first | (with_reducible assumption) | assumption); omega); have hx33 : ∀ h : 3 < rs_.size, ((rs_[3]'h).toNat : Int) = bt rs_ 3 := bt_at rs_ 3; clear p33; have qi33 : (3 < (rs_.size : Int)) = True := eq_true (of_decide_eq_true (by first | (with_reducible assumption) | assumption)); replace q33 := eq_true q33) | (go_at_call 48; (with_reducible refine (adler_Sum.calls kj2 t204 t207 _ A34.out).mono ?_); rintro e w' ⟨rfl, ⟨nd, rfl⟩⟩; (try first | exact ⟨rfl, _, World.drewN_drewN _ _ _⟩ | exact ⟨rfl, _, Eq.trans (World.drewN_drewN _ _ _) (congrArg (World.drewN _) (Nat.add_assoc _ _ _))⟩))))
                                          go_ret2
                                          exact ⟨by first | rfl | (simp [errW_none, errW_some] <;> rfl) | (simp only [← hji21]; first | rfl | (simp [errW_none, errW_some] <;> rfl)) | (simp [*, errW_none, errW_some] <;> rfl), by repeat (first | (with_reducible first | exact HB.out | apply below_alloc | apply pw_below_drewN | apply below_drew1) | exact HB.out)⟩
                                      · rw [if_neg c32] at H
                                        exact absurd H (by simp)
                                    · rw [if_neg c30] at H
                                      exact absurd H (by simp)
                                  · rw [if_neg c28] at H
                                    exact absurd H (by simp)
                                · rw [if_neg c26] at H
                                  exact absurd H (by simp)
                            · rw [if_neg c23] at H
                              exact absurd H (by simp)
                          · rw [if_neg c22] at H
                            exact absurd H (by simp)
                        · rw [if_neg c20] at H
                          have c20b0 : (t206 == 0) = false := beq_eq_false_iff_ne.mpr c20
                          have c20b1 : (t206 != 0) = true := bne_iff_ne.mpr c20
                          simp only [Option.some.injEq, Prod.mk.injEq] at H
                          obtain ⟨rfl, rfl⟩ := H
                          have p8 : 0 ≤ (0 : Int) := (by omega)
                          have q8 : 0 < a0.size := (by have : (0 : Int) < (a0.size : Int) := of_decide_eq_true (by first | (with_reducible assumption) | assumption); omega)
                          have hx8 : ∀ h : 0 < a0.size, ((a0[0]'h).toNat : Int) = bt a0 0 := bt_at a0 0
                          clear p8
                          have qi8 : (0 < (a0.size : Int)) = True := eq_true (of_decide_eq_true (by first | (with_reducible assumption) | assumption))
                          replace q8 := eq_true q8
                          have p10 : 0 ≤ (0 : Int) := (by omega)
                          have q10 : 0 < a0.size := (by have : (0 : Int) < (a0.size : Int) := of_decide_eq_true (by first | (with_reducible assumption) | assumption); omega)
                          have hx10 : ∀ h : 0 < a0.size, ((a0[0]'h).toNat : Int) = bt a0 0 := bt_at a0 0
                          clear p10
                          have qi10 : (0 < (a0.size : Int)) = True := eq_true (of_decide_eq_true (by first | (with_reducible assumption) | assumption))
                          replace q10 := eq_true q10
                          have p12 : 0 ≤ (0 : Int) := (by omega)
                          have q12 : 0 < a0.size := (by have : (0 : Int) < (a0.size : Int) := of_decide_eq_true (by first | (with_reducible assumption) | assumption); omega)
                          have hx12 : ∀ h : 0 < a0.size, ((a0[0]'h).toNat : Int) = bt a0 0 := bt_at a0 0
                          clear p12
                          have qi12 : (0 < (a0.size : Int)) = True := eq_true (of_decide_eq_true (by first | (with_reducible assumption) | assumption))
                          replace q12 := eq_true q12
                          have p14 : 0 ≤ (1 : Int) := (by omega)
                          have q14 : 1 < a0.size := (by have : (1 : Int) < (a0.size : Int) := of_decide_eq_true (by first | (with_reducible assumption) | assumption); omega)
                          have hx14 : ∀ h : 1 < a0.size, ((a0[1]'h).toNat : Int) = bt a0 1 := bt_at a0 1
                          clear p14
                          have qi14 : (1 < (a0.size : Int)) = True := eq_true (of_decide_eq_true (by first | (with_reducible assumption) | assumption))
                          replace q14 := eq_true q14
                          have p16 : 0 ≤ (1 : Int) := (by omega)
                          have q16 : 1 < a0.size := (by have : (1 : Int) < (a0.size : Int) := of_decide_eq_true (by first | (with_reducible assumption) | assumption); omega)
                          have hx16 : ∀ h : 1 < a0.size, ((a0[1]'h).toNat : Int) = bt a0 1 := bt_at a0 1
                          clear p16
                          have qi16 : (1 < (a0.size : Int)) = True := eq_true (of_decide_eq_true (by first | (with_reducible assumption) | assumption))
                          replace q16 := eq_true q16
                          go_wp2_with (first | (go_at_call 44; (with_reducible refine (inflate_Raw.calls (a0.extract 2 a0.size) a1 t204 t205 t206 _ A19.out).mono ?_); rintro e w40 ⟨rfl, hb⟩; have n0_ := Aside0.mk (below_step (by repeat (first | (with_reducible first | exact HB.out | apply below_alloc | apply pw_below_drewN | apply below_drew1) | exact HB.out)) hb); clear HB; have HB := n0_; clear n0_; (try clear hb); (try clear hb2); (try clear hk); (try clear hi)))
                          repeat (go_quiet (first | (go_at_call 44; (with_reducible refine (inflate_Raw.calls (a0.extract 2 a0.size) a1 t204 t205 t206 _ A19.out).mono ?_); rintro e w40 ⟨rfl, hb⟩; have n0_ := Aside0.mk (below_step (by repeat (first | (with_reducible first | exact HB.out | apply below_alloc | apply pw_below_drewN | apply below_drew1) | exact HB.out)) hb); clear HB; have HB := n0_; clear n0_; (try clear hb); (try clear hb2); (try clear hk); (try clear hi))); try go_wp2_with (first | (go_at_call 44; (with_reducible refine (inflate_Raw.calls (a0.extract 2 a0.size) a1 t204 t205 t206 _ A19.out).mono ?_); rintro e w40 ⟨rfl, hb⟩; have n0_ := Aside0.mk (below_step (by repeat (first | (with_reducible first | exact HB.out | apply below_alloc | apply pw_below_drewN | apply below_drew1) | exact HB.out)) hb); clear HB; have HB := n0_; clear n0_; (try clear hb); (try clear hb2); (try clear hk); (try clear hi))))
                          go_ret2
                          exact ⟨by first | rfl | (simp [errW_none, errW_some] <;> rfl) | (simp [*, errW_none, errW_some] <;> rfl), by repeat (first | (with_reducible first | exact HB.out | apply below_alloc | apply pw_below_drewN | apply below_drew1) | exact HB.out)⟩
                      · rw [if_neg c18] at H
                        exact absurd H (by simp)
                    · rw [if_neg c17] at H
                      have c17b0 : ((Go.bits .and .u8 (bt a0 1) 32) == 0) = false := beq_eq_false_iff_ne.mpr c17
                      have c17b1 : ((Go.bits .and .u8 (bt a0 1) 32) != 0) = true := bne_iff_ne.mpr c17
                      simp only [Option.some.injEq, Prod.mk.injEq] at H
                      obtain ⟨rfl, rfl⟩ := H
                      have p8 : 0 ≤ (0 : Int) := (by omega)
                      have q8 : 0 < a0.size := (by have : (0 : Int) < (a0.size : Int) := of_decide_eq_true (by first | (with_reducible assumption) | assumption); omega)
                      have hx8 : ∀ h : 0 < a0.size, ((a0[0]'h).toNat : Int) = bt a0 0 := bt_at a0 0
                      clear p8
                      have qi8 : (0 < (a0.size : Int)) = True := eq_true (of_decide_eq_true (by first | (with_reducible assumption) | assumption))
                      replace q8 := eq_true q8
                      have p10 : 0 ≤ (0 : Int) := (by omega)
                      have q10 : 0 < a0.size := (by have : (0 : Int) < (a0.size : Int) := of_decide_eq_true (by first | (with_reducible assumption) | assumption); omega)
                      have hx10 : ∀ h : 0 < a0.size, ((a0[0]'h).toNat : Int) = bt a0 0 := bt_at a0 0
                      clear p10
                      have qi10 : (0 < (a0.size : Int)) = True := eq_true (of_decide_eq_true (by first | (with_reducible assumption) | assumption))
                      replace q10 := eq_true q10
                      have p12 : 0 ≤ (0 : Int) := (by omega)
                      have q12 : 0 < a0.size := (by have : (0 : Int) < (a0.size : Int) := of_decide_eq_true (by first | (with_reducible assumption) | assumption); omega)
                      have hx12 : ∀ h : 0 < a0.size, ((a0[0]'h).toNat : Int) = bt a0 0 := bt_at a0 0
                      clear p12
                      have qi12 : (0 < (a0.size : Int)) = True := eq_true (of_decide_eq_true (by first | (with_reducible assumption) | assumption))
                      replace q12 := eq_true q12
                      have p14 : 0 ≤ (1 : Int) := (by omega)
                      have q14 : 1 < a0.size := (by have : (1 : Int) < (a0.size : Int) := of_decide_eq_true (by first | (with_reducible assumption) | assumption); omega)
                      have hx14 : ∀ h : 1 < a0.size, ((a0[1]'h).toNat : Int) = bt a0 1 := bt_at a0 1
                      clear p14
                      have qi14 : (1 < (a0.size : Int)) = True := eq_true (of_decide_eq_true (by first | (with_reducible assumption) | assumption))
                      replace q14 := eq_true q14
                      have p16 : 0 ≤ (1 : Int) := (by omega)
                      have q16 : 1 < a0.size := (by have : (1 : Int) < (a0.size : Int) := of_decide_eq_true (by first | (with_reducible assumption) | assumption); omega)
                      have hx16 : ∀ h : 1 < a0.size, ((a0[1]'h).toNat : Int) = bt a0 1 := bt_at a0 1
                      clear p16
                      have qi16 : (1 < (a0.size : Int)) = True := eq_true (of_decide_eq_true (by first | (with_reducible assumption) | assumption))
                      replace q16 := eq_true q16
                      go_wp2
                      repeat (go_quiet (fail); try go_wp2)
                      go_ret2
                      exact ⟨by first | rfl | (simp [errW_none, errW_some] <;> rfl) | (simp [*, errW_none, errW_some] <;> rfl), by repeat (first | (with_reducible first | exact HB.out | apply below_alloc | apply pw_below_drewN | apply below_drew1) | exact HB.out)⟩
                  · rw [if_neg c15] at H
                    have c15b0 : ((Int.tmod (Go.bits .or .i64 (wrap64 ((wrap64 (bt a0 0)) * 256)) (wrap64 (bt a0 1))) 31) == 0) = false := beq_eq_false_iff_ne.mpr c15
                    have c15b1 : ((Int.tmod (Go.bits .or .i64 (wrap64 ((wrap64 (bt a0 0)) * 256)) (wrap64 (bt a0 1))) 31) != 0) = true := bne_iff_ne.mpr c15
                    simp only [Option.some.injEq, Prod.mk.injEq] at H
                    obtain ⟨rfl, rfl⟩ := H
                    have p8 : 0 ≤ (0 : Int) := (by omega)
                    have q8 : 0 < a0.size := (by have : (0 : Int) < (a0.size : Int) := of_decide_eq_true (by first | (with_reducible assumption) | assumption); omega)
                    have hx8 : ∀ h : 0 < a0.size, ((a0[0]'h).toNat : Int) = bt a0 0 := bt_at a0 0
                    clear p8
                    have qi8 : (0 < (a0.size : Int)) = True := eq_true (of_decide_eq_true (by first | (with_reducible assumption) | assumption))
                    replace q8 := eq_true q8
                    have p10 : 0 ≤ (0 : Int) := (by omega)
                    have q10 : 0 < a0.size := (by have : (0 : Int) < (a0.size : Int) := of_decide_eq_true (by first | (with_reducible assumption) | assumption); omega)
                    have hx10 : ∀ h : 0 < a0.size, ((a0[0]'h).toNat : Int) = bt a0 0 := bt_at a0 0
                    clear p10
                    have qi10 : (0 < (a0.size : Int)) = True := eq_true (of_decide_eq_true (by first | (with_reducible assumption) | assumption))
                    replace q10 := eq_true q10
                    have p12 : 0 ≤ (0 : Int) := (by omega)
                    have q12 : 0 < a0.size := (by have : (0 : Int) < (a0.size : Int) := of_decide_eq_true (by first | (with_reducible assumption) | assumption); omega)
                    have hx12 : ∀ h : 0 < a0.size, ((a0[0]'h).toNat : Int) = bt a0 0 := bt_at a0 0
                    clear p12
                    have qi12 : (0 < (a0.size : Int)) = True := eq_true (of_decide_eq_true (by first | (with_reducible assumption) | assumption))
                    replace q12 := eq_true q12
                    have p14 : 0 ≤ (1 : Int) := (by omega)
                    have q14 : 1 < a0.size := (by have : (1 : Int) < (a0.size : Int) := of_decide_eq_true (by first | (with_reducible assumption) | assumption); omega)
                    have hx14 : ∀ h : 1 < a0.size, ((a0[1]'h).toNat : Int) = bt a0 1 := bt_at a0 1
                    clear p14
                    have qi14 : (1 < (a0.size : Int)) = True := eq_true (of_decide_eq_true (by first | (with_reducible assumption) | assumption))
                    replace q14 := eq_true q14
                    go_wp2
                    repeat (go_quiet (fail); try go_wp2)
                    go_ret2
                    exact ⟨by first | rfl | (simp [errW_none, errW_some] <;> rfl) | (simp [*, errW_none, errW_some] <;> rfl), by repeat (first | (with_reducible first | exact HB.out | apply below_alloc | apply pw_below_drewN | apply below_drew1) | exact HB.out)⟩
                · rw [if_neg c13] at H
                  exact absurd H (by simp)
            · rw [if_neg c9] at H
              have c9b0 : ((Go.bits .and .u8 (bt a0 0) 15) == 8) = false := beq_eq_false_iff_ne.mpr c9
              have c9b1 : ((Go.bits .and .u8 (bt a0 0) 15) != 8) = true := bne_iff_ne.mpr c9
              simp only [Option.some.injEq, Prod.mk.injEq] at H
              obtain ⟨rfl, rfl⟩ := H
              have p8 : 0 ≤ (0 : Int) := (by omega)
              have q8 : 0 < a0.size := (by have : (0 : Int) < (a0.size : Int) := of_decide_eq_true (by first | (with_reducible assumption) | assumption); omega)
              have hx8 : ∀ h : 0 < a0.size, ((a0[0]'h).toNat : Int) = bt a0 0 := bt_at a0 0
              clear p8
              have qi8 : (0 < (a0.size : Int)) = True := eq_true (of_decide_eq_true (by first | (with_reducible assumption) | assumption))
              replace q8 := eq_true q8
              go_wp2
              repeat (go_quiet (fail); try go_wp2)
              go_ret2
              exact ⟨by first | rfl | (simp [errW_none, errW_some] <;> rfl) | (simp [*, errW_none, errW_some] <;> rfl), by repeat (first | (with_reducible first | exact HB.out | apply below_alloc | apply pw_below_drewN | apply below_drew1) | exact HB.out)⟩
          · rw [if_neg c7] at H
            exact absurd H (by simp)

/-! ### celluloidlaw05_awake: function 43 -/
def celluloidlaw05_awake.f (k : Nat)  : Option (Bool) := (inflate_Raw.f (⟨#[1, 1, 0, 254, 255, 97]⟩ : ByteArray) 9).bind fun bt208 => ((inflate_Raw.f (⟨#[3, 0]⟩ : ByteArray) 0).bind fun bt211 => ((inflate_Open.f k (⟨#[120, 156, 3, 0, 0, 0, 0, 1]⟩ : ByteArray) 9).bind fun bt214 => (if bt208.1.toList = ([97] : List UInt8) then (if bt208.2.1 = 6 then (if bt208.2.2 = 0 then (if bt211.1.toList = ([] : List UInt8) then (if bt211.2.1 = 2 then (if bt211.2.2 = 0 then (if bt214.1.toList = ([] : List UInt8) then (some (bt214.2 == 0)) else (some false)) else (some false)) else (some false)) else (some false)) else (some false)) else (some false)) else (some false))))
theorem celluloidlaw05_awake.mono : ∀ k, LeO (celluloidlaw05_awake.f k ) (celluloidlaw05_awake.f (k + 1) ) := by
  intro  k
  unfold celluloidlaw05_awake.f
  repeat' first
      | (with_reducible exact inflate_Open.mono _ _ _)
      | (with_reducible exact LeO.refl _)
      | (with_reducible exact LeO.none _)
      | (with_reducible refine LeO.ite ?_ ?_)
      | (with_reducible refine LeO.bind ?_ (fun _ => ?_))
      | exact inflate_Open.mono _ _ _
      | exact LeO.none _
      | refine LeO.ite ?_ ?_
      | refine LeO.bind ?_ (fun _ => ?_)
set_option maxHeartbeats 8000000 in
set_option maxRecDepth 100000 in
theorem celluloidlaw05_awake.calls (k : Nat)  (r : Bool) (w : World) (h : celluloidlaw05_awake.f k  = some r) :
    Calls Try.prog 43 #[] w fun e w' => e = .returned (.bool r) ∧ Below w.heap.size w w' := by
  have HB := Aside0.mk (Below.refl w.heap.size w)
  have H : ((inflate_Raw.f (⟨#[1, 1, 0, 254, 255, 97]⟩ : ByteArray) 9).bind fun bt208 => ((inflate_Raw.f (⟨#[3, 0]⟩ : ByteArray) 0).bind fun bt211 => ((inflate_Open.f k (⟨#[120, 156, 3, 0, 0, 0, 0, 1]⟩ : ByteArray) 9).bind fun bt214 => (if bt208.1.toList = ([97] : List UInt8) then (if bt208.2.1 = 6 then (if bt208.2.2 = 0 then (if bt211.1.toList = ([] : List UInt8) then (if bt211.2.1 = 2 then (if bt211.2.2 = 0 then (if bt214.1.toList = ([] : List UInt8) then (some (bt214.2 == 0)) else (some false)) else (some false)) else (some false)) else (some false)) else (some false)) else (some false)) else (some false))))) = some r := h
  clear h
  replace H := Option.bind_eq_some_iff.mp H
  obtain ⟨⟨t208, t209, t210⟩, A10, H⟩ := H
  replace H : ((inflate_Raw.f (⟨#[3, 0]⟩ : ByteArray) 0).bind fun bt211 => ((inflate_Open.f k (⟨#[120, 156, 3, 0, 0, 0, 0, 1]⟩ : ByteArray) 9).bind fun bt214 => (if t208.toList = ([97] : List UInt8) then (if t209 = 6 then (if t210 = 0 then (if bt211.1.toList = ([] : List UInt8) then (if bt211.2.1 = 2 then (if bt211.2.2 = 0 then (if bt214.1.toList = ([] : List UInt8) then (some (bt214.2 == 0)) else (some false)) else (some false)) else (some false)) else (some false)) else (some false)) else (some false)) else (some false)))) = some r := H
  have A1 := Aside0.mk A10
  clear A10
  replace H := Option.bind_eq_some_iff.mp H
  obtain ⟨⟨t211, t212, t213⟩, A20, H⟩ := H
  replace H : ((inflate_Open.f k (⟨#[120, 156, 3, 0, 0, 0, 0, 1]⟩ : ByteArray) 9).bind fun bt214 => (if t208.toList = ([97] : List UInt8) then (if t209 = 6 then (if t210 = 0 then (if t211.toList = ([] : List UInt8) then (if t212 = 2 then (if t213 = 0 then (if bt214.1.toList = ([] : List UInt8) then (some (bt214.2 == 0)) else (some false)) else (some false)) else (some false)) else (some false)) else (some false)) else (some false)) else (some false))) = some r := H
  have A2 := Aside0.mk A20
  clear A20
  replace H := Option.bind_eq_some_iff.mp H
  obtain ⟨⟨t214, t215⟩, A30, H⟩ := H
  replace H : (if t208.toList = ([97] : List UInt8) then (if t209 = 6 then (if t210 = 0 then (if t211.toList = ([] : List UInt8) then (if t212 = 2 then (if t213 = 0 then (if t214.toList = ([] : List UInt8) then (some (t215 == 0)) else (some false)) else (some false)) else (some false)) else (some false)) else (some false)) else (some false)) else (some false)) = some r := H
  have A3 := Aside0.mk A30
  clear A30
  by_cases c4 : t208.toList = ([97] : List UInt8)
  · rw [if_pos c4] at H
    have c4b0 : (t208.toList == ([97] : List UInt8)) = true := beq_iff_eq.mpr c4
    have c4b1 : (t208.toList != ([97] : List UInt8)) = false := bne_eq_false_iff_eq.mpr c4
    clear c4
    by_cases c5 : t209 = 6
    · rw [if_pos c5] at H
      have c5b0 : (t209 == 6) = true := beq_iff_eq.mpr c5
      have c5b1 : (t209 != 6) = false := bne_eq_false_iff_eq.mpr c5
      clear c5
      by_cases c6 : t210 = 0
      · rw [if_pos c6] at H
        have c6b0 : (t210 == 0) = true := beq_iff_eq.mpr c6
        have c6b1 : (t210 != 0) = false := bne_eq_false_iff_eq.mpr c6
        clear c6
        by_cases c7 : t211.toList = ([] : List UInt8)
        · rw [if_pos c7] at H
          have c7b0 : (t211.toList == ([] : List UInt8)) = true := beq_iff_eq.mpr c7
          have c7b1 : (t211.toList != ([] : List UInt8)) = false := bne_eq_false_iff_eq.mpr c7
          clear c7
          by_cases c8 : t212 = 2
          · rw [if_pos c8] at H
            have c8b0 : (t212 == 2) = true := beq_iff_eq.mpr c8
            have c8b1 : (t212 != 2) = false := bne_eq_false_iff_eq.mpr c8
            clear c8
            by_cases c9 : t213 = 0
            · rw [if_pos c9] at H
              have c9b0 : (t213 == 0) = true := beq_iff_eq.mpr c9
              have c9b1 : (t213 != 0) = false := bne_eq_false_iff_eq.mpr c9
              clear c9
              by_cases c10 : t214.toList = ([] : List UInt8)
              · rw [if_pos c10] at H
                have c10b0 : (t214.toList == ([] : List UInt8)) = true := beq_iff_eq.mpr c10
                have c10b1 : (t214.toList != ([] : List UInt8)) = false := bne_eq_false_iff_eq.mpr c10
                clear c10
                obtain rfl := Option.some.inj H
                go_enter Try.func43, Try.ntmps43
                go_wp2_with (first | ((with_reducible refine gate_callee (f := 44) rfl ?_); refine goesL_ (some 10) rfl rfl Try.func44 (by kernel_rfl) rfl #[.string (⟨#[1, 1, 0, 254, 255, 97]⟩ : ByteArray), .int .i64 9] rfl (by (try simp only [List.map_toArray, List.map_cons, List.map_nil]); first | done | rfl | (simp only [List.length_drop, List.length_take]; rfl)) ?_; (with_reducible refine (inflate_Raw.calls (⟨#[1, 1, 0, 254, 255, 97]⟩ : ByteArray) 9 t208 t209 t210 _ A1.out).mono ?_); rintro e w11 ⟨rfl, hb⟩; refine ⟨_, rfl, ?_⟩; have n0_ := Aside0.mk (below_step (by repeat (first | (with_reducible first | exact HB.out | apply below_alloc | apply pw_below_drewN | apply below_drew1) | exact HB.out)) hb); clear HB; have HB := n0_; clear n0_; (try clear hb); (try clear hb2); (try clear hk); (try clear hi)) | ((with_reducible refine gate_callee (f := 44) rfl ?_); refine goesL_ (some 15) rfl rfl Try.func44 (by kernel_rfl) rfl #[.string (⟨#[3, 0]⟩ : ByteArray), .int .i64 0] rfl (by (try simp only [List.map_toArray, List.map_cons, List.map_nil]); first | done | rfl | (simp only [List.length_drop, List.length_take]; rfl)) ?_; (with_reducible refine (inflate_Raw.calls (⟨#[3, 0]⟩ : ByteArray) 0 t211 t212 t213 _ A2.out).mono ?_); rintro e w12 ⟨rfl, hb⟩; refine ⟨_, rfl, ?_⟩; have n0_ := Aside0.mk (below_step (by repeat (first | (with_reducible first | exact HB.out | apply below_alloc | apply pw_below_drewN | apply below_drew1) | exact HB.out)) hb); clear HB; have HB := n0_; clear n0_; (try clear hb); (try clear hb2); (try clear hk); (try clear hi)) | ((with_reducible refine gate_callee (f := 46) rfl ?_); refine goesL_ (some 20) rfl rfl Try.func46 (by kernel_rfl) rfl #[.string (⟨#[120, 156, 3, 0, 0, 0, 0, 1]⟩ : ByteArray), .int .i64 9] rfl (by (try simp only [List.map_toArray, List.map_cons, List.map_nil]); first | done | rfl | (simp only [List.length_drop, List.length_take]; rfl)) ?_; (with_reducible refine (inflate_Open.calls k (⟨#[120, 156, 3, 0, 0, 0, 0, 1]⟩ : ByteArray) 9 t214 t215 _ A3.out).mono ?_); rintro e w13 ⟨rfl, hb⟩; refine ⟨_, rfl, ?_⟩; have n0_ := Aside0.mk (below_step (by repeat (first | (with_reducible first | exact HB.out | apply below_alloc | apply pw_below_drewN | apply below_drew1) | exact HB.out)) hb); clear HB; have HB := n0_; clear n0_; (try clear hb); (try clear hb2); (try clear hk); (try clear hi)))
                go_ret
                exact ⟨by first | rfl | (simp [errW_none, errW_some] <;> rfl) | (simp [*, errW_none, errW_some] <;> rfl), by repeat (first | (with_reducible first | exact HB.out | apply below_alloc | apply pw_below_drewN | apply below_drew1) | exact HB.out)⟩
              · rw [if_neg c10] at H
                have c10b0 : (t214.toList == ([] : List UInt8)) = false := beq_eq_false_iff_ne.mpr c10
                have c10b1 : (t214.toList != ([] : List UInt8)) = true := bne_iff_ne.mpr c10
                obtain rfl := Option.some.inj H
                go_enter Try.func43, Try.ntmps43
                go_wp2_with (first | ((with_reducible refine gate_callee (f := 44) rfl ?_); refine goesL_ (some 10) rfl rfl Try.func44 (by kernel_rfl) rfl #[.string (⟨#[1, 1, 0, 254, 255, 97]⟩ : ByteArray), .int .i64 9] rfl (by (try simp only [List.map_toArray, List.map_cons, List.map_nil]); first | done | rfl | (simp only [List.length_drop, List.length_take]; rfl)) ?_; (with_reducible refine (inflate_Raw.calls (⟨#[1, 1, 0, 254, 255, 97]⟩ : ByteArray) 9 t208 t209 t210 _ A1.out).mono ?_); rintro e w14 ⟨rfl, hb⟩; refine ⟨_, rfl, ?_⟩; have n0_ := Aside0.mk (below_step (by repeat (first | (with_reducible first | exact HB.out | apply below_alloc | apply pw_below_drewN | apply below_drew1) | exact HB.out)) hb); clear HB; have HB := n0_; clear n0_; (try clear hb); (try clear hb2); (try clear hk); (try clear hi)) | ((with_reducible refine gate_callee (f := 44) rfl ?_); refine goesL_ (some 15) rfl rfl Try.func44 (by kernel_rfl) rfl #[.string (⟨#[3, 0]⟩ : ByteArray), .int .i64 0] rfl (by (try simp only [List.map_toArray, List.map_cons, List.map_nil]); first | done | rfl | (simp only [List.length_drop, List.length_take]; rfl)) ?_; (with_reducible refine (inflate_Raw.calls (⟨#[3, 0]⟩ : ByteArray) 0 t211 t212 t213 _ A2.out).mono ?_); rintro e w15 ⟨rfl, hb⟩; refine ⟨_, rfl, ?_⟩; have n0_ := Aside0.mk (below_step (by repeat (first | (with_reducible first | exact HB.out | apply below_alloc | apply pw_below_drewN | apply below_drew1) | exact HB.out)) hb); clear HB; have HB := n0_; clear n0_; (try clear hb); (try clear hb2); (try clear hk); (try clear hi)) | ((with_reducible refine gate_callee (f := 46) rfl ?_); refine goesL_ (some 20) rfl rfl Try.func46 (by kernel_rfl) rfl #[.string (⟨#[120, 156, 3, 0, 0, 0, 0, 1]⟩ : ByteArray), .int .i64 9] rfl (by (try simp only [List.map_toArray, List.map_cons, List.map_nil]); first | done | rfl | (simp only [List.length_drop, List.length_take]; rfl)) ?_; (with_reducible refine (inflate_Open.calls k (⟨#[120, 156, 3, 0, 0, 0, 0, 1]⟩ : ByteArray) 9 t214 t215 _ A3.out).mono ?_); rintro e w16 ⟨rfl, hb⟩; refine ⟨_, rfl, ?_⟩; have n0_ := Aside0.mk (below_step (by repeat (first | (with_reducible first | exact HB.out | apply below_alloc | apply pw_below_drewN | apply below_drew1) | exact HB.out)) hb); clear HB; have HB := n0_; clear n0_; (try clear hb); (try clear hb2); (try clear hk); (try clear hi)))
                go_ret
                exact ⟨by first | rfl | (simp [errW_none, errW_some] <;> rfl) | (simp [*, errW_none, errW_some] <;> rfl), by repeat (first | (with_reducible first | exact HB.out | apply below_alloc | apply pw_below_drewN | apply below_drew1) | exact HB.out)⟩
            · rw [if_neg c9] at H
              have c9b0 : (t213 == 0) = false := beq_eq_false_iff_ne.mpr c9
              have c9b1 : (t213 != 0) = true := bne_iff_ne.mpr c9
              obtain rfl := Option.some.inj H
              go_enter Try.func43, Try.ntmps43
              go_wp2_with (first | ((with_reducible refine gate_callee (f := 44) rfl ?_); refine goesL_ (some 10) rfl rfl Try.func44 (by kernel_rfl) rfl #[.string (⟨#[1, 1, 0, 254, 255, 97]⟩ : ByteArray), .int .i64 9] rfl (by (try simp only [List.map_toArray, List.map_cons, List.map_nil]); first | done | rfl | (simp only [List.length_drop, List.length_take]; rfl)) ?_; (with_reducible refine (inflate_Raw.calls (⟨#[1, 1, 0, 254, 255, 97]⟩ : ByteArray) 9 t208 t209 t210 _ A1.out).mono ?_); rintro e w17 ⟨rfl, hb⟩; refine ⟨_, rfl, ?_⟩; have n0_ := Aside0.mk (below_step (by repeat (first | (with_reducible first | exact HB.out | apply below_alloc | apply pw_below_drewN | apply below_drew1) | exact HB.out)) hb); clear HB; have HB := n0_; clear n0_; (try clear hb); (try clear hb2); (try clear hk); (try clear hi)) | ((with_reducible refine gate_callee (f := 44) rfl ?_); refine goesL_ (some 15) rfl rfl Try.func44 (by kernel_rfl) rfl #[.string (⟨#[3, 0]⟩ : ByteArray), .int .i64 0] rfl (by (try simp only [List.map_toArray, List.map_cons, List.map_nil]); first | done | rfl | (simp only [List.length_drop, List.length_take]; rfl)) ?_; (with_reducible refine (inflate_Raw.calls (⟨#[3, 0]⟩ : ByteArray) 0 t211 t212 t213 _ A2.out).mono ?_); rintro e w18 ⟨rfl, hb⟩; refine ⟨_, rfl, ?_⟩; have n0_ := Aside0.mk (below_step (by repeat (first | (with_reducible first | exact HB.out | apply below_alloc | apply pw_below_drewN | apply below_drew1) | exact HB.out)) hb); clear HB; have HB := n0_; clear n0_; (try clear hb); (try clear hb2); (try clear hk); (try clear hi)) | ((with_reducible refine gate_callee (f := 46) rfl ?_); refine goesL_ (some 20) rfl rfl Try.func46 (by kernel_rfl) rfl #[.string (⟨#[120, 156, 3, 0, 0, 0, 0, 1]⟩ : ByteArray), .int .i64 9] rfl (by (try simp only [List.map_toArray, List.map_cons, List.map_nil]); first | done | rfl | (simp only [List.length_drop, List.length_take]; rfl)) ?_; (with_reducible refine (inflate_Open.calls k (⟨#[120, 156, 3, 0, 0, 0, 0, 1]⟩ : ByteArray) 9 t214 t215 _ A3.out).mono ?_); rintro e w19 ⟨rfl, hb⟩; refine ⟨_, rfl, ?_⟩; have n0_ := Aside0.mk (below_step (by repeat (first | (with_reducible first | exact HB.out | apply below_alloc | apply pw_below_drewN | apply below_drew1) | exact HB.out)) hb); clear HB; have HB := n0_; clear n0_; (try clear hb); (try clear hb2); (try clear hk); (try clear hi)))
              go_ret
              exact ⟨by first | rfl | (simp [errW_none, errW_some] <;> rfl) | (simp [*, errW_none, errW_some] <;> rfl), by repeat (first | (with_reducible first | exact HB.out | apply below_alloc | apply pw_below_drewN | apply below_drew1) | exact HB.out)⟩
          · rw [if_neg c8] at H
            have c8b0 : (t212 == 2) = false := beq_eq_false_iff_ne.mpr c8
            have c8b1 : (t212 != 2) = true := bne_iff_ne.mpr c8
            obtain rfl := Option.some.inj H
            go_enter Try.func43, Try.ntmps43
            go_wp2_with (first | ((with_reducible refine gate_callee (f := 44) rfl ?_); refine goesL_ (some 10) rfl rfl Try.func44 (by kernel_rfl) rfl #[.string (⟨#[1, 1, 0, 254, 255, 97]⟩ : ByteArray), .int .i64 9] rfl (by (try simp only [List.map_toArray, List.map_cons, List.map_nil]); first | done | rfl | (simp only [List.length_drop, List.length_take]; rfl)) ?_; (with_reducible refine (inflate_Raw.calls (⟨#[1, 1, 0, 254, 255, 97]⟩ : ByteArray) 9 t208 t209 t210 _ A1.out).mono ?_); rintro e w20 ⟨rfl, hb⟩; refine ⟨_, rfl, ?_⟩; have n0_ := Aside0.mk (below_step (by repeat (first | (with_reducible first | exact HB.out | apply below_alloc | apply pw_below_drewN | apply below_drew1) | exact HB.out)) hb); clear HB; have HB := n0_; clear n0_; (try clear hb); (try clear hb2); (try clear hk); (try clear hi)) | ((with_reducible refine gate_callee (f := 44) rfl ?_); refine goesL_ (some 15) rfl rfl Try.func44 (by kernel_rfl) rfl #[.string (⟨#[3, 0]⟩ : ByteArray), .int .i64 0] rfl (by (try simp only [List.map_toArray, List.map_cons, List.map_nil]); first | done | rfl | (simp only [List.length_drop, List.length_take]; rfl)) ?_; (with_reducible refine (inflate_Raw.calls (⟨#[3, 0]⟩ : ByteArray) 0 t211 t212 t213 _ A2.out).mono ?_); rintro e w21 ⟨rfl, hb⟩; refine ⟨_, rfl, ?_⟩; have n0_ := Aside0.mk (below_step (by repeat (first | (with_reducible first | exact HB.out | apply below_alloc | apply pw_below_drewN | apply below_drew1) | exact HB.out)) hb); clear HB; have HB := n0_; clear n0_; (try clear hb); (try clear hb2); (try clear hk); (try clear hi)) | ((with_reducible refine gate_callee (f := 46) rfl ?_); refine goesL_ (some 20) rfl rfl Try.func46 (by kernel_rfl) rfl #[.string (⟨#[120, 156, 3, 0, 0, 0, 0, 1]⟩ : ByteArray), .int .i64 9] rfl (by (try simp only [List.map_toArray, List.map_cons, List.map_nil]); first | done | rfl | (simp only [List.length_drop, List.length_take]; rfl)) ?_; (with_reducible refine (inflate_Open.calls k (⟨#[120, 156, 3, 0, 0, 0, 0, 1]⟩ : ByteArray) 9 t214 t215 _ A3.out).mono ?_); rintro e w22 ⟨rfl, hb⟩; refine ⟨_, rfl, ?_⟩; have n0_ := Aside0.mk (below_step (by repeat (first | (with_reducible first | exact HB.out | apply below_alloc | apply pw_below_drewN | apply below_drew1) | exact HB.out)) hb); clear HB; have HB := n0_; clear n0_; (try clear hb); (try clear hb2); (try clear hk); (try clear hi)))
            go_ret
            exact ⟨by first | rfl | (simp [errW_none, errW_some] <;> rfl) | (simp [*, errW_none, errW_some] <;> rfl), by repeat (first | (with_reducible first | exact HB.out | apply below_alloc | apply pw_below_drewN | apply below_drew1) | exact HB.out)⟩
        · rw [if_neg c7] at H
          have c7b0 : (t211.toList == ([] : List UInt8)) = false := beq_eq_false_iff_ne.mpr c7
          have c7b1 : (t211.toList != ([] : List UInt8)) = true := bne_iff_ne.mpr c7
          obtain rfl := Option.some.inj H
          go_enter Try.func43, Try.ntmps43
          go_wp2_with (first | ((with_reducible refine gate_callee (f := 44) rfl ?_); refine goesL_ (some 10) rfl rfl Try.func44 (by kernel_rfl) rfl #[.string (⟨#[1, 1, 0, 254, 255, 97]⟩ : ByteArray), .int .i64 9] rfl (by (try simp only [List.map_toArray, List.map_cons, List.map_nil]); first | done | rfl | (simp only [List.length_drop, List.length_take]; rfl)) ?_; (with_reducible refine (inflate_Raw.calls (⟨#[1, 1, 0, 254, 255, 97]⟩ : ByteArray) 9 t208 t209 t210 _ A1.out).mono ?_); rintro e w23 ⟨rfl, hb⟩; refine ⟨_, rfl, ?_⟩; have n0_ := Aside0.mk (below_step (by repeat (first | (with_reducible first | exact HB.out | apply below_alloc | apply pw_below_drewN | apply below_drew1) | exact HB.out)) hb); clear HB; have HB := n0_; clear n0_; (try clear hb); (try clear hb2); (try clear hk); (try clear hi)) | ((with_reducible refine gate_callee (f := 44) rfl ?_); refine goesL_ (some 15) rfl rfl Try.func44 (by kernel_rfl) rfl #[.string (⟨#[3, 0]⟩ : ByteArray), .int .i64 0] rfl (by (try simp only [List.map_toArray, List.map_cons, List.map_nil]); first | done | rfl | (simp only [List.length_drop, List.length_take]; rfl)) ?_; (with_reducible refine (inflate_Raw.calls (⟨#[3, 0]⟩ : ByteArray) 0 t211 t212 t213 _ A2.out).mono ?_); rintro e w24 ⟨rfl, hb⟩; refine ⟨_, rfl, ?_⟩; have n0_ := Aside0.mk (below_step (by repeat (first | (with_reducible first | exact HB.out | apply below_alloc | apply pw_below_drewN | apply below_drew1) | exact HB.out)) hb); clear HB; have HB := n0_; clear n0_; (try clear hb); (try clear hb2); (try clear hk); (try clear hi)) | ((with_reducible refine gate_callee (f := 46) rfl ?_); refine goesL_ (some 20) rfl rfl Try.func46 (by kernel_rfl) rfl #[.string (⟨#[120, 156, 3, 0, 0, 0, 0, 1]⟩ : ByteArray), .int .i64 9] rfl (by (try simp only [List.map_toArray, List.map_cons, List.map_nil]); first | done | rfl | (simp only [List.length_drop, List.length_take]; rfl)) ?_; (with_reducible refine (inflate_Open.calls k (⟨#[120, 156, 3, 0, 0, 0, 0, 1]⟩ : ByteArray) 9 t214 t215 _ A3.out).mono ?_); rintro e w25 ⟨rfl, hb⟩; refine ⟨_, rfl, ?_⟩; have n0_ := Aside0.mk (below_step (by repeat (first | (with_reducible first | exact HB.out | apply below_alloc | apply pw_below_drewN | apply below_drew1) | exact HB.out)) hb); clear HB; have HB := n0_; clear n0_; (try clear hb); (try clear hb2); (try clear hk); (try clear hi)))
          go_ret
          exact ⟨by first | rfl | (simp [errW_none, errW_some] <;> rfl) | (simp [*, errW_none, errW_some] <;> rfl), by repeat (first | (with_reducible first | exact HB.out | apply below_alloc | apply pw_below_drewN | apply below_drew1) | exact HB.out)⟩
      · rw [if_neg c6] at H
        have c6b0 : (t210 == 0) = false := beq_eq_false_iff_ne.mpr c6
        have c6b1 : (t210 != 0) = true := bne_iff_ne.mpr c6
        obtain rfl := Option.some.inj H
        go_enter Try.func43, Try.ntmps43
        go_wp2_with (first | ((with_reducible refine gate_callee (f := 44) rfl ?_); refine goesL_ (some 10) rfl rfl Try.func44 (by kernel_rfl) rfl #[.string (⟨#[1, 1, 0, 254, 255, 97]⟩ : ByteArray), .int .i64 9] rfl (by (try simp only [List.map_toArray, List.map_cons, List.map_nil]); first | done | rfl | (simp only [List.length_drop, List.length_take]; rfl)) ?_; (with_reducible refine (inflate_Raw.calls (⟨#[1, 1, 0, 254, 255, 97]⟩ : ByteArray) 9 t208 t209 t210 _ A1.out).mono ?_); rintro e w26 ⟨rfl, hb⟩; refine ⟨_, rfl, ?_⟩; have n0_ := Aside0.mk (below_step (by repeat (first | (with_reducible first | exact HB.out | apply below_alloc | apply pw_below_drewN | apply below_drew1) | exact HB.out)) hb); clear HB; have HB := n0_; clear n0_; (try clear hb); (try clear hb2); (try clear hk); (try clear hi)) | ((with_reducible refine gate_callee (f := 44) rfl ?_); refine goesL_ (some 15) rfl rfl Try.func44 (by kernel_rfl) rfl #[.string (⟨#[3, 0]⟩ : ByteArray), .int .i64 0] rfl (by (try simp only [List.map_toArray, List.map_cons, List.map_nil]); first | done | rfl | (simp only [List.length_drop, List.length_take]; rfl)) ?_; (with_reducible refine (inflate_Raw.calls (⟨#[3, 0]⟩ : ByteArray) 0 t211 t212 t213 _ A2.out).mono ?_); rintro e w27 ⟨rfl, hb⟩; refine ⟨_, rfl, ?_⟩; have n0_ := Aside0.mk (below_step (by repeat (first | (with_reducible first | exact HB.out | apply below_alloc | apply pw_below_drewN | apply below_drew1) | exact HB.out)) hb); clear HB; have HB := n0_; clear n0_; (try clear hb); (try clear hb2); (try clear hk); (try clear hi)) | ((with_reducible refine gate_callee (f := 46) rfl ?_); refine goesL_ (some 20) rfl rfl Try.func46 (by kernel_rfl) rfl #[.string (⟨#[120, 156, 3, 0, 0, 0, 0, 1]⟩ : ByteArray), .int .i64 9] rfl (by (try simp only [List.map_toArray, List.map_cons, List.map_nil]); first | done | rfl | (simp only [List.length_drop, List.length_take]; rfl)) ?_; (with_reducible refine (inflate_Open.calls k (⟨#[120, 156, 3, 0, 0, 0, 0, 1]⟩ : ByteArray) 9 t214 t215 _ A3.out).mono ?_); rintro e w28 ⟨rfl, hb⟩; refine ⟨_, rfl, ?_⟩; have n0_ := Aside0.mk (below_step (by repeat (first | (with_reducible first | exact HB.out | apply below_alloc | apply pw_below_drewN | apply below_drew1) | exact HB.out)) hb); clear HB; have HB := n0_; clear n0_; (try clear hb); (try clear hb2); (try clear hk); (try clear hi)))
        go_ret
        exact ⟨by first | rfl | (simp [errW_none, errW_some] <;> rfl) | (simp [*, errW_none, errW_some] <;> rfl), by repeat (first | (with_reducible first | exact HB.out | apply below_alloc | apply pw_below_drewN | apply below_drew1) | exact HB.out)⟩
    · rw [if_neg c5] at H
      have c5b0 : (t209 == 6) = false := beq_eq_false_iff_ne.mpr c5
      have c5b1 : (t209 != 6) = true := bne_iff_ne.mpr c5
      obtain rfl := Option.some.inj H
      go_enter Try.func43, Try.ntmps43
      go_wp2_with (first | ((with_reducible refine gate_callee (f := 44) rfl ?_); refine goesL_ (some 10) rfl rfl Try.func44 (by kernel_rfl) rfl #[.string (⟨#[1, 1, 0, 254, 255, 97]⟩ : ByteArray), .int .i64 9] rfl (by (try simp only [List.map_toArray, List.map_cons, List.map_nil]); first | done | rfl | (simp only [List.length_drop, List.length_take]; rfl)) ?_; (with_reducible refine (inflate_Raw.calls (⟨#[1, 1, 0, 254, 255, 97]⟩ : ByteArray) 9 t208 t209 t210 _ A1.out).mono ?_); rintro e w29 ⟨rfl, hb⟩; refine ⟨_, rfl, ?_⟩; have n0_ := Aside0.mk (below_step (by repeat (first | (with_reducible first | exact HB.out | apply below_alloc | apply pw_below_drewN | apply below_drew1) | exact HB.out)) hb); clear HB; have HB := n0_; clear n0_; (try clear hb); (try clear hb2); (try clear hk); (try clear hi)) | ((with_reducible refine gate_callee (f := 44) rfl ?_); refine goesL_ (some 15) rfl rfl Try.func44 (by kernel_rfl) rfl #[.string (⟨#[3, 0]⟩ : ByteArray), .int .i64 0] rfl (by (try simp only [List.map_toArray, List.map_cons, List.map_nil]); first | done | rfl | (simp only [List.length_drop, List.length_take]; rfl)) ?_; (with_reducible refine (inflate_Raw.calls (⟨#[3, 0]⟩ : ByteArray) 0 t211 t212 t213 _ A2.out).mono ?_); rintro e w30 ⟨rfl, hb⟩; refine ⟨_, rfl, ?_⟩; have n0_ := Aside0.mk (below_step (by repeat (first | (with_reducible first | exact HB.out | apply below_alloc | apply pw_below_drewN | apply below_drew1) | exact HB.out)) hb); clear HB; have HB := n0_; clear n0_; (try clear hb); (try clear hb2); (try clear hk); (try clear hi)) | ((with_reducible refine gate_callee (f := 46) rfl ?_); refine goesL_ (some 20) rfl rfl Try.func46 (by kernel_rfl) rfl #[.string (⟨#[120, 156, 3, 0, 0, 0, 0, 1]⟩ : ByteArray), .int .i64 9] rfl (by (try simp only [List.map_toArray, List.map_cons, List.map_nil]); first | done | rfl | (simp only [List.length_drop, List.length_take]; rfl)) ?_; (with_reducible refine (inflate_Open.calls k (⟨#[120, 156, 3, 0, 0, 0, 0, 1]⟩ : ByteArray) 9 t214 t215 _ A3.out).mono ?_); rintro e w31 ⟨rfl, hb⟩; refine ⟨_, rfl, ?_⟩; have n0_ := Aside0.mk (below_step (by repeat (first | (with_reducible first | exact HB.out | apply below_alloc | apply pw_below_drewN | apply below_drew1) | exact HB.out)) hb); clear HB; have HB := n0_; clear n0_; (try clear hb); (try clear hb2); (try clear hk); (try clear hi)))
      go_ret
      exact ⟨by first | rfl | (simp [errW_none, errW_some] <;> rfl) | (simp [*, errW_none, errW_some] <;> rfl), by repeat (first | (with_reducible first | exact HB.out | apply below_alloc | apply pw_below_drewN | apply below_drew1) | exact HB.out)⟩
  · rw [if_neg c4] at H
    have c4b0 : (t208.toList == ([97] : List UInt8)) = false := beq_eq_false_iff_ne.mpr c4
    have c4b1 : (t208.toList != ([97] : List UInt8)) = true := bne_iff_ne.mpr c4
    obtain rfl := Option.some.inj H
    go_enter Try.func43, Try.ntmps43
    go_wp2_with (first | ((with_reducible refine gate_callee (f := 44) rfl ?_); refine goesL_ (some 10) rfl rfl Try.func44 (by kernel_rfl) rfl #[.string (⟨#[1, 1, 0, 254, 255, 97]⟩ : ByteArray), .int .i64 9] rfl (by (try simp only [List.map_toArray, List.map_cons, List.map_nil]); first | done | rfl | (simp only [List.length_drop, List.length_take]; rfl)) ?_; (with_reducible refine (inflate_Raw.calls (⟨#[1, 1, 0, 254, 255, 97]⟩ : ByteArray) 9 t208 t209 t210 _ A1.out).mono ?_); rintro e w32 ⟨rfl, hb⟩; refine ⟨_, rfl, ?_⟩; have n0_ := Aside0.mk (below_step (by repeat (first | (with_reducible first | exact HB.out | apply below_alloc | apply pw_below_drewN | apply below_drew1) | exact HB.out)) hb); clear HB; have HB := n0_; clear n0_; (try clear hb); (try clear hb2); (try clear hk); (try clear hi)) | ((with_reducible refine gate_callee (f := 44) rfl ?_); refine goesL_ (some 15) rfl rfl Try.func44 (by kernel_rfl) rfl #[.string (⟨#[3, 0]⟩ : ByteArray), .int .i64 0] rfl (by (try simp only [List.map_toArray, List.map_cons, List.map_nil]); first | done | rfl | (simp only [List.length_drop, List.length_take]; rfl)) ?_; (with_reducible refine (inflate_Raw.calls (⟨#[3, 0]⟩ : ByteArray) 0 t211 t212 t213 _ A2.out).mono ?_); rintro e w33 ⟨rfl, hb⟩; refine ⟨_, rfl, ?_⟩; have n0_ := Aside0.mk (below_step (by repeat (first | (with_reducible first | exact HB.out | apply below_alloc | apply pw_below_drewN | apply below_drew1) | exact HB.out)) hb); clear HB; have HB := n0_; clear n0_; (try clear hb); (try clear hb2); (try clear hk); (try clear hi)) | ((with_reducible refine gate_callee (f := 46) rfl ?_); refine goesL_ (some 20) rfl rfl Try.func46 (by kernel_rfl) rfl #[.string (⟨#[120, 156, 3, 0, 0, 0, 0, 1]⟩ : ByteArray), .int .i64 9] rfl (by (try simp only [List.map_toArray, List.map_cons, List.map_nil]); first | done | rfl | (simp only [List.length_drop, List.length_take]; rfl)) ?_; (with_reducible refine (inflate_Open.calls k (⟨#[120, 156, 3, 0, 0, 0, 0, 1]⟩ : ByteArray) 9 t214 t215 _ A3.out).mono ?_); rintro e w34 ⟨rfl, hb⟩; refine ⟨_, rfl, ?_⟩; have n0_ := Aside0.mk (below_step (by repeat (first | (with_reducible first | exact HB.out | apply below_alloc | apply pw_below_drewN | apply below_drew1) | exact HB.out)) hb); clear HB; have HB := n0_; clear n0_; (try clear hb); (try clear hb2); (try clear hk); (try clear hi)))
    go_ret
    exact ⟨by first | rfl | (simp [errW_none, errW_some] <;> rfl) | (simp [*, errW_none, errW_some] <;> rfl), by repeat (first | (with_reducible first | exact HB.out | apply below_alloc | apply pw_below_drewN | apply below_drew1) | exact HB.out)⟩

end Go.Proofs.Ytpbhkdamkbopkaa.GEnds
