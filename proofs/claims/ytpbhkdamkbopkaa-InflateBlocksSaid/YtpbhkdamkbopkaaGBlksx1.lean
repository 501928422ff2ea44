-- Written by a program of this session (wip/tools/print2.py) for this claim.
import Derived.Test.YtpbhkdamkbopkaaGBlksx0
namespace Go.Proofs.Ytpbhkdamkbopkaa.GBlks
open Go.RowKit Go.Proofs.YtpbhkdamkbopkaaW.PrintWords Go.Proofs.YtpbhkdamkbopkaaW.PrintLast Go.Proofs.YtpbhkdamkbopkaaW.PrintMore Go.Proofs.Ytpbhkdamkbopkaa.Wr2 Go.Proofs.Ytpbhkdamkbopkaa.GEnds
attribute [local go_sem] max2_int min2_int max_two min_two max_three min_three max_four min_four   -- for this text's walks alone
set_option linter.unusedVariables false
set_option linter.unusedSimpArgs false

-- walked by hand: function 34 (huff_Bit)

-- walked by hand: function 32 (huff_Bits)

-- walked by hand: function 100 (inflate_reader_fail)

-- walked by hand: function 94 (inflate_reader_bits)

-- NOT PRINTED: function 95 (inflate_reader_stored)

-- walked by hand: function 118 (bits_Mul32)

-- walked by hand: function 119 (bits_Mul64)

-- walked by hand: function 115 (bits_Mul)

-- NOT PRINTED: function 109 (slices_Repeat_int_int)

-- NOT PRINTED: function 96 (inflate_plain)

-- walked by hand: function 110 (inflate_bases)

-- NOT PRINTED: function 30 (huff_Next)

-- NOT PRINTED: function 111 (inflate_reader_next)

-- NOT PRINTED: function 97 (inflate_reader_codes)

-- NOT PRINTED: function 88 (slices_IndexFunc_int_int)

-- NOT PRINTED: function 59 (slices_ContainsFunc_int_int)

-- NOT PRINTED: function 26 (huff_New)

-- NOT PRINTED: function 98 (inflate_reader_table)

-- NOT PRINTED: function 112 (inflate_reader_lengthen)

-- NOT PRINTED: function 99 (inflate_reader_lengths)

-- NOT PRINTED: function 72 (inflate_reader_block)

-- walked by hand: function 44 (inflate_Raw)

-- walked by hand: function 102 (adler_parts)

-- walked by hand: function 77 (adler_More)

-- walked by hand: function 48 (adler_Sum)

-- walked by hand: function 46 (inflate_Open)

-- walked by hand: function 43 (celluloidlaw05_awake)

/-! ### celluloidlaw05_InflateBlocks: function 16 -/
mutual
def celluloidlaw05_InflateBlocks.j0 : Nat → List ByteArray → Bool → Option (Bool)
  | 0, _, _ => none
  | k + 1, x0, x19 => if x19 = true then ((celluloidlaw05_awake.f k).bind fun t201 => (some t201)) else (celluloidlaw05_InflateBlocks.l0 k x0 (⟨#[]⟩ : ByteArray) (⟨#[]⟩ : ByteArray) x0 (x0.length : Int) 0)
def celluloidlaw05_InflateBlocks.l0 : Nat → List ByteArray → ByteArray → ByteArray → List ByteArray → Int → Int → Option (Bool)
  | 0, _, _, _, _, _, _ => none
  | k + 1, x0, x3, x4, x21, x22, x23 => if x23 < x22 then (if 0 ≤ x23 then (if x23 < (x21.length : Int) then (if ((rdOf ByteArray.empty x21 x23).size : Int) > 1024 then ((celluloidlaw05_awake.f k).bind fun t207 => (some t207)) else (if x23 = (wrap64 ((x0.length : Int) - 1)) then ((some (([1, (((rdOf ByteArray.empty x21 x23).size : Int)) % 256, (((rdOf ByteArray.empty x21 x23).size : Int) / 256) % 256, (Go.bits .xor .i64 (-1) ((rdOf ByteArray.empty x21 x23).size : Int)) % 256, ((Go.bits .xor .i64 (-1) ((rdOf ByteArray.empty x21 x23).size : Int)) / 256) % 256] : List Int) : List Int)).bind fun y208 => (if (strOfNums y208).size + (rdOf ByteArray.empty x21 x23).size ≤ 9223372036854775807 then (if x3.size + ((strOfNums y208) ++ (rdOf ByteArray.empty x21 x23)).size ≤ 9223372036854775807 then (if x4.size + (rdOf ByteArray.empty x21 x23).size ≤ 9223372036854775807 then (celluloidlaw05_InflateBlocks.l0 k x0 (x3 ++ ((strOfNums y208) ++ (rdOf ByteArray.empty x21 x23))) (x4 ++ (rdOf ByteArray.empty x21 x23)) x21 x22 (wrap64 (x23 + 1))) else (none)) else (none)) else (none))) else ((some (([0, (((rdOf ByteArray.empty x21 x23).size : Int)) % 256, (((rdOf ByteArray.empty x21 x23).size : Int) / 256) % 256, (Go.bits .xor .i64 (-1) ((rdOf ByteArray.empty x21 x23).size : Int)) % 256, ((Go.bits .xor .i64 (-1) ((rdOf ByteArray.empty x21 x23).size : Int)) / 256) % 256] : List Int) : List Int)).bind fun y211 => (if (strOfNums y211).size + (rdOf ByteArray.empty x21 x23).size ≤ 9223372036854775807 then (if x3.size + ((strOfNums y211) ++ (rdOf ByteArray.empty x21 x23)).size ≤ 9223372036854775807 then (if x4.size + (rdOf ByteArray.empty x21 x23).size ≤ 9223372036854775807 then (celluloidlaw05_InflateBlocks.l0 k x0 (x3 ++ ((strOfNums y211) ++ (rdOf ByteArray.empty x21 x23))) (x4 ++ (rdOf ByteArray.empty x21 x23)) x21 x22 (wrap64 (x23 + 1))) else (none)) else (none)) else (none))))) else (none)) else (none)) else ((inflate_Raw.f x3 32768).bind fun bt202 => (if bt202.1.toList = x4.toList then (if bt202.2.1 = (x3.size : Int) then (if bt202.2.2 = 0 then ((celluloidlaw05_awake.f k).bind fun t205 => (some t205)) else (some false)) else (some false)) else (some false)))
end
def celluloidlaw05_InflateBlocks.f (k : Nat) (l0 : List ByteArray) : Option (Bool) := if (l0.length : Int) > 20 then (celluloidlaw05_InflateBlocks.j0 k l0 true) else (celluloidlaw05_InflateBlocks.j0 k l0 ((l0.length : Int) == 0))
theorem celluloidlaw05_InflateBlocks.mono_l : ∀ k, (∀ y0 y1, LeO (celluloidlaw05_InflateBlocks.j0 k y0 y1) (celluloidlaw05_InflateBlocks.j0 (k + 1) y0 y1)) ∧ (∀ y0 y1 y2 y3 y4 y5, LeO (celluloidlaw05_InflateBlocks.l0 k y0 y1 y2 y3 y4 y5) (celluloidlaw05_InflateBlocks.l0 (k + 1) y0 y1 y2 y3 y4 y5))
  | 0 => ⟨fun _ _ r h => by simp [celluloidlaw05_InflateBlocks.j0] at h, fun _ _ _ _ _ _ r h => by simp [celluloidlaw05_InflateBlocks.l0] at h⟩
  | k + 1 => by
    obtain ⟨ih0, ih1⟩ := celluloidlaw05_InflateBlocks.mono_l k
    refine ⟨?_, ?_⟩
    · intro y0 y1
      unfold celluloidlaw05_InflateBlocks.j0
      repeat' first
      | (with_reducible exact ih0 _ _)
      | (with_reducible exact ih1 _ _ _ _ _ _)
      | (with_reducible exact celluloidlaw05_awake.mono _)
      | (with_reducible exact LeO.refl _)
      | (with_reducible exact LeO.none _)
      | (with_reducible refine LeO.ite ?_ ?_)
      | (with_reducible refine LeO.bind ?_ (fun _ => ?_))
      | exact ih0 _ _
      | exact ih1 _ _ _ _ _ _
      | exact celluloidlaw05_awake.mono _
      | exact LeO.none _
      | refine LeO.ite ?_ ?_
      | refine LeO.bind ?_ (fun _ => ?_)
    · intro y0 y1 y2 y3 y4 y5
      unfold celluloidlaw05_InflateBlocks.l0
      repeat' first
      | (with_reducible exact ih0 _ _)
      | (with_reducible exact ih1 _ _ _ _ _ _)
      | (with_reducible exact celluloidlaw05_awake.mono _)
      | (with_reducible exact LeO.refl _)
      | (with_reducible exact LeO.none _)
      | (with_reducible refine LeO.ite ?_ ?_)
      | (with_reducible refine LeO.bind ?_ (fun _ => ?_))
      | exact ih0 _ _
      | exact ih1 _ _ _ _ _ _
      | exact celluloidlaw05_awake.mono _
      | exact LeO.none _
      | refine LeO.ite ?_ ?_
      | refine LeO.bind ?_ (fun _ => ?_)
theorem celluloidlaw05_InflateBlocks.mono : ∀ a0 k, LeO (celluloidlaw05_InflateBlocks.f k a0) (celluloidlaw05_InflateBlocks.f (k + 1) a0) := by
  intro a0 k
  obtain ⟨ih0, ih1⟩ := celluloidlaw05_InflateBlocks.mono_l k
  unfold celluloidlaw05_InflateBlocks.f
  repeat' first
      | (with_reducible exact ih0 _ _)
      | (with_reducible exact ih1 _ _ _ _ _ _)
      | (with_reducible exact celluloidlaw05_awake.mono _)
      | (with_reducible exact LeO.refl _)
      | (with_reducible exact LeO.none _)
      | (with_reducible refine LeO.ite ?_ ?_)
      | (with_reducible refine LeO.bind ?_ (fun _ => ?_))
      | exact ih0 _ _
      | exact ih1 _ _ _ _ _ _
      | exact celluloidlaw05_awake.mono _
      | exact LeO.none _
      | refine LeO.ite ?_ ?_
      | refine LeO.bind ?_ (fun _ => ?_)
set_option maxHeartbeats 8000000 in
set_option maxRecDepth 100000 in
theorem celluloidlaw05_InflateBlocks.calls (k : Nat) (A0 : Option Addr) (c0 : Nat) (l0 : List ByteArray) (r : Bool) (w : World) (hr0 : Kd.C Kd.string w A0 l0.length l0) (hc0 : l0.length ≤ c0) (h : celluloidlaw05_InflateBlocks.f k l0 = some r) (hr_ : Aside0 (r = true)) :
    Calls Try.prog 16 #[.slice A0 l0.length c0] w fun e w' => e = .returned (.bool r) ∧ Below w.heap.size w w' := by
  have HR0 := Aside0.mk hr0
  have HC0 := Aside0.mk hc0
  clear hr0 hc0
  have HB := Aside0.mk (Below.refl w.heap.size w)
  have H : (if (l0.length : Int) > 20 then (celluloidlaw05_InflateBlocks.j0 k l0 true) else (celluloidlaw05_InflateBlocks.j0 k l0 ((l0.length : Int) == 0))) = some r := h
  clear h
  have HC2 := Aside0.mk H
  clear H
  go_enter Try.func16, Try.ntmps16
  go_upto_region 1 with (fail)
  go_cut [19] (fun v19 wc => ∃ (kq : Nat) (x19_1 : Bool), v19 = .bool x19_1 ∧ Aside0 (celluloidlaw05_InflateBlocks.j0 kq l0 x19_1 = some r) ∧ Aside0 (kq ≤ k) ∧ Aside0 (Below w.heap.size w wc))
  case first =>
    have H := HC2.out
    clear HC2
    by_cases c3 : (l0.length : Int) > 20
    · rw [if_pos c3] at H
      have c3b0 : decide (20 < (l0.length : Int)) = true := decide_eq_true c3
      have c3b1 : decide (20 < l0.length) = true := decide_eq_true (by omega)
      clear c3
      (first | rw [c3b0] | (simp only [i64_w, i32_w]; rw [c3b0]) | skip)
      have H' := Aside0.mk H
      clear H
      go_wp2
      go_meet
      case rel => exact ⟨_, (true), (by first | rfl | (simp; done) | (simp [*]; done)), H', ⟨by first | omega | exact Nat.le_refl _⟩, ⟨by repeat (first | (with_reducible first | exact HB.out | apply below_alloc | apply pw_below_drewN | apply below_drew1) | exact HB.out)⟩⟩
    · rw [if_neg c3] at H
      have c3b0 : decide (20 < (l0.length : Int)) = false := decide_eq_false c3
      have c3b1 : decide (20 < l0.length) = false := decide_eq_false (by omega)
      clear c3
      (first | rw [c3b0] | (simp only [i64_w, i32_w]; rw [c3b0]) | skip)
      have H' := Aside0.mk H
      clear H
      go_wp2
      go_meet
      case rel => exact ⟨_, (((l0.length : Int) == 0)), (by first | rfl | (simp; done) | (simp [*]; done)), H', ⟨by first | omega | exact Nat.le_refl _⟩, ⟨by repeat (first | (with_reducible first | exact HB.out | apply below_alloc | apply pw_below_drewN | apply below_drew1) | exact HB.out)⟩⟩
  case rest =>
    clear HC2
    try clear c1
    try clear p2
    try clear c3
    try clear c3b0
    try clear c3b1
    obtain ⟨kq, x19_1, rfl, HA, HJ1, HB⟩ := hcut
    cases kq with
    | zero => exact absurd HA.out (by simp [celluloidlaw05_InflateBlocks.j0])
    | succ kj1 =>
      have H := HA.out
      clear HA
      simp only [celluloidlaw05_InflateBlocks.j0] at H
      by_cases c4 : x19_1 = true
      · subst c4
        have H1 : ((celluloidlaw05_awake.f kj1).bind fun t201 => (some t201)) = some r := by rw [if_pos rfl] at H; exact H
        clear H
        have H := H1
        clear H1
        replace H := Option.bind_eq_some_iff.mp H
        obtain ⟨t201, A50, H⟩ := H
        replace H : (some t201) = some r := H
        have A5 := Aside0.mk A50
        clear A50
        first
        | exact absurd (Option.some.inj H) (by rw [hr_.out]; decide)
        | obtain rfl := Option.some.inj H
          go_wp2_with (first | ((with_reducible refine gate_callee (f := 43) rfl ?_); refine goesL_ (some 20) rfl rfl Try.func43 (by kernel_rfl) rfl #[] rfl (by (try simp only [List.map_toArray, List.map_cons, List.map_nil]); first | done | rfl | (simp only [List.length_drop, List.length_take]; rfl)) ?_; (with_reducible refine (celluloidlaw05_awake.calls kj1  t201 _ A5.out).mono ?_); rintro e w6 ⟨rfl, hb⟩; refine ⟨_, rfl, ?_⟩; have n0_ := Aside0.mk (below_step (by repeat (first | (with_reducible first | exact HB.out | apply below_alloc | apply pw_below_drewN | apply below_drew1) | exact HB.out)) hb); clear HB; have HB := n0_; clear n0_; (try clear hb); (try clear hb2); (try clear hk); (try clear hi)))
          go_ret
          exact ⟨by first | rfl | (simp [errW_none, errW_some] <;> rfl) | (simp [*, errW_none, errW_some] <;> rfl), by repeat (first | (with_reducible first | exact HB.out | apply below_alloc | apply pw_below_drewN | apply below_drew1) | exact HB.out)⟩
      · replace c4 := Bool.eq_false_iff.mpr c4
        subst c4
        have H1 : (celluloidlaw05_InflateBlocks.l0 kj1 l0 (⟨#[]⟩ : ByteArray) (⟨#[]⟩ : ByteArray) l0 (l0.length : Int) 0) = some r := by rw [if_neg (show ¬ (false = true) by decide)] at H; exact H
        clear H
        have H := H1
        clear H1
        have H' := Aside0.mk H
        clear H
        go_wp2
        go_loopg [3, 4, 23] kj1 (fun kq v3 v4 v23 w' => ∃ (x3_2 : ByteArray) (x4_2 : ByteArray) (x23_2 : Int), v3 = .string x3_2 ∧ v4 = .string x4_2 ∧ v23 = .int .i64 x23_2 ∧ Aside0 (celluloidlaw05_InflateBlocks.l0 kq l0 x3_2 x4_2 l0 (l0.length : Int) x23_2 = some r) ∧ Aside0 (kq ≤ kj1) ∧ Aside0 (Below w.heap.size w w'))
        case atStart => exact ⟨((⟨#[]⟩ : ByteArray)), ((⟨#[]⟩ : ByteArray)), (0), (by first | rfl | (simp; done) | (simp [*]; done)), (by first | rfl | (simp; done) | (simp [*]; done)), (by first | rfl | (simp; done) | (simp [*]; done)), H', ⟨Nat.le_refl _⟩, ⟨by repeat (first | (with_reducible first | exact HB.out | apply below_alloc | apply pw_below_drewN | apply below_drew1) | exact HB.out)⟩⟩
        case round =>
          clear H'
          try clear c1
          try clear p2
          try clear c3
          try clear c3b0
          try clear c3b1
          try clear c4
          try clear p2
          obtain ⟨x3_2, x4_2, x23_2, rfl, rfl, rfl, HA, HK2, HB⟩ := hrel
          cases gk with
          | zero => exact absurd HA.out (by simp [celluloidlaw05_InflateBlocks.l0])
          | succ k2 =>
            have H := HA.out
            clear HA
            simp only [celluloidlaw05_InflateBlocks.l0] at H
            by_cases c7 : x23_2 < (l0.length : Int)
            · rw [if_pos c7] at H
              have c7b0 : decide (x23_2 < (l0.length : Int)) = true := decide_eq_true c7
              clear c7
              by_cases c8 : 0 ≤ x23_2
              · rw [if_pos c8] at H
                have c8b0 : decide (0 ≤ x23_2) = true := decide_eq_true c8
                clear c8
                by_cases c9 : x23_2 < (l0.length : Int)
                · rw [if_pos c9] at H
                  have c9b0 : decide (x23_2 < (l0.length : Int)) = true := decide_eq_true c9
                  clear c9
                  by_cases c10 : ((rdOf ByteArray.empty l0 x23_2).size : Int) > 1024
                  · rw [if_pos c10] at H
                    have c10b0 : decide (1024 < ((rdOf ByteArray.empty l0 x23_2).size : Int)) = true := decide_eq_true c10
                    have c10b1 : decide (1024 < (rdOf ByteArray.empty l0 x23_2).size) = true := decide_eq_true (by omega)
                    clear c10
                    replace H := Option.bind_eq_some_iff.mp H
                    obtain ⟨t207, A110, H⟩ := H
                    replace H : (some t207) = some r := H
                    have A11 := Aside0.mk A110
                    clear A110
                    first
                    | exact absurd (Option.some.inj H) (by rw [hr_.out]; decide)
                    | obtain rfl := Option.some.inj H
                      have p206 : 0 ≤ (x23_2 : Int) := of_decide_eq_true (by first | (with_reducible assumption) | assumption)
                      have q206 : x23_2 < (l0.length : Int) := of_decide_eq_true (by first | (with_reducible assumption) | assumption)
                      obtain ⟨ad206, e206, hx206_0⟩ := Kd.at_string HR0.out x23_2 p206 q206
                      cases e206
                      replace hx206_0 := (HB.out.cell (World.block_lt_of_cell? w _ hx206_0)).trans hx206_0
                      replace p206 := eq_true p206
                      replace q206 := eq_true q206
                      go_wp2_with (first | ((with_reducible refine gate_callee (f := 43) rfl ?_); refine goesL_ (some 31) rfl rfl Try.func43 (by kernel_rfl) rfl #[] rfl (by (try simp only [List.map_toArray, List.map_cons, List.map_nil]); first | done | rfl | (simp only [List.length_drop, List.length_take]; rfl)) ?_; (with_reducible refine (celluloidlaw05_awake.calls k2  t207 _ A11.out).mono ?_); rintro e w12 ⟨rfl, hb⟩; refine ⟨_, rfl, ?_⟩; have n0_ := Aside0.mk (below_step (by repeat (first | (with_reducible first | exact HB.out | apply below_alloc | apply pw_below_drewN | apply below_drew1) | exact HB.out)) hb); clear HB; have HB := n0_; clear n0_; (try clear hb); (try clear hb2); (try clear hk); (try clear hi)))
                      go_ret
                      exact ⟨by first | rfl | (simp [errW_none, errW_some] <;> rfl) | (simp [*, errW_none, errW_some] <;> rfl), by repeat (first | (with_reducible first | exact HB.out | apply below_alloc | apply pw_below_drewN | apply below_drew1) | exact HB.out)⟩
                  · rw [if_neg c10] at H
                    have c10b0 : decide (1024 < ((rdOf ByteArray.empty l0 x23_2).size : Int)) = false := decide_eq_false c10
                    have c10b1 : decide (1024 < (rdOf ByteArray.empty l0 x23_2).size) = false := decide_eq_false (by omega)
                    clear c10
                    by_cases c13 : x23_2 = (wrap64 ((l0.length : Int) - 1))
                    · rw [if_pos c13] at H
                      have c13b0 : (x23_2 == (wrap64 ((l0.length : Int) - 1))) = true := beq_iff_eq.mpr c13
                      have c13b1 : (x23_2 != (wrap64 ((l0.length : Int) - 1))) = false := bne_eq_false_iff_eq.mpr c13
                      clear c13
                      obtain ⟨y208, hy208⟩ : ∃ y_ : List Int, y_ = (([1, (((rdOf ByteArray.empty l0 x23_2).size : Int)) % 256, (((rdOf ByteArray.empty l0 x23_2).size : Int) / 256) % 256, (Go.bits .xor .i64 (-1) ((rdOf ByteArray.empty l0 x23_2).size : Int)) % 256, ((Go.bits .xor .i64 (-1) ((rdOf ByteArray.empty l0 x23_2).size : Int)) / 256) % 256] : List Int)) := ⟨_, rfl⟩
                      replace H : (if (strOfNums y208).size + (rdOf ByteArray.empty l0 x23_2).size ≤ 9223372036854775807 then (if x3_2.size + ((strOfNums y208) ++ (rdOf ByteArray.empty l0 x23_2)).size ≤ 9223372036854775807 then (if x4_2.size + (rdOf ByteArray.empty l0 x23_2).size ≤ 9223372036854775807 then (celluloidlaw05_InflateBlocks.l0 k2 l0 (x3_2 ++ ((strOfNums y208) ++ (rdOf ByteArray.empty l0 x23_2))) (x4_2 ++ (rdOf ByteArray.empty l0 x23_2)) l0 (l0.length : Int) (wrap64 (x23_2 + 1))) else (none)) else (none)) else (none)) = some r := by first | (rw [hy208]; with_reducible exact H) | (have H2_ := (Option.bind_some _ _).symm.trans H; rw [hy208]; with_reducible exact H2_) | (have H2_ := (Option.bind_some _ _).symm.trans H; with_reducible exact H2_) | with_reducible exact H | (rw [hy208]; exact H) | exact H
                      have Ny208 := Aside0.mk hy208
                      clear hy208
                      by_cases c14 : (strOfNums y208).size + (rdOf ByteArray.empty l0 x23_2).size ≤ 9223372036854775807
                      · rw [if_pos c14] at H
                        have c14b0 := eq_true c14
                        have c14b1 : decide ((strOfNums y208).size + (rdOf ByteArray.empty l0 x23_2).size ≤ 9223372036854775807) = true := decide_eq_true c14
                        try have c14b2 : (9223372036854775807 < (strOfNums y208).size + (rdOf ByteArray.empty l0 x23_2).size) = False := eq_false (Nat.not_lt.2 c14)
                        by_cases c15 : x3_2.size + ((strOfNums y208) ++ (rdOf ByteArray.empty l0 x23_2)).size ≤ 9223372036854775807
                        · rw [if_pos c15] at H
                          have c15b0 := eq_true c15
                          have c15b1 : decide (x3_2.size + ((strOfNums y208) ++ (rdOf ByteArray.empty l0 x23_2)).size ≤ 9223372036854775807) = true := decide_eq_true c15
                          try have c15b2 : (9223372036854775807 < x3_2.size + ((strOfNums y208) ++ (rdOf ByteArray.empty l0 x23_2)).size) = False := eq_false (Nat.not_lt.2 c15)
                          have c15b3 := c15b2
                          simp only [ByteArray.size_append] at c15b3
                          by_cases c16 : x4_2.size + (rdOf ByteArray.empty l0 x23_2).size ≤ 9223372036854775807
                          · rw [if_pos c16] at H
                            have c16b0 := eq_true c16
                            have c16b1 : decide (x4_2.size + (rdOf ByteArray.empty l0 x23_2).size ≤ 9223372036854775807) = true := decide_eq_true c16
                            try have c16b2 : (9223372036854775807 < x4_2.size + (rdOf ByteArray.empty l0 x23_2).size) = False := eq_false (Nat.not_lt.2 c16)
                            have H' := Aside0.mk H
                            clear H
                            have p206 : 0 ≤ (x23_2 : Int) := of_decide_eq_true (by first | (with_reducible assumption) | assumption)
                            have q206 : x23_2 < (l0.length : Int) := of_decide_eq_true (by first | (with_reducible assumption) | assumption)
                            obtain ⟨ad206, e206, hx206_0⟩ := Kd.at_string HR0.out x23_2 p206 q206
                            cases e206
                            replace hx206_0 := (HB.out.cell (World.block_lt_of_cell? w _ hx206_0)).trans hx206_0
                            replace p206 := eq_true p206
                            replace q206 := eq_true q206
                            go_wp2_with (first | ((with_reducible refine gate_dst (N := 53) rfl ?_); (try (refine gate_guard (by rfl) ?_; dsimp only)); refine Kd.R_lit (Kd.int .u8) _ 5 ?hg (N := 53) ?hd (xs := ([1, (((rdOf ByteArray.empty l0 x23_2).size : Int)) % 256, (((rdOf ByteArray.empty l0 x23_2).size : Int) / 256) % 256, (Go.bits .xor .i64 (-1) ((rdOf ByteArray.empty l0 x23_2).size : Int)) % 256, ((Go.bits .xor .i64 (-1) ((rdOf ByteArray.empty l0 x23_2).size : Int)) / 256) % 256] : List Int)) (inner := [.int .u8 1, .int .u8 ((((rdOf ByteArray.empty l0 x23_2).size : Int)) % 256), .int .u8 ((((rdOf ByteArray.empty l0 x23_2).size : Int) / 256) % 256), .int .u8 ((Go.bits .xor .i64 (-1) ((rdOf ByteArray.empty l0 x23_2).size : Int)) % 256), .int .u8 (((Go.bits .xor .i64 (-1) ((rdOf ByteArray.empty l0 x23_2).size : Int)) / 256) % 256)]) (ok := fun _ => True) (okp := fun _ => True) ?hr ?hp (fun _ hk => hk) trivial (Below.refl _ _) (Nat.le_refl _) (by simp) ?_; (case hd => rfl); (case hg => rfl); (case hr => first | (go_simp; done) | (go_simp; rfl)); (case hp => exact (Reps.one (show Kd.M (Kd.int .u8) _ _ _ 1 [.int .u8 1] from rfl) (Reps.one (show Kd.M (Kd.int .u8) _ _ _ ((((rdOf ByteArray.empty l0 x23_2).size : Int)) % 256) [.int .u8 ((((rdOf ByteArray.empty l0 x23_2).size : Int)) % 256)] from rfl) (Reps.one (show Kd.M (Kd.int .u8) _ _ _ ((((rdOf ByteArray.empty l0 x23_2).size : Int) / 256) % 256) [.int .u8 ((((rdOf ByteArray.empty l0 x23_2).size : Int) / 256) % 256)] from rfl) (Reps.one (show Kd.M (Kd.int .u8) _ _ _ ((Go.bits .xor .i64 (-1) ((rdOf ByteArray.empty l0 x23_2).size : Int)) % 256) [.int .u8 ((Go.bits .xor .i64 (-1) ((rdOf ByteArray.empty l0 x23_2).size : Int)) % 256)] from rfl) (Reps.one (show Kd.M (Kd.int .u8) _ _ _ (((Go.bits .xor .i64 (-1) ((rdOf ByteArray.empty l0 x23_2).size : Int)) / 256) % 256) [.int .u8 (((Go.bits .xor .i64 (-1) ((rdOf ByteArray.empty l0 x23_2).size : Int)) / 256) % 256)] from rfl) (Reps.none _ _))))))); intro v209 w17 ho18 hb hg_ hnew_; clear hg_ hnew_; (first | rw [← Ny208.out] at ho18 | (simp only [Int.reduceToNat] at ho18; rw [← Ny208.out] at ho18)); have n0_ := Aside0.mk (Kd.R_lower ho18 (below_size (by repeat (first | (with_reducible first | exact HB.out | apply below_alloc | apply pw_below_drewN | apply below_drew1) | exact HB.out)))); have n1_ := Aside0.mk (below_step (by repeat (first | (with_reducible first | exact HB.out | apply below_alloc | apply pw_below_drewN | apply below_drew1) | exact HB.out)) hb); clear HB; have HO210 := n0_; have HB := n1_; clear n0_ n1_; clear hb ho18; have hcv19 := own_string (P := Try.prog) Try.underlying40 Try.underlying5 Try.underlying9 (Kd.own_of_R HO210.out)))
                            go_roundg k2
                            case measure => have := HJ1.out; have := HK2.out; omega
                            case rel => exact ⟨(x3_2 ++ ((strOfNums y208) ++ (rdOf ByteArray.empty l0 x23_2))), (x4_2 ++ (rdOf ByteArray.empty l0 x23_2)), (wrap64 (x23_2 + 1)), (by first | rfl | (simp; done) | (simp [*]; done)), (by first | rfl | (simp; done) | (simp [*]; done)), (by first | rfl | (simp; done) | (simp [*]; done)), H', ⟨by have := HJ1.out; have := HK2.out; omega⟩, ⟨by repeat (first | (with_reducible first | exact HB.out | apply below_alloc | apply pw_below_drewN | apply below_drew1) | exact HB.out)⟩⟩
                          · rw [if_neg c16] at H
                            exact absurd H (by simp)
                        · rw [if_neg c15] at H
                          exact absurd H (by simp)
                      · rw [if_neg c14] at H
                        exact absurd H (by simp)
                    · rw [if_neg c13] at H
                      have c13b0 : (x23_2 == (wrap64 ((l0.length : Int) - 1))) = false := beq_eq_false_iff_ne.mpr c13
                      have c13b1 : (x23_2 != (wrap64 ((l0.length : Int) - 1))) = true := bne_iff_ne.mpr c13
                      obtain ⟨y211, hy211⟩ : ∃ y_ : List Int, y_ = (([0, (((rdOf ByteArray.empty l0 x23_2).size : Int)) % 256, (((rdOf ByteArray.empty l0 x23_2).size : Int) / 256) % 256, (Go.bits .xor .i64 (-1) ((rdOf ByteArray.empty l0 x23_2).size : Int)) % 256, ((Go.bits .xor .i64 (-1) ((rdOf ByteArray.empty l0 x23_2).size : Int)) / 256) % 256] : List Int)) := ⟨_, rfl⟩
                      replace H : (if (strOfNums y211).size + (rdOf ByteArray.empty l0 x23_2).size ≤ 9223372036854775807 then (if x3_2.size + ((strOfNums y211) ++ (rdOf ByteArray.empty l0 x23_2)).size ≤ 9223372036854775807 then (if x4_2.size + (rdOf ByteArray.empty l0 x23_2).size ≤ 9223372036854775807 then (celluloidlaw05_InflateBlocks.l0 k2 l0 (x3_2 ++ ((strOfNums y211) ++ (rdOf ByteArray.empty l0 x23_2))) (x4_2 ++ (rdOf ByteArray.empty l0 x23_2)) l0 (l0.length : Int) (wrap64 (x23_2 + 1))) else (none)) else (none)) else (none)) = some r := by first | (rw [hy211]; with_reducible exact H) | (have H2_ := (Option.bind_some _ _).symm.trans H; rw [hy211]; with_reducible exact H2_) | (have H2_ := (Option.bind_some _ _).symm.trans H; with_reducible exact H2_) | with_reducible exact H | (rw [hy211]; exact H) | exact H
                      have Ny211 := Aside0.mk hy211
                      clear hy211
                      by_cases c20 : (strOfNums y211).size + (rdOf ByteArray.empty l0 x23_2).size ≤ 9223372036854775807
                      · rw [if_pos c20] at H
                        have c20b0 := eq_true c20
                        have c20b1 : decide ((strOfNums y211).size + (rdOf ByteArray.empty l0 x23_2).size ≤ 9223372036854775807) = true := decide_eq_true c20
                        try have c20b2 : (9223372036854775807 < (strOfNums y211).size + (rdOf ByteArray.empty l0 x23_2).size) = False := eq_false (Nat.not_lt.2 c20)
                        by_cases c21 : x3_2.size + ((strOfNums y211) ++ (rdOf ByteArray.empty l0 x23_2)).size ≤ 9223372036854775807
                        · rw [if_pos c21] at H
                          have c21b0 := eq_true c21
                          have c21b1 : decide (x3_2.size + ((strOfNums y211) ++ (rdOf ByteArray.empty l0 x23_2)).size ≤ 9223372036854775807) = true := decide_eq_true c21
                          try have c21b2 : (9223372036854775807 < x3_2.size + ((strOfNums y211) ++ (rdOf ByteArray.empty l0 x23_2)).size) = False := eq_false (Nat.not_lt.2 c21)
                          have c21b3 := c21b2
                          simp only [ByteArray.size_append] at c21b3
                          by_cases c22 : x4_2.size + (rdOf ByteArray.empty l0 x23_2).size ≤ 9223372036854775807
                          · rw [if_pos c22] at H
                            have c22b0 := eq_true c22
                            have c22b1 : decide (x4_2.size + (rdOf ByteArray.empty l0 x23_2).size ≤ 9223372036854775807) = true := decide_eq_true c22
                            try have c22b2 : (9223372036854775807 < x4_2.size + (rdOf ByteArray.empty l0 x23_2).size) = False := eq_false (Nat.not_lt.2 c22)
                            have H' := Aside0.mk H
                            clear H
                            have p206 : 0 ≤ (x23_2 : Int) := of_decide_eq_true (by first | (with_reducible assumption) | assumption)
                            have q206 : x23_2 < (l0.length : Int) := of_decide_eq_true (by first | (with_reducible assumption) | assumption)
                            obtain ⟨ad206, e206, hx206_0⟩ := Kd.at_string HR0.out x23_2 p206 q206
                            cases e206
                            replace hx206_0 := (HB.out.cell (World.block_lt_of_cell? w _ hx206_0)).trans hx206_0
                            replace p206 := eq_true p206
                            replace q206 := eq_true q206
                            go_wp2_with (first | ((with_reducible refine gate_dst (N := 53) rfl ?_); (try (refine gate_guard (by rfl) ?_; dsimp only)); refine Kd.R_lit (Kd.int .u8) _ 5 ?hg (N := 53) ?hd (xs := ([0, (((rdOf ByteArray.empty l0 x23_2).size : Int)) % 256, (((rdOf ByteArray.empty l0 x23_2).size : Int) / 256) % 256, (Go.bits .xor .i64 (-1) ((rdOf ByteArray.empty l0 x23_2).size : Int)) % 256, ((Go.bits .xor .i64 (-1) ((rdOf ByteArray.empty l0 x23_2).size : Int)) / 256) % 256] : List Int)) (inner := [.int .u8 0, .int .u8 ((((rdOf ByteArray.empty l0 x23_2).size : Int)) % 256), .int .u8 ((((rdOf ByteArray.empty l0 x23_2).size : Int) / 256) % 256), .int .u8 ((Go.bits .xor .i64 (-1) ((rdOf ByteArray.empty l0 x23_2).size : Int)) % 256), .int .u8 (((Go.bits .xor .i64 (-1) ((rdOf ByteArray.empty l0 x23_2).size : Int)) / 256) % 256)]) (ok := fun _ => True) (okp := fun _ => True) ?hr ?hp (fun _ hk => hk) trivial (Below.refl _ _) (Nat.le_refl _) (by simp) ?_; (case hd => rfl); (case hg => rfl); (case hr => first | (go_simp; done) | (go_simp; rfl)); (case hp => exact (Reps.one (show Kd.M (Kd.int .u8) _ _ _ 0 [.int .u8 0] from rfl) (Reps.one (show Kd.M (Kd.int .u8) _ _ _ ((((rdOf ByteArray.empty l0 x23_2).size : Int)) % 256) [.int .u8 ((((rdOf ByteArray.empty l0 x23_2).size : Int)) % 256)] from rfl) (Reps.one (show Kd.M (Kd.int .u8) _ _ _ ((((rdOf ByteArray.empty l0 x23_2).size : Int) / 256) % 256) [.int .u8 ((((rdOf ByteArray.empty l0 x23_2).size : Int) / 256) % 256)] from rfl) (Reps.one (show Kd.M (Kd.int .u8) _ _ _ ((Go.bits .xor .i64 (-1) ((rdOf ByteArray.empty l0 x23_2).size : Int)) % 256) [.int .u8 ((Go.bits .xor .i64 (-1) ((rdOf ByteArray.empty l0 x23_2).size : Int)) % 256)] from rfl) (Reps.one (show Kd.M (Kd.int .u8) _ _ _ (((Go.bits .xor .i64 (-1) ((rdOf ByteArray.empty l0 x23_2).size : Int)) / 256) % 256) [.int .u8 (((Go.bits .xor .i64 (-1) ((rdOf ByteArray.empty l0 x23_2).size : Int)) / 256) % 256)] from rfl) (Reps.none _ _))))))); intro v212 w23 ho24 hb hg_ hnew_; clear hg_ hnew_; (first | rw [← Ny211.out] at ho24 | (simp only [Int.reduceToNat] at ho24; rw [← Ny211.out] at ho24)); have n0_ := Aside0.mk (Kd.R_lower ho24 (below_size (by repeat (first | (with_reducible first | exact HB.out | apply below_alloc | apply pw_below_drewN | apply below_drew1) | exact HB.out)))); have n1_ := Aside0.mk (below_step (by repeat (first | (with_reducible first | exact HB.out | apply below_alloc | apply pw_below_drewN | apply below_drew1) | exact HB.out)) hb); clear HB; have HO213 := n0_; have HB := n1_; clear n0_ n1_; clear hb ho24; have hcv25 := own_string (P := Try.prog) Try.underlying40 Try.underlying5 Try.underlying9 (Kd.own_of_R HO213.out)))
                            go_roundg k2
                            case measure => have := HJ1.out; have := HK2.out; omega
                            case rel => exact ⟨(x3_2 ++ ((strOfNums y211) ++ (rdOf ByteArray.empty l0 x23_2))), (x4_2 ++ (rdOf ByteArray.empty l0 x23_2)), (wrap64 (x23_2 + 1)), (by first | rfl | (simp; done) | (simp [*]; done)), (by first | rfl | (simp; done) | (simp [*]; done)), (by first | rfl | (simp; done) | (simp [*]; done)), H', ⟨by have := HJ1.out; have := HK2.out; omega⟩, ⟨by repeat (first | (with_reducible first | exact HB.out | apply below_alloc | apply pw_below_drewN | apply below_drew1) | exact HB.out)⟩⟩
                          · rw [if_neg c22] at H
                            exact absurd H (by simp)
                        · rw [if_neg c21] at H
                          exact absurd H (by simp)
                      · rw [if_neg c20] at H
                        exact absurd H (by simp)
                · rw [if_neg c9] at H
                  exact absurd H (by simp)
              · rw [if_neg c8] at H
                exact absurd H (by simp)
            · rw [if_neg c7] at H
              have c7b0 : decide (x23_2 < (l0.length : Int)) = false := decide_eq_false c7
              clear c7
              replace H := Option.bind_eq_some_iff.mp H
              obtain ⟨⟨t202, t203, t204⟩, A260, H⟩ := H
              replace H : (if t202.toList = x4_2.toList then (if t203 = (x3_2.size : Int) then (if t204 = 0 then ((celluloidlaw05_awake.f k2).bind fun t205 => (some t205)) else (some false)) else (some false)) else (some false)) = some r := H
              have A26 := Aside0.mk A260
              clear A260
              by_cases c27 : t202.toList = x4_2.toList
              · rw [if_pos c27] at H
                have c27b0 : (t202.toList == x4_2.toList) = true := beq_iff_eq.mpr c27
                have c27b1 : (t202.toList != x4_2.toList) = false := bne_eq_false_iff_eq.mpr c27
                clear c27
                by_cases c28 : t203 = (x3_2.size : Int)
                · rw [if_pos c28] at H
                  have c28b0 : (t203 == (x3_2.size : Int)) = true := beq_iff_eq.mpr c28
                  have c28b1 : (t203 != (x3_2.size : Int)) = false := bne_eq_false_iff_eq.mpr c28
                  clear c28
                  by_cases c29 : t204 = 0
                  · rw [if_pos c29] at H
                    have c29b0 : (t204 == 0) = true := beq_iff_eq.mpr c29
                    have c29b1 : (t204 != 0) = false := bne_eq_false_iff_eq.mpr c29
                    clear c29
                    replace H := Option.bind_eq_some_iff.mp H
                    obtain ⟨t205, A300, H⟩ := H
                    replace H : (some t205) = some r := H
                    have A30 := Aside0.mk A300
                    clear A300
                    first
                    | exact absurd (Option.some.inj H) (by rw [hr_.out]; decide)
                    | obtain rfl := Option.some.inj H
                      go_wp2_with (first | ((with_reducible refine gate_callee (f := 44) rfl ?_); refine goesL_ (some 64) rfl rfl Try.func44 (by kernel_rfl) rfl #[.string x3_2, .int .i64 32768] rfl (by (try simp only [List.map_toArray, List.map_cons, List.map_nil]); first | done | rfl | (simp only [List.length_drop, List.length_take]; rfl)) ?_; (with_reducible refine (inflate_Raw.calls x3_2 32768 t202 t203 t204 _ A26.out).mono ?_); rintro e w31 ⟨rfl, hb⟩; refine ⟨_, rfl, ?_⟩; have n0_ := Aside0.mk (below_step (by repeat (first | (with_reducible first | exact HB.out | apply below_alloc | apply pw_below_drewN | apply below_drew1) | exact HB.out)) hb); clear HB; have HB := n0_; clear n0_; (try clear hb); (try clear hb2); (try clear hk); (try clear hi)) | (go_at_call 43; (with_reducible refine (celluloidlaw05_awake.calls k2  t205 _ A30.out).mono ?_); rintro e w32 ⟨rfl, hb⟩; have n0_ := Aside0.mk (below_step (by repeat (first | (with_reducible first | exact HB.out | apply below_alloc | apply pw_below_drewN | apply below_drew1) | exact HB.out)) hb); clear HB; have HB := n0_; clear n0_; (try clear hb); (try clear hb2); (try clear hk); (try clear hi)))
                      go_ret
                      exact ⟨by first | rfl | (simp [errW_none, errW_some] <;> rfl) | (simp [*, errW_none, errW_some] <;> rfl), by repeat (first | (with_reducible first | exact HB.out | apply below_alloc | apply pw_below_drewN | apply below_drew1) | exact HB.out)⟩
                  · rw [if_neg c29] at H
                    have c29b0 : (t204 == 0) = false := beq_eq_false_iff_ne.mpr c29
                    have c29b1 : (t204 != 0) = true := bne_iff_ne.mpr c29
                    first
                    | exact absurd (Option.some.inj H) (by rw [hr_.out]; decide)
                    | obtain rfl := Option.some.inj H
                      go_wp2_with (first | ((with_reducible refine gate_callee (f := 44) rfl ?_); refine goesL_ (some 64) rfl rfl Try.func44 (by kernel_rfl) rfl #[.string x3_2, .int .i64 32768] rfl (by (try simp only [List.map_toArray, List.map_cons, List.map_nil]); first | done | rfl | (simp only [List.length_drop, List.length_take]; rfl)) ?_; (with_reducible refine (inflate_Raw.calls x3_2 32768 t202 t203 t204 _ A26.out).mono ?_); rintro e w33 ⟨rfl, hb⟩; refine ⟨_, rfl, ?_⟩; have n0_ := Aside0.mk (below_step (by repeat (first | (with_reducible first | exact HB.out | apply below_alloc | apply pw_below_drewN | apply below_drew1) | exact HB.out)) hb); clear HB; have HB := n0_; clear n0_; (try clear hb); (try clear hb2); (try clear hk); (try clear hi)))
                      go_ret
                      exact ⟨by first | rfl | (simp [errW_none, errW_some] <;> rfl) | (simp [*, errW_none, errW_some] <;> rfl), by repeat (first | (with_reducible first | exact HB.out | apply below_alloc | apply pw_below_drewN | apply below_drew1) | exact HB.out)⟩
                · rw [if_neg c28] at H
                  have c28b0 : (t203 == (x3_2.size : Int)) = false := beq_eq_false_iff_ne.mpr c28
                  have c28b1 : (t203 != (x3_2.size : Int)) = true := bne_iff_ne.mpr c28
                  first
                  | exact absurd (Option.some.inj H) (by rw [hr_.out]; decide)
                  | obtain rfl := Option.some.inj H
                    go_wp2_with (first | ((with_reducible refine gate_callee (f := 44) rfl ?_); refine goesL_ (some 64) rfl rfl Try.func44 (by kernel_rfl) rfl #[.string x3_2, .int .i64 32768] rfl (by (try simp only [List.map_toArray, List.map_cons, List.map_nil]); first | done | rfl | (simp only [List.length_drop, List.length_take]; rfl)) ?_; (with_reducible refine (inflate_Raw.calls x3_2 32768 t202 t203 t204 _ A26.out).mono ?_); rintro e w34 ⟨rfl, hb⟩; refine ⟨_, rfl, ?_⟩; have n0_ := Aside0.mk (below_step (by repeat (first | (with_reducible first | exact HB.out | apply below_alloc | apply pw_below_drewN | apply below_drew1) | exact HB.out)) hb); clear HB; have HB := n0_; clear n0_; (try clear hb); (try clear hb2); (try clear hk); (try clear hi)))
                    go_ret
                    exact ⟨by first | rfl | (simp [errW_none, errW_some] <;> rfl) | (simp [*, errW_none, errW_some] <;> rfl), by repeat (first | (with_reducible first | exact HB.out | apply below_alloc | apply pw_below_drewN | apply below_drew1) | exact HB.out)⟩
              · rw [if_neg c27] at H
                have c27b0 : (t202.toList == x4_2.toList) = false := beq_eq_false_iff_ne.mpr c27
                have c27b1 : (t202.toList != x4_2.toList) = true := bne_iff_ne.mpr c27
                first
                | exact absurd (Option.some.inj H) (by rw [hr_.out]; decide)
                | obtain rfl := Option.some.inj H
                  go_wp2_with (first | ((with_reducible refine gate_callee (f := 44) rfl ?_); refine goesL_ (some 64) rfl rfl Try.func44 (by kernel_rfl) rfl #[.string x3_2, .int .i64 32768] rfl (by (try simp only [List.map_toArray, List.map_cons, List.map_nil]); first | done | rfl | (simp only [List.length_drop, List.length_take]; rfl)) ?_; (with_reducible refine (inflate_Raw.calls x3_2 32768 t202 t203 t204 _ A26.out).mono ?_); rintro e w35 ⟨rfl, hb⟩; refine ⟨_, rfl, ?_⟩; have n0_ := Aside0.mk (below_step (by repeat (first | (with_reducible first | exact HB.out | apply below_alloc | apply pw_below_drewN | apply below_drew1) | exact HB.out)) hb); clear HB; have HB := n0_; clear n0_; (try clear hb); (try clear hb2); (try clear hk); (try clear hi)))
                  go_ret
                  exact ⟨by first | rfl | (simp [errW_none, errW_some] <;> rfl) | (simp [*, errW_none, errW_some] <;> rfl), by repeat (first | (with_reducible first | exact HB.out | apply below_alloc | apply pw_below_drewN | apply below_drew1) | exact HB.out)⟩
  
end Go.Proofs.Ytpbhkdamkbopkaa.GBlks
