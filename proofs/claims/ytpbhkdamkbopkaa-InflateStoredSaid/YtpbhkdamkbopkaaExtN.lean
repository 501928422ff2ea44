/- The walk of huff.Next: the symbol at a bit, by a table. -/
import Derived.Test.YtpbhkdamkbopkaaExtB
namespace Go.Proofs.Ytpbhkdamkbopkaa.Ext
set_option linter.unusedSimpArgs false
set_option linter.unusedVariables false
open Go.RowKit Go.Proofs.Ytpbhkdamkbopkaa.PHuffBits Go.Proofs.YtpbhkdamkbopkaaW.PrintWords Go.Proofs.YtpbhkdamkbopkaaW.PrintLast Go.Proofs.YtpbhkdamkbopkaaW.PrintMore

/-- The symbol: d lengths are still to be tried. -/
def nxt (cs ss : List Int) (s : ByteArray) : Nat → Int → Int → Int → Int → Option (Int × Int × Int)
  | 0, _, _, _, _ => some (0, 0, 4)
  | d + 1, pos, code, first, index =>
    (huff_Bit.f s pos).bind fun p =>
      if p.2 = false then some (0, 0, 2)
      else if 2 * code + p.1 < 2 * first + cs.getD (15 - d) 0 then
        (if 0 ≤ index + (2 * code + p.1) - 2 * first ∧ index + (2 * code + p.1) - 2 * first < ss.length then some (ss.getD (index + (2 * code + p.1) - 2 * first).toNat 0, wrap64 (pos + 1), 0) else none)
      else if index + cs.getD (15 - d) 0 = ss.length then some (0, 0, 4)
      else nxt cs ss s d (wrap64 (pos + 1)) (2 * code + p.1) (2 * first + cs.getD (15 - d) 0) (index + cs.getD (15 - d) 0)

theorem or_01 {x b : Int} (h0 : 0 ≤ x) (h1 : x < 1048576) (hb0 : 0 ≤ b) (hb1 : b ≤ 1) : bits .or .i64 (x * 2) b = x * 2 + b :=
  bits_join .i64 40 (by decide) (fun n h₀ h₁ => by rw [IntKind.wrap_i64]; omega) 1 _ _ (by omega) (by omega) (by omega) hb0 (by omega) (by omega)
theorem and_1 {x : Int} (h0 : 0 ≤ x) (h1 : x < 1048576) : bits .and .i64 x 1 = x % 2 :=
  bits_mask .i64 40 (by decide) (fun n h₀ h₁ => by rw [IntKind.wrap_i64]; omega) 1 (by decide) x h0 (by omega)
theorem bit_rng {s : ByteArray} {pos : Int} {p : Int × Bool} (h : huff_Bit.f s pos = some p) : 0 ≤ p.1 ∧ p.1 ≤ 1 := by
  unfold huff_Bit.f at h
  split at h
  · cases h; simp
  split at h
  · cases h; simp
  split at h
  · split at h
    · split at h
      · injection h with h
        subst h
        have hb := bt_range s (wrap64 (Int.tdiv pos 8))
        have h8 : 0 ≤ shr .u8 (bt s (wrap64 (Int.tdiv pos 8))) (Int.tmod pos 8) ∧ shr .u8 (bt s (wrap64 (Int.tdiv pos 8))) (Int.tmod pos 8) ≤ 255 := by
          unfold shr
          exact ⟨Int.ediv_nonneg hb.1 (Int.le_of_lt (Int.pow_pos (by decide))), Int.le_trans (Int.ediv_le_self _ hb.1) hb.2⟩
        generalize shr .u8 (bt s (wrap64 (Int.tdiv pos 8))) (Int.tmod pos 8) = z at h8
        have e : wrap64 z = z := by unfold wrap64; omega
        show 0 ≤ bits .and .i64 (wrap64 z) 1 ∧ bits .and .i64 (wrap64 z) 1 ≤ 1
        rw [e, and_1 h8.1 (by omega)]
        omega
      · cases h
    · cases h
  · cases h

theorem pstep {P : Int} {d : Nat} (h : P * 2 ^ (d + 1) = 32768) (h1 : 1 ≤ P) : 2 * P * 2 ^ d = 32768 ∧ P ≤ 16384 := by
  have e : 2 * P * 2 ^ d = 32768 := by rw [← h, Int.pow_succ, Int.mul_comm 2 P, Int.mul_assoc, Int.mul_comm 2]
  have h2 : (1 : Int) ≤ 2 ^ d := Int.pow_pos (by decide)
  have h3 : 2 * P * 1 ≤ 2 * P * 2 ^ d := Int.mul_le_mul_of_nonneg_left h2 (by omega)
  exact ⟨e, by omega⟩
theorem next_arg (A : Option Addr) (c : Nat) (cs ss : List Int) (s : ByteArray) (pos : Int) (w : World) (h : pos < 0) :
    Calls Try.prog 30 #[.agg (tab cs (.slice A ss.length c)), .string s, .int .i64 pos] w fun e w' => e = .returned (.tuple #[.int .i64 0, .int .i64 0, .int .i64 1]) ∧ Below w.heap.size w w' := by
  go_enter Try.func30, Try.ntmps30
  go_wp2
  refine bodyPost_ret (v := .tuple #[.int .i64 0, .int .i64 0, .int .i64 1]) (by simp [results, Try.results30, go_sem]) rfl ⟨rfl, below_alloc (Below.refl _ _) _⟩

theorem next_none (A : Option Addr) (c : Nat) (cs : List Int) (s : ByteArray) (pos : Int) (w : World) (hl : cs.length = 16) (h : 0 ≤ pos) :
    Calls Try.prog 30 #[.agg (tab cs (.slice A 0 c)), .string s, .int .i64 pos] w fun e w' => e = .returned (.tuple #[.int .i64 0, .int .i64 0, .int .i64 4]) ∧ Below w.heap.size w w' := by
  have hcell : (w.alloc (.cells (tab cs (.slice A 0 c)) 26)).cell? ⟨w.heap.size, 16, none⟩ = some (.slice A 0 c) := by
    rw [blk_cell (blk_new _ _), ← hl, tab_last]
  go_enter Try.func30, Try.ntmps30
  go_wp2
  refine bodyPost_ret (v := .tuple #[.int .i64 0, .int .i64 0, .int .i64 4]) (by simp [results, Try.results30, go_sem]) rfl ⟨rfl, below_alloc (Below.refl _ _) _⟩

set_option maxRecDepth 100000 in
set_option maxHeartbeats 4000000 in
theorem next_main (A : Option Addr) (c : Nat) (cs ss : List Int) (s : ByteArray) (pos : Int) (w : World) (hr : Kd.C (Kd.int .i64) w A ss.length ss) (hl : cs.length = 16) (hc : ∀ i : Nat, i < 16 → 0 ≤ cs.getD i 0 ∧ cs.getD i 0 ≤ 320) (hn : 0 < ss.length) (hm : ss.length ≤ 6000)
    (h0 : 0 ≤ pos) (r1 r2 r3 : Int) (h : nxt cs ss s 15 pos 0 0 0 = some (r1, r2, r3)) :
    Calls Try.prog 30 #[.agg (tab cs (.slice A ss.length c)), .string s, .int .i64 pos] w fun e w' => e = .returned (.tuple #[.int .i64 r1, .int .i64 r2, .int .i64 r3]) ∧ Below w.heap.size w w' := by
  have HR := Aside0.mk hr
  have HC := Aside0.mk hc
  have HN := Aside0.mk h
  have hcell : (w.alloc (.cells (tab cs (.slice A ss.length c)) 26)).cell? ⟨w.heap.size, 16, none⟩ = some (.slice A ss.length c) := by
    rw [blk_cell (blk_new _ _), ← hl, tab_last]
  clear hr hc h
  have hnz : ((ss.length : Int) == 0) = false := beq_eq_false_iff_ne.2 (by omega)
  have hnz' : decide (pos < 0) = false := by simp; omega
  have HBl := Aside0.mk (blk_new w (.cells (tab cs (.slice A ss.length c)) 26))
  have HRa := Aside0.mk (Kd.C_alloc HR.out (.cells (tab cs (.slice A ss.length c)) 26))
  have HBw := Aside0.mk (below_alloc (Below.refl w.heap.size w) (.cells (tab cs (.slice A ss.length c)) 26))
  go_enter Try.func30, Try.ntmps30
  go_wp2
  generalize w.alloc (.cells (tab cs (.slice A ss.length c)) 26) = w1 at hcell HBl HRa HBw ⊢
  go_loopw [2, 9, 10, 11, 12] (fun v2 v9 v10 v11 v12 w' => ∃ (d n : Nat) (pos code first index P : Int), n + d = 16 ∧ 1 ≤ n ∧ v2 = .int .i64 pos ∧ v9 = .int .i64 code ∧ v10 = .int .i64 first ∧ v11 = .int .i64 index ∧ v12 = .int .i64 n ∧
      Aside0 (0 ≤ code ∧ code < P ∧ 0 ≤ first ∧ first + 640 ≤ 640 * P ∧ P * 2 ^ d = 32768 ∧ 1 ≤ P ∧ 0 ≤ index ∧ index ≤ 320 * (15 - d)) ∧ Aside0 (nxt cs ss s d pos code first index = some (r1, r2, r3)) ∧ ∃ m, w' = w1.drewN m) (fun _ _ _ _ v12 _ => 16 - (intOf v12).toNat)
  case atStart => exact ⟨15, 1, pos, 0, 0, 0, 1, rfl, by decide, rfl, rfl, rfl, rfl, rfl, ⟨by decide⟩, HN, 0, rfl⟩
  case round =>
    clear HN hnz hnz' h0
    obtain ⟨d, n, pos, code, first, index, P, hd, hn1, rfl, rfl, rfl, rfl, rfl, HP, HN, m, rfl⟩ := hrel
    cases d with
    | zero =>
      obtain rfl : n = 16 := by omega
      have hN := HN.out
      simp only [nxt, Option.some.injEq, Prod.mk.injEq] at hN
      obtain ⟨rfl, rfl, rfl⟩ := hN
      clear HN
      go_wp2
      refine bodyPost_ret (v := .tuple #[.int .i64 0, .int .i64 0, .int .i64 4]) (by simp [results, Try.results30, go_sem]) rfl ⟨rfl, pw_below_drewN HBw.out _⟩
    | succ d =>
      have hN0 := HN.out
      clear HN
      simp only [nxt] at hN0
      obtain ⟨⟨b, ok⟩, hb, hN⟩ := Option.bind_eq_some_iff.mp hN0
      clear hN0
      have hbr := bit_rng hb
      have HBit := Aside0.mk hb
      clear hb
      cases ok with
      | false =>
        rw [if_pos rfl] at hN
        simp only [Option.some.injEq, Prod.mk.injEq] at hN
        obtain ⟨rfl, rfl, rfl⟩ := hN
        go_wp2_with (go_at_call 34; refine (huff_Bit.calls s pos b false _ HBit.out).mono ?_; rintro e w' ⟨rfl, ⟨nd, rfl⟩⟩)
        refine bodyPost_ret (v := .tuple #[.int .i64 0, .int .i64 0, .int .i64 2]) (by simp [results, Try.results30, go_sem]) rfl ⟨rfl, pw_below_drewN HBw.out _⟩
      | true =>
        rw [if_neg (by simp), show 15 - d = n by omega] at hN
        simp only at hN hbr
        have hcn := HC.out n (by omega)
        have hcell2 : w1.cell? ⟨w.heap.size, n, none⟩ = some (.int .i64 (cs.getD n 0)) := by
          rw [blk_cell HBl.out, tab_get _ _ _ (by omega)]
        generalize cs.getD n 0 = cn at hN hcn hcell2
        obtain ⟨p0, p1, p2, p3, p4, p5, p6, p7⟩ := HP.out
        obtain ⟨q0, q1⟩ := pstep p4 p5
        have hor : bits .or .i64 (code * 2) b = code * 2 + b := or_01 p0 (by omega) hbr.1 hbr.2
        have hn15 : decide ((n : Int) ≤ 15) = true := decide_eq_true (by omega)
        have HQ := Aside0.mk q0
        clear q0 p4
        rw [show 2 * code + b = code * 2 + b by omega, show 2 * first = first * 2 by omega] at hN
        by_cases hlt : code * 2 + b < first * 2 + cn
        · rw [if_pos hlt] at hN
          have hltd : decide (code * 2 + b < first * 2 + cn) = true := decide_eq_true hlt
          by_cases hin : 0 ≤ index + (code * 2 + b) - first * 2 ∧ index + (code * 2 + b) - first * 2 < ss.length
          · rw [if_pos hin] at hN
            simp only [Option.some.injEq, Prod.mk.injEq] at hN
            obtain ⟨rfl, rfl, rfl⟩ := hN
            obtain ⟨ad, ead, hx⟩ := Kd.at_int HRa.out _ hin.1 hin.2
            cases ead
            obtain ⟨hi0, hi1⟩ := hin
            clear HP
            go_wp2_with (go_at_call 34; refine (huff_Bit.calls s pos b true _ HBit.out).mono ?_; rintro e w' ⟨rfl, ⟨nd, rfl⟩⟩)
            refine bodyPost_ret (v := .tuple #[.int .i64 _, .int .i64 _, .int .i64 0]) (by simp [results, Try.results30, go_sem]; exact rfl) rfl ⟨rfl, pw_below_drewN HBw.out _⟩
          · rw [if_neg hin] at hN; cases hN
        · rw [if_neg hlt] at hN
          have hltd : decide (code * 2 + b < first * 2 + cn) = false := decide_eq_false hlt
          by_cases heq : index + cn = ss.length
          · rw [if_pos heq] at hN
            simp only [Option.some.injEq, Prod.mk.injEq] at hN
            obtain ⟨rfl, rfl, rfl⟩ := hN
            have heqd : ((index + cn : Int) == (ss.length : Int)) = true := beq_iff_eq.2 heq
            clear heq HP
            go_wp2_with (go_at_call 34; refine (huff_Bit.calls s pos b true _ HBit.out).mono ?_; rintro e w' ⟨rfl, ⟨nd, rfl⟩⟩)
            refine bodyPost_ret (v := .tuple #[.int .i64 0, .int .i64 0, .int .i64 4]) (by simp [results, Try.results30, go_sem]) rfl ⟨rfl, pw_below_drewN HBw.out _⟩
          · rw [if_neg heq] at hN
            have heqd : ((index + cn : Int) == (ss.length : Int)) = false := beq_eq_false_iff_ne.2 heq
            have HN := Aside0.mk hN
            clear heq HP hN
            go_wp2_with (go_at_call 34; refine (huff_Bit.calls s pos b true _ HBit.out).mono ?_; rintro e w' ⟨rfl, ⟨nd, rfl⟩⟩)
            go_roundw
            case rel => exact ⟨d, n + 1, _, _, _, _, 2 * P, by omega, by omega, rfl, rfl, rfl, rfl, by go_num, ⟨by have := HQ.out; omega⟩, HN, _, rfl⟩
            case measure => simp [intOf]; omega

/-- What Next answers by a table: an error, or a symbol. Nothing is told of tables that no lengths have. -/
def nextOf (cs ss : List Int) (s : ByteArray) (pos : Int) : Option (Int × Int × Int) :=
  if pos < 0 then some (0, 0, 1) else if ss.length = 0 then some (0, 0, 4)
  else if cs.length = 16 ∧ ss.length ≤ 6000 ∧ ∀ x ∈ cs, 0 ≤ x ∧ x ≤ 320 then nxt cs ss s 15 pos 0 0 0 else none
theorem next_calls (A : Option Addr) (c : Nat) (cs ss : List Int) (s : ByteArray) (pos : Int) (w : World) (hr : Kd.C (Kd.int .i64) w A ss.length ss) (hl : cs.length = 16) (r1 r2 r3 : Int) (h : nextOf cs ss s pos = some (r1, r2, r3)) :
    Calls Try.prog 30 #[.agg (tab cs (.slice A ss.length c)), .string s, .int .i64 pos] w fun e w' => e = .returned (.tuple #[.int .i64 r1, .int .i64 r2, .int .i64 r3]) ∧ Below w.heap.size w w' := by
  unfold nextOf at h
  by_cases h0 : pos < 0
  · rw [if_pos h0] at h
    simp only [Option.some.injEq, Prod.mk.injEq] at h
    obtain ⟨rfl, rfl, rfl⟩ := h
    exact next_arg A c cs ss s pos w h0
  rw [if_neg h0] at h
  by_cases h1 : ss.length = 0
  · rw [if_pos h1] at h
    simp only [Option.some.injEq, Prod.mk.injEq] at h
    obtain ⟨rfl, rfl, rfl⟩ := h
    rw [h1]
    exact next_none A c cs s pos w hl (by omega)
  rw [if_neg h1] at h
  by_cases h2 : cs.length = 16 ∧ ss.length ≤ 6000 ∧ ∀ x ∈ cs, 0 ≤ x ∧ x ≤ 320
  · rw [if_pos h2] at h
    refine next_main A c cs ss s pos w hr hl (fun i hi => ?_) (by omega) h2.2.1 (by omega) r1 r2 r3 h
    have hi' : i < cs.length := by omega
    rw [List.getD_eq_getElem?_getD, List.getElem?_eq_getElem hi', Option.getD_some]
    exact h2.2.2 _ (List.getElem_mem hi')
  · rw [if_neg h2] at h; cases h
end Go.Proofs.Ytpbhkdamkbopkaa.Ext
