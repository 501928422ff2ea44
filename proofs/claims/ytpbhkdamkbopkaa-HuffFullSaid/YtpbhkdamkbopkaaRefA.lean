/- What the reference of bits and codes answers: its loops, in closed form. -/
import Derived.Test.YtpbhkdamkbopkaaGHuffx3
import Derived.Test.YtpbhkdamkbopkaaGHuffx5
import Derived.Test.YtpbhkdamkbopkaaGHuffx6
import Derived.Test.YtpbhkdamkbopkaaHuffMath
set_option linter.unusedSimpArgs false
set_option linter.unusedVariables false
namespace Go.Proofs.Ytpbhkdamkbopkaa.RefA
open Go.RowKit Go.Proofs.Ytpbhkdamkbopkaa.Ext Go.Proofs.Ytpbhkdamkbopkaa.GHuff Go.Proofs.YtpbhkdamkbopkaaW.PrintWords Go.Proofs.YtpbhkdamkbopkaaW.PrintLast Go.Proofs.YtpbhkdamkbopkaaW.PrintMore

theorem bit_is' (s : ByteArray) (hs : s.size ≤ 140737488351232) (p : Int) (h0 : 0 ≤ p) (hp : p ≤ 9223372036854775807) :
    huff_Bit.f s p = if p < 8 * s.size then some (bitN s p, true) else some (0, false) := bit_is s hs p h0 hp

/-! ### The reference's bit -/
theorem refbit_l (p : Int) (h0 : 0 ≤ p) (d : Nat) : ∀ (x : Int) (i : Nat), 0 ≤ x → x ≤ 255 → (i : Int) + d = p % 8 → Ev (fun k => celluloidref04_Bit.l0 k p x i) (x / 2 ^ d % 2) := by
  induction d with
  | zero =>
    intro x i hx0 hx1 hi
    refine Ev.step (f := fun _ => some (x / 2 ^ 0 % 2)) (fun k => ?_) (Ev.now _)
    simp only [celluloidref04_Bit.l0]
    rw [Int.tmod_eq_emod_of_nonneg h0, if_neg (by omega), Int.tmod_eq_emod_of_nonneg hx0]
    simp
  | succ d ih =>
    intro x i hx0 hx1 hi
    have e : x / 2 ^ (d + 1) = x / 2 / 2 ^ d := by
      rw [Int.pow_succ, Int.mul_comm, Int.ediv_ediv_of_nonneg (by decide)]
    rw [e]
    refine Ev.step (fun k => ?_) (ih (x / 2) (i + 1) (by omega) (by omega) (by omega))
    simp only [celluloidref04_Bit.l0]
    rw [Int.tmod_eq_emod_of_nonneg h0, if_pos (by omega), Int.tdiv_eq_ediv_of_nonneg hx0, wrap_in (n := x / 2) (by omega) (by omega), wrap_in (n := (i : Int) + 1) (by omega) (by omega)]
    rfl
theorem refbit_is (s : ByteArray) (hs : s.size ≤ 140737488351232) (p : Int) (hp : p ≤ 9223372036854775807) (hp' : -9223372036854775808 ≤ p) :
    Ev (fun k => celluloidref04_Bit.f k s p) (if 0 ≤ p ∧ p < 8 * s.size then bitN s p else -1) := by
  by_cases h0 : p < 0
  · rw [if_neg (by omega)]
    refine Ev.congr (f := fun k => celluloidref04_Bit.j0 k s p true) (fun k => by unfold celluloidref04_Bit.f; rw [if_pos h0]) ?_
    exact Ev.step (fun k => by simp only [celluloidref04_Bit.j0]; rw [if_pos trivial]) (Ev.now _)
  · have h0' : 0 ≤ p := by omega
    refine Ev.congr (f := fun k => celluloidref04_Bit.j0 k s p (decide (p / 8 ≥ s.size))) (fun k => by
      unfold celluloidref04_Bit.f
      rw [if_neg h0, Int.tdiv_eq_ediv_of_nonneg h0', wrap_in (n := p / 8) (by omega) (by omega)]) ?_
    by_cases h1 : p < 8 * s.size
    · rw [if_pos ⟨h0', h1⟩, decide_eq_false (by omega)]
      have hb := bt_range s (p / 8)
      have hl := refbit_l p h0' (p % 8).toNat (bt s (p / 8)) 0 hb.1 hb.2 (by omega)
      refine Ev.step (fun k => ?_) hl
      simp only [celluloidref04_Bit.j0]
      rw [if_neg (by simp), Int.tdiv_eq_ediv_of_nonneg h0', wrap_in (n := p / 8) (by omega) (by omega), if_pos (by omega), if_pos (by omega), wrap_in (n := bt s (p / 8)) (by omega) (by omega)]
      rfl
    · rw [if_neg (by omega), decide_eq_true (by omega)]
      exact Ev.step (fun k => by simp only [celluloidref04_Bit.j0]; rw [if_pos trivial]) (Ev.now _)

/-! ### Numbers of bits -/
/-- The first i bits from pos on, the first one lowest. -/
def Bn (s : ByteArray) (pos : Int) : Nat → Int
  | 0 => 0
  | i + 1 => Bn s pos i + 2 ^ i * bitN s (pos + i)
theorem Bn_rng (s : ByteArray) (pos : Int) (n : Nat) : 0 ≤ Bn s pos n ∧ Bn s pos n < 2 ^ n := by
  induction n with
  | zero => simp [Bn]
  | succ n ih =>
    have hb := bitN_rng s (pos + n)
    have hp : (0 : Int) < 2 ^ n := Int.pow_pos (by decide)
    simp only [Bn]
    rw [Int.pow_succ]
    rcases (by omega : bitN s (pos + n) = 0 ∨ bitN s (pos + n) = 1) with h | h <;> rw [h] <;> omega
theorem pow_16 (n : Nat) (h : n ≤ 16) : (1 : Int) ≤ 2 ^ n ∧ (2 : Int) ^ n ≤ 65536 := by
  have h1 : 2 ^ n ≤ 2 ^ 16 := Nat.pow_le_pow_right (by decide) h
  have h2 : 1 ≤ 2 ^ n := Nat.one_le_two_pow
  have e : ((2 ^ n : Nat) : Int) = (2 : Int) ^ n := by rw [Int.natCast_pow]; rfl
  rw [← e]; omega
theorem refbits_l (s : ByteArray) (hs : s.size ≤ 140737488351232) (pos : Int) (h0 : 0 ≤ pos) (hp : pos ≤ 4611686018427387904) (n : Nat) (hn : n ≤ 16) (d : Nat) : ∀ (i : Nat), i + d = n → (i = 0 ∨ pos + i ≤ 8 * s.size) →
    Ev (fun k => celluloidref04_Bits.l0 k s pos n (Bn s pos i) (2 ^ i) i) (if pos + n ≤ 8 * s.size then (Bn s pos n, pos + n, 0) else (0, 0, 2)) := by
  induction d with
  | zero =>
    intro i hi hb
    obtain rfl : i = n := by omega
    refine Ev.step (f := fun _ => some (if pos + i ≤ 8 * s.size then (Bn s pos i, pos + i, 0) else (0, 0, 2))) (fun k => ?_) (Ev.now _)
    simp only [celluloidref04_Bits.l0]
    rw [if_neg (by omega), wrap_in (n := 8 * (s.size : Int)) (by omega) (by omega), wrap_in (n := pos + i) (by omega) (by omega)]
    by_cases hi0 : i = 0
    · subst hi0
      rw [if_pos (by rfl)]
      by_cases h : pos > 8 * s.size
      · rw [if_pos h, if_neg (by omega)]
      · rw [if_neg h, if_pos (by omega)]
    · rw [if_neg (by omega), if_pos (by omega)]
  | succ d ih =>
    intro i hi hb
    obtain ⟨K1, hbit⟩ := refbit_is s hs (pos + i) (by omega) (by omega)
    dsimp only at hbit
    have hwp : wrap64 (pos + i) = pos + i := wrap_in (by omega) (by omega)
    by_cases h : pos + i < 8 * s.size
    · rw [if_pos (show 0 ≤ pos + (i : Int) ∧ pos + (i : Int) < 8 * s.size from ⟨by omega, h⟩)] at hbit
      have hbr := bitN_rng s (pos + i)
      have hBr := Bn_rng s pos i
      have hpw := pow_16 i (by omega)
      obtain ⟨K2, hi'⟩ := ih (i + 1) (by omega) (.inr (by omega))
      dsimp only at hi'
      have e1 : Bn s pos (i + 1) = Bn s pos i + 2 ^ i * bitN s (pos + i) := rfl
      have e2 : (2 : Int) ^ (i + 1) = 2 ^ i * 2 := Int.pow_succ 2 i
      rw [e1, e2] at hi'
      have hm0 : 0 ≤ 2 ^ i * bitN s (pos + i) := Int.mul_nonneg (by omega) hbr.1
      have hm1 : 2 ^ i * bitN s (pos + i) ≤ 65536 * 1 := Int.mul_le_mul hpw.2 hbr.2 hbr.1 (by omega)
      have e3 : wrap64 ((i : Int) + 1) = ((i + 1 : Nat) : Int) := by rw [wrap_in (by omega) (by omega)]; rfl
      have e4 : wrap64 (2 ^ i * bitN s (pos + i)) = 2 ^ i * bitN s (pos + i) := wrap_in (by omega) (by omega)
      have e5 : wrap64 ((2 : Int) ^ i * 2) = 2 ^ i * 2 := wrap_in (by omega) (by omega)
      have e6 : wrap64 (Bn s pos i + 2 ^ i * bitN s (pos + i)) = Bn s pos i + 2 ^ i * bitN s (pos + i) := wrap_in (by omega) (by omega)
      have hin : (i : Int) < n := by omega
      have hb0 : ¬ bitN s (pos + i) < 0 := by omega
      refine ⟨K1 + K2 + 1, fun k hk => ?_⟩
      obtain ⟨k, rfl⟩ : ∃ m, k = m + 1 := ⟨k - 1, by omega⟩
      simp only [celluloidref04_Bits.l0]
      rw [if_pos hin, hwp, hbit k (by omega)]
      simp only [Option.bind_some]
      rw [if_neg hb0, e4, e5, e6, e3]
      exact hi' k (by omega)
    · rw [if_neg (by omega)] at hbit
      rw [if_neg (by omega)]
      have hin : (i : Int) < n := by omega
      refine ⟨K1 + 1, fun k hk => ?_⟩
      obtain ⟨k, rfl⟩ : ∃ m, k = m + 1 := ⟨k - 1, by omega⟩
      simp only [celluloidref04_Bits.l0]
      rw [if_pos hin, hwp, hbit k (by omega)]
      simp only [Option.bind_some]
      rw [if_pos (by decide)]
/-- A number of bits, or its error. -/
def bitsOf (s : ByteArray) (pos n : Int) : Int × Int × Int :=
  if pos < 0 ∨ n < 0 ∨ 16 < n then (0, 0, 1) else if pos + n ≤ 8 * s.size then (Bn s pos n.toNat, pos + n, 0) else (0, 0, 2)
theorem refbits_is (s : ByteArray) (hs : s.size ≤ 140737488351232) (pos n : Int) (hp : pos ≤ 9223372036854775807) : Ev (fun k => celluloidref04_Bits.f k s pos n) (bitsOf s pos n) := by
  have herr : Ev (fun k => celluloidref04_Bits.j0 k s pos n true) (0, 0, 1) := Ev.step (fun k => by simp only [celluloidref04_Bits.j0]; rw [if_pos trivial]) (Ev.now _)
  unfold bitsOf
  by_cases h0 : pos < 0
  · rw [if_pos (.inl h0)]
    exact Ev.congr (fun k => by unfold celluloidref04_Bits.f; rw [if_pos h0]) herr
  by_cases h1 : n < 0
  · rw [if_pos (.inr (.inl h1))]
    exact Ev.congr (fun k => by unfold celluloidref04_Bits.f; rw [if_neg h0, if_pos h1]) herr
  by_cases h2 : n > 16
  · rw [if_pos (.inr (.inr h2))]
    exact Ev.congr (fun k => by unfold celluloidref04_Bits.f; rw [if_neg h0, if_neg h1, decide_eq_true h2]) herr
  rw [if_neg (by omega)]
  obtain ⟨m, rfl⟩ : ∃ m : Nat, n = m := ⟨n.toNat, by omega⟩
  rw [Int.toNat_natCast]
  by_cases hbig : pos ≤ 4611686018427387904
  · obtain ⟨K, h⟩ := refbits_l s hs pos (by omega) hbig m (by omega) m 0 (by omega) (.inl rfl)
    refine ⟨K + 1, fun k hk => ?_⟩
    obtain ⟨k, rfl⟩ : ∃ q, k = q + 1 := ⟨k - 1, by omega⟩
    dsimp only
    unfold celluloidref04_Bits.f
    rw [if_neg h0, if_neg h1, decide_eq_false h2]
    simp only [celluloidref04_Bits.j0]
    rw [if_neg (by simp)]
    exact h k (by omega)
  · have e8 : wrap64 (8 * (s.size : Int)) = 8 * s.size := wrap_in (by omega) (by omega)
    rw [if_neg (by omega)]
    by_cases hm : m = 0
    · subst hm
      refine ⟨2, fun k hk => ?_⟩
      obtain ⟨k, rfl⟩ : ∃ q, k = q + 2 := ⟨k - 2, by omega⟩
      dsimp only
      unfold celluloidref04_Bits.f
      rw [if_neg h0, if_neg h1, decide_eq_false h2]
      simp only [celluloidref04_Bits.j0]
      rw [if_neg (by simp)]
      simp only [celluloidref04_Bits.l0]
      rw [if_neg (by simp), if_pos (by rfl), e8, if_pos (by omega)]
    · obtain ⟨K1, hbit⟩ := refbit_is s hs pos hp (by omega)
      dsimp only at hbit
      rw [if_neg (by omega)] at hbit
      refine ⟨K1 + 2, fun k hk => ?_⟩
      obtain ⟨k, rfl⟩ : ∃ q, k = q + 2 := ⟨k - 2, by omega⟩
      dsimp only
      unfold celluloidref04_Bits.f
      rw [if_neg h0, if_neg h1, decide_eq_false h2]
      simp only [celluloidref04_Bits.j0]
      rw [if_neg (by simp)]
      simp only [celluloidref04_Bits.l0]
      rw [if_pos (by omega), Int.add_zero, wrap_in (n := pos) (by omega) hp, hbit k (by omega)]
      simp only [Option.bind_some]
      rw [if_pos (by decide)]

/-! ### The program's numbers of bits -/
theorem or_comm64 (x y : Int) : Go.bits .or .i64 x y = Go.bits .or .i64 y x := by unfold Go.bits; simp only; rw [BitVec.or_comm]
theorem or_shl (v b : Int) (i : Nat) (hi : i < 16) (hv0 : 0 ≤ v) (hv : v < 2 ^ i) (hb0 : 0 ≤ b) (hb : b ≤ 1) : Go.bits .or .i64 v (shl .i64 b i) = v + 2 ^ i * b := by
  have hpw := pow_16 i (by omega)
  have hm0 : 0 ≤ b * 2 ^ i := Int.mul_nonneg hb0 (by omega)
  have hm1 : b * 2 ^ i ≤ 1 * 65536 := Int.mul_le_mul hb hpw.2 (by omega) (by omega)
  have e : shl .i64 b i = b * 2 ^ i := by
    unfold shl
    rw [Int.toNat_natCast, Nat.min_eq_left (by show i ≤ 64; omega), IntKind.wrap_i64]
    omega
  rw [e, or_comm64]
  have hw : ∀ n : Int, 0 ≤ n → n < 2 ^ 40 → IntKind.i64.wrap n = n := fun n h₀ h₁ => by rw [IntKind.wrap_i64]; omega
  rw [Go.bits_join .i64 40 (by decide) hw i (b * 2 ^ i) v hm0 (Int.mul_emod_left _ _) (by omega) hv0 hv (by omega), Int.mul_comm b]
  omega
theorem bits_l (s : ByteArray) (hs : s.size ≤ 140737488351232) (pos : Int) (h0 : 0 ≤ pos) (n : Nat) (hn : n ≤ 16) (hb : pos + n ≤ 8 * s.size) (d : Nat) : ∀ (i : Nat), i + d = n →
    Ev (fun k => huff_Bits.l0 k s pos n (Bn s pos i) n i) (Bn s pos n, pos + n, 0) := by
  induction d with
  | zero =>
    intro i hi
    obtain rfl : i = n := by omega
    refine Ev.step (f := fun _ => some (Bn s pos i, pos + i, 0)) (fun k => ?_) (Ev.now _)
    simp only [huff_Bits.l0]
    rw [if_neg (by omega), wrap_in (n := pos + i) (by omega) (by omega)]
  | succ d ih =>
    intro i hi
    obtain ⟨K, h⟩ := ih (i + 1) (by omega)
    dsimp only at h
    have hbr := bitN_rng s (pos + i)
    have hBr := Bn_rng s pos i
    have hwp : wrap64 (pos + i) = pos + i := wrap_in (by omega) (by omega)
    have e3 : wrap64 ((i : Int) + 1) = ((i + 1 : Nat) : Int) := by rw [wrap_in (by omega) (by omega)]; rfl
    have e1 : Bn s pos (i + 1) = Bn s pos i + 2 ^ i * bitN s (pos + i) := rfl
    have hin : (i : Int) < n := by omega
    have hbt := bit_is' s hs (pos + i) (by omega) (by omega)
    rw [if_pos (by omega)] at hbt
    refine ⟨K + 1, fun k hk => ?_⟩
    obtain ⟨k, rfl⟩ : ∃ m, k = m + 1 := ⟨k - 1, by omega⟩
    simp only [huff_Bits.l0]
    rw [if_pos hin, hwp, hbt]
    simp only [Option.bind_some]
    rw [if_pos (Int.natCast_nonneg _), or_shl _ _ i (by omega) hBr.1 hBr.2 hbr.1 hbr.2, e3, ← e1]
    exact h k (by omega)
theorem bits_is (s : ByteArray) (hs : s.size ≤ 140737488351232) (pos n : Int) (hp : pos ≤ 9223372036854775807) : Ev (fun k => huff_Bits.f k s pos n) (bitsOf s pos n) := by
  have herr : Ev (fun k => huff_Bits.j0 k s pos n true) (0, 0, 1) := Ev.step (fun k => by simp only [huff_Bits.j0]; rw [if_pos trivial]) (Ev.now _)
  unfold bitsOf
  by_cases h0 : pos < 0
  · rw [if_pos (.inl h0)]
    exact Ev.congr (fun k => by unfold huff_Bits.f; rw [if_pos h0]) herr
  by_cases h1 : n < 0
  · rw [if_pos (.inr (.inl h1))]
    exact Ev.congr (fun k => by unfold huff_Bits.f; rw [if_neg h0, if_pos h1]) herr
  by_cases h2 : n > 16
  · rw [if_pos (.inr (.inr h2))]
    exact Ev.congr (fun k => by unfold huff_Bits.f; rw [if_neg h0, if_neg h1, decide_eq_true h2]) herr
  rw [if_neg (by omega)]
  have e8 : wrap64 (8 * (s.size : Int)) = 8 * s.size := wrap_in (by omega) (by omega)
  have e9 : wrap64 (8 * (s.size : Int) - n) = 8 * s.size - n := wrap_in (by omega) (by omega)
  obtain ⟨m, rfl⟩ : ∃ m : Nat, n = m := ⟨n.toNat, by omega⟩
  rw [Int.toNat_natCast]
  by_cases hb : pos + m ≤ 8 * s.size
  · rw [if_pos hb]
    obtain ⟨K, h⟩ := bits_l s hs pos (by omega) m (by omega) hb m 0 (by omega)
    dsimp only at h
    refine ⟨K + 1, fun k hk => ?_⟩
    obtain ⟨k, rfl⟩ : ∃ q, k = q + 1 := ⟨k - 1, by omega⟩
    dsimp only
    unfold huff_Bits.f
    rw [if_neg h0, if_neg h1, decide_eq_false h2]
    simp only [huff_Bits.j0]
    rw [if_neg (by simp), e8, e9, if_neg (by omega)]
    exact h k (by omega)
  · rw [if_neg hb]
    refine ⟨1, fun k hk => ?_⟩
    obtain ⟨k, rfl⟩ : ∃ q, k = q + 1 := ⟨k - 1, by omega⟩
    dsimp only
    unfold huff_Bits.f
    rw [if_neg h0, if_neg h1, decide_eq_false h2]
    simp only [huff_Bits.j0]
    rw [if_neg (by simp), e8, e9, if_pos (by omega)]

/-! ### The reference's error of lengths -/
/-- 2^15, halved. -/
def half (n : Nat) : Int := 32768 / 2 ^ n
theorem half_succ (n : Nat) : half (n + 1) = half n / 2 := by
  unfold half
  rw [Int.pow_succ, Int.ediv_ediv_of_nonneg (Int.le_of_lt (Int.pow_pos (by decide)))]
theorem half_rng (n : Nat) : 0 ≤ half n ∧ half n ≤ 32768 := by
  unfold half
  exact ⟨Int.ediv_nonneg (by decide) (Int.le_of_lt (Int.pow_pos (by decide))), Int.ediv_le_self _ (by decide)⟩
theorem half_is (n : Nat) (h : n ≤ 15) : half n = 2 ^ (15 - n) := by
  unfold half
  have e : (32768 : Int) = 2 ^ (15 - n) * 2 ^ n := by rw [← Int.pow_add, show 15 - n + n = 15 by omega]; decide
  rw [e, Int.mul_ediv_cancel _ (Int.ne_of_gt (Int.pow_pos (by decide)))]
/-- What the first k lengths take; how many of them there are; how many of one bit. -/
def takes (l : List Int) : Nat → Int
  | 0 => 0
  | k + 1 => takes l k + if 0 < l.getD k 0 then half (l.getD k 0).toNat else 0
def manyK (l : List Int) : Nat → Int
  | 0 => 0
  | k + 1 => manyK l k + if 0 < l.getD k 0 then 1 else 0
def onesK (l : List Int) : Nat → Int
  | 0 => 0
  | k + 1 => onesK l k + if l.getD k 0 = 1 then 1 else 0
theorem takes_rng (l : List Int) (k : Nat) : 0 ≤ takes l k ∧ takes l k ≤ 32768 * k ∧ 0 ≤ manyK l k ∧ manyK l k ≤ k ∧ 0 ≤ onesK l k ∧ onesK l k ≤ k := by
  induction k with
  | zero => simp [takes, manyK, onesK]
  | succ k ih =>
    have := half_rng (l.getD k 0).toNat
    simp only [takes, manyK, onesK]
    by_cases h : 0 < l.getD k 0
    · rw [if_pos h, if_pos h]
      split <;> omega
    · rw [if_neg h, if_neg h, if_neg (by omega)]
      omega
theorem referr_l1 (l : List Int) (hl : l.length ≤ 320) (i : Nat) (hi : i < l.length) (n : Nat) (hn : l.getD i 0 = n) (hn1 : n ≤ 15) (x3 x4 x5 : Int) (h3 : 0 ≤ x3) (h3' : x3 ≤ 32768 * 400) (h5 : 0 ≤ x5) (h5' : x5 ≤ 400) (r : Int)
    (h : Ev (fun k => celluloidref04_Error.l0 k l (x3 + half n) x4 (x5 + if n = 1 then 1 else 0) ((i + 1 : Nat) : Int)) r) (d : Nat) : ∀ j : Nat, j + d = n →
    Ev (fun k => celluloidref04_Error.l1 k l x3 x4 x5 i (half j) j) r := by
  have hrd : rd l i = n := by rw [rd_nat]; exact hn
  have hi1 : (i : Int) < l.length := by omega
  have e1 : wrap64 ((i : Int) + 1) = ((i + 1 : Nat) : Int) := by rw [wrap_in (by omega) (by omega)]; rfl
  induction d with
  | zero =>
    intro j hj
    obtain rfl : j = n := by omega
    have hh := half_rng j
    obtain ⟨K, h⟩ := h
    dsimp only at h
    refine ⟨K + 1, fun k hk => ?_⟩
    obtain ⟨k, rfl⟩ : ∃ q, k = q + 1 := ⟨k - 1, by omega⟩
    have h' := h k (by omega)
    simp only [celluloidref04_Error.l1]
    have e2 : wrap64 (x3 + half j) = x3 + half j := wrap_in (by omega) (by omega)
    have e3 : wrap64 (x5 + 1) = x5 + 1 := wrap_in (by omega) (by omega)
    rw [if_pos (Int.natCast_nonneg _), if_pos hi1, hrd, if_neg (Int.lt_irrefl _), e2, e3, e1]
    by_cases hj1 : j = 1
    · rw [if_pos hj1] at h'
      rw [if_pos (by exact_mod_cast hj1)]
      exact h'
    · rw [if_neg hj1, Int.add_zero] at h'
      rw [if_neg (by exact_mod_cast hj1)]
      exact h'
  | succ d ih =>
    intro j hj
    obtain ⟨K, hd⟩ := ih (j + 1) (by omega)
    dsimp only at hd
    have hh := half_rng j
    rw [half_succ] at hd
    refine ⟨K + 1, fun k hk => ?_⟩
    obtain ⟨k, rfl⟩ : ∃ q, k = q + 1 := ⟨k - 1, by omega⟩
    simp only [celluloidref04_Error.l1]
    have e2 : wrap64 (half j / 2) = half j / 2 := wrap_in (by omega) (by omega)
    have e3 : wrap64 ((j : Int) + 1) = ((j + 1 : Nat) : Int) := by rw [wrap_in (by omega) (by omega)]; rfl
    have hjn : (j : Int) < n := by omega
    rw [if_pos (Int.natCast_nonneg _), if_pos hi1, hrd, if_pos hjn, Int.tdiv_eq_ediv_of_nonneg hh.1, e2, e3]
    exact hd k (by omega)
def refErrOf (l : List Int) : Int := if takes l l.length = 32768 then 0 else if manyK l l.length = 0 then 0 else if manyK l l.length = 1 then (if onesK l l.length = 1 then 0 else 4) else 4
theorem referr_l0 (l : List Int) (hl : l.length ≤ 320) (d : Nat) : ∀ i : Nat, i + d = l.length → (∀ q : Nat, q < i → badLen (rd l q) = false) →
    Ev (fun k => celluloidref04_Error.l0 k l (takes l i) (manyK l i) (onesK l i) i) (if okL l = true then refErrOf l else 1) := by
  induction d with
  | zero =>
    intro i hi hg
    obtain rfl : i = l.length := by omega
    rw [if_pos ((ok_is l).1 hg)]
    refine Ev.step (f := fun _ => some (refErrOf l)) (fun k => ?_) (Ev.now _)
    simp only [celluloidref04_Error.l0]
    rw [if_neg (by omega)]
    unfold refErrOf
    repeat' split
    all_goals rfl
  | succ d ih =>
    intro i hi hg
    have hil : (i : Int) < l.length := by omega
    by_cases hb : badLen (rd l i) = true
    · have hok : ¬ okL l = true := fun h => by
        have := (ok_is l).2 h i (by omega)
        rw [hb] at this
        cases this
      rw [if_neg hok]
      refine ⟨2, fun k hk => ?_⟩
      obtain ⟨k, rfl⟩ : ∃ q, k = q + 2 := ⟨k - 2, by omega⟩
      simp only [celluloidref04_Error.l0]
      rw [if_pos hil, if_pos (Int.natCast_nonneg _)]
      by_cases h0 : rd l i < 0
      · rw [if_pos h0]
        simp only [celluloidref04_Error.j1]
        rw [if_pos trivial]
      · rw [if_neg h0, decide_eq_true (by simp [badLen] at hb; omega)]
        simp only [celluloidref04_Error.j1]
        rw [if_pos trivial]
    · have hb' : badLen (rd l i) = false := by simpa using hb
      obtain ⟨n, en, hn⟩ := good_is l i hb'
      have hgi : ∀ q : Nat, q < i + 1 → badLen (rd l q) = false := fun q hq => by
        rcases Nat.lt_or_ge q i with h | h
        · exact hg q h
        · obtain rfl : q = i := by omega
          exact hb'
      have hi' := ih (i + 1) (by omega) hgi
      have hg0 : l.getD i 0 = n := by rw [← rd_nat]; exact en
      have htr := takes_rng l i
      have e4 : Aside0 (wrap64 (manyK l i + 1) = manyK l i + 1) := ⟨wrap_in (by omega) (by omega)⟩
      have e1 : Aside0 (wrap64 ((i : Int) + 1) = ((i + 1 : Nat) : Int)) := ⟨by rw [wrap_in (by omega) (by omega)]; rfl⟩
      simp only [takes, manyK, onesK] at hi'
      rw [hg0, Int.toNat_natCast] at hi'
      by_cases hn0 : n = 0
      · subst hn0
        rw [if_neg (by simp), if_neg (by simp), if_neg (by simp), Int.add_zero, Int.add_zero, Int.add_zero] at hi'
        obtain ⟨K, hK⟩ := hi'
        dsimp only at hK
        refine ⟨K + 2, fun k hk => ?_⟩
        obtain ⟨k, rfl⟩ : ∃ q, k = q + 2 := ⟨k - 2, by omega⟩
        simp only [celluloidref04_Error.l0]
        rw [if_pos hil, if_pos (Int.natCast_nonneg _), en, if_neg (by simp), decide_eq_false (by simp)]
        simp only [celluloidref04_Error.j1]
        rw [if_neg (by simp), if_pos (Int.natCast_nonneg _), if_pos hil, en, if_neg (by simp), if_neg (by simp), e1.out]
        exact hK k (by omega)
      · rw [if_pos (by omega), if_pos (by omega)] at hi'
        have hif : (if (n : Int) = 1 then (1 : Int) else 0) = if n = 1 then 1 else 0 := by
          by_cases h : n = 1
          · rw [if_pos h, if_pos (by exact_mod_cast h)]
          · rw [if_neg h, if_neg (by exact_mod_cast h)]
        rw [hif] at hi'
        have hl1 := referr_l1 l hl i (by omega) n hg0 (by omega) (takes l i) (manyK l i + 1) (onesK l i) htr.1 (by omega) htr.2.2.2.2.1 (by omega) _ hi' n 0 (by omega)
        rw [show half 0 = 32768 from rfl] at hl1
        obtain ⟨K, hK⟩ := hl1
        dsimp only at hK
        refine ⟨K + 2, fun k hk => ?_⟩
        obtain ⟨k, rfl⟩ : ∃ q, k = q + 2 := ⟨k - 2, by omega⟩
        simp only [celluloidref04_Error.l0]
        rw [if_pos hil, if_pos (Int.natCast_nonneg _), en, if_neg (by omega), decide_eq_false (by omega)]
        simp only [celluloidref04_Error.j1]
        rw [if_neg (by simp), if_pos (Int.natCast_nonneg _), if_pos hil, en, if_pos (by omega), e4.out]
        exact hK k (by omega)
end Go.Proofs.Ytpbhkdamkbopkaa.RefA
