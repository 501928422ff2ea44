/- Numbers of bits as huff.Bits tells them, in closed form. -/
import Derived.Test.YtpbhkdamkbopkaaHuffStage
set_option linter.unusedSimpArgs false
set_option linter.unusedVariables false
namespace Go.Proofs.Ytpbhkdamkbopkaa.RefP
open Go.RowKit Go.Proofs.Ytpbhkdamkbopkaa.Ext Go.Proofs.Ytpbhkdamkbopkaa.PHuffBits Go.Proofs.YtpbhkdamkbopkaaW.PrintWords Go.Proofs.YtpbhkdamkbopkaaW.PrintLast Go.Proofs.YtpbhkdamkbopkaaW.PrintMore

theorem bit_is' (s : ByteArray) (hs : s.size ≤ 140737488351232) (p : Int) (h0 : 0 ≤ p) (hp : p ≤ 9223372036854775807) :
    huff_Bit.f s p = if p < 8 * s.size then some (bitN s p, true) else some (0, false) := bit_is s hs p h0 hp

def Bn (s : ByteArray) (pos : Int) : Nat → Int
  | 0 => 0
  | i + 1 => Bn s pos i + 2 ^ i * bitN s (pos + i)
theorem Bn_rng (s : ByteArray) (pos : Int) (n : Nat) : 0 ≤ Bn s pos n ∧ Bn s pos n < 2 ^ n := by
  induction n with
  | zero => simp [Bn]
  | succ n ih =>
    have hb := bitN_rng s (pos + n)
    have hp : (0 : Int) < 2 ^ n := Int.pow_pos (by decide)
    simp only [Bn]
    rw [Int.pow_succ]
    rcases (by omega : bitN s (pos + n) = 0 ∨ bitN s (pos + n) = 1) with h | h <;> rw [h] <;> omega
theorem pow_16 (n : Nat) (h : n ≤ 16) : (1 : Int) ≤ 2 ^ n ∧ (2 : Int) ^ n ≤ 65536 := by
  have h1 : 2 ^ n ≤ 2 ^ 16 := Nat.pow_le_pow_right (by decide) h
  have h2 : 1 ≤ 2 ^ n := Nat.one_le_two_pow
  have e : ((2 ^ n : Nat) : Int) = (2 : Int) ^ n := by rw [Int.natCast_pow]; rfl
  rw [← e]; omega
def bitsOf (s : ByteArray) (pos n : Int) : Int × Int × Int :=
  if pos < 0 ∨ n < 0 ∨ 16 < n then (0, 0, 1) else if pos + n ≤ 8 * s.size then (Bn s pos n.toNat, pos + n, 0) else (0, 0, 2)
theorem or_comm64 (x y : Int) : Go.bits .or .i64 x y = Go.bits .or .i64 y x := by unfold Go.bits; simp only; rw [BitVec.or_comm]
theorem or_shl (v b : Int) (i : Nat) (hi : i < 16) (hv0 : 0 ≤ v) (hv : v < 2 ^ i) (hb0 : 0 ≤ b) (hb : b ≤ 1) : Go.bits .or .i64 v (shl .i64 b i) = v + 2 ^ i * b := by
  have hpw := pow_16 i (by omega)
  have hm0 : 0 ≤ b * 2 ^ i := Int.mul_nonneg hb0 (by omega)
  have hm1 : b * 2 ^ i ≤ 1 * 65536 := Int.mul_le_mul hb hpw.2 (by omega) (by omega)
  have e : shl .i64 b i = b * 2 ^ i := by
    unfold shl
    rw [Int.toNat_natCast, Nat.min_eq_left (by show i ≤ 64; omega), IntKind.wrap_i64]
    omega
  rw [e, or_comm64]
  have hw : ∀ n : Int, 0 ≤ n → n < 2 ^ 40 → IntKind.i64.wrap n = n := fun n h₀ h₁ => by rw [IntKind.wrap_i64]; omega
  rw [Go.bits_join .i64 40 (by decide) hw i (b * 2 ^ i) v hm0 (Int.mul_emod_left _ _) (by omega) hv0 hv (by omega), Int.mul_comm b]
  omega
theorem bits_l (s : ByteArray) (hs : s.size ≤ 140737488351232) (pos : Int) (h0 : 0 ≤ pos) (n : Nat) (hn : n ≤ 16) (hb : pos + n ≤ 8 * s.size) (d : Nat) : ∀ (i : Nat), i + d = n →
    Ev (fun k => huff_Bits.l0 k s pos n (Bn s pos i) n i) (Bn s pos n, pos + n, 0) := by
  induction d with
  | zero =>
    intro i hi
    obtain rfl : i = n := by omega
    refine Ev.step (f := fun _ => some (Bn s pos i, pos + i, 0)) (fun k => ?_) (Ev.now _)
    simp only [huff_Bits.l0]
    rw [if_neg (by omega), wrap_in (n := pos + i) (by omega) (by omega)]
  | succ d ih =>
    intro i hi
    obtain ⟨K, h⟩ := ih (i + 1) (by omega)
    dsimp only at h
    have hbr := bitN_rng s (pos + i)
    have hBr := Bn_rng s pos i
    have hwp : wrap64 (pos + i) = pos + i := wrap_in (by omega) (by omega)
    have e3 : wrap64 ((i : Int) + 1) = ((i + 1 : Nat) : Int) := by rw [wrap_in (by omega) (by omega)]; rfl
    have e1 : Bn s pos (i + 1) = Bn s pos i + 2 ^ i * bitN s (pos + i) := rfl
    have hin : (i : Int) < n := by omega
    have hbt := bit_is' s hs (pos + i) (by omega) (by omega)
    rw [if_pos (by omega)] at hbt
    refine ⟨K + 1, fun k hk => ?_⟩
    obtain ⟨k, rfl⟩ : ∃ m, k = m + 1 := ⟨k - 1, by omega⟩
    simp only [huff_Bits.l0]
    rw [if_pos hin, hwp, hbt]
    simp only [Option.bind_some]
    rw [if_pos (Int.natCast_nonneg _), or_shl _ _ i (by omega) hBr.1 hBr.2 hbr.1 hbr.2, e3, ← e1]
    exact h k (by omega)
theorem bits_is (s : ByteArray) (hs : s.size ≤ 140737488351232) (pos n : Int) (hp : pos ≤ 9223372036854775807) : Ev (fun k => huff_Bits.f k s pos n) (bitsOf s pos n) := by
  have herr : Ev (fun k => huff_Bits.j0 k s pos n true) (0, 0, 1) := Ev.step (fun k => by simp only [huff_Bits.j0]; rw [if_pos trivial]) (Ev.now _)
  unfold bitsOf
  by_cases h0 : pos < 0
  · rw [if_pos (.inl h0)]
    exact Ev.congr (fun k => by unfold huff_Bits.f; rw [if_pos h0]) herr
  by_cases h1 : n < 0
  · rw [if_pos (.inr (.inl h1))]
    exact Ev.congr (fun k => by unfold huff_Bits.f; rw [if_neg h0, if_pos h1]) herr
  by_cases h2 : n > 16
  · rw [if_pos (.inr (.inr h2))]
    exact Ev.congr (fun k => by unfold huff_Bits.f; rw [if_neg h0, if_neg h1, decide_eq_true h2]) herr
  rw [if_neg (by omega)]
  have e8 : wrap64 (8 * (s.size : Int)) = 8 * s.size := wrap_in (by omega) (by omega)
  have e9 : wrap64 (8 * (s.size : Int) - n) = 8 * s.size - n := wrap_in (by omega) (by omega)
  obtain ⟨m, rfl⟩ : ∃ m : Nat, n = m := ⟨n.toNat, by omega⟩
  rw [Int.toNat_natCast]
  by_cases hb : pos + m ≤ 8 * s.size
  · rw [if_pos hb]
    obtain ⟨K, h⟩ := bits_l s hs pos (by omega) m (by omega) hb m 0 (by omega)
    dsimp only at h
    refine ⟨K + 1, fun k hk => ?_⟩
    obtain ⟨k, rfl⟩ : ∃ q, k = q + 1 := ⟨k - 1, by omega⟩
    dsimp only
    unfold huff_Bits.f
    rw [if_neg h0, if_neg h1, decide_eq_false h2]
    simp only [huff_Bits.j0]
    rw [if_neg (by simp), e8, e9, if_neg (by omega)]
    exact h k (by omega)
  · rw [if_neg hb]
    refine ⟨1, fun k hk => ?_⟩
    obtain ⟨k, rfl⟩ : ∃ q, k = q + 1 := ⟨k - 1, by omega⟩
    dsimp only
    unfold huff_Bits.f
    rw [if_neg h0, if_neg h1, decide_eq_false h2]
    simp only [huff_Bits.j0]
    rw [if_neg (by simp), e8, e9, if_pos (by omega)]

end Go.Proofs.Ytpbhkdamkbopkaa.RefP
