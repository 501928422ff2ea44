/- One byte more is added to the first part of the checksum, and that part to the second one: for every input. -/
import Derived.Test.YtljnhbhboecjdaaPAdlerGoesx1
import Derived.Test.YtljnhbhboecjdaaAMath
import Derived.Test.YtljnhbhboecjdaaByteWalk
namespace Go.Proofs.Ytljnhbhboecjdaa.BytePure
open Go.RowKit Go.Proofs.Ytljnhbhboecjdaa.PAdlerGoes Go.Proofs.Ytljnhbhboecjdaa.AMath Go.Proofs.YtljnhbhboecjdaaW.PrintWords Go.Proofs.YtljnhbhboecjdaaW.PrintLast Go.Proofs.YtljnhbhboecjdaaW.PrintMore

theorem parts_is (n : Int) : adler_parts.f n = some (prt n) := by
  unfold adler_parts.f
  rw [and_16u (by omega) (by omega), wrap_in (by omega) (by omega), Int.tmod_eq_emod_of_nonneg (by omega)]
  rfl

theorem more_l (s : ByteArray) (hn : s.size ≤ 140737488351232) (d : Nat) : ∀ (k i : Nat) (p : Int × Int), Rng p → i + d = s.size → d < k →
    adler_More.l0 k s p.1 p.2 s.size i = some (fin (run p ((bts s).drop i))) := by
  induction d with
  | zero =>
    intro k i p hp hi hk
    obtain ⟨k, rfl⟩ : ∃ m, k = m + 1 := ⟨k - 1, by omega⟩
    simp only [adler_More.l0]
    rw [if_neg (by omega), List.drop_of_length_le (by rw [bts_length]; omega), run_nil]
    obtain ⟨h0, h1, h2, h3⟩ := hp
    rw [wrap_in (by omega) (by omega), or_16 h2 (by omega) h0 (by omega)]; rfl
  | succ d ih =>
    intro k i p hp hi hk
    obtain ⟨k, rfl⟩ : ∃ m, k = m + 1 := ⟨k - 1, by omega⟩
    have hb := bt_range s i
    obtain ⟨h0, h1, h2, h3⟩ := hp
    simp only [adler_More.l0]
    rw [if_pos (by omega), if_pos (by omega), if_pos (by omega)]
    have e := ih k (i + 1) (stp p (bt s i)) (stp_rng _ _) (by omega) (by omega)
    rw [bts_drop s i (by omega), run_cons, ← e]
    have w1 : wrap64 (bt s i) = bt s i := wrap_in (by omega) (by omega)
    have w2 : wrap64 (p.1 + bt s i) = p.1 + bt s i := wrap_in (by omega) (by omega)
    have w3 : wrap64 (p.2 + (p.1 + bt s i) % 65521) = p.2 + (p.1 + bt s i) % 65521 := wrap_in (by omega) (by omega)
    have w4 : wrap64 ((i : Int) + 1) = ((i + 1 : Nat) : Int) := by rw [wrap_in (by omega) (by omega)]; omega
    rw [w1, w2, Int.tmod_eq_emod_of_nonneg (by omega), w3, Int.tmod_eq_emod_of_nonneg (by omega), w4]
    rfl

theorem more_is (n : Int) (s : ByteArray) (hn : s.size ≤ 140737488351232) (k : Nat) (hk : s.size < k) :
    adler_More.f k n s = some (fin (run (prt n) (bts s))) := by
  unfold adler_More.f
  rw [parts_is]
  have e := more_l s hn s.size k 0 (prt n) (prt_rng n) (by omega) hk
  rw [List.drop_zero] at e
  exact e

theorem sum_is (s : ByteArray) (hn : s.size ≤ 140737488351232) (k : Nat) (hk : s.size < k) :
    adler_Sum.f k s = some (fin (run (1, 0) (bts s))) := by
  unfold adler_Sum.f
  rw [more_is 1 s hn k hk, prt_one]; rfl

theorem awake_is (k : Nat) (hk : 1 < k) : celluloidlaw03_awake.f k = some true := by
  unfold celluloidlaw03_awake.f
  rw [sum_is _ (by decide) k (by show 0 < k; omega), sum_is _ (by decide) k (by show 1 < k; omega)]
  decide

theorem one_is (c : Int) (h0 : 0 ≤ c) (h1 : c ≤ 255) : bts (strOfNums [c]) = [c] := by
  have : (UInt8.ofNat c.toNat).toNat = c.toNat := by rw [UInt8.toNat_ofNat']; omega
  simp [bts, strOfNums, this]
  omega
theorem u8_range (c : Int) (h : (Lit.int .u8 c).wf = true) : 0 ≤ c ∧ c ≤ 255 := by
  simp [Lit.wf, IntKind.min, IntKind.max, IntKind.signed, IntKind.bits] at h
  omega
theorem ByteCalls (s : ByteArray) (c : Int) (w : World) (hs : s.size ≤ 140737488351232) (hc : (Lit.int .u8 c).wf = true) :
    Calls Try.prog 5 #[.string s, .int .u8 c] w fun e w' => e = .returned (.bool true) ∧ Below w.heap.size w w' := by
  obtain ⟨c0, c1⟩ := u8_range c hc
  by_cases h : 8192 < s.size
  · exact ByteWalk.big (s.size + 3) s c w h hs (awake_is _ (by omega))
  have hz : (s ++ strOfNums [c]).size = s.size + 1 := by rw [ByteArray.size_append, strOfNums_size]; rfl
  refine ByteWalk.small (s.size + 3) s c _ _ w (by omega) c0 c1 (sum_is s hs _ (by omega)) (sum_is _ (by omega) _ (by omega)) (awake_is _ (by omega)) ?_
  rw [bts_append, one_is c c0 c1, run_append]
  obtain ⟨r0, r1, r2, r3⟩ := run_rng (bts s) _ rng_one
  generalize hp : run (1, 0) (bts s) = p at r0 r1 r2 r3
  have f0 : 0 ≤ fin p := by unfold fin; omega
  have f1 : fin p < 4294967296 := by unfold fin; omega
  have f2 : fin p / 65536 = p.2 := by unfold fin; omega
  have f3 : fin p % 65536 = p.1 := by unfold fin; omega
  have e : run p [c] = ((p.1 + c) % 65521, (p.2 + (p.1 + c) % 65521) % 65521) := rfl
  have m0 : 0 ≤ p.1 + c := by omega
  have m1 : 0 ≤ p.2 + (p.1 + c) % 65521 := by omega
  have l0 : -9223372036854775808 ≤ p.1 + c ∧ p.1 + c ≤ 9223372036854775807 := by omega
  have l1 : -9223372036854775808 ≤ p.2 + (p.1 + c) % 65521 ∧ p.2 + (p.1 + c) % 65521 ≤ 9223372036854775807 := by omega
  have l2 : -9223372036854775808 ≤ (p.2 + (p.1 + c) % 65521) % 65521 * 65536 ∧ (p.2 + (p.1 + c) % 65521) % 65521 * 65536 ≤ 9223372036854775807 := by omega
  rw [and_16 f0 f1, f3, f2, wrap_in l0.1 l0.2, Int.tmod_eq_emod_of_nonneg m0, wrap_in l1.1 l1.2, Int.tmod_eq_emod_of_nonneg m1, wrap_in l2.1 l2.2,
    or_16 (by omega) (by omega) (by omega) (by omega), e]
  exact beq_iff_eq.mpr rfl

end Go.Proofs.Ytljnhbhboecjdaa.BytePure
