/- Adler.Sum and adler.More are the checksum that the reference celluloidref03 counts by the bytes' places: for every input. -/
import Derived.Test.YtljnhbhboecjdaaPAdlerSumsx1
import Derived.Test.YtljnhbhboecjdaaAMath
namespace Go.Proofs.Ytljnhbhboecjdaa.Pure
open Go.RowKit Go.Proofs.Ytljnhbhboecjdaa.PAdlerSums Go.Proofs.Ytljnhbhboecjdaa.AMath Go.Proofs.YtljnhbhboecjdaaW.PrintWords Go.Proofs.YtljnhbhboecjdaaW.PrintLast Go.Proofs.YtljnhbhboecjdaaW.PrintMore

theorem parts_is (n : Int) : adler_parts.f n = some (prt n) := by
  unfold adler_parts.f
  rw [and_16u (by omega) (by omega), wrap_in (by omega) (by omega), Int.tmod_eq_emod_of_nonneg (by omega)]
  rfl

theorem more_l (s : ByteArray) (hn : s.size ≤ 140737488351232) (d : Nat) : ∀ (k i : Nat) (p : Int × Int), Rng p → i + d = s.size → d < k →
    adler_More.l0 k s p.1 p.2 s.size i = some (fin (run p ((bts s).drop i))) := by
  induction d with
  | zero =>
    intro k i p hp hi hk
    obtain ⟨k, rfl⟩ : ∃ m, k = m + 1 := ⟨k - 1, by omega⟩
    simp only [adler_More.l0]
    rw [if_neg (by omega), List.drop_of_length_le (by rw [bts_length]; omega), run_nil]
    obtain ⟨h0, h1, h2, h3⟩ := hp
    rw [wrap_in (by omega) (by omega), or_16 h2 (by omega) h0 (by omega)]; rfl
  | succ d ih =>
    intro k i p hp hi hk
    obtain ⟨k, rfl⟩ : ∃ m, k = m + 1 := ⟨k - 1, by omega⟩
    have hb := bt_range s i
    obtain ⟨h0, h1, h2, h3⟩ := hp
    simp only [adler_More.l0]
    rw [if_pos (by omega), if_pos (by omega), if_pos (by omega)]
    have e := ih k (i + 1) (stp p (bt s i)) (stp_rng _ _) (by omega) (by omega)
    rw [bts_drop s i (by omega), run_cons, ← e]
    have w1 : wrap64 (bt s i) = bt s i := wrap_in (by omega) (by omega)
    have w2 : wrap64 (p.1 + bt s i) = p.1 + bt s i := wrap_in (by omega) (by omega)
    have w3 : wrap64 (p.2 + (p.1 + bt s i) % 65521) = p.2 + (p.1 + bt s i) % 65521 := wrap_in (by omega) (by omega)
    have w4 : wrap64 ((i : Int) + 1) = ((i + 1 : Nat) : Int) := by rw [wrap_in (by omega) (by omega)]; omega
    rw [w1, w2, Int.tmod_eq_emod_of_nonneg (by omega), w3, Int.tmod_eq_emod_of_nonneg (by omega), w4]
    rfl

theorem more_is (n : Int) (s : ByteArray) (hn : s.size ≤ 140737488351232) (k : Nat) (hk : s.size < k) :
    adler_More.f k n s = some (fin (run (prt n) (bts s))) := by
  unfold adler_More.f
  rw [parts_is]
  have e := more_l s hn s.size k 0 (prt n) (prt_rng n) (by omega) hk
  rw [List.drop_zero] at e
  exact e

theorem sum_is (s : ByteArray) (hn : s.size ≤ 140737488351232) (k : Nat) (hk : s.size < k) :
    adler_Sum.f k s = some (fin (run (1, 0) (bts s))) := by
  unfold adler_Sum.f
  rw [more_is 1 s hn k hk, prt_one]; rfl

theorem awake_is (k : Nat) (hk : 1 < k) : celluloidlaw03_awake.f k = some true := by
  unfold celluloidlaw03_awake.f
  rw [sum_is _ (by decide) k (by show 0 < k; omega), sum_is _ (by decide) k (by show 1 < k; omega)]
  decide

theorem low_is (n : Int) : celluloidref03_low.f n = some (prt n).1 := rfl
theorem high_is (n : Int) : celluloidref03_high.f n = some (prt n).2 := rfl

theorem q1lem (a c : Int) (i : Nat) (h : a ≤ 65521 + 255 * i) (hc : c ≤ 255) : a + c ≤ 65521 + 255 * ((i + 1 : Nat) : Int) := by omega
theorem ref_l (s : ByteArray) (hn : s.size ≤ 8192) (d : Nat) : ∀ (k i : Nat) (a b : Int) (p : Int × Int), Rng p → i + d = s.size → d < k →
    0 ≤ a → a ≤ 65521 + 255 * i → 0 ≤ b → b ≤ 4294967296 → Cg a p.1 → Cg b (p.2 + d * p.1) →
    celluloidref03_More.l0 k s a b s.size i = some (fin (run p ((bts s).drop i))) := by
  induction d with
  | zero =>
    intro k i a b p hp hi hk a0 a1 b0 b1 ha hb
    obtain ⟨k, rfl⟩ : ∃ m, k = m + 1 := ⟨k - 1, by omega⟩
    simp only [celluloidref03_More.l0]
    rw [if_neg (by omega), List.drop_of_length_le (by rw [bts_length]; omega), run_nil]
    obtain ⟨h0, h1, h2, h3⟩ := hp
    have ea := ha.eq_mod
    have eb := hb.eq_mod
    simp only [Int.natCast_zero, Int.zero_mul, Int.add_zero] at eb
    rw [Int.tmod_eq_emod_of_nonneg b0, Int.tmod_eq_emod_of_nonneg a0, wrap_in (n := b % 65521 * 65536) (by omega) (by omega), wrap_in (by omega) (by omega)]
    unfold fin
    congr 1
    omega
  | succ d ih =>
    intro k i a b p hp hi hk a0 a1 b0 b1 ha hb
    obtain ⟨k, rfl⟩ : ∃ m, k = m + 1 := ⟨k - 1, by omega⟩
    have hc := bt_range s i
    simp only [celluloidref03_More.l0]
    rw [if_pos (by omega), if_pos (by omega), if_pos (by omega)]
    obtain ⟨e1, e2⟩ := ref_stp a b p.1 p.2 (bt s i) d ha (by exact_mod_cast hb)
    have q0 : 0 ≤ a + bt s i := by omega
    have q1 : a + bt s i ≤ 65521 + 255 * ((i + 1 : Nat) : Int) := q1lem a (bt s i) i a1 hc.2
    have q2 : i + 1 + d = s.size := by omega
    have q3 : d < k := by omega
    have d0 : (d : Int) + 1 ≤ 8192 := by omega
    have p0 : 0 ≤ bt s i * (d + 1) := Int.mul_nonneg hc.1 (by omega)
    have p1 : bt s i * ((d : Int) + 1) ≤ 255 * 8192 := Int.mul_le_mul hc.2 d0 (by omega) (by omega)
    have q4 : i < s.size := by omega
    have q5 : a + bt s i ≤ 9223372036854775807 := by omega
    have q6 : (s.size : Int) - i = d + 1 := by omega
    have w0 : wrap64 (bt s i) = bt s i := wrap_in (by omega) (by omega)
    have w1 : wrap64 (a + bt s i) = a + bt s i := wrap_in (Int.le_trans (by decide) q0) q5
    have w2 : wrap64 ((s.size : Int) - i) = d + 1 := by rw [q6]; exact wrap_in (Int.le_trans (by decide) (Int.natCast_nonneg (d + 1))) (Int.le_trans d0 (by decide))
    have q7 : (i : Int) + 1 ≤ 8193 := by clear w0 w1 w2; omega
    have w5 : wrap64 ((i : Int) + 1) = ((i + 1 : Nat) : Int) := wrap_in (Int.le_trans (by decide) (Int.natCast_nonneg (i + 1))) (Int.le_trans q7 (by decide))
    rw [bts_drop s i q4, run_cons, w0, w1, w2, w5]
    generalize bt s i * ((d : Int) + 1) = y at p0 p1 e2 ⊢
    clear ha hb w0 w1 w2 w5
    have w3 : wrap64 y = y := wrap_in (by omega) (by omega)
    have w4 : wrap64 (b + y) = b + y := wrap_in (by omega) (by omega)
    rw [w3, w4, Int.tmod_eq_emod_of_nonneg (by omega)]
    exact ih k (i + 1) (a + bt s i) ((b + y) % 65521) (stp p (bt s i)) (stp_rng _ _) q2 q3 q0 q1 (by omega) (by omega) e1 e2

theorem ref_is (n : Int) (s : ByteArray) (hn : s.size ≤ 8192) (k : Nat) (hk : s.size < k) :
    celluloidref03_More.f k n s = some (fin (run (prt n) (bts s))) := by
  unfold celluloidref03_More.f
  rw [low_is, high_is]
  simp only [Option.bind_some]
  obtain ⟨h0, h1, h2, h3⟩ := prt_rng n
  have e0 : (s.size : Int) % 65521 = s.size := by omega
  have p0 : 0 ≤ (s.size : Int) * (prt n).1 := Int.mul_nonneg (by omega) h0
  have p1 : (s.size : Int) * (prt n).1 ≤ 8192 * 65521 := Int.mul_le_mul (by omega) (by omega) h0 (by omega)
  rw [e0, wrap_in (n := (s.size : Int) * (prt n).1) (by omega) (by omega), wrap_in (by omega) (by omega)]
  have e := ref_l s hn s.size k 0 (prt n).1 ((prt n).2 + s.size * (prt n).1) (prt n) (prt_rng n) (by omega) hk (by omega) (by omega) (by omega) (by omega) (Cg.rfl' _) (Cg.rfl' _)
  rw [List.drop_zero] at e
  exact e

theorem refsum_is (s : ByteArray) (hn : s.size ≤ 8192) (k : Nat) (hk : s.size < k) :
    celluloidref03_Sum.f k s = some (fin (run (1, 0) (bts s))) := by
  unfold celluloidref03_Sum.f
  rw [ref_is 1 s hn k hk, prt_one]; rfl

theorem AdlerSums : celluloidlaw03_AdlerSums.Pure := by
  intro s n hs hn
  refine ⟨s.size + 2, ?_⟩
  unfold celluloidlaw03_AdlerSums.f
  by_cases h : (s.size : Int) > 8192
  · rw [if_pos h, awake_is _ (by omega)]; rfl
  · rw [if_neg h, sum_is s hs _ (by omega), refsum_is s (by omega) _ (by omega)]
    simp only [Option.bind_some, if_true]
    rw [more_is n s hs _ (by omega), ref_is n s (by omega) _ (by omega)]
    simp only [Option.bind_some, if_true]
    rw [awake_is _ (by omega)]; rfl

end Go.Proofs.Ytljnhbhboecjdaa.Pure
