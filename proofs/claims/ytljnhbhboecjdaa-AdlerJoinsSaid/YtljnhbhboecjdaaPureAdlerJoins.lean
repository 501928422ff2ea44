/- The checksum of two strings, one behind the other, is joined from theirs: for every input. -/
import Derived.Test.YtljnhbhboecjdaaPAdlerJoinsx1
import Derived.Test.YtljnhbhboecjdaaAMath
namespace Go.Proofs.Ytljnhbhboecjdaa.Pure
open Go.RowKit Go.Proofs.Ytljnhbhboecjdaa.PAdlerJoins Go.Proofs.Ytljnhbhboecjdaa.AMath Go.Proofs.YtljnhbhboecjdaaW.PrintWords Go.Proofs.YtljnhbhboecjdaaW.PrintLast Go.Proofs.YtljnhbhboecjdaaW.PrintMore

theorem parts_is (n : Int) : adler_parts.f n = some (prt n) := by
  unfold adler_parts.f
  rw [and_16u (by omega) (by omega), wrap_in (by omega) (by omega), Int.tmod_eq_emod_of_nonneg (by omega)]
  rfl

theorem more_l (s : ByteArray) (hn : s.size ≤ 140737488351232) (d : Nat) : ∀ (k i : Nat) (p : Int × Int), Rng p → i + d = s.size → d < k →
    adler_More.l0 k s p.1 p.2 s.size i = some (fin (run p ((bts s).drop i))) := by
  induction d with
  | zero =>
    intro k i p hp hi hk
    obtain ⟨k, rfl⟩ : ∃ m, k = m + 1 := ⟨k - 1, by omega⟩
    simp only [adler_More.l0]
    rw [if_neg (by omega), List.drop_of_length_le (by rw [bts_length]; omega), run_nil]
    obtain ⟨h0, h1, h2, h3⟩ := hp
    rw [wrap_in (by omega) (by omega), or_16 h2 (by omega) h0 (by omega)]; rfl
  | succ d ih =>
    intro k i p hp hi hk
    obtain ⟨k, rfl⟩ : ∃ m, k = m + 1 := ⟨k - 1, by omega⟩
    have hb := bt_range s i
    obtain ⟨h0, h1, h2, h3⟩ := hp
    simp only [adler_More.l0]
    rw [if_pos (by omega), if_pos (by omega), if_pos (by omega)]
    have e := ih k (i + 1) (stp p (bt s i)) (stp_rng _ _) (by omega) (by omega)
    rw [bts_drop s i (by omega), run_cons, ← e]
    have w1 : wrap64 (bt s i) = bt s i := wrap_in (by omega) (by omega)
    have w2 : wrap64 (p.1 + bt s i) = p.1 + bt s i := wrap_in (by omega) (by omega)
    have w3 : wrap64 (p.2 + (p.1 + bt s i) % 65521) = p.2 + (p.1 + bt s i) % 65521 := wrap_in (by omega) (by omega)
    have w4 : wrap64 ((i : Int) + 1) = ((i + 1 : Nat) : Int) := by rw [wrap_in (by omega) (by omega)]; omega
    rw [w1, w2, Int.tmod_eq_emod_of_nonneg (by omega), w3, Int.tmod_eq_emod_of_nonneg (by omega), w4]
    rfl

theorem more_is (n : Int) (s : ByteArray) (hn : s.size ≤ 140737488351232) (k : Nat) (hk : s.size < k) :
    adler_More.f k n s = some (fin (run (prt n) (bts s))) := by
  unfold adler_More.f
  rw [parts_is]
  have e := more_l s hn s.size k 0 (prt n) (prt_rng n) (by omega) hk
  rw [List.drop_zero] at e
  exact e

theorem sum_is (s : ByteArray) (hn : s.size ≤ 140737488351232) (k : Nat) (hk : s.size < k) :
    adler_Sum.f k s = some (fin (run (1, 0) (bts s))) := by
  unfold adler_Sum.f
  rw [more_is 1 s hn k hk, prt_one]; rfl

theorem awake_is (k : Nat) (hk : 1 < k) : celluloidlaw03_awake.f k = some true := by
  unfold celluloidlaw03_awake.f
  rw [sum_is _ (by decide) k (by show 0 < k; omega), sum_is _ (by decide) k (by show 1 < k; omega)]
  decide

theorem join_is (a b n : Int) (hn0 : n ≤ 140737488351232) : adler_Join.f a b n = some (fin (((prt a).1 + (prt b).1 + 65521 - 1) % 65521, ((prt a).2 + (prt b).2 + (max n 0) % 65521 * ((prt a).1 + 65521 - 1)) % 65521)) := by
  unfold adler_Join.f
  rw [parts_is, parts_is]
  simp only [Option.bind_some]
  obtain ⟨a0, a1, a2, a3⟩ := prt_rng a
  obtain ⟨b0, b1, b2, b3⟩ := prt_rng b
  have hm : mx n 0 = max n 0 := by unfold mx; omega
  rw [hm]
  have hz0 : 0 ≤ max n 0 % 65521 := by omega
  have hz1 : max n 0 % 65521 < 65521 := by omega
  generalize max n 0 % 65521 = z at hz0 hz1 ⊢
  have w1 : wrap64 ((prt a).2 + (prt b).2) = (prt a).2 + (prt b).2 := wrap_in (by omega) (by omega)
  have w2 : wrap64 ((prt a).1 + 65521) = (prt a).1 + 65521 := wrap_in (by omega) (by omega)
  have w3 : wrap64 ((prt a).1 + 65521 - 1) = (prt a).1 + 65521 - 1 := wrap_in (by omega) (by omega)
  have w4 : wrap64 ((prt a).1 + (prt b).1) = (prt a).1 + (prt b).1 := wrap_in (by omega) (by omega)
  have w5 : wrap64 ((prt a).1 + (prt b).1 + 65521) = (prt a).1 + (prt b).1 + 65521 := wrap_in (by omega) (by omega)
  have w6 : wrap64 ((prt a).1 + (prt b).1 + 65521 - 1) = (prt a).1 + (prt b).1 + 65521 - 1 := wrap_in (by omega) (by omega)
  have p0 : 0 ≤ z * ((prt a).1 + 65521 - 1) := Int.mul_nonneg hz0 (by omega)
  have p1 : z * ((prt a).1 + 65521 - 1) ≤ 65521 * 131042 := Int.mul_le_mul (by omega) (by omega) (by omega) (by omega)
  rw [w1, w2, w3, w4, w5, w6]
  generalize hy : z * ((prt a).1 + 65521 - 1) = y at p0 p1 ⊢
  have w7 : wrap64 y = y := wrap_in (by omega) (by omega)
  have w8 : wrap64 ((prt a).2 + (prt b).2 + y) = (prt a).2 + (prt b).2 + y := wrap_in (by omega) (by omega)
  rw [w7, w8, Int.tmod_eq_emod_of_nonneg (by omega), Int.tmod_eq_emod_of_nonneg (by omega), wrap_in (by omega) (by omega), or_16 (by omega) (by omega) (by omega) (by omega)]
  rfl

theorem AdlerJoins : celluloidlaw03_AdlerJoins.Pure := by
  intro s t hs ht
  refine ⟨s.size + t.size + 2 + 1, ?_⟩
  unfold celluloidlaw03_AdlerJoins.f
  have big : celluloidlaw03_AdlerJoins.j0 (s.size + t.size + 2 + 1) s t true = some true := by
    simp only [celluloidlaw03_AdlerJoins.j0]
    rw [if_pos trivial, awake_is _ (by omega)]; rfl
  by_cases h : (s.size : Int) > 8192
  · rw [if_pos h]; exact big
  rw [if_neg h]
  by_cases h' : (t.size : Int) > 8192
  · rw [decide_eq_true h']; exact big
  rw [decide_eq_false h']
  simp only [celluloidlaw03_AdlerJoins.j0]
  have hz : (s ++ t).size = s.size + t.size := ByteArray.size_append
  rw [if_neg (by decide), sum_is s hs _ (by omega)]
  simp only [Option.bind_some]
  rw [sum_is t ht _ (by omega)]
  simp only [Option.bind_some]
  rw [join_is _ _ _ (by omega), prt_fin _ (run_rng _ _ rng_one), prt_fin _ (run_rng _ _ rng_one)]
  simp only [Option.bind_some]
  rw [if_pos (by omega), sum_is _ (by omega) _ (by omega), bts_append, run_append]
  simp only [Option.bind_some]
  have hl := run_rng (bts t) _ (run_rng (bts s) _ rng_one)
  obtain ⟨g1, g2⟩ := run_cg (bts t) (run (1, 0) (bts s)).1 (run (1, 0) (bts s)).2 1 0
  rw [bts_length] at g2
  obtain ⟨j1, j2⟩ := join_math (run (1, 0) (bts s)) (run (run (1, 0) (bts s)) (bts t)) (run (1, 0) (bts t)) t.size g1 g2 hl
  rw [show max (t.size : Int) 0 = t.size by omega, j1, j2, if_pos rfl, awake_is _ (by omega)]
  rfl

end Go.Proofs.Ytljnhbhboecjdaa.Pure
