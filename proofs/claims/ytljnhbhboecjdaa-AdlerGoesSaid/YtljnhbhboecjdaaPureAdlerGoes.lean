/- The checksum of bytes goes on with others behind them: for every input. -/
import Derived.Test.YtljnhbhboecjdaaPAdlerGoesx1
import Derived.Test.YtljnhbhboecjdaaAMath
namespace Go.Proofs.Ytljnhbhboecjdaa.Pure
open Go.RowKit Go.Proofs.Ytljnhbhboecjdaa.PAdlerGoes Go.Proofs.Ytljnhbhboecjdaa.AMath Go.Proofs.YtljnhbhboecjdaaW.PrintWords Go.Proofs.YtljnhbhboecjdaaW.PrintLast Go.Proofs.YtljnhbhboecjdaaW.PrintMore

theorem parts_is (n : Int) : adler_parts.f n = some (prt n) := by
  unfold adler_parts.f
  rw [and_16u (by omega) (by omega), wrap_in (by omega) (by omega), Int.tmod_eq_emod_of_nonneg (by omega)]
  rfl

theorem more_l (s : ByteArray) (hn : s.size ≤ 140737488351232) (d : Nat) : ∀ (k i : Nat) (p : Int × Int), Rng p → i + d = s.size → d < k →
    adler_More.l0 k s p.1 p.2 s.size i = some (fin (run p ((bts s).drop i))) := by
  induction d with
  | zero =>
    intro k i p hp hi hk
    obtain ⟨k, rfl⟩ : ∃ m, k = m + 1 := ⟨k - 1, by omega⟩
    simp only [adler_More.l0]
    rw [if_neg (by omega), List.drop_of_length_le (by rw [bts_length]; omega), run_nil]
    obtain ⟨h0, h1, h2, h3⟩ := hp
    rw [wrap_in (by omega) (by omega), or_16 h2 (by omega) h0 (by omega)]; rfl
  | succ d ih =>
    intro k i p hp hi hk
    obtain ⟨k, rfl⟩ : ∃ m, k = m + 1 := ⟨k - 1, by omega⟩
    have hb := bt_range s i
    obtain ⟨h0, h1, h2, h3⟩ := hp
    simp only [adler_More.l0]
    rw [if_pos (by omega), if_pos (by omega), if_pos (by omega)]
    have e := ih k (i + 1) (stp p (bt s i)) (stp_rng _ _) (by omega) (by omega)
    rw [bts_drop s i (by omega), run_cons, ← e]
    have w1 : wrap64 (bt s i) = bt s i := wrap_in (by omega) (by omega)
    have w2 : wrap64 (p.1 + bt s i) = p.1 + bt s i := wrap_in (by omega) (by omega)
    have w3 : wrap64 (p.2 + (p.1 + bt s i) % 65521) = p.2 + (p.1 + bt s i) % 65521 := wrap_in (by omega) (by omega)
    have w4 : wrap64 ((i : Int) + 1) = ((i + 1 : Nat) : Int) := by rw [wrap_in (by omega) (by omega)]; omega
    rw [w1, w2, Int.tmod_eq_emod_of_nonneg (by omega), w3, Int.tmod_eq_emod_of_nonneg (by omega), w4]
    rfl

theorem more_is (n : Int) (s : ByteArray) (hn : s.size ≤ 140737488351232) (k : Nat) (hk : s.size < k) :
    adler_More.f k n s = some (fin (run (prt n) (bts s))) := by
  unfold adler_More.f
  rw [parts_is]
  have e := more_l s hn s.size k 0 (prt n) (prt_rng n) (by omega) hk
  rw [List.drop_zero] at e
  exact e

theorem sum_is (s : ByteArray) (hn : s.size ≤ 140737488351232) (k : Nat) (hk : s.size < k) :
    adler_Sum.f k s = some (fin (run (1, 0) (bts s))) := by
  unfold adler_Sum.f
  rw [more_is 1 s hn k hk, prt_one]; rfl

theorem awake_is (k : Nat) (hk : 1 < k) : celluloidlaw03_awake.f k = some true := by
  unfold celluloidlaw03_awake.f
  rw [sum_is _ (by decide) k (by show 0 < k; omega), sum_is _ (by decide) k (by show 1 < k; omega)]
  decide

theorem AdlerGoes : celluloidlaw03_AdlerGoes.Pure := by
  intro s t hs ht
  refine ⟨s.size + t.size + 2 + 1, ?_⟩
  unfold celluloidlaw03_AdlerGoes.f
  have big : celluloidlaw03_AdlerGoes.j0 (s.size + t.size + 2 + 1) s t true = some true := by
    simp only [celluloidlaw03_AdlerGoes.j0]
    rw [if_pos trivial, awake_is _ (by omega)]; rfl
  by_cases h : (s.size : Int) > 8192
  · rw [if_pos h]; exact big
  rw [if_neg h]
  by_cases h' : (t.size : Int) > 8192
  · rw [decide_eq_true h']; exact big
  rw [decide_eq_false h']
  simp only [celluloidlaw03_AdlerGoes.j0]
  have hz : (s ++ t).size = s.size + t.size := ByteArray.size_append
  rw [if_neg (by decide), sum_is s hs _ (by omega)]
  simp only [Option.bind_some]
  rw [more_is _ t ht _ (by omega), prt_fin _ (run_rng _ _ rng_one), ← run_append, ← bts_append]
  simp only [Option.bind_some]
  rw [if_pos (by omega), sum_is _ (by omega) _ (by omega)]
  simp only [Option.bind_some, if_true]
  rw [awake_is _ (by omega)]; rfl

end Go.Proofs.Ytljnhbhboecjdaa.Pure
