/- A run of a place is there, and no other is longer, nor one as long nearer: by the marks of the best distance. -/
import Derived.Test.YtpbhkdamkbopkaaGRunsx5
import Derived.Test.YtpbhkdamkbopkaaRunMathC
namespace Go.Proofs.Ytpbhkdamkbopkaa.Pure
open Go.RowKit Go.Proofs.Ytpbhkdamkbopkaa.GRuns Go.Proofs.YtpbhkdamkbopkaaW.PrintWords Go.Proofs.YtpbhkdamkbopkaaW.PrintLast
open Go.Proofs.Ytpbhkdamkbopkaa.Rn

/-- What the run of a place is. -/
theorem run_marks (s : ByteArray) (i : Nat) (hi : i ≤ s.size) (h2 : i ≤ 32768) : ((run s i).1 = 0 ∧ (run s i).2 = 0 ∨ 3 ≤ (run s i).1 ∧ (run s i).1 ≤ 258 ∧ 1 ≤ (run s i).2 ∧ (run s i).2 ≤ i ∧ i + (run s i).1 ≤ s.size ∧ ∀ t, t < (run s i).1 → bt s ((i + t : Nat) : Int) = bt s ((i - (run s i).2 + t : Nat) : Int)) ∧
    ∀ d, 1 ≤ d → d ≤ i → 3 ≤ mlen s i (i - d) → mlen s i (i - d) < (run s i).1 ∨ mlen s i (i - d) = (run s i).1 ∧ (run s i).2 ≤ d := by
  obtain ⟨b0, b1⟩ := best_spec s i (min i 32768)
  unfold run
  generalize best s i (min i 32768) = p at *
  unfold fin
  by_cases c : p.1 < 3
  · rw [if_pos c]
    refine ⟨.inl ⟨rfl, rfl⟩, fun d d0 d1 d2 => ?_⟩
    have := b0 d d0 (by omega)
    omega
  · rw [if_neg c]
    rcases b1 with b1 | ⟨a0, a1, a2, a3, a4⟩
    · omega
    · obtain ⟨v0, v1, v2, _⟩ := mlen_spec (s := s) (i := i) (j := i - p.2) hi
      rw [a2] at v0 v1 v2
      refine ⟨.inr ⟨by omega, v0, a0, by omega, v1, v2⟩, fun d d0 d1 d2 => ?_⟩
      have e1 := b0 d d0 (by omega)
      rcases Nat.lt_or_ge d p.2 with h | h
      · exact .inl (a4 d d0 h)
      · omega
/-- The last questions. -/
def ends (n m f x : Int) : Option Bool → Option Bool := fun o => if n < 3 then o else (if n < m then o else (if n = m then (if f ≤ x then o else some false) else some false))
theorem finds_l1 (s : ByteArray) (hs : s.size ≤ 140737488351232) (i x : Nat) (hx : x ≤ i) (m f : Int) (K : Nat) (hK : ∀ k, K ≤ k → celluloidlaw06_awake.f k = some true) : ∀ (e n : Nat), n + e = 258 → i + n ≤ s.size → ends ((ml s i (i - x) e n : Nat) : Int) m f (x : Int) (some true) = some true →
    ∀ k, K + e + 1 ≤ k → celluloidlaw06_DeflateFinds.l1 k s (i : Int) (x : Int) m f (n : Int) = some true := by
  intro e
  induction e with
  | zero =>
    intro n hn hi hz k hk
    obtain ⟨k, rfl⟩ := Nat.exists_eq_add_of_le' (show 1 ≤ k by omega)
    obtain rfl : n = 258 := by omega
    simp only [ml] at hz
    rw [celluloidlaw06_DeflateFinds.l1, if_neg (by omega), hK k (by omega)]
    exact hz
  | succ e ih =>
    intro n hn hi hz k hk
    obtain ⟨k, rfl⟩ := Nat.exists_eq_add_of_le' (show 1 ≤ k by omega)
    have es : wrap64 ((i : Int) + (n : Int)) = ((i + n : Nat) : Int) ∧ wrap64 (((i + n : Nat) : Int) - (x : Int)) = ((i - x + n : Nat) : Int) ∧ wrap64 ((n : Int) + 1) = ((n + 1 : Nat) : Int) := by
      refine ⟨?_, ?_, ?_⟩
      · rw [w64 (by omega) (by omega)]; omega
      · rw [w64 (by omega) (by omega)]; omega
      · rw [w64 (by omega) (by omega)]; omega
    rw [celluloidlaw06_DeflateFinds.l1, es.1, es.2.1, es.2.2]
    clear es
    rw [if_pos (by omega), hK k (by omega)]
    simp only [ml] at hz
    by_cases c : i + n < s.size
    · rw [if_pos (by omega), if_pos (by omega), if_pos (by omega), if_pos (by omega)]
      by_cases c2 : bt s ((i + n : Nat) : Int) = bt s ((i - x + n : Nat) : Int)
      · rw [if_pos c2]
        rw [if_pos ⟨by omega, c, c2⟩] at hz
        exact ih (n + 1) (by omega) (by omega) hz k (by omega)
      · rw [if_neg c2]
        rw [if_neg (fun h => c2 h.2.2)] at hz
        exact hz
    · rw [if_neg (by omega)]
      rw [if_neg (fun h => c h.2.1)] at hz
      exact hz
theorem finds_l0 (s : ByteArray) (hs : s.size ≤ 140737488351232) (i : Nat) (x : Int) (m f : Nat) (hf : f ≤ i) (hm : i + m ≤ s.size) (hb : ∀ t, t < m → bt s ((i + t : Nat) : Int) = bt s ((i - f + t : Nat) : Int)) (K : Nat)
    (hK : ∀ k, K ≤ k → (if x < 1 then celluloidlaw06_DeflateFinds.j3 k s (i : Int) x (m : Int) (f : Int) true else celluloidlaw06_DeflateFinds.j3 k s (i : Int) x (m : Int) (f : Int) (decide (x > (i : Int)))) = some true) : ∀ (e n : Nat), n + e = m →
    ∀ k, K + e + 1 ≤ k → celluloidlaw06_DeflateFinds.l0 k s (i : Int) x (m : Int) (f : Int) (n : Int) = some true := by
  intro e
  induction e with
  | zero =>
    intro n hn k hk
    obtain ⟨k, rfl⟩ := Nat.exists_eq_add_of_le' (show 1 ≤ k by omega)
    rw [celluloidlaw06_DeflateFinds.l0, if_neg (by omega)]
    exact hK k (by omega)
  | succ e ih =>
    intro n hn k hk
    obtain ⟨k, rfl⟩ := Nat.exists_eq_add_of_le' (show 1 ≤ k by omega)
    have es : wrap64 ((i : Int) + (n : Int)) = ((i + n : Nat) : Int) ∧ wrap64 (((i + n : Nat) : Int) - (f : Int)) = ((i - f + n : Nat) : Int) ∧ wrap64 ((n : Int) + 1) = ((n + 1 : Nat) : Int) := by
      refine ⟨?_, ?_, ?_⟩
      · rw [w64 (by omega) (by omega)]; omega
      · rw [w64 (by omega) (by omega)]; omega
      · rw [w64 (by omega) (by omega)]; omega
    rw [celluloidlaw06_DeflateFinds.l0, es.1, es.2.1, es.2.2]
    clear es
    rw [if_pos (by omega), if_pos (by omega), if_pos (by omega), if_pos (by omega), if_pos (by omega), if_pos (hb n (by omega))]
    exact ih (n + 1) (by omega) k (by omega)
theorem DeflateFinds : celluloidlaw06_DeflateFinds.Pure := by
  intro s x y hs _ _
  have haw := awake_ok
  have out : ∀ k, 301 ≤ k → celluloidlaw06_DeflateFinds.j0 k s x y true = some true := by
    intro k hk
    obtain ⟨k, rfl⟩ := Nat.exists_eq_add_of_le' (show 1 ≤ k by omega)
    rw [celluloidlaw06_DeflateFinds.j0, if_pos rfl, haw k (by omega)]
    rfl
  by_cases c : (s.size : Int) > 512
  · refine ⟨301, ?_⟩
    unfold celluloidlaw06_DeflateFinds.f
    rw [if_pos c, out 301 (Nat.le_refl _)]
  · by_cases c0 : x < 0
    · refine ⟨301, ?_⟩
      unfold celluloidlaw06_DeflateFinds.f
      rw [if_neg c, if_pos c0, out 301 (Nat.le_refl _)]
    · by_cases c1 : x ≥ s.size
      · refine ⟨301, ?_⟩
        unfold celluloidlaw06_DeflateFinds.f
        rw [if_neg c, if_neg c0, decide_eq_true c1, out 301 (Nat.le_refl _)]
      · obtain ⟨i, rfl⟩ : ∃ i : Nat, x = (i : Int) := ⟨x.toNat, by omega⟩
        refine ⟨5003, ?_⟩
        unfold celluloidlaw06_DeflateFinds.f
        rw [if_neg c, if_neg c0, decide_eq_false c1, show (5003 : Nat) = 5002 + 1 from rfl, celluloidlaw06_DeflateFinds.j0, if_neg (by decide), Run_f s hs i (by omega) 5002 (by omega)]
        simp only [Option.bind_some, ip]
        obtain ⟨h1, h2⟩ := run_marks s i (by omega) (by omega)
        generalize run s i = p at *
        obtain ⟨m, f⟩ := p
        simp only at h1 h2 ⊢
        have tail : ∀ k, 700 ≤ k → (if y < 1 then celluloidlaw06_DeflateFinds.j3 k s (i : Int) y (m : Int) (f : Int) true else celluloidlaw06_DeflateFinds.j3 k s (i : Int) y (m : Int) (f : Int) (decide (y > (i : Int)))) = some true := by
          intro k hk
          obtain ⟨k, rfl⟩ := Nat.exists_eq_add_of_le' (show 1 ≤ k by omega)
          have o : celluloidlaw06_DeflateFinds.j3 (k + 1) s (i : Int) y (m : Int) (f : Int) true = some true := by
            rw [celluloidlaw06_DeflateFinds.j3, if_pos rfl, haw k (by omega)]
            rfl
          by_cases g : y < 1
          · rw [if_pos g]; exact o
          · rw [if_neg g]
            by_cases g1 : y > (i : Int)
            · rw [decide_eq_true g1]; exact o
            · rw [decide_eq_false g1, celluloidlaw06_DeflateFinds.j3, if_neg (by decide)]
              obtain ⟨d, rfl⟩ : ∃ d : Nat, y = (d : Int) := ⟨y.toNat, by omega⟩
              refine finds_l1 s hs i d (by omega) m f 300 haw 258 0 rfl (by omega) ?_ k (by omega)
              have e : ml s i (i - d) 258 0 = mlen s i (i - d) := by unfold mlen; rfl
              rw [e]
              have h3 := h2 d (by omega) (by omega)
              generalize mlen s i (i - d) = q at *
              unfold ends
              by_cases q0 : (q : Int) < 3
              · rw [if_pos q0]
              · rw [if_neg q0]
                rcases h3 (by omega) with h4 | ⟨h4, h5⟩
                · rw [if_pos (by omega)]
                · rw [if_neg (by omega), if_pos (by omega), if_pos (by omega)]
        have mid : ∀ k, 2000 ≤ k → (m = 0 ∧ f = 0 ∨ 3 ≤ m) → celluloidlaw06_DeflateFinds.j1 k s (i : Int) y (m : Int) (f : Int) false = some true := by
          intro k hk hm
          obtain ⟨k, rfl⟩ := Nat.exists_eq_add_of_le' (show 1 ≤ k by omega)
          rw [celluloidlaw06_DeflateFinds.j1, if_neg (by decide)]
          rcases h1 with ⟨a, b⟩ | ⟨a0, a1, a2, a3, a4, a5⟩
          · exact finds_l0 s hs i y m f (by omega) (by omega) (fun t ht => by omega) 700 tail m 0 (by omega) k (by omega)
          · exact finds_l0 s hs i y m f a3 a4 a5 700 tail m 0 (by omega) k (by omega)
        have ew : m ≤ 258 → wrap64 ((i : Int) + (m : Int)) = ((i + m : Nat) : Int) := fun h => by rw [w64 (by omega) (by omega)]; omega
        rcases h1 with ⟨a, b⟩ | ⟨a0, a1, a2, a3, a4, a5⟩
        · rw [if_pos (by omega)]
          have e : ((f : Int) != 0) = false := by subst b; rfl
          rw [e]
          exact mid 5002 (by omega) (.inl ⟨a, b⟩)
        · rw [ew a1]
          clear ew
          rw [if_neg (by omega), if_neg (by omega), if_neg (by omega), if_neg (by omega), if_neg (by omega), if_neg (by omega)]
          exact mid 5002 (by omega) (.inr a0)

end Go.Proofs.Ytpbhkdamkbopkaa.Pure
