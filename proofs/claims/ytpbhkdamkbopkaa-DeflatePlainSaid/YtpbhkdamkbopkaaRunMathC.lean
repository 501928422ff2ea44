/- The reference's Run is the run of a place; the stage's fixed answer. -/
import Derived.Test.YtpbhkdamkbopkaaRunMathB
namespace Go.Proofs.Ytpbhkdamkbopkaa.Rn
set_option linter.unusedSimpArgs false
set_option linter.unusedVariables false
open Go.RowKit Go.Proofs.Ytpbhkdamkbopkaa.GRuns Go.Proofs.YtpbhkdamkbopkaaW.PrintWords Go.Proofs.YtpbhkdamkbopkaaW.PrintLast Go.Proofs.YtpbhkdamkbopkaaW.PrintMore

/-- With a length m' at the distance d. -/
def upd (p : Nat × Nat) (m' d : Nat) : Nat × Nat := if m' > p.1 then (m', d) else p
theorem ref_l1 (s : ByteArray) (hs : s.size ≤ 140737488351232) (i d : Nat) (hd : d ≤ i) (p : Nat × Nat) (r : Int × Int) (K : Nat) : ∀ (e n : Nat), n + e = 258 → i + n ≤ s.size →
    (∀ k, K ≤ k → celluloidref06_Run.l0 k s (i : Int) (((upd p (ml s i (i - d) e n) d).1 : Nat) : Int) (((upd p (ml s i (i - d) e n) d).2 : Nat) : Int) ((d + 1 : Nat) : Int) = some r) →
    ∀ k, K + e + 1 ≤ k → celluloidref06_Run.l1 k s (i : Int) ((p.1 : Nat) : Int) ((p.2 : Nat) : Int) (d : Int) (n : Int) = some r := by
  intro e
  have ed : i ≤ s.size → wrap64 ((d : Int) + 1) = ((d + 1 : Nat) : Int) := fun h => by rw [w64 (by omega) (by omega)]; omega
  have last : ∀ (n : Nat) (_ : i ≤ s.size) (k : Nat) (_ : celluloidref06_Run.l0 k s (i : Int) (((upd p n d).1 : Nat) : Int) (((upd p n d).2 : Nat) : Int) ((d + 1 : Nat) : Int) = some r),
      (if (n : Int) > ((p.1 : Nat) : Int) then celluloidref06_Run.l0 k s (i : Int) (n : Int) (d : Int) (wrap64 ((d : Int) + 1)) else celluloidref06_Run.l0 k s (i : Int) ((p.1 : Nat) : Int) ((p.2 : Nat) : Int) (wrap64 ((d : Int) + 1))) = some r := by
    intro n hi k h
    rw [ed hi]
    unfold upd at h
    by_cases c : n > p.1
    · rw [if_pos c] at h; rw [if_pos (by omega)]; exact h
    · rw [if_neg c] at h; rw [if_neg (by omega)]; exact h
  induction e with
  | zero =>
    intro n hn hi hK k hk
    obtain ⟨k, rfl⟩ := Nat.exists_eq_add_of_le' (show 1 ≤ k by omega)
    obtain rfl : n = 258 := by omega
    rw [celluloidref06_Run.l1, if_neg (by omega)]
    simp only [ml] at hK
    have h := hK k (by omega)
    exact last 258 (by omega) k h
  | succ e ih =>
    intro n hn hi hK k hk
    obtain ⟨k, rfl⟩ := Nat.exists_eq_add_of_le' (show 1 ≤ k by omega)
    have es : wrap64 ((i : Int) + (n : Int)) = ((i + n : Nat) : Int) ∧ wrap64 (((i + n : Nat) : Int) - (d : Int)) = ((i - d + n : Nat) : Int) ∧ wrap64 ((n : Int) + 1) = ((n + 1 : Nat) : Int) := by
      refine ⟨?_, ?_, ?_⟩
      · rw [w64 (by omega) (by omega)]; omega
      · rw [w64 (by omega) (by omega)]; omega
      · rw [w64 (by omega) (by omega)]; omega
    rw [celluloidref06_Run.l1, es.1, es.2.1, es.2.2]
    clear es
    rw [if_pos (by omega)]
    simp only [ml] at hK
    by_cases c : i + n < s.size
    · rw [if_pos (by omega), if_pos (by omega), if_pos (by omega), if_pos (by omega)]
      by_cases c2 : bt s ((i + n : Nat) : Int) = bt s ((i - d + n : Nat) : Int)
      · rw [if_pos c2]
        rw [if_pos ⟨by omega, c, c2⟩] at hK
        exact ih (n + 1) (by omega) (by omega) hK k (by omega)
      · rw [if_neg c2]
        rw [if_neg (fun h => c2 h.2.2)] at hK
        exact last n (by omega) k (hK k (by omega))
    · rw [if_neg (by omega)]
      rw [if_neg (fun h => c h.2.1)] at hK
      exact last n (by omega) k (hK k (by omega))
theorem ref_l0 (s : ByteArray) (hs : s.size ≤ 140737488351232) (i : Nat) (hi : i ≤ s.size) : ∀ e D, D + e = min i 32768 → ∀ k, 300 * e + 2 ≤ k →
    celluloidref06_Run.l0 k s (i : Int) (((best s i D).1 : Nat) : Int) (((best s i D).2 : Nat) : Int) ((D + 1 : Nat) : Int) = some (ip (run s i)) := by
  intro e
  induction e with
  | zero =>
    intro D hD k hk
    obtain ⟨k, rfl⟩ := Nat.exists_eq_add_of_le' (show 2 ≤ k by omega)
    rw [show k + 2 = (k + 1) + 1 from rfl, celluloidref06_Run.l0]
    have hj : celluloidref06_Run.j1 (k + 1) s (i : Int) (((best s i D).1 : Nat) : Int) (((best s i D).2 : Nat) : Int) ((D + 1 : Nat) : Int) false = some (ip (run s i)) := by
      rw [celluloidref06_Run.j1, if_neg (by decide)]
      unfold run
      rw [← hD, Nat.add_zero]
      unfold fin ip
      by_cases c : (best s i D).1 < 3
      · rw [if_pos (by omega), if_pos c]; rfl
      · rw [if_neg (by omega), if_neg c]
    by_cases c : ((D + 1 : Nat) : Int) ≤ (i : Int)
    · rw [if_pos c, decide_eq_false (by omega)]; exact hj
    · rw [if_neg c]; exact hj
  | succ e ih =>
    intro D hD k hk
    obtain ⟨k, rfl⟩ := Nat.exists_eq_add_of_le' (show 2 ≤ k by omega)
    rw [show k + 2 = (k + 1) + 1 from rfl, celluloidref06_Run.l0, if_pos (by omega), decide_eq_true (by omega), celluloidref06_Run.j1, if_pos rfl]
    refine ref_l1 s hs i (D + 1) (by omega) (best s i D) (ip (run s i)) (300 * e + 2) 258 0 rfl (by omega) ?_ k (by omega)
    intro k' hk'
    have h := ih (D + 1) (by omega) k' hk'
    have eb : upd (best s i D) (ml s i (i - (D + 1)) 258 0) (D + 1) = best s i (D + 1) := by
      have : ml s i (i - (D + 1)) 258 0 = mlen s i (i - (D + 1)) := by unfold mlen; rfl
      rw [this]
      rfl
    rw [eb]
    exact h
/-- The reference's Run is the run of a place. -/
theorem ref_f (s : ByteArray) (hs : s.size ≤ 140737488351232) (i : Nat) (hi : i ≤ s.size) (k : Nat) (hk : 300 * i + 2 ≤ k) : celluloidref06_Run.f k s (i : Int) = some (ip (run s i)) := by
  unfold celluloidref06_Run.f
  rw [if_neg (by omega)]
  exact ref_l0 s hs i hi (min i 32768) 0 (by omega) k (by omega)
theorem awake_ok (k : Nat) (hk : 300 ≤ k) : celluloidlaw06_awake.f k = some true :=
  at_rounds celluloidlaw06_awake.mono hk (by decide +kernel)
end Go.Proofs.Ytpbhkdamkbopkaa.Rn
