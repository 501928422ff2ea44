/- Runs of bytes, plain: how long two places agree, the best distance, and what the program's and the reference's loops answer. -/
import Derived.Test.YtpbhkdamkbopkaaGRunsx2
import Derived.Test.YtpbhkdamkbopkaaGRunsx3
namespace Go.Proofs.Ytpbhkdamkbopkaa.Rn
set_option linter.unusedSimpArgs false
set_option linter.unusedVariables false
open Go.RowKit Go.Proofs.Ytpbhkdamkbopkaa.GRuns Go.Proofs.YtpbhkdamkbopkaaW.PrintWords Go.Proofs.YtpbhkdamkbopkaaW.PrintLast Go.Proofs.YtpbhkdamkbopkaaW.PrintMore

theorem w64 {n : Int} (h0 : -9223372036854775808 ≤ n) (h1 : n ≤ 9223372036854775807) : wrap64 n = n := by unfold wrap64; omega
/-- So many bytes at i stand at j, too, n being known. -/
def ml (s : ByteArray) (i j : Nat) : Nat → Nat → Nat
  | 0, n => n
  | e + 1, n => if n < 258 ∧ i + n < s.size ∧ bt s ((i + n : Nat) : Int) = bt s ((j + n : Nat) : Int) then ml s i j e (n + 1) else n
def mlen (s : ByteArray) (i j : Nat) : Nat := ml s i j 258 0
theorem ml_spec (s : ByteArray) (i j : Nat) : ∀ (e n : Nat), n + e = 258 → (∀ t, t < n → bt s ((i + t : Nat) : Int) = bt s ((j + t : Nat) : Int)) → i + n ≤ s.size →
    n ≤ ml s i j e n ∧ ml s i j e n ≤ 258 ∧ i + ml s i j e n ≤ s.size ∧ (∀ t, t < ml s i j e n → bt s ((i + t : Nat) : Int) = bt s ((j + t : Nat) : Int)) ∧
      (ml s i j e n = 258 ∨ i + ml s i j e n = s.size ∨ bt s ((i + ml s i j e n : Nat) : Int) ≠ bt s ((j + ml s i j e n : Nat) : Int)) := by
  intro e
  induction e with
  | zero => intro n hn h hi; simp only [ml]; exact ⟨Nat.le_refl _, by omega, hi, h, .inl (by omega)⟩
  | succ e ih =>
    intro n hn h hi
    simp only [ml]
    by_cases c : n < 258 ∧ i + n < s.size ∧ bt s ((i + n : Nat) : Int) = bt s ((j + n : Nat) : Int)
    · rw [if_pos c]
      obtain ⟨a, b, c', d, f⟩ := ih (n + 1) (by omega) (fun t ht => by
        rcases Nat.lt_or_ge t n with h' | h'
        · exact h t h'
        · obtain rfl : t = n := by omega
          exact c.2.2) (by omega)
      exact ⟨by omega, b, c', d, f⟩
    · rw [if_neg c]
      refine ⟨Nat.le_refl _, by omega, hi, h, ?_⟩
      by_cases c2 : i + n < s.size
      · exact .inr (.inr (fun h3 => c ⟨by omega, c2, h3⟩))
      · exact .inr (.inl (by omega))
theorem mlen_spec {s : ByteArray} {i j : Nat} (hi : i ≤ s.size) : mlen s i j ≤ 258 ∧ i + mlen s i j ≤ s.size ∧ (∀ t, t < mlen s i j → bt s ((i + t : Nat) : Int) = bt s ((j + t : Nat) : Int)) ∧
    (mlen s i j = 258 ∨ i + mlen s i j = s.size ∨ bt s ((i + mlen s i j : Nat) : Int) ≠ bt s ((j + mlen s i j : Nat) : Int)) := by
  obtain ⟨_, a, b, c, d⟩ := ml_spec s i j 258 0 rfl (fun t ht => absurd ht (Nat.not_lt_zero _)) (by omega)
  exact ⟨a, b, c, d⟩
attribute [irreducible] mlen
/-- The best of the distances below D: the longest, the nearest. -/
def best (s : ByteArray) (i : Nat) : Nat → Nat × Nat
  | 0 => (0, 0)
  | D + 1 => if mlen s i (i - (D + 1)) > (best s i D).1 then (mlen s i (i - (D + 1)), D + 1) else best s i D
def fin (p : Nat × Nat) : Nat × Nat := if p.1 < 3 then (0, 0) else p
/-- The run of a place. -/
def run (s : ByteArray) (i : Nat) : Nat × Nat := fin (best s i (min i 32768))
theorem best_spec (s : ByteArray) (i : Nat) : ∀ D, (∀ d, 1 ≤ d → d ≤ D → mlen s i (i - d) ≤ (best s i D).1) ∧ ((best s i D).1 = 0 ∧ (best s i D).2 = 0 ∨ 1 ≤ (best s i D).2 ∧ (best s i D).2 ≤ D ∧ mlen s i (i - (best s i D).2) = (best s i D).1 ∧ 0 < (best s i D).1 ∧ ∀ d, 1 ≤ d → d < (best s i D).2 → mlen s i (i - d) < (best s i D).1) := by
  intro D
  induction D with
  | zero => exact ⟨fun d h0 h1 => absurd h1 (by omega), .inl ⟨rfl, rfl⟩⟩
  | succ D ih =>
    obtain ⟨h0, h1⟩ := ih
    simp only [best]
    by_cases c : mlen s i (i - (D + 1)) > (best s i D).1
    · rw [if_pos c]
      refine ⟨fun d d0 d1 => ?_, .inr ⟨by simp, by simp, rfl, by simp only; omega, fun d d0 d1 => ?_⟩⟩
      · rcases Nat.lt_or_ge d (D + 1) with h | h
        · have := h0 d d0 (by omega); simp only; omega
        · obtain rfl : d = D + 1 := by omega
          exact Nat.le_refl _
      · have := h0 d d0 (by simp only at d1; omega)
        simp only; omega
    · rw [if_neg c]
      refine ⟨fun d d0 d1 => ?_, ?_⟩
      · rcases Nat.lt_or_ge d (D + 1) with h | h
        · exact h0 d d0 (by omega)
        · obtain rfl : d = D + 1 := by omega
          omega
      · rcases h1 with h1 | ⟨a, b, c', d, e⟩
        · exact .inl h1
        · exact .inr ⟨a, by omega, c', d, e⟩
/-- What is the best run, by its marks. -/
theorem run_of {s : ByteArray} {i m f : Nat} (h3 : 3 ≤ m) (f0 : 1 ≤ f) (f1 : f ≤ min i 32768) (hm : mlen s i (i - f) = m) (hle : ∀ d, 1 ≤ d → d ≤ min i 32768 → mlen s i (i - d) ≤ m) (hlt : ∀ d, 1 ≤ d → d < f → mlen s i (i - d) < m) : run s i = (m, f) := by
  obtain ⟨b0, b1⟩ := best_spec s i (min i 32768)
  have e1 := b0 f f0 f1
  unfold run
  generalize best s i (min i 32768) = p at *
  rcases b1 with ⟨z, _⟩ | ⟨a, b, c, d, e⟩
  · omega
  · have e2 := hle p.2 a b
    have e3 : p.1 = m := by omega
    have e4 : p.2 = f := by
      rcases Nat.lt_trichotomy p.2 f with h | h | h
      · have := hlt p.2 a h; omega
      · exact h
      · have := e f f0 h; omega
    unfold fin
    rw [if_neg (by omega)]
    exact Prod.ext e3 e4
theorem run_none {s : ByteArray} {i : Nat} (h : ∀ d, 1 ≤ d → d ≤ min i 32768 → mlen s i (i - d) < 3) : run s i = (0, 0) := by
  obtain ⟨b0, b1⟩ := best_spec s i (min i 32768)
  unfold run
  generalize best s i (min i 32768) = p at *
  unfold fin
  rcases b1 with ⟨z, _⟩ | ⟨a, b, c, d, e⟩
  · rw [if_pos (by omega)]
  · rw [if_pos (by have := h p.2 a b; omega)]
end Go.Proofs.Ytpbhkdamkbopkaa.Rn
