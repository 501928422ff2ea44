/- Bytes that are all unlike: no place has a run, and how many bits they take. -/
import Derived.Test.YtpbhkdamkbopkaaExtYI
namespace Go.Proofs.Ytpbhkdamkbopkaa.Wr
open Go.RowKit Go.Proofs.YtpbhkdamkbopkaaW.PrintWords Go.Proofs.YtpbhkdamkbopkaaW.PrintLast Go.Proofs.YtpbhkdamkbopkaaW.PrintMore
open Go.Proofs.Ytpbhkdamkbopkaa.Rn (run mlen mlen_spec run_none)

/-- No byte stands twice. -/
def Unlike (s : ByteArray) : Prop := ∀ i j : Nat, j < i → i < s.size → bt s (i : Int) ≠ bt s (j : Int)
theorem unlike_run {s : ByteArray} (h : Unlike s) {i : Nat} (hi : i < s.size) : run s i = (0, 0) := by
  refine run_none fun d h0 h1 => ?_
  have hle : d ≤ i := Nat.le_trans h1 (Nat.min_le_left _ _)
  obtain ⟨_, _, h2, _⟩ := mlen_spec (s := s) (i := i) (j := i - d) (by omega)
  rcases Nat.lt_or_ge (mlen s i (i - d)) 3 with c | c
  · exact c
  · exact absurd (h2 0 (by omega)) (h i (i - d) (by omega) hi)
/-- The bits of a byte's code. -/
def wide (s : ByteArray) (i : Nat) : Nat := if bt s (i : Int) < 144 then 8 else 9
def wides (s : ByteArray) : Nat → Nat
  | 0 => 0
  | i + 1 => wides s i + wide s i
theorem wides_le (s : ByteArray) (i : Nat) : wides s i ≤ 9 * i := by
  induction i with
  | zero => exact Nat.le_refl _
  | succ i ih =>
    have : wide s i ≤ 9 := by unfold wide; split <;> omega
    simp only [wides]
    omega
theorem sc_wide (s : ByteArray) (i : Nat) : (sc (bt s (i : Int))).length = wide s i := by
  have h := bt_range s (i : Int)
  unfold sc wide
  by_cases c : bt s (i : Int) < 144
  · rw [if_pos c, if_pos c, cb_len]
  · rw [if_neg c, if_neg c, if_pos (by omega), cb_len]
theorem unlike_bits {s : ByteArray} (h : Unlike s) : ∀ k i, s.size ≤ i + k → i ≤ s.size → (rbits s k i).length + wides s i = wides s s.size := by
  intro k
  induction k with
  | zero =>
    intro i h0 h1
    obtain rfl : i = s.size := by omega
    simp [rbits]
  | succ k ih =>
    intro i h0 h1
    unfold rbits
    by_cases c : i < s.size
    · rw [if_pos c, unlike_run h c, if_pos rfl, List.length_append, sc_wide]
      have := ih (i + 1) (by omega) (by omega)
      simp only [wides] at this
      omega
    · obtain rfl : i = s.size := by omega
      rw [if_neg c]
      simp
theorem unlike_raw {s : ByteArray} (h : Unlike s) : (RB s).length = wides s s.size + 10 := by
  have e := unlike_bits h s.size 0 (by omega) (by omega)
  have e2 : (sc 256).length = 7 := by decide
  unfold RB
  rw [List.length_append, List.length_append, List.length_append, nb_len, e2]
  simp only [wides] at e
  simp
  omega
end Go.Proofs.Ytpbhkdamkbopkaa.Wr
