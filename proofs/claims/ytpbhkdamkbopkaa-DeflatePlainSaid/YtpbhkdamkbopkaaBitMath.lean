/- Bits laid down, the lowest of each byte first: what bytes they are. -/
import Derived.Test.YtpbhkdamkbopkaaPHuffBitsx1
import Derived.Laws.BitsLemmas
namespace Go.Proofs.Ytpbhkdamkbopkaa.Wr
set_option linter.unusedSimpArgs false
set_option linter.unusedVariables false
open Go.RowKit Go.Proofs.YtpbhkdamkbopkaaW.PrintWords Go.Proofs.YtpbhkdamkbopkaaW.PrintLast Go.Proofs.YtpbhkdamkbopkaaW.PrintMore

theorem w64 {n : Int} (h0 : -9223372036854775808 ≤ n) (h1 : n ≤ 9223372036854775807) : wrap64 n = n := by unfold wrap64; omega
/-- A bit more, m being laid down. -/
def put1 (o : List Int) (m : Nat) (b : Int) : List Int := if m % 8 = 0 then o ++ [b] else o.set (o.length - 1) (o.getD (o.length - 1) 0 + b * 2 ^ (m % 8))
/-- The bytes of bits: in the reverse of the bits' order, that a proof may go by the last one. -/
def pkr : List Int → List Int
  | [] => []
  | b :: t => put1 (pkr t) t.length b
/-- The bytes of bits. -/
def pk (B : List Int) : List Int := pkr B.reverse
theorem pk_nil : pk [] = [] := rfl
theorem pk_snoc (B : List Int) (b : Int) : pk (B ++ [b]) = put1 (pk B) B.length b := by
  unfold pk
  rw [List.reverse_append]
  simp [pkr]
/-- Bits: 0 or 1. -/
def Bits (B : List Int) : Prop := ∀ b ∈ B, 0 ≤ b ∧ b ≤ 1
theorem Bits.append {B C : List Int} (h : Bits B) (k : Bits C) : Bits (B ++ C) := fun b hb => by
  rcases List.mem_append.1 hb with hb | hb
  · exact h b hb
  · exact k b hb
theorem pkr_len (B : List Int) : (pkr B).length = (B.length + 7) / 8 := by
  induction B with
  | nil => rfl
  | cons b t ih =>
    simp only [pkr, put1]
    split
    · rw [List.length_append, ih, List.length_cons, List.length_cons, List.length_nil]; omega
    · rw [List.length_set, ih, List.length_cons]; omega
theorem pk_len (B : List Int) : (pk B).length = (B.length + 7) / 8 := by rw [pk, pkr_len, List.length_reverse]
theorem pow_rng (m : Nat) (h : m ≤ 7) : (1 : Int) ≤ 2 ^ m ∧ (2 : Int) ^ m ≤ 128 := by
  match m, h with
  | 0, _ => decide
  | 1, _ => decide
  | 2, _ => decide
  | 3, _ => decide
  | 4, _ => decide
  | 5, _ => decide
  | 6, _ => decide
  | 7, _ => decide
/-- Each byte is one; the last one has no more than its bits. -/
theorem pkr_rng (B : List Int) (h : ∀ b ∈ B, 0 ≤ b ∧ b ≤ 1) : (∀ x ∈ pkr B, 0 ≤ x ∧ x ≤ 255) ∧ (B.length % 8 ≠ 0 → 0 ≤ (pkr B).getD ((pkr B).length - 1) 0 ∧ (pkr B).getD ((pkr B).length - 1) 0 < 2 ^ (B.length % 8)) := by
  induction B with
  | nil => exact ⟨fun x hx => absurd hx (by simp [pkr]), fun h => absurd rfl h⟩
  | cons b t ih =>
    obtain ⟨i0, i1⟩ := ih (fun x hx => h x (by simp [hx]))
    have hb := h b (by simp)
    have hl := pkr_len t
    simp only [pkr, put1]
    by_cases hm : t.length % 8 = 0
    · rw [if_pos hm]
      refine ⟨fun x hx => ?_, fun _ => ?_⟩
      · rcases List.mem_append.1 hx with hx | hx
        · exact i0 x hx
        · rw [List.mem_singleton.1 hx]; omega
      · have e : (pkr t ++ [b]).getD ((pkr t ++ [b]).length - 1) 0 = b := by
          rw [List.length_append, List.getD_eq_getElem?_getD]
          simp
        rw [e, List.length_cons, show (t.length + 1) % 8 = 1 by omega]
        omega
    · rw [if_neg hm]
      obtain ⟨j0, j1⟩ := i1 hm
      have hlen : (pkr t).length - 1 < (pkr t).length := by omega
      have hp := pow_rng (t.length % 8) (by omega)
      have hq : b * 2 ^ (t.length % 8) ≤ 2 ^ (t.length % 8) ∧ 0 ≤ b * 2 ^ (t.length % 8) := by
        rcases (show b = 0 ∨ b = 1 by omega) with rfl | rfl
        · rw [Int.zero_mul]; omega
        · rw [Int.one_mul]; omega
      generalize (pkr t).getD ((pkr t).length - 1) 0 = z at *
      refine ⟨fun x hx => ?_, fun hn => ?_⟩
      · rcases List.mem_or_eq_of_mem_set hx with hx | rfl
        · exact i0 x hx
        · omega
      · have e : ((pkr t).set ((pkr t).length - 1) (z + b * 2 ^ (t.length % 8))).getD (((pkr t).set ((pkr t).length - 1) (z + b * 2 ^ (t.length % 8))).length - 1) 0 = z + b * 2 ^ (t.length % 8) := by
          rw [List.length_set, List.getD_eq_getElem?_getD, List.getElem?_set, if_pos rfl, if_pos hlen]
          rfl
        rw [e, List.length_cons, show (t.length + 1) % 8 = t.length % 8 + 1 by rw [List.length_cons] at hn; omega, Int.pow_succ]
        omega
theorem pk_rng {B : List Int} (h : Bits B) : (∀ x ∈ pk B, 0 ≤ x ∧ x ≤ 255) ∧ (B.length % 8 ≠ 0 → 0 ≤ (pk B).getD ((pk B).length - 1) 0 ∧ (pk B).getD ((pk B).length - 1) 0 < 2 ^ (B.length % 8)) := by
  have := pkr_rng B.reverse (fun b hb => h b (by simpa using hb))
  rw [List.length_reverse] at this
  exact this
/-- How many bits of the last byte are free. -/
def fr (m : Nat) : Int := (8 - (m % 8 : Nat)) % 8
/-- Bit i of a number. -/
def bit (v : Int) (i : Nat) : Int := v / 2 ^ i % 2
theorem bit_rng (v : Int) (i : Nat) : 0 ≤ bit v i ∧ bit v i ≤ 1 := by unfold bit; omega
/-- A number's bits, the lowest first. -/
def nb (v : Int) (n : Nat) : List Int := (List.range n).map (bit v)
theorem nb_succ (v : Int) (n : Nat) : nb v (n + 1) = nb v n ++ [bit v n] := by unfold nb; rw [List.range_succ, List.map_append]; rfl
theorem nb_len (v : Int) (n : Nat) : (nb v n).length = n := by unfold nb; simp
theorem nb_bits (v : Int) (n : Nat) : Bits (nb v n) := fun b hb => by
  obtain ⟨i, _, rfl⟩ := List.mem_map.1 hb
  exact bit_rng v i
end Go.Proofs.Ytpbhkdamkbopkaa.Wr
