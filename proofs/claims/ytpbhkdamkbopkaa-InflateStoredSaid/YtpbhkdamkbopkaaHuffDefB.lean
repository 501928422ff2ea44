/- The codes of lengths, and how they come into being symbol by symbol. Plain lists, no program. -/
import Derived.Test.YtpbhkdamkbopkaaHuffDef
set_option linter.unusedSimpArgs false
set_option linter.unusedVariables false
namespace Go.Proofs.Ytpbhkdamkbopkaa.Ext

def cz (l : List Int) (n : Nat) : Int := (cnts l).getD n 0
/-- The first code of length n. -/
def firstC (l : List Int) : Nat → Int
  | 0 => 0
  | n + 1 => 2 * (firstC l n + cz l n)
def rank (l : List Int) (i : Nat) : Nat := (idxN l (l.getD i 0).toNat i).length
def codeAt (l : List Int) (i : Nat) : Int := firstC l (l.getD i 0).toNat + rank l i
def codesOf (l : List Int) : List Int := (List.range l.length).map fun i => if l.getD i 0 ≤ 0 then 0 else codeAt l i
/-- What has been told when the lengths below n are done, and j symbols of n. -/
def codesN (l : List Int) (n j : Nat) : List Int := (List.range l.length).map fun i =>
  if l.getD i 0 ≤ 0 then 0 else if l.getD i 0 < n then codeAt l i else if l.getD i 0 = n ∧ rank l i < j then codeAt l i else 0

theorem cz_rng (l : List Int) (n : Nat) : 0 ≤ cz l n ∧ cz l n ≤ l.length := cnts_rng l n
theorem cz_is (l : List Int) (n : Nat) (h0 : 1 ≤ n) (h : n < 16) : cz l n = cnt l n := by
  unfold cz
  rw [List.getD_eq_getElem?_getD, cnts_get l n h, if_neg (by omega)]
  rfl
theorem firstC_rng (l : List Int) (h : l.length ≤ 320) (n : Nat) : 0 ≤ firstC l n ∧ firstC l n + 640 ≤ 640 * 2 ^ n := by
  induction n with
  | zero => exact ⟨Int.le_refl _, by simp [firstC]⟩
  | succ n ih =>
    have := cz_rng l n
    have e : (2 : Int) ^ (n + 1) = 2 * 2 ^ n := by rw [Int.pow_succ, Int.mul_comm]
    simp only [firstC]
    rw [e]
    generalize (2 : Int) ^ n = p at ih
    omega
theorem firstC_le (l : List Int) (h : l.length ≤ 320) (n : Nat) (hn : n ≤ 16) : 0 ≤ firstC l n ∧ firstC l n ≤ 41943040 := by
  have h1 := firstC_rng l h n
  have h2 : 2 ^ n ≤ 2 ^ 16 := Nat.pow_le_pow_right (by decide) hn
  have e : ((2 ^ n : Nat) : Int) = (2 : Int) ^ n := by rw [Int.natCast_pow]; rfl
  rw [← e] at h1
  omega
theorem idxN_cnt (l : List Int) (n : Nat) : ∀ k, k ≤ l.length → ((idxN l n k).length : Int) = cnt (l.take k) n := by
  intro k
  induction k with
  | zero => intro _; simp [idxN, cnt]
  | succ k ih =>
    intro hk
    rw [idxN_succ, take_snoc' l k (by omega), cnt_snoc, List.length_append, Int.natCast_add, ih (by omega)]
    by_cases h : l.getD k 0 = (n : Int)
    · rw [if_pos h, if_pos h]; rfl
    · rw [if_neg h, if_neg h]; rfl
theorem idxN_cz (l : List Int) (n : Nat) (h0 : 1 ≤ n) (h : n < 16) : ((idxN l n l.length).length : Int) = cz l n := by
  rw [idxN_cnt l n _ (Nat.le_refl _), List.take_length, cz_is l n h0 h]
/-- The j-th place of n. -/
theorem idxN_at (l : List Int) (n : Nat) : ∀ (k j : Nat) (x : Int), (idxN l n k)[j]? = some x → ∃ i : Nat, x = i ∧ i < k ∧ l.getD i 0 = n ∧ (idxN l n i).length = j := by
  intro k
  induction k with
  | zero => intro j x h; simp [idxN] at h
  | succ k ih =>
    intro j x h
    rw [idxN_succ] at h
    by_cases hj : j < (idxN l n k).length
    · rw [List.getElem?_append_left hj] at h
      obtain ⟨i, h1, h2, h3⟩ := ih j x h
      exact ⟨i, h1, by omega, h3⟩
    · rw [List.getElem?_append_right (by omega)] at h
      by_cases he : l.getD k 0 = (n : Int)
      · rw [if_pos he] at h
        have h1 : j - (idxN l n k).length < 1 := by
          have := (List.getElem?_eq_some_iff.1 h).1
          simpa using this
        rw [show j - (idxN l n k).length = 0 by omega] at h
        simp at h
        exact ⟨k, h.symm, by omega, he, by omega⟩
      · rw [if_neg he] at h; simp at h
theorem idxN_of (l : List Int) (n : Nat) : ∀ (k i : Nat), i < k → l.getD i 0 = n → (idxN l n k)[(idxN l n i).length]? = some (i : Int) := by
  intro k
  induction k with
  | zero => intro i h; omega
  | succ k ih =>
    intro i hi he
    rw [idxN_succ]
    by_cases h : i < k
    · have := ih i h he
      rw [List.getElem?_append_left (List.getElem?_eq_some_iff.1 this).1]
      exact this
    · obtain rfl : i = k := by omega
      rw [List.getElem?_append_right (Nat.le_refl _), if_pos he, Nat.sub_self]
      rfl
theorem rank_n (l : List Int) (i n : Nat) (h : l.getD i 0 = (n : Int)) : rank l i = (idxN l n i).length := by
  unfold rank; rw [h, Int.toNat_natCast]
/-- The symbol that stands at a place of all. -/
theorem syms_at (l : List Int) (n j : Nat) (m : Nat) (hm : n + 1 ≤ m) (hj : j < (idxN l (n + 1) l.length).length) :
    (symsN l m)[(symsN l n).length + j]? = (idxN l (n + 1) l.length)[j]? := by
  induction m with
  | zero => omega
  | succ m ih =>
    simp only [symsN]
    by_cases h : m = n
    · subst h
      rw [List.getElem?_append_right (by omega), Nat.add_sub_cancel_left]
    · have h1 := ih (by omega)
      have h2 : (idxN l (n + 1) l.length)[j]? = some ((idxN l (n + 1) l.length)[j]) := List.getElem?_eq_getElem hj
      rw [h2] at h1
      rw [List.getElem?_append_left (List.getElem?_eq_some_iff.1 h1).1, h1, h2]
/-- One symbol more. -/
theorem codesN_step (l : List Int) (n j i : Nat) (hn : 1 ≤ n) (h : (idxN l n l.length)[j]? = some (i : Int)) : (codesN l n j).set i (firstC l n + j) = codesN l n (j + 1) ∧ i < l.length := by
  obtain ⟨i', e, hi, he, hr⟩ := idxN_at l n _ _ _ h
  obtain rfl : i = i' := by omega
  refine ⟨?_, hi⟩
  apply List.ext_getElem?
  intro q
  rw [List.getElem?_set]
  unfold codesN
  rw [List.length_map, List.length_range]
  by_cases hq : q < l.length
  · rw [List.getElem?_map, List.getElem?_map, List.getElem?_range hq]
    simp only [Option.map_some]
    by_cases hqi : i = q
    · subst hqi
      rw [if_pos rfl, if_pos hq, if_neg (by omega), if_neg (by omega), if_pos ⟨he, by rw [rank_n l i n he]; omega⟩]
      unfold codeAt
      rw [rank_n l i n he, hr, he, Int.toNat_natCast]
    · rw [if_neg hqi]
      by_cases h0 : l.getD q 0 ≤ 0
      · rw [if_pos h0, if_pos h0]
      rw [if_neg h0, if_neg h0]
      by_cases h1 : l.getD q 0 < (n : Int)
      · rw [if_pos h1, if_pos h1]
      rw [if_neg h1, if_neg h1]
      by_cases h2 : l.getD q 0 = (n : Int)
      · have hne : rank l q ≠ j := by
          intro hc
          have := idxN_of l n l.length q hq h2
          rw [← rank_n l q n h2, hc, h] at this
          injection this with this
          omega
        by_cases h3 : rank l q < j
        · rw [if_pos ⟨h2, h3⟩, if_pos ⟨h2, by omega⟩]
        · rw [if_neg (by rintro ⟨_, h⟩; omega), if_neg (by rintro ⟨_, h⟩; omega)]
      · rw [if_neg (fun h => h2 h.1), if_neg (fun h => h2 h.1)]
  · rw [if_neg (by omega), List.getElem?_eq_none (by simp; omega), List.getElem?_eq_none (by simp; omega)]
theorem codesN_end (l : List Int) (n : Nat) (hn : 1 ≤ n) : codesN l n (idxN l n l.length).length = codesN l (n + 1) 0 := by
  unfold codesN
  apply List.map_congr_left
  intro q hq
  rw [List.mem_range] at hq
  by_cases h0 : l.getD q 0 ≤ 0
  · rw [if_pos h0, if_pos h0]
  rw [if_neg h0, if_neg h0]
  by_cases h1 : l.getD q 0 < (n : Int)
  · rw [if_pos h1, if_pos (by omega)]
  rw [if_neg h1]
  by_cases h2 : l.getD q 0 = (n : Int)
  · have := idxN_of l n l.length q hq h2
    rw [if_pos ⟨h2, by rw [rank_n l q n h2]; exact (List.getElem?_eq_some_iff.1 this).1⟩, if_pos (by omega)]
  · rw [if_neg (fun h => h2 h.1), if_neg (by omega), if_neg (by rintro ⟨_, h⟩; omega)]
theorem codesN_start (l : List Int) : codesN l 1 0 = List.replicate l.length 0 := by
  unfold codesN
  apply List.ext_getElem?
  intro q
  by_cases hq : q < l.length
  · rw [List.getElem?_map, List.getElem?_range hq, List.getElem?_replicate, if_pos hq]
    simp only [Option.map_some]
    by_cases h0 : l.getD q 0 ≤ 0
    · rw [if_pos h0]
    · rw [if_neg h0, if_neg (by omega), if_neg (by rintro ⟨_, h⟩; omega)]
  · rw [List.getElem?_eq_none (by simp; omega), List.getElem?_eq_none (by simp; omega)]
theorem codesN_all (l : List Int) (h : okL l = true) : codesN l 16 0 = codesOf l := by
  unfold codesN codesOf
  apply List.map_congr_left
  intro q hq
  rw [List.mem_range] at hq
  have hx : l.getD q 0 ≤ 15 := by
    unfold okL at h
    rw [List.all_eq_true] at h
    have := h (l[q]) (List.getElem_mem hq)
    rw [List.getD_eq_getElem?_getD, List.getElem?_eq_getElem hq, Option.getD_some]
    simp at this
    exact this.2
  by_cases h0 : l.getD q 0 ≤ 0
  · rw [if_pos h0, if_pos h0]
  · rw [if_neg h0, if_neg h0, if_pos (by omega)]
theorem codesN_length (l : List Int) (n j : Nat) : (codesN l n j).length = l.length := by simp [codesN]
theorem errOf_ok (l : List Int) (h : errOf l = 0) : l.length ≤ 320 ∧ okL l = true ∧ badSum l = false := by
  unfold errOf at h
  split at h
  · cases h
  split at h
  · cases h
  split at h
  · cases h
  · rename_i h1 h2 h3
    exact ⟨by omega, by simpa using h2, by simpa using h3⟩
end Go.Proofs.Ytpbhkdamkbopkaa.Ext
