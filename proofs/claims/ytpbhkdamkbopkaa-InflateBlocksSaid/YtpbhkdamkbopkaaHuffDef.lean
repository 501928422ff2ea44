/- What a table of codes is made of: how many lengths there are of each kind, and where they stand. Plain lists, no program. -/
import Derived.RowKit
set_option linter.unusedSimpArgs false
set_option linter.unusedVariables false
namespace Go.Proofs.Ytpbhkdamkbopkaa.Ext

/-- How many of l are n. -/
def cnt (l : List Int) (n : Nat) : Int := ((l.filter fun x => decide (x = (n : Int))).length : Int)
/-- How many there are of each, 0 to 15; with and without the noughts. -/
def cntsAll (l : List Int) : List Int := (List.range 16).map (cnt l)
def cnts (l : List Int) : List Int := (cntsAll l).set 0 0
/-- What is left of 2^15 ahead of length n, and how many codes there are. -/
def roomN (cs : List Int) : Nat → Int
  | 0 => 32768
  | n + 1 => roomN cs n - cs.getD n 0 * 2 ^ (15 - n)
def manyN (cs : List Int) : Nat → Int
  | 0 => 0
  | n + 1 => manyN cs n + cs.getD n 0
/-- The places among the first k of l that hold n. -/
def idxN (l : List Int) (n : Nat) (k : Nat) : List Int := ((List.range k).filter fun i => decide (l.getD i 0 = (n : Int))).map Int.ofNat
/-- The symbols of the lengths 1 to n - 1, in order. -/
def symsN (l : List Int) : Nat → List Int
  | 0 => []
  | n + 1 => symsN l n ++ idxN l (n + 1) l.length
def syms (l : List Int) : List Int := symsN l 15
def okL (l : List Int) : Bool := l.all fun n => decide (0 ≤ n) && decide (n ≤ 15)
def badSum (l : List Int) : Bool :=
  let r := roomN (cnts l) 16
  let m := manyN (cnts l) 16
  decide (r < 0) || (decide (0 < r) && decide (0 < m) && (decide (m ≠ 1) || decide (cnt l 1 ≠ 1)))
/-- The error of lengths. -/
def errOf (l : List Int) : Int := if 320 < l.length then 1 else if okL l = false then 1 else if badSum l = true then 4 else 0

theorem cnt_nonneg (l : List Int) (n : Nat) : 0 ≤ cnt l n := Int.natCast_nonneg _
theorem cnt_le (l : List Int) (n : Nat) : cnt l n ≤ l.length := by
  unfold cnt
  have := List.length_filter_le (fun x => decide (x = (n : Int))) l
  omega
theorem cnt_snoc (l : List Int) (x : Int) (n : Nat) : cnt (l ++ [x]) n = cnt l n + if x = (n : Int) then 1 else 0 := by
  unfold cnt
  rw [List.filter_append, List.length_append]
  by_cases h : x = (n : Int) <;> simp [List.filter_cons, h]
theorem cntsAll_length (l : List Int) : (cntsAll l).length = 16 := by simp [cntsAll]
theorem cntsAll_get (l : List Int) (n : Nat) (h : n < 16) : (cntsAll l)[n]? = some (cnt l n) := by simp [cntsAll, h]
theorem cnts_length (l : List Int) : (cnts l).length = 16 := by simp [cnts, cntsAll]
theorem cntsAll_snoc (l : List Int) (x : Nat) (hx : x < 16) : cntsAll (l ++ [(x : Int)]) = (cntsAll l).set x (cnt l x + 1) := by
  apply List.ext_getElem?
  intro i
  by_cases hi : i < 16
  · rw [cntsAll_get _ _ hi, List.getElem?_set, cnt_snoc]
    by_cases e : x = i
    · subst e; simp [cntsAll_length, hi]
    · have e' : ¬ ((x : Int) = (i : Int)) := by omega
      rw [if_neg e, cntsAll_get _ _ hi]; simp [e']
  · rw [List.getElem?_eq_none (by rw [cntsAll_length]; omega), List.getElem?_eq_none (by rw [List.length_set, cntsAll_length]; omega)]
theorem cnts_get (l : List Int) (n : Nat) (h : n < 16) : (cnts l)[n]? = some (if n = 0 then 0 else cnt l n) := by
  unfold cnts
  rw [List.getElem?_set]
  by_cases e : 0 = n
  · subst e; simp [cntsAll_length]
  · rw [if_neg e, cntsAll_get _ _ h, if_neg (by omega)]
theorem cnts_rng (l : List Int) (n : Nat) : 0 ≤ (cnts l).getD n 0 ∧ (cnts l).getD n 0 ≤ l.length := by
  rw [List.getD_eq_getElem?_getD]
  by_cases h : n < 16
  · rw [cnts_get l n h]
    have := cnt_nonneg l n
    have := cnt_le l n
    simp only [Option.getD_some]
    split <;> omega
  · rw [List.getElem?_eq_none (by rw [cnts_length]; omega)]; simp
theorem take_snoc' (l : List Int) (k : Nat) (h : k < l.length) : l.take (k + 1) = l.take k ++ [l.getD k 0] := by
  rw [List.take_succ_eq_append_getElem h]; simp [List.getD_eq_getElem?_getD, h]
theorem idxN_succ (l : List Int) (n k : Nat) : idxN l n (k + 1) = idxN l n k ++ if l.getD k 0 = (n : Int) then [(k : Int)] else [] := by
  unfold idxN
  rw [List.range_succ, List.filter_append, List.map_append]
  congr 1
  by_cases h : l.getD k 0 = (n : Int)
  · rw [if_pos h, List.filter_cons_of_pos (by simpa using h)]; rfl
  · rw [if_neg h, List.filter_cons_of_neg (by simpa using h)]; rfl
theorem idxN_length (l : List Int) (n k : Nat) : (idxN l n k).length ≤ k := by
  unfold idxN
  rw [List.length_map]
  have := List.length_filter_le (fun i => decide (l.getD i 0 = (n : Int))) (List.range k)
  rw [List.length_range] at this
  exact this
theorem symsN_length (l : List Int) (n : Nat) : (symsN l n).length ≤ n * l.length := by
  induction n with
  | zero => simp [symsN]
  | succ n ih =>
    have := idxN_length l (n + 1) l.length
    simp only [symsN, List.length_append]
    rw [Nat.succ_mul]
    omega
theorem pow_rng (n : Nat) : (1 : Int) ≤ 2 ^ (15 - n) ∧ (2 : Int) ^ (15 - n) ≤ 32768 := by
  have h1 : 2 ^ (15 - n) ≤ 2 ^ 15 := Nat.pow_le_pow_right (by decide) (by omega)
  have h2 : 1 ≤ 2 ^ (15 - n) := Nat.one_le_two_pow
  have e : ((2 ^ (15 - n) : Nat) : Int) = (2 : Int) ^ (15 - n) := by rw [Int.natCast_pow]; rfl
  rw [← e]
  omega
theorem roomN_rng (cs : List Int) (m : Int) (h : ∀ n, 0 ≤ cs.getD n 0 ∧ cs.getD n 0 ≤ m) (hm : m ≤ 320) (n : Nat) : roomN cs n ≤ 32768 ∧ 32768 - (n : Int) * 10485760 ≤ roomN cs n := by
  induction n with
  | zero => show (32768 : Int) ≤ 32768 ∧ 32768 - ((0 : Nat) : Int) * 10485760 ≤ (32768 : Int); omega
  | succ n ih =>
    have hc := h n
    have hp := pow_rng n
    have h1 : 0 ≤ cs.getD n 0 * 2 ^ (15 - n) := Int.mul_nonneg hc.1 (by omega)
    have h2 : cs.getD n 0 * 2 ^ (15 - n) ≤ 320 * 32768 := Int.mul_le_mul (by omega) hp.2 (by omega) (by omega)
    simp only [roomN]
    omega
theorem manyN_rng (cs : List Int) (m : Int) (h : ∀ n, 0 ≤ cs.getD n 0 ∧ cs.getD n 0 ≤ m) (hm : m ≤ 320) (n : Nat) : 0 ≤ manyN cs n ∧ manyN cs n ≤ n * 320 := by
  induction n with
  | zero => show 0 ≤ (0 : Int) ∧ (0 : Int) ≤ ((0 : Nat) : Int) * 320; omega
  | succ n ih =>
    have hc := h n
    simp only [manyN]
    omega
end Go.Proofs.Ytpbhkdamkbopkaa.Ext
