/- What the codes of lengths are, and what is read by them: plain arithmetic. -/
import Derived.Test.YtpbhkdamkbopkaaExtN
import Derived.Test.YtpbhkdamkbopkaaHuffDefB
set_option linter.unusedSimpArgs false
set_option linter.unusedVariables false
namespace Go.Proofs.Ytpbhkdamkbopkaa.Ext
open Go.RowKit Go.Proofs.Ytpbhkdamkbopkaa.PHuffBits Go.Proofs.YtpbhkdamkbopkaaW.PrintWords Go.Proofs.YtpbhkdamkbopkaaW.PrintLast Go.Proofs.YtpbhkdamkbopkaaW.PrintMore

theorem wrap_in {n : Int} (h0 : -9223372036854775808 ≤ n) (h1 : n ≤ 9223372036854775807) : wrap64 n = n := by unfold wrap64; omega

/-- The bit at a place of bytes. -/
def bitN (s : ByteArray) (p : Int) : Int := bt s (p / 8) / 2 ^ (p % 8).toNat % 2
theorem bitN_rng (s : ByteArray) (p : Int) : 0 ≤ bitN s p ∧ bitN s p ≤ 1 := by unfold bitN; omega
theorem bit_is (s : ByteArray) (hs : s.size ≤ 140737488351232) (p : Int) (h0 : 0 ≤ p) (hp : p ≤ 9223372036854775807) :
    huff_Bit.f s p = if p < 8 * s.size then some (bitN s p, true) else some (0, false) := by
  unfold huff_Bit.f
  rw [if_neg (by omega), wrap_in (n := 8 * (s.size : Int)) (by omega) (by omega)]
  by_cases h : p < 8 * s.size
  · rw [if_neg (by omega), if_pos h, Int.tdiv_eq_ediv_of_nonneg h0, Int.tmod_eq_emod_of_nonneg h0, wrap_in (n := p / 8) (by omega) (by omega),
      if_pos (by omega), if_pos (by omega), if_pos (by omega)]
    have e : shr .u8 (bt s (p / 8)) (p % 8) = bt s (p / 8) / 2 ^ (p % 8).toNat := by
      unfold shr
      rw [Nat.min_eq_left (by show (p % 8).toNat ≤ 8; omega)]
    rw [e]
    have hb := bt_range s (p / 8)
    have h1 : 0 ≤ bt s (p / 8) / 2 ^ (p % 8).toNat := Int.ediv_nonneg hb.1 (Int.le_of_lt (Int.pow_pos (by decide)))
    have h2 : bt s (p / 8) / 2 ^ (p % 8).toNat ≤ 255 := Int.le_trans (Int.ediv_le_self _ hb.1) hb.2
    unfold bitN
    generalize bt s (p / 8) / 2 ^ (p % 8).toNat = z at h1 h2
    rw [wrap_in (n := z) (by omega) (by omega), and_1 h1 (by omega)]
  · rw [if_pos (by omega), if_neg h]

/-- The first n bits from pos on, the first one highest. -/
def Vn (s : ByteArray) (pos : Int) : Nat → Int
  | 0 => 0
  | n + 1 => 2 * Vn s pos n + bitN s (pos + n)
theorem Vn_rng (s : ByteArray) (pos : Int) (n : Nat) : 0 ≤ Vn s pos n ∧ Vn s pos n < 2 ^ n := by
  induction n with
  | zero => simp [Vn]
  | succ n ih =>
    have := bitN_rng s (pos + n)
    simp only [Vn]
    rw [Int.pow_succ]
    omega
def Gn (l : List Int) (n : Nat) : Int := firstC l n + cz l n
def Sn (l : List Int) (n : Nat) : Int := ((symsN l n).length : Int)
theorem firstC_succ (l : List Int) (n : Nat) : firstC l (n + 1) = 2 * Gn l n := rfl
theorem Gn_zero (l : List Int) : Gn l 0 = 0 := by
  unfold Gn cz
  rw [List.getD_eq_getElem?_getD, cnts_get l 0 (by decide)]; rfl
theorem Sn_succ (l : List Int) (n : Nat) (h : n + 1 < 16) : Sn l (n + 1) = Sn l n + cz l (n + 1) := by
  unfold Sn
  rw [← idxN_cz l (n + 1) (by omega) h]
  simp only [symsN, List.length_append]
  omega
theorem Sn_rng (l : List Int) (h : l.length ≤ 320) (n : Nat) (hn : n ≤ 15) : 0 ≤ Sn l n ∧ Sn l n ≤ 4800 := by
  unfold Sn
  have h1 := symsN_length l n
  have h2 : n * l.length ≤ 15 * 320 := Nat.mul_le_mul hn h
  omega

/-- One length is tried. -/
theorem nxt_step (l : List Int) (hl : l.length ≤ 320) (s : ByteArray) (hs : s.size ≤ 140737488351232) (pos : Int) (h0 : 0 ≤ pos) (hp : pos ≤ 4611686018427387904) (n d : Nat) (hn : n + d = 14) (hV : Gn l n ≤ Vn s pos n) :
    nxt (cnts l) (syms l) s (d + 1) (pos + n) (Vn s pos n) (Gn l n) (Sn l n) =
      if pos + n < 8 * s.size then
        (if Vn s pos (n + 1) < Gn l (n + 1) then some ((idxN l (n + 1) l.length).getD (Vn s pos (n + 1) - firstC l (n + 1)).toNat 0, pos + (n + 1 : Nat), 0)
         else if Sn l (n + 1) = (syms l).length then some (0, 0, 4)
         else nxt (cnts l) (syms l) s d (pos + (n + 1 : Nat)) (Vn s pos (n + 1)) (Gn l (n + 1)) (Sn l (n + 1)))
      else some (0, 0, 2) := by
  have hc : (cnts l).getD (15 - d) 0 = cz l (n + 1) := by rw [show 15 - d = n + 1 by omega]; rfl
  have hS := Sn_succ l n (by omega)
  have hF : firstC l (n + 1) = 2 * Gn l n := rfl
  have hG : Gn l (n + 1) = 2 * Gn l n + cz l (n + 1) := rfl
  have hV1 : Vn s pos (n + 1) = 2 * Vn s pos n + bitN s (pos + n) := rfl
  have hbr := bitN_rng s (pos + n)
  have hq0 : 0 ≤ pos + n := by omega
  have hq1 : pos + n ≤ 9223372036854775807 := by omega
  simp only [nxt]
  rw [bit_is s hs (pos + n) hq0 hq1]
  by_cases hb : pos + n < 8 * s.size
  · rw [if_pos hb, if_pos hb]
    simp only [Option.bind_some]
    have hw : wrap64 (pos + n + 1) = pos + (n + 1 : Nat) := by rw [wrap_in (by omega) (by omega)]; omega
    rw [if_neg (by simp), hc, hw, ← hV1, ← hG]
    clear hw
    by_cases hlt : Vn s pos (n + 1) < Gn l (n + 1)
    · rw [if_pos hlt, if_pos hlt, ← hF]
      have hj : ∃ j : Nat, Vn s pos (n + 1) - firstC l (n + 1) = j ∧ (j : Int) < cz l (n + 1) := by
        rw [hV1, hF]
        rw [hV1, hG] at hlt
        generalize Vn s pos n = v at hV hlt
        generalize Gn l n = g at hV hlt
        generalize bitN s (pos + n) = b at hbr hlt
        exact ⟨(2 * v + b - 2 * g).toNat, by omega, by omega⟩
      obtain ⟨j, ej, hjc⟩ := hj
      have hji : j < (idxN l (n + 1) l.length).length := by have := idxN_cz l (n + 1) (by omega) (by omega); omega
      have hsy := syms_at l n j 15 (by omega) hji
      have hlen : (symsN l n).length + j < (syms l).length := by
        rw [List.getElem?_eq_getElem hji] at hsy
        exact (List.getElem?_eq_some_iff.1 hsy).1
      have e1 : Sn l n + Vn s pos (n + 1) - firstC l (n + 1) = ((symsN l n).length + j : Nat) := by
        unfold Sn
        generalize Vn s pos (n + 1) = v at ej
        generalize firstC l (n + 1) = f at ej
        omega
      have e2 : (syms l).getD ((symsN l n).length + j) 0 = (idxN l (n + 1) l.length).getD j 0 := by
        rw [List.getD_eq_getElem?_getD, List.getD_eq_getElem?_getD]
        unfold syms
        rw [hsy]
      rw [e1, if_pos ⟨Int.natCast_nonneg _, Int.ofNat_lt.2 hlen⟩, ej, Int.toNat_natCast, Int.toNat_natCast, e2]
    · rw [if_neg hlt, if_neg hlt, hS]
  · rw [if_neg hb, if_neg hb]
    rfl

/-! ### How much room the codes take -/
theorem pow_split (n : Nat) (h : n + 1 ≤ 15) : (2 : Int) ^ (15 - n) = 2 * 2 ^ (15 - (n + 1)) := by
  rw [show 15 - n = (15 - (n + 1)) + 1 by omega, Int.pow_succ, Int.mul_comm]
theorem Gn_succ (l : List Int) (n : Nat) : Gn l (n + 1) = 2 * Gn l n + cz l (n + 1) := rfl
theorem Gn_nonneg (l : List Int) (n : Nat) : 0 ≤ Gn l n := by
  induction n with
  | zero => rw [Gn_zero]; exact Int.le_refl 0
  | succ n ih => have := cz_rng l (n + 1); rw [Gn_succ]; omega
theorem Gn_room (l : List Int) : ∀ n, n ≤ 15 → Gn l n * 2 ^ (15 - n) = 32768 - roomN (cnts l) (n + 1) := by
  intro n
  induction n with
  | zero =>
    intro _
    rw [Gn_zero]
    have h0 : cz l 0 = 0 := by have := Gn_zero l; unfold Gn firstC at this; omega
    show 0 * 2 ^ 15 = 32768 - (32768 - cz l 0 * 2 ^ (15 - 0))
    rw [h0]; simp
  | succ n ih =>
    intro hn
    have h1 := ih (by omega)
    rw [pow_split n hn] at h1
    have h2 : roomN (cnts l) (n + 1 + 1) = roomN (cnts l) (n + 1) - cz l (n + 1) * 2 ^ (15 - (n + 1)) := rfl
    rw [h2, Gn_succ, Int.add_mul]
    have h3 : 2 * Gn l n * 2 ^ (15 - (n + 1)) = Gn l n * (2 * 2 ^ (15 - (n + 1))) := by
      rw [Int.mul_comm 2, Int.mul_assoc]
    rw [h3]
    omega
theorem many_Sn (l : List Int) : ∀ n, n ≤ 15 → manyN (cnts l) (n + 1) = Sn l n := by
  intro n
  induction n with
  | zero =>
    intro _
    have h0 : cz l 0 = 0 := by have := Gn_zero l; unfold Gn firstC at this; omega
    show 0 + cz l 0 = ((symsN l 0).length : Int)
    rw [h0]; rfl
  | succ n ih =>
    intro hn
    rw [Sn_succ l n (by omega), ← ih (by omega)]
    rfl
theorem syms_Sn (l : List Int) : ((syms l).length : Int) = Sn l 15 := rfl
/-- Lengths that may be: full, or none, or a single one of one bit. -/
theorem good_sum (l : List Int) (h : badSum l = false) : Gn l 15 = 32768 ∨ Sn l 15 = 0 ∧ Gn l 15 ≤ 32768 ∨ Sn l 15 = 1 ∧ cz l 1 = 1 ∧ Gn l 15 ≤ 32768 := by
  have h1 := Gn_room l 15 (Nat.le_refl _)
  have h2 := many_Sn l 15 (Nat.le_refl _)
  have h3 : cz l 1 = cnt l 1 := cz_is l 1 (by decide) (by decide)
  unfold badSum at h
  rw [show (15 : Nat) + 1 = 16 from rfl] at h1 h2
  rw [h2] at h
  rw [h3]
  simp only [Nat.sub_self, Int.pow_zero, Int.mul_one] at h1
  have hs : 0 ≤ Sn l 15 := Int.natCast_nonneg _
  simp only [Bool.or_eq_false_iff, Bool.and_eq_false_iff, decide_eq_false_iff_not] at h
  obtain ⟨ha, hb⟩ := h
  rcases hb with (hb | hb) | ⟨hb, hc⟩
  · left; omega
  · right; left; omega
  · right; right
    have e1 : Sn l 15 = 1 := by omega
    have e2 : cnt l 1 = 1 := by omega
    exact ⟨e1, e2, by omega⟩
theorem Gn_mono (l : List Int) (n m : Nat) (h : n ≤ m) : Gn l n * 2 ^ (m - n) ≤ Gn l m := by
  induction m with
  | zero => obtain rfl : n = 0 := (by omega); simp
  | succ m ih =>
    by_cases e : n = m + 1
    · subst e; simp
    · have h1 := ih (by omega)
      have := cz_rng l (m + 1)
      rw [Gn_succ, show m + 1 - n = (m - n) + 1 by omega, Int.pow_succ, ← Int.mul_assoc]
      omega
theorem Sn_mono (l : List Int) (n m : Nat) (h : n ≤ m) (hm : m ≤ 15) : Sn l n ≤ Sn l m := by
  induction m with
  | zero => obtain rfl : n = 0 := (by omega); exact Int.le_refl _
  | succ m ih =>
    by_cases e : n = m + 1
    · subst e; exact Int.le_refl _
    · have h1 := ih (by omega) (by omega)
      have := cz_rng l (m + 1)
      rw [Sn_succ l m (by omega)]
      omega
/-- If no code is longer than n, the room is what the codes up to n take. -/
theorem Gn_stop (l : List Int) (n m : Nat) (h : n ≤ m) (hm : m ≤ 15) (hs : Sn l n = Sn l m) : Gn l m = Gn l n * 2 ^ (m - n) := by
  induction m with
  | zero => obtain rfl : n = 0 := (by omega); simp
  | succ m ih =>
    by_cases e : n = m + 1
    · subst e; simp
    · have h1 := Sn_mono l n m (by omega) (by omega)
      have h2 := Sn_succ l m (by omega)
      have h3 := cz_rng l (m + 1)
      have h4 := ih (by omega) (by omega) (by omega)
      rw [Gn_succ, show m + 1 - n = (m - n) + 1 by omega, Int.pow_succ, ← Int.mul_assoc, h4]
      omega
/-- Where the codes are full, bits that begin with no code up to n begin a longer one. -/
theorem full_goes (l : List Int) (hf : Gn l 15 = 32768) (n : Nat) (hn : n ≤ 15) (v : Int) (h0 : Gn l n ≤ v) (h1 : v < 2 ^ n) : Sn l n ≠ Sn l 15 := by
  intro hs
  have h2 := Gn_stop l n 15 hn (Nat.le_refl _) hs
  rw [hf] at h2
  have h3 : (2 : Int) ^ n * 2 ^ (15 - n) = 32768 := by rw [← Int.pow_add, show n + (15 - n) = 15 by omega]; decide
  have h4 : (0 : Int) < 2 ^ (15 - n) := Int.pow_pos (by decide)
  have h5 : Gn l n * 2 ^ (15 - n) < 2 ^ n * 2 ^ (15 - n) := Int.mul_lt_mul_of_pos_right (by omega) h4
  omega
/-- The symbol of a code of length n. -/
theorem symbol_is (l : List Int) (n : Nat) (h0 : 1 ≤ n) (h : n < 16) (v : Int) (h1 : firstC l n ≤ v) (h2 : v < Gn l n) :
    ∃ i : Nat, (idxN l n l.length).getD (v - firstC l n).toNat 0 = i ∧ i < l.length ∧ l.getD i 0 = n ∧ codeAt l i = v := by
  obtain ⟨j, ej⟩ : ∃ j : Nat, v - firstC l n = j := ⟨(v - firstC l n).toNat, by omega⟩
  have hc := idxN_cz l n h0 h
  have hj : j < (idxN l n l.length).length := by unfold Gn at h2; omega
  obtain ⟨i, e, hi, he, hr⟩ := idxN_at l n _ j _ (List.getElem?_eq_getElem hj)
  refine ⟨i, ?_, hi, he, ?_⟩
  · rw [ej, Int.toNat_natCast, List.getD_eq_getElem?_getD, List.getElem?_eq_getElem hj]
    exact e
  · unfold codeAt
    rw [rank_n l i n he, hr, he, Int.toNat_natCast]
    omega
theorem symbol_at (l : List Int) (i n : Nat) (h0 : 1 ≤ n) (h : n < 16) (hi : i < l.length) (he : l.getD i 0 = n) :
    firstC l n ≤ codeAt l i ∧ codeAt l i < Gn l n ∧ (idxN l n l.length).getD (codeAt l i - firstC l n).toNat 0 = i := by
  have h1 := idxN_of l n l.length i hi he
  have h2 := (List.getElem?_eq_some_iff.1 h1).1
  have h3 := idxN_cz l n h0 h
  unfold codeAt Gn
  rw [rank_n l i n he, he, Int.toNat_natCast]
  refine ⟨by omega, by omega, ?_⟩
  rw [show firstC l n + ((idxN l n i).length : Int) - firstC l n = ((idxN l n i).length : Int) by omega, Int.toNat_natCast, List.getD_eq_getElem?_getD, h1]
  rfl
theorem code_inj (l : List Int) (i j n : Nat) (h0 : 1 ≤ n) (h : n < 16) (hi : i < l.length) (hj : j < l.length) (he : l.getD i 0 = n) (hf : l.getD j 0 = n) (hc : codeAt l i = codeAt l j) : i = j := by
  have h1 := (symbol_at l i n h0 h hi he).2.2
  have h2 := (symbol_at l j n h0 h hj hf).2.2
  rw [hc, h2] at h1
  omega
end Go.Proofs.Ytpbhkdamkbopkaa.Ext
