/- The reference packs and wraps any bytes as the program does. -/
import Derived.Test.YtpbhkdamkbopkaaBitMath
import Derived.Test.YtpbhkdamkbopkaaHuffDefB
import Derived.Test.YtpbhkdamkbopkaaWMore
import Derived.Test.YtpbhkdamkbopkaaWNEv
import Derived.Test.YtpbhkdamkbopkaaGDeflx2
import Derived.Test.YtpbhkdamkbopkaaGDeflx3
import Derived.Test.YtpbhkdamkbopkaaGDeflx4
import Derived.Test.YtpbhkdamkbopkaaGDeflx1
import Derived.Test.YtpbhkdamkbopkaaGDeflx5
import Derived.Test.YtpbhkdamkbopkaaGDeflx7
/- Bits packed into bytes that stand there as noughts, one bit after the other. -/
namespace Go.Proofs.Ytpbhkdamkbopkaa.Wr
open Go.RowKit

/-- The bytes, i of the bits being laid down. -/
def pack (l : List Int) (i : Nat) : List Int := pk (l.take i) ++ List.replicate ((l.length + 7) / 8 - (pk (l.take i)).length) 0
theorem take_next (l : List Int) (i : Nat) (h : i < l.length) : l.take (i + 1) = l.take i ++ [l.getD i 0] := by
  rw [List.take_succ_eq_append_getElem h]; simp [List.getD_eq_getElem?_getD, h]
theorem pack_zero (l : List Int) : pack l 0 = List.replicate ((l.length + 7) / 8) 0 := by
  unfold pack
  simp [pk_nil]
theorem pack_all (l : List Int) : pack l l.length = pk l := by
  unfold pack
  rw [List.take_length, pk_len, Nat.sub_self]
  simp
theorem pack_len (l : List Int) (i : Nat) (h : i ≤ l.length) : (pack l i).length = (l.length + 7) / 8 := by
  unfold pack
  rw [List.length_append, List.length_replicate, pk_len, List.length_take]
  omega
theorem set_at (P Q : List Int) (x y : Int) (n : Nat) (h : P.length = n) : (P ++ x :: Q).set n y = P ++ y :: Q ∧ (P ++ x :: Q).getD n 0 = x := by
  subst h
  constructor
  · rw [List.set_append_right _ _ (Nat.le_refl _), Nat.sub_self]; rfl
  · rw [List.getD_eq_getElem?_getD, List.getElem?_append_right (Nat.le_refl _), Nat.sub_self]; rfl
theorem pack_step (l : List Int) (i : Nat) (h : i < l.length) : pack l (i + 1) = (pack l i).set (i / 8) ((pack l i).getD (i / 8) 0 + l.getD i 0 * 2 ^ (i % 8)) := by
  have hT : (l.take i).length = i := by rw [List.length_take]; omega
  have hP : (pk (l.take i)).length = (i + 7) / 8 := by rw [pk_len, hT]
  have hN : pk (l.take (i + 1)) = put1 (pk (l.take i)) i (l.getD i 0) := by rw [take_next l i h, pk_snoc, hT]
  unfold pack
  rw [hN]
  generalize pk (l.take i) = P at hP ⊢
  unfold put1
  by_cases c : i % 8 = 0
  · rw [if_pos c, c]
    obtain ⟨m, hm⟩ : ∃ m, (l.length + 7) / 8 - P.length = m + 1 := ⟨(l.length + 7) / 8 - P.length - 1, by omega⟩
    have e := set_at P (List.replicate m 0) 0 (0 + l.getD i 0 * 2 ^ 0) (i / 8) (by omega)
    rw [hm, List.replicate_succ, e.2, e.1, List.length_append, List.length_singleton, show (l.length + 7) / 8 - (P.length + 1) = m by omega]
    simp
  · rw [if_neg c, List.length_set, show P.length - 1 = i / 8 by omega, List.set_append_left _ _ (by omega)]
    congr 3
    rw [List.getD_eq_getElem?_getD, List.getD_eq_getElem?_getD, List.getElem?_append_left (by omega)]
theorem pack_rng (l : List Int) (hl : Bits l) (i : Nat) : ∀ x ∈ pack l i, 0 ≤ x ∧ x ≤ 255 := by
  intro x hx
  rcases List.mem_append.1 hx with hx | hx
  · exact (pk_rng (B := l.take i) (fun b hb => hl b (List.mem_of_mem_take hb))).1 x hx
  · rw [List.eq_of_mem_replicate hx]; decide
/-- A byte that is laid down is one. -/
theorem pack_byte (l : List Int) (hl : Bits l) (i : Nat) (h : i < l.length) : 0 ≤ (pack l i).getD (i / 8) 0 ∧ 0 ≤ (pack l i).getD (i / 8) 0 + l.getD i 0 * 2 ^ (i % 8) ∧ (pack l i).getD (i / 8) 0 + l.getD i 0 * 2 ^ (i % 8) ≤ 255 := by
  have hlen := pack_len l i (by omega)
  have h8 : i / 8 < (pack l i).length := by omega
  have g : ∀ (L : List Int) (n : Nat), n < L.length → L.getD n 0 ∈ L := fun L n hn => by
    rw [List.getD_eq_getElem?_getD, List.getElem?_eq_getElem hn]; exact List.getElem_mem hn
  have r0 := pack_rng l hl i _ (g _ _ h8)
  have r1 := pack_rng l hl (i + 1) ((pack l i).getD (i / 8) 0 + l.getD i 0 * 2 ^ (i % 8)) (by rw [pack_step l i h]; exact List.mem_set h8 _)
  exact ⟨r0.1, r1.1, r1.2⟩
end Go.Proofs.Ytpbhkdamkbopkaa.Wr
/- The codes of lengths that the reference tells, in closed form. -/
set_option linter.unusedSimpArgs false
set_option linter.unusedVariables false
namespace Go.Proofs.Ytpbhkdamkbopkaa.RefCo
open Go.RowKit Go.Proofs.Ytpbhkdamkbopkaa.Ext Go.Proofs.Ytpbhkdamkbopkaa.GDefl Go.Proofs.YtpbhkdamkbopkaaW.PrintWords Go.Proofs.YtpbhkdamkbopkaaW.PrintLast Go.Proofs.YtpbhkdamkbopkaaW.PrintMore

theorem wrap_in {n : Int} (h0 : -9223372036854775808 ≤ n) (h1 : n ≤ 9223372036854775807) : wrap64 n = n := by unfold wrap64; omega

def Gn (l : List Int) (n : Nat) : Int := firstC l n + cz l n
theorem firstC_succ (l : List Int) (n : Nat) : firstC l (n + 1) = 2 * Gn l n := rfl
theorem Gn_zero (l : List Int) : Gn l 0 = 0 := by
  unfold Gn cz
  rw [List.getD_eq_getElem?_getD, cnts_get l 0 (by decide)]; rfl
theorem pow_split (n : Nat) (h : n + 1 ≤ 15) : (2 : Int) ^ (15 - n) = 2 * 2 ^ (15 - (n + 1)) := by
  rw [show 15 - n = (15 - (n + 1)) + 1 by omega, Int.pow_succ, Int.mul_comm]
theorem Gn_succ (l : List Int) (n : Nat) : Gn l (n + 1) = 2 * Gn l n + cz l (n + 1) := rfl
theorem Gn_nonneg (l : List Int) (n : Nat) : 0 ≤ Gn l n := by
  induction n with
  | zero => rw [Gn_zero]; exact Int.le_refl 0
  | succ n ih => have := cz_rng l (n + 1); rw [Gn_succ]; omega
theorem Gn_room (l : List Int) : ∀ n, n ≤ 15 → Gn l n * 2 ^ (15 - n) = 32768 - roomN (cnts l) (n + 1) := by
  intro n
  induction n with
  | zero =>
    intro _
    rw [Gn_zero]
    have h0 : cz l 0 = 0 := by have := Gn_zero l; unfold Gn firstC at this; omega
    show 0 * 2 ^ 15 = 32768 - (32768 - cz l 0 * 2 ^ (15 - 0))
    rw [h0]; simp
  | succ n ih =>
    intro hn
    have h1 := ih (by omega)
    rw [pow_split n hn] at h1
    have h2 : roomN (cnts l) (n + 1 + 1) = roomN (cnts l) (n + 1) - cz l (n + 1) * 2 ^ (15 - (n + 1)) := rfl
    rw [h2, Gn_succ, Int.add_mul]
    have h3 : 2 * Gn l n * 2 ^ (15 - (n + 1)) = Gn l n * (2 * 2 ^ (15 - (n + 1))) := by
      rw [Int.mul_comm 2, Int.mul_assoc]
    rw [h3]
    omega
def half (n : Nat) : Int := 32768 / 2 ^ n
theorem half_succ (n : Nat) : half (n + 1) = half n / 2 := by
  unfold half
  rw [Int.pow_succ, Int.ediv_ediv_of_nonneg (Int.le_of_lt (Int.pow_pos (by decide)))]
theorem half_rng (n : Nat) : 0 ≤ half n ∧ half n ≤ 32768 := by
  unfold half
  exact ⟨Int.ediv_nonneg (by decide) (Int.le_of_lt (Int.pow_pos (by decide))), Int.ediv_le_self _ (by decide)⟩
theorem half_is (n : Nat) (h : n ≤ 15) : half n = 2 ^ (15 - n) := by
  unfold half
  have e : (32768 : Int) = 2 ^ (15 - n) * 2 ^ n := by rw [← Int.pow_add, show 15 - n + n = 15 by omega]; decide
  rw [e, Int.mul_ediv_cancel _ (Int.ne_of_gt (Int.pow_pos (by decide)))]
theorem rd_nat (l : List Int) (k : Nat) : rd l k = l.getD k 0 := by unfold rd; rw [Int.toNat_natCast]
theorem ok_at (l : List Int) (h : okL l = true) (i : Nat) (hi : i < l.length) : ∃ n : Nat, l.getD i 0 = n ∧ n ≤ 15 := by
  have hm : l.getD i 0 ∈ l := by rw [List.getD_eq_getElem?_getD, List.getElem?_eq_getElem hi]; exact List.getElem_mem hi
  have h2 := List.all_eq_true.1 h _ hm
  generalize l.getD i 0 = z at h2 ⊢
  simp at h2
  exact ⟨z.toNat, by omega, by omega⟩
theorem cz_snoc (a : List Int) (x : Int) (n : Nat) (h : n < 16) : cz (a ++ [x]) n = cz a n + if x = n ∧ 0 < n then 1 else 0 := by
  unfold cz
  rw [List.getD_eq_getElem?_getD, List.getD_eq_getElem?_getD, cnts_get _ _ h, cnts_get _ _ h]
  simp only [Option.getD_some]
  by_cases h0 : n = 0
  · rw [if_pos h0, if_pos h0, if_neg (by omega)]; rfl
  · rw [if_neg h0, if_neg h0, cnt_snoc]
    by_cases hx : x = (n : Int)
    · rw [if_pos hx, if_pos ⟨hx, by omega⟩]
    · rw [if_neg hx, if_neg (fun h => hx h.1)]
theorem room_snoc (a : List Int) (x : Int) (n : Nat) (h : n ≤ 16) : roomN (cnts (a ++ [x])) n = roomN (cnts a) n - if 0 < x ∧ x < n then 2 ^ (15 - x.toNat) else 0 := by
  induction n with
  | zero => rw [if_neg (by omega)]; rfl
  | succ n ih =>
    have h1 : roomN (cnts (a ++ [x])) (n + 1) = roomN (cnts (a ++ [x])) n - cz (a ++ [x]) n * 2 ^ (15 - n) := rfl
    have h2 : roomN (cnts a) (n + 1) = roomN (cnts a) n - cz a n * 2 ^ (15 - n) := rfl
    have hc := cz_snoc a x n (by omega)
    rw [h1, h2, ih (by omega)]
    by_cases hx : x = (n : Int)
    · by_cases h0 : 0 < n
      · rw [if_pos (show x = (n : Int) ∧ 0 < n from ⟨hx, h0⟩)] at hc
        rw [hc, if_neg (show ¬ (0 < x ∧ x < (n : Int)) by omega), if_pos (show 0 < x ∧ x < ((n + 1 : Nat) : Int) by omega), Int.add_mul, hx, Int.toNat_natCast]
        omega
      · rw [if_neg (show ¬ (x = (n : Int) ∧ 0 < n) by omega)] at hc
        rw [hc, if_neg (show ¬ (0 < x ∧ x < (n : Int)) by omega), if_neg (show ¬ (0 < x ∧ x < ((n + 1 : Nat) : Int)) by omega), Int.add_zero]
        omega
    · rw [if_neg (show ¬ (x = (n : Int) ∧ 0 < n) from fun h => hx h.1), Int.add_zero] at hc
      rw [hc]
      by_cases h3 : 0 < x ∧ x < n
      · rw [if_pos h3, if_pos (show 0 < x ∧ x < ((n + 1 : Nat) : Int) by omega)]
        omega
      · rw [if_neg h3, if_neg (show ¬ (0 < x ∧ x < ((n + 1 : Nat) : Int)) by omega)]
        omega
theorem many_snoc (a : List Int) (x : Int) (n : Nat) (h : n ≤ 16) : manyN (cnts (a ++ [x])) n = manyN (cnts a) n + if 0 < x ∧ x < n then 1 else 0 := by
  induction n with
  | zero => rw [if_neg (by omega)]; rfl
  | succ n ih =>
    have h1 : manyN (cnts (a ++ [x])) (n + 1) = manyN (cnts (a ++ [x])) n + cz (a ++ [x]) n := rfl
    have h2 : manyN (cnts a) (n + 1) = manyN (cnts a) n + cz a n := rfl
    have hc := cz_snoc a x n (by omega)
    rw [h1, h2, ih (by omega)]
    by_cases hx : x = (n : Int)
    · by_cases h0 : 0 < n
      · rw [if_pos (show x = (n : Int) ∧ 0 < n from ⟨hx, h0⟩)] at hc
        rw [hc, if_neg (show ¬ (0 < x ∧ x < (n : Int)) by omega), if_pos (show 0 < x ∧ x < ((n + 1 : Nat) : Int) by omega)]
        omega
      · rw [if_neg (show ¬ (x = (n : Int) ∧ 0 < n) by omega)] at hc
        rw [hc, if_neg (show ¬ (0 < x ∧ x < (n : Int)) by omega), if_neg (show ¬ (0 < x ∧ x < ((n + 1 : Nat) : Int)) by omega), Int.add_zero]
        omega
    · rw [if_neg (show ¬ (x = (n : Int) ∧ 0 < n) from fun h => hx h.1), Int.add_zero] at hc
      rw [hc]
      by_cases h3 : 0 < x ∧ x < n
      · rw [if_pos h3, if_pos (show 0 < x ∧ x < ((n + 1 : Nat) : Int) by omega)]
        omega
      · rw [if_neg h3, if_neg (show ¬ (0 < x ∧ x < ((n + 1 : Nat) : Int)) by omega)]
        omega
theorem room_nil (n : Nat) (h : n ≤ 16) : roomN (cnts []) n = 32768 ∧ manyN (cnts []) n = 0 := by
  have hz : ∀ m, cz [] m = 0 := fun m => by have := cz_rng [] m; simp at this; omega
  induction n with
  | zero => exact ⟨rfl, rfl⟩
  | succ n ih =>
    have h1 : roomN (cnts []) (n + 1) = roomN (cnts []) n - cz [] n * 2 ^ (15 - n) := rfl
    have h2 : manyN (cnts []) (n + 1) = manyN (cnts []) n + cz [] n := rfl
    rw [h1, h2, hz n, (ih (by omega)).1, (ih (by omega)).2]
    simp
def ahead (l : List Int) (i : Nat) : Nat → Int
  | 0 => 0
  | q + 1 => ahead l i q + if 0 < l.getD q 0 ∧ (l.getD q 0 < l.getD i 0 ∨ l.getD q 0 = l.getD i 0 ∧ q < i) then half (l.getD q 0).toNat else 0
theorem ahead_rng (l : List Int) (i q : Nat) : 0 ≤ ahead l i q ∧ ahead l i q ≤ 32768 * q := by
  induction q with
  | zero => simp [ahead]
  | succ q ih =>
    have := half_rng (l.getD q 0).toNat
    simp only [ahead]
    split <;> omega
theorem ahead_is (l : List Int) (h : okL l = true) (i : Nat) (hi : i < l.length) (n : Nat) (hn : l.getD i 0 = n) (h0 : 0 < n) (hn15 : n ≤ 15) : ∀ q, q ≤ l.length →
    ahead l i q = 32768 - roomN (cnts (l.take q)) n + ((idxN l n (min q i)).length : Int) * 2 ^ (15 - n) := by
  intro q
  induction q with
  | zero => intro _; rw [List.take_zero, (room_nil n (by omega)).1, Nat.zero_min]; simp [ahead, idxN]
  | succ q ih =>
    intro hq
    obtain ⟨m, em, hm⟩ := ok_at l h q (by omega)
    have ih := ih (by omega)
    rw [take_snoc' l q (by omega), room_snoc _ _ n (by omega), em]
    simp only [ahead]
    rw [ih, em, hn, Int.toNat_natCast, half_is m hm]
    by_cases hqi : q < i
    · rw [show min (q + 1) i = q + 1 by omega, show min q i = q by omega, idxN_succ, em, List.length_append]
      by_cases hmn : m = n
      · subst hmn
        rw [if_pos (show 0 < (m : Int) ∧ ((m : Int) < m ∨ (m : Int) = m ∧ q < i) from ⟨by omega, .inr ⟨rfl, hqi⟩⟩), if_neg (show ¬ (0 < (m : Int) ∧ (m : Int) < m) by omega), if_pos rfl]
        simp only [List.length_singleton, Int.natCast_add, Int.add_mul]
        omega
      · have hz : ((idxN l n q).length + (if (m : Int) = (n : Int) then [(q : Int)] else []).length : Nat) = (idxN l n q).length := by
          rw [if_neg (by omega)]; rfl
        rw [hz]
        by_cases hlt : 0 < (m : Int) ∧ (m : Int) < n
        · rw [if_pos hlt, if_pos (show 0 < (m : Int) ∧ ((m : Int) < n ∨ (m : Int) = n ∧ q < i) from ⟨hlt.1, .inl hlt.2⟩)]
          omega
        · rw [if_neg hlt, if_neg (show ¬ (0 < (m : Int) ∧ ((m : Int) < n ∨ (m : Int) = n ∧ q < i)) by omega)]
          omega
    · rw [show min (q + 1) i = i by omega, show min q i = i by omega]
      by_cases hlt : 0 < (m : Int) ∧ (m : Int) < n
      · rw [if_pos hlt, if_pos (show 0 < (m : Int) ∧ ((m : Int) < n ∨ (m : Int) = n ∧ q < i) from ⟨hlt.1, .inl hlt.2⟩)]
        omega
      · rw [if_neg hlt, if_neg (show ¬ (0 < (m : Int) ∧ ((m : Int) < n ∨ (m : Int) = n ∧ q < i)) by omega)]
        omega
theorem firstC_room (l : List Int) (n : Nat) (h0 : 0 < n) (hn : n ≤ 15) : firstC l n * 2 ^ (15 - n) = 32768 - roomN (cnts l) n := by
  obtain ⟨m, rfl⟩ : ∃ m, n = m + 1 := ⟨n - 1, by omega⟩
  have h1 := Gn_room l m (by omega)
  rw [pow_split m hn] at h1
  rw [firstC_succ, Int.mul_comm 2, Int.mul_assoc]
  exact h1
/-- All that stands ahead, in units of the code's own last bit. -/
theorem ahead_code (l : List Int) (h : okL l = true) (i : Nat) (hi : i < l.length) (n : Nat) (hn : l.getD i 0 = n) (h0 : 0 < n) (hn15 : n ≤ 15) : ahead l i l.length / 2 ^ (15 - n) = codeAt l i := by
  rw [ahead_is l h i hi n hn h0 hn15 l.length (Nat.le_refl _), List.take_length, ← firstC_room l n h0 hn15, show min l.length i = i by omega, ← Int.add_mul,
    Int.mul_ediv_cancel _ (Int.ne_of_gt (Int.pow_pos (by decide)))]
  unfold codeAt
  rw [rank_n l i n hn, hn, Int.toNat_natCast]
theorem refcodes_l2 (l out : List Int) (i q : Nat) (hq : q < l.length) (n : Nat) (hn : l.getD q 0 = n) (hn15 : n ≤ 15) (sum : Int) (hs0 : 0 ≤ sum) (hs1 : sum ≤ 32768 * 400) (hl : l.length ≤ 320) (r : List Int)
    (h : Ev (fun k => celluloidref04_Codes.l1 k l out i (sum + half n) ((q + 1 : Nat) : Int)) r) (d : Nat) : ∀ j : Nat, j + d = n →
    Ev (fun k => celluloidref04_Codes.l2 k l out i sum q (half j) j) r := by
  have hrd : rd l q = n := by rw [rd_nat]; exact hn
  have hq1 : (q : Int) < l.length := by omega
  have e1 : Aside0 (wrap64 ((q : Int) + 1) = ((q + 1 : Nat) : Int)) := ⟨by rw [wrap_in (by omega) (by omega)]; rfl⟩
  induction d with
  | zero =>
    intro j hj
    obtain rfl : j = n := by omega
    have hh := half_rng j
    obtain ⟨K, h⟩ := h
    dsimp only at h
    have e2 : Aside0 (wrap64 (sum + half j) = sum + half j) := ⟨wrap_in (by omega) (by omega)⟩
    refine ⟨K + 1, fun k hk => ?_⟩
    obtain ⟨k, rfl⟩ : ∃ q, k = q + 1 := ⟨k - 1, by omega⟩
    simp only [celluloidref04_Codes.l2]
    rw [if_pos (Int.natCast_nonneg _), if_pos hq1, hrd, if_neg (Int.lt_irrefl _), e2.out, e1.out]
    exact h k (by omega)
  | succ d ih =>
    intro j hj
    obtain ⟨K, hd⟩ := ih (j + 1) (by omega)
    dsimp only at hd
    have hh := half_rng j
    rw [half_succ] at hd
    have hjn : (j : Int) < n := by omega
    have e2 : Aside0 (wrap64 (half j / 2) = half j / 2) := ⟨wrap_in (by omega) (by omega)⟩
    have e3 : Aside0 (wrap64 ((j : Int) + 1) = ((j + 1 : Nat) : Int)) := ⟨by rw [wrap_in (by omega) (by omega)]; rfl⟩
    refine ⟨K + 1, fun k hk => ?_⟩
    obtain ⟨k, rfl⟩ : ∃ q, k = q + 1 := ⟨k - 1, by omega⟩
    simp only [celluloidref04_Codes.l2]
    rw [if_pos (Int.natCast_nonneg _), if_pos hq1, hrd, if_pos hjn, Int.tdiv_eq_ediv_of_nonneg hh.1, e2.out, e3.out]
    exact hd k (by omega)
theorem refcodes_l3 (l out : List Int) (i : Nat) (hi : i < out.length) (hol : out.length ≤ 320) (r : List Int) (d : Nat) : ∀ (j : Nat) (sum : Int), j + d = 15 → 0 ≤ sum → sum ≤ 32768 * 400 →
    Ev (fun k => celluloidref04_Codes.l0 k l (out.set i (sum / 2 ^ d)) ((i + 1 : Nat) : Int)) r → Ev (fun k => celluloidref04_Codes.l3 k l out i sum j) r := by
  have e1 : Aside0 (wrap64 ((i : Int) + 1) = ((i + 1 : Nat) : Int)) := ⟨by rw [wrap_in (by omega) (by omega)]; rfl⟩
  induction d with
  | zero =>
    intro j sum hj hs0 hs1 h
    obtain ⟨K, h⟩ := h
    dsimp only at h
    rw [Int.pow_zero, Int.ediv_one] at h
    have hj' : ¬ (j : Int) < 15 := by omega
    have hi' : (i : Int) < out.length := by omega
    refine ⟨K + 1, fun k hk => ?_⟩
    obtain ⟨k, rfl⟩ : ∃ q, k = q + 1 := ⟨k - 1, by omega⟩
    simp only [celluloidref04_Codes.l3]
    rw [if_neg hj', if_pos (Int.natCast_nonneg _), if_pos hi', Int.toNat_natCast, e1.out]
    exact h k (by omega)
  | succ d ih =>
    intro j sum hj hs0 hs1 h
    have e : sum / 2 ^ (d + 1) = sum / 2 / 2 ^ d := by rw [Int.pow_succ, Int.mul_comm, Int.ediv_ediv_of_nonneg (by decide)]
    rw [e] at h
    obtain ⟨K, h⟩ := ih (j + 1) (sum / 2) (by omega) (by omega) (by omega) h
    dsimp only at h
    have hj' : (j : Int) < 15 := by omega
    have e2 : Aside0 (wrap64 (sum / 2) = sum / 2) := ⟨wrap_in (by omega) (by omega)⟩
    have e3 : Aside0 (wrap64 ((j : Int) + 1) = ((j + 1 : Nat) : Int)) := ⟨by rw [wrap_in (by omega) (by omega)]; rfl⟩
    refine ⟨K + 1, fun k hk => ?_⟩
    obtain ⟨k, rfl⟩ : ∃ q, k = q + 1 := ⟨k - 1, by omega⟩
    simp only [celluloidref04_Codes.l3]
    rw [if_pos hj', Int.tdiv_eq_ediv_of_nonneg hs0, e2.out, e3.out]
    exact h k (by omega)
theorem refcodes_l1 (l out : List Int) (hl : l.length ≤ 320) (hok : okL l = true) (i : Nat) (hi : i < l.length) (r : List Int)
    (h : Ev (fun k => celluloidref04_Codes.l3 k l out i (ahead l i l.length) (l.getD i 0)) r) (d : Nat) : ∀ q : Nat, q + d = l.length →
    Ev (fun k => celluloidref04_Codes.l1 k l out i (ahead l i q) q) r := by
  have hri : rd l i = l.getD i 0 := rd_nat l i
  have hi1 : (i : Int) < l.length := by omega
  induction d with
  | zero =>
    intro q hq
    obtain rfl : q = l.length := by omega
    obtain ⟨K, h⟩ := h
    dsimp only at h
    refine ⟨K + 1, fun k hk => ?_⟩
    obtain ⟨k, rfl⟩ : ∃ q, k = q + 1 := ⟨k - 1, by omega⟩
    simp only [celluloidref04_Codes.l1]
    rw [if_neg (Int.lt_irrefl _), if_pos (Int.natCast_nonneg _), if_pos hi1, hri]
    exact h k (by omega)
  | succ d ih =>
    intro q hq
    have hrq : rd l q = l.getD q 0 := rd_nat l q
    have hq1 : (q : Int) < l.length := by omega
    obtain ⟨m, em, hm⟩ := ok_at l hok q (by omega)
    have hd := ih (q + 1) (by omega)
    have har := ahead_rng l i q
    have e1 : Aside0 (wrap64 ((q : Int) + 1) = ((q + 1 : Nat) : Int)) := ⟨by rw [wrap_in (by omega) (by omega)]; rfl⟩
    simp only [ahead] at hd
    -- the test comes to this
    have key : Ev (fun k => celluloidref04_Codes.j2 k l out i (ahead l i q) q (decide (0 < l.getD q 0 ∧ (l.getD q 0 < l.getD i 0 ∨ l.getD q 0 = l.getD i 0 ∧ q < i)))) r := by
      by_cases hc : 0 < l.getD q 0 ∧ (l.getD q 0 < l.getD i 0 ∨ l.getD q 0 = l.getD i 0 ∧ q < i)
      · rw [decide_eq_true hc]
        rw [if_pos hc, em, Int.toNat_natCast] at hd
        have h2 := refcodes_l2 l out i q (by omega) m em hm (ahead l i q) har.1 (by omega) hl r hd m 0 (by omega)
        exact Ev.step (fun k => by simp only [celluloidref04_Codes.j2]; rw [if_pos trivial]; rfl) h2
      · rw [decide_eq_false hc]
        rw [if_neg hc, Int.add_zero] at hd
        exact Ev.step (fun k => by simp only [celluloidref04_Codes.j2]; rw [if_neg (by simp), e1.out]) hd
    refine Ev.step (fun k => ?_) key
    simp only [celluloidref04_Codes.l1]
    rw [if_pos hq1, if_pos (Int.natCast_nonneg _), hrq, hri]
    by_cases h0 : l.getD q 0 > 0
    · rw [if_pos h0, if_pos (Int.natCast_nonneg _), if_pos hi1]
      by_cases h1 : l.getD q 0 < l.getD i 0
      · rw [if_pos h1, decide_eq_true ⟨h0, .inl h1⟩]
      · rw [if_neg h1]
        by_cases h2 : l.getD q 0 = l.getD i 0
        · rw [if_pos h2]
          congr 1
          rw [Bool.eq_iff_iff]
          simp only [decide_eq_true_eq]
          omega
        · rw [if_neg h2, decide_eq_false (fun h => h.2.elim h1 (fun h => h2 h.1))]
    · rw [if_neg h0, decide_eq_false (fun h => h0 h.1)]
theorem set_mid (a b : List Int) (x v : Int) (i : Nat) (h : a.length = i) : (a ++ x :: b).set i v = a ++ v :: b := by
  subst h
  simp [List.set_append]
theorem codesOf_length (l : List Int) : (codesOf l).length = l.length := by simp [codesOf]
theorem codesOf_get (l : List Int) (i : Nat) (hi : i < l.length) : (codesOf l)[i]? = some (if l.getD i 0 ≤ 0 then 0 else codeAt l i) := by simp [codesOf, hi]
theorem refcodes_l0 (l : List Int) (hl : l.length ≤ 320) (hok : okL l = true) (d : Nat) : ∀ i : Nat, i + d = l.length →
    Ev (fun k => celluloidref04_Codes.l0 k l ((codesOf l).take i ++ List.replicate d 0) i) (codesOf l) := by
  induction d with
  | zero =>
    intro i hi
    obtain rfl : i = l.length := by omega
    refine Ev.step (f := fun _ => some (codesOf l)) (fun k => ?_) (Ev.now _)
    simp only [celluloidref04_Codes.l0]
    rw [if_neg (Int.lt_irrefl _), List.take_of_length_le (by rw [codesOf_length]; omega)]
    simp
  | succ d ih =>
    intro i hi
    have hd := ih (i + 1) (by omega)
    have hil : (i : Int) < l.length := by omega
    have hri : rd l i = l.getD i 0 := rd_nat l i
    have hget := codesOf_get l i (by omega)
    have hci : i < (codesOf l).length := by rw [codesOf_length]; omega
    have e1 : Aside0 (wrap64 ((i : Int) + 1) = ((i + 1 : Nat) : Int)) := ⟨by rw [wrap_in (by omega) (by omega)]; rfl⟩
    have hset : ∀ v, (codesOf l)[i]? = some v → ((codesOf l).take i ++ List.replicate (d + 1) 0).set i v = (codesOf l).take (i + 1) ++ List.replicate d 0 := by
      intro v hv
      rw [List.take_succ_eq_append_getElem hci, List.replicate_succ, set_mid _ _ _ _ i (by rw [List.length_take]; omega), List.append_assoc, List.singleton_append]
      rw [List.getElem?_eq_getElem hci] at hv
      injection hv with hv
      rw [hv]
    obtain ⟨n, en, hn⟩ := ok_at l hok i (by omega)
    by_cases h0 : l.getD i 0 = 0
    · rw [if_pos (by omega)] at hget
      have hs := hset 0 hget
      have hsame : ((codesOf l).take i ++ List.replicate (d + 1) 0).set i 0 = (codesOf l).take i ++ List.replicate (d + 1) (0 : Int) := by
        rw [List.replicate_succ, set_mid _ _ _ _ i (by rw [List.length_take]; omega)]
      rw [hsame] at hs
      rw [hs]
      refine Ev.step (fun k => ?_) hd
      simp only [celluloidref04_Codes.l0]
      rw [if_pos hil, if_pos (Int.natCast_nonneg _), hri, if_pos h0, e1.out]
    · rw [if_neg (by omega)] at hget
      have hs := hset _ hget
      have hol : ((codesOf l).take i ++ List.replicate (d + 1) (0 : Int)).length = l.length := by
        rw [List.length_append, List.length_take, List.length_replicate]; omega
      have har := ahead_rng l i l.length
      rw [← hs, ← ahead_code l hok i (by omega) n en (by omega) hn] at hd
      have h3 := refcodes_l3 l _ i (by rw [hol]; omega) (by rw [hol]; omega) _ (15 - n) n (ahead l i l.length) (by omega) har.1 (by omega) hd
      rw [← en] at h3
      have h1 := refcodes_l1 l _ hl hok i (by omega) _ h3 l.length 0 (by omega)
      refine Ev.step (fun k => ?_) h1
      simp only [celluloidref04_Codes.l0]
      rw [if_pos hil, if_pos (Int.natCast_nonneg _), hri, if_neg h0]
      rfl
theorem refcodes_is (l : List Int) (hl : l.length ≤ 320) (hok : okL l = true) : Ev (fun k => celluloidref04_Codes.f k l) (codesOf l) := by
  refine Ev.congr (fun k => ?_) (refcodes_l0 l hl hok l.length 0 (by omega))
  unfold celluloidref04_Codes.f
  rw [if_pos (Int.natCast_nonneg _), Int.toNat_natCast, if_pos (by omega)]
  rfl
end Go.Proofs.Ytpbhkdamkbopkaa.RefCo
/- What the reference's packing leans on: the fixed lengths and their codes, a number's bits, a code's bits, the symbols of a length and of a distance. -/
namespace Go.Proofs.Ytpbhkdamkbopkaa.RefD
set_option linter.unusedSimpArgs false
set_option linter.unusedVariables false
open Go.RowKit Go.Proofs.Ytpbhkdamkbopkaa.GDefl Go.Proofs.Ytpbhkdamkbopkaa.Wr Go.Proofs.Ytpbhkdamkbopkaa.Ext Go.Proofs.YtpbhkdamkbopkaaW.PrintWords Go.Proofs.YtpbhkdamkbopkaaW.PrintLast Go.Proofs.YtpbhkdamkbopkaaW.PrintMore
open Go.Proofs.Ytpbhkdamkbopkaa.RefCo (refcodes_is)

/-- The fixed lengths. -/
def LA : List Int := (List.range 288).map fun i => if i < 144 then 8 else if i < 256 then 9 else if i < 280 then 7 else 8
def LB : List Int := List.replicate 32 5
theorem plain_is : Ev (fun k => celluloidref05_Plain.f k) (LA, LB) := Ev.of celluloidref05_Plain.mono (k := 700) (by decide +kernel)
theorem LA_len : LA.length = 288 := by unfold LA; simp
theorem LB_len : LB.length = 32 := by unfold LB; simp
theorem LA_get (i : Nat) (h : i < 288) : LA.getD i 0 = if i < 144 then 8 else if i < 256 then 9 else if i < 280 then 7 else 8 := by
  unfold LA
  simp [List.getD_eq_getElem?_getD, h]
theorem LB_get (i : Nat) (h : i < 32) : LB.getD i 0 = 5 := by
  unfold LB
  rw [List.getD_eq_getElem?_getD, List.getElem?_replicate, if_pos h]
  rfl
theorem okLA : okL LA = true := by decide +kernel
theorem okLB : okL LB = true := by decide +kernel
theorem rankA (n : Nat) : ∀ i, i ≤ 288 → (idxN LA n i).length = if n = 8 then (if i ≤ 144 then i else if i ≤ 280 then 144 else i - 136) else if n = 9 then (if i ≤ 144 then 0 else if i ≤ 256 then i - 144 else 112) else if n = 7 then (if i ≤ 256 then 0 else if i ≤ 280 then i - 256 else 24) else 0 := by
  intro i
  induction i with
  | zero => intro _; simp [idxN]
  | succ i ih =>
    intro hi
    rw [idxN_succ, List.length_append, ih (by omega), LA_get i (by omega)]
    have e : ∀ (p : Prop) [Decidable p], (if p then [(i : Int)] else []).length = if p then 1 else 0 := fun p _ => by split <;> rfl
    rw [e]
    by_cases h1 : i < 144
    · simp only [if_pos h1]; (repeat' split) <;> omega
    · by_cases h2 : i < 256
      · simp only [if_neg h1, if_pos h2]; (repeat' split) <;> omega
      · by_cases h3 : i < 280
        · simp only [if_neg h1, if_neg h2, if_pos h3]; (repeat' split) <;> omega
        · simp only [if_neg h1, if_neg h2, if_neg h3]; (repeat' split) <;> omega
theorem rankB : ∀ i, i ≤ 32 → (idxN LB 5 i).length = i := by
  intro i
  induction i with
  | zero => intro _; simp [idxN]
  | succ i ih =>
    intro hi
    rw [idxN_succ, List.length_append, ih (by omega), LB_get i (by omega), if_pos (by rfl)]
    rfl
theorem firstA7 : firstC LA 7 = 0 := by decide +kernel
theorem firstA8 : firstC LA 8 = 48 := by decide +kernel
theorem firstA9 : firstC LA 9 = 400 := by decide +kernel
theorem firstB5 : firstC LB 5 = 0 := by decide +kernel
/-- The codes of the fixed lengths. -/
theorem codeA (c : Nat) (h : c < 288) : (codesOf LA).getD c 0 = if c < 144 then 48 + (c : Int) else if c < 256 then 400 + (c : Int) - 144 else if c < 280 then (c : Int) - 256 else 192 + (c : Int) - 280 := by
  have hg := LA_get c h
  have e : (codesOf LA).getD c 0 = if LA.getD c 0 ≤ 0 then 0 else codeAt LA c := by
    rw [List.getD_eq_getElem?_getD]
    unfold codesOf
    simp [LA_len, h]
  rw [e]
  by_cases h1 : c < 144
  · rw [if_pos h1] at hg
    rw [hg, if_neg (by decide), if_pos h1]
    unfold codeAt
    rw [rank_n LA c 8 hg, hg, rankA 8 c (by omega), if_pos rfl, if_pos (by omega), show (8 : Int).toNat = 8 from rfl, firstA8]
  · by_cases h2 : c < 256
    · rw [if_neg h1, if_pos h2] at hg
      rw [hg, if_neg (by decide), if_neg h1, if_pos h2]
      unfold codeAt
      rw [rank_n LA c 9 hg, hg, rankA 9 c (by omega), if_neg (by decide), if_pos rfl, show (9 : Int).toNat = 9 from rfl, firstA9]
      split
      · omega
      · rw [if_pos (by omega)]; omega
    · by_cases h3 : c < 280
      · rw [if_neg h1, if_neg h2, if_pos h3] at hg
        rw [hg, if_neg (by decide), if_neg h1, if_neg h2, if_pos h3]
        unfold codeAt
        rw [rank_n LA c 7 hg, hg, rankA 7 c (by omega), if_neg (by decide), if_neg (by decide), if_pos rfl, show (7 : Int).toNat = 7 from rfl, firstA7]
        split
        · omega
        · rw [if_pos (by omega)]; omega
      · rw [if_neg h1, if_neg h2, if_neg h3] at hg
        rw [hg, if_neg (by decide), if_neg h1, if_neg h2, if_neg h3]
        unfold codeAt
        rw [rank_n LA c 8 hg, hg, rankA 8 c (by omega), if_pos rfl, show (8 : Int).toNat = 8 from rfl, firstA8, if_neg (by omega)]
        split <;> omega
theorem codeB (c : Nat) (h : c < 32) : (codesOf LB).getD c 0 = (c : Int) := by
  have hg := LB_get c h
  have e : (codesOf LB).getD c 0 = if LB.getD c 0 ≤ 0 then 0 else codeAt LB c := by
    rw [List.getD_eq_getElem?_getD]
    unfold codesOf
    simp [LB_len, h]
  rw [e, hg, if_neg (by decide)]
  unfold codeAt
  rw [rank_n LB c 5 hg, hg, rankB c (by omega), show (5 : Int).toNat = 5 from rfl, firstB5]
  omega
/-- A symbol's code is what the program lays down. -/
theorem code_sc (c : Nat) (h : c < 288) : cb ((codesOf LA).getD c 0) (LA.getD c 0).toNat = sc (c : Int) := by
  rw [codeA c h, LA_get c h]
  unfold sc
  by_cases h1 : c < 144
  · rw [if_pos h1, if_pos h1, if_pos (by omega)]; rfl
  · by_cases h2 : c < 256
    · rw [if_neg h1, if_neg h1, if_pos h2, if_pos h2, if_neg (by omega), if_pos (by omega)]; rfl
    · by_cases h3 : c < 280
      · rw [if_neg h1, if_neg h1, if_neg h2, if_neg h2, if_pos h3, if_pos h3, if_neg (by omega), if_neg (by omega), if_pos (by omega)]; rfl
      · rw [if_neg h1, if_neg h1, if_neg h2, if_neg h2, if_neg h3, if_neg h3, if_neg (by omega), if_neg (by omega), if_neg (by omega)]; rfl

/-! ### Bits -/
theorem w64 {n : Int} (h0 : -9223372036854775808 ≤ n) (h1 : n ≤ 9223372036854775807) : wrap64 n = n := by unfold wrap64; omega
theorem pow_le {j n : Nat} (h : j ≤ n) (hn : n ≤ 16) : (1 : Int) ≤ 2 ^ j ∧ (2 : Int) ^ j ≤ 65536 := by
  have h1 : 2 ^ j ≤ 2 ^ 16 := Nat.pow_le_pow_right (by decide) (by omega)
  have h2 : 1 ≤ 2 ^ j := Nat.one_le_two_pow
  have e : ((2 ^ j : Nat) : Int) = (2 : Int) ^ j := by rw [Int.natCast_pow]; rfl
  rw [← e]
  omega
theorem bit_tdiv (v : Int) (j : Nat) (hv0 : 0 ≤ v) (hv1 : v ≤ 1000000) (hj : j ≤ 16) : (Int.tmod (wrap64 (Int.tdiv v (2 ^ j))) 2) % 256 = bit v j := by
  have hp := pow_le (Nat.le_refl j) hj
  have h0 : 0 ≤ v / 2 ^ j := Int.ediv_nonneg hv0 (by omega)
  have h1 : v / 2 ^ j ≤ v := Int.ediv_le_self _ hv0
  rw [Int.tdiv_eq_ediv_of_nonneg hv0, w64 (by omega) (by omega), Int.tmod_eq_emod_of_nonneg h0]
  unfold bit
  omega
theorem code_l1 (v : Int) (hv0 : 0 ≤ v) (hv1 : v ≤ 1000000) (n : Nat) (hn : n ≤ 16) (l : List Int) (hl : l.length ≤ 1000000000) : ∀ j, j + 1 ≤ n → Ev (fun k => celluloidref06_code.l1 k (l ++ (cb v n).take (n - (j + 1))) v (2 ^ j)) (l ++ cb v n) := by
  intro j
  induction j with
  | zero =>
    intro hj
    have e := bit_tdiv v 0 hv0 hv1 (by decide)
    rw [show ((2 : Int) ^ 0) = 1 from rfl] at e ⊢
    refine Ev.step (fun k => ?_) (Ev.step (f := fun _ => some (l ++ cb v n)) (g := fun k => celluloidref06_code.l1 k (l ++ cb v n) v 0) (fun k => ?_) (Ev.now _))
    · simp only [celluloidref06_code.l1]
      rw [if_pos (by decide), if_neg (by decide), if_pos (by rw [List.length_append, List.length_take, cb_len]; omega), e, List.append_assoc, ← cb_take v (by omega), show n - 0 = n from rfl, show (cb v n).take n = cb v n from List.take_of_length_le (by rw [cb_len]; exact Nat.le_refl _), show wrap64 (Int.tdiv 1 2) = 0 from by decide +kernel]
    · simp only [celluloidref06_code.l1]
      rw [if_neg (by decide)]
  | succ j ih =>
    intro hj
    have e := bit_tdiv v (j + 1) hv0 hv1 (by omega)
    have hp := pow_le (j := j) (n := j) (Nat.le_refl _) (by omega)
    have hp1 := pow_le (j := j + 1) (n := j + 1) (Nat.le_refl _) (by omega)
    have h2 : (2 : Int) ^ (j + 1) = 2 ^ j * 2 := Int.pow_succ _ _
    have hd : wrap64 (Int.tdiv (2 ^ (j + 1)) 2) = 2 ^ j := by
      rw [Int.tdiv_eq_ediv_of_nonneg (by omega), h2, Int.mul_ediv_cancel _ (by decide), w64 (by omega) (by omega)]
    refine Ev.step (fun k => ?_) (ih (by omega))
    simp only [celluloidref06_code.l1]
    rw [if_pos (by omega), if_neg (by omega), if_pos (by rw [List.length_append, List.length_take, cb_len]; omega), e, hd, List.append_assoc, ← cb_take v (by omega)]
theorem code_l0 (v : Int) (hv0 : 0 ≤ v) (hv1 : v ≤ 1000000) (n : Nat) (hn : n ≤ 16) (l : List Int) (hl : l.length ≤ 1000000000) (d : Nat) : ∀ i, 1 ≤ i → i + d = n → Ev (fun k => celluloidref06_code.l0 k l v (n : Int) (2 ^ (i - 1)) (i : Int)) (l ++ cb v n) := by
  induction d with
  | zero =>
    intro i h1 hi
    obtain ⟨m, rfl⟩ : ∃ m, n = m + 1 := ⟨n - 1, by omega⟩
    obtain rfl : i = m + 1 := by omega
    refine Ev.step (fun k => ?_) (code_l1 v hv0 hv1 (m + 1) hn l hl m (Nat.le_refl _))
    simp only [celluloidref06_code.l0]
    rw [if_neg (by omega), Nat.sub_self, List.take_zero, List.append_nil]
    rfl
  | succ d ih =>
    intro i h1 hi
    obtain ⟨m, rfl⟩ : ∃ m, i = m + 1 := ⟨i - 1, by omega⟩
    have hp := pow_le (j := m) (n := m) (Nat.le_refl _) (by omega)
    refine Ev.step (fun k => ?_) (ih (m + 1 + 1) (by omega) (by omega))
    simp only [celluloidref06_code.l0]
    rw [if_pos (by omega), show m + 1 - 1 = m from rfl, show m + 1 + 1 - 1 = m + 1 from rfl, Int.pow_succ, w64 (by omega) (by omega), w64 (by omega) (by omega)]
    rfl
theorem code_is (v : Int) (hv0 : 0 ≤ v) (hv1 : v ≤ 1000000) (n : Nat) (h1 : 1 ≤ n) (hn : n ≤ 16) (l : List Int) (hl : l.length ≤ 1000000000) : Ev (fun k => celluloidref06_code.f k l v (n : Int)) (l ++ cb v n) :=
  code_l0 v hv0 hv1 n hn l hl (n - 1) 1 (Nat.le_refl _) (by omega)
theorem number_l0 (v : Int) (hv0 : 0 ≤ v) (hv1 : v ≤ 1000000) (n : Nat) (hn : n ≤ 16) (l : List Int) (hl : l.length ≤ 1000000000) (d : Nat) : ∀ i, i + d = n → Ev (fun k => celluloidref06_number.l0 k (l ++ nb v i) (v / 2 ^ i) (n : Int) (i : Int)) (l ++ nb v n) := by
  induction d with
  | zero =>
    intro i hi
    obtain rfl : i = n := by omega
    refine Ev.step (f := fun _ => some (l ++ nb v i)) (fun k => ?_) (Ev.now _)
    simp only [celluloidref06_number.l0]
    rw [if_neg (by omega)]
  | succ d ih =>
    intro i hi
    have hp := pow_le (j := i) (n := i) (Nat.le_refl _) (by omega)
    have h0 : 0 ≤ v / 2 ^ i := Int.ediv_nonneg hv0 (by omega)
    have h1 : v / 2 ^ i ≤ v := Int.ediv_le_self _ hv0
    have e1 : (Int.tmod (v / 2 ^ i) 2) % 256 = bit v i := by
      rw [Int.tmod_eq_emod_of_nonneg h0]
      unfold bit
      omega
    have e2 : wrap64 (Int.tdiv (v / 2 ^ i) 2) = v / 2 ^ (i + 1) := by
      rw [Int.tdiv_eq_ediv_of_nonneg h0, Int.pow_succ, ← Int.ediv_ediv_of_nonneg (by omega), w64 (by omega) (by omega)]
    refine Ev.step (fun k => ?_) (ih (i + 1) (by omega))
    simp only [celluloidref06_number.l0]
    rw [if_pos (by omega), if_pos (by rw [List.length_append, nb_len]; omega), e1, e2, List.append_assoc, ← nb_succ, w64 (by omega) (by omega)]
    rfl
theorem number_is (v : Int) (hv0 : 0 ≤ v) (hv1 : v ≤ 1000000) (n : Nat) (hn : n ≤ 16) (l : List Int) (hl : l.length ≤ 1000000000) : Ev (fun k => celluloidref06_number.f k l v (n : Int)) (l ++ nb v n) := by
  have h := number_l0 v hv0 hv1 n hn l hl n 0 (by omega)
  rw [show nb v 0 = [] from rfl, List.append_nil, Int.pow_zero, Int.ediv_one] at h
  exact h

/-! ### Symbols -/
theorem Length_all : ∀ m : Nat, m < 28 → celluloidref05_Length.f 40 (257 + (m : Int)) = some (Wr.lof m) := by decide +kernel
theorem Length_last : celluloidref05_Length.f 40 285 = some (258, 0) := by decide +kernel
theorem Distance_all : ∀ m : Nat, m < 30 → celluloidref05_Distance.f 40 (m : Int) = some (dof m) := by decide +kernel
theorem length_is (m : Nat) (h : m < 28) : Ev (fun k => celluloidref05_Length.f k (257 + (m : Int))) (Wr.lof m) := Ev.of (celluloidref05_Length.mono _) (Length_all m h)
theorem length_last : Ev (fun k => celluloidref05_Length.f k 285) (258, 0) := Ev.of (celluloidref05_Length.mono _) Length_last
theorem distance_is (m : Nat) (h : m < 30) : Ev (fun k => celluloidref05_Distance.f k (m : Int)) (dof m) := Ev.of (celluloidref05_Distance.mono _) (Distance_all m h)
theorem lf_at (n : Int) (hn : 3 ≤ n) : ∀ k, k ≤ 28 → ∃ m : Nat, m < 28 ∧ lf n k = (257 + (m : Int), Wr.lof m) := by
  intro k
  induction k with
  | zero => intro _; exact ⟨0, by decide, by show (257, 3, 0) = _; decide +kernel⟩
  | succ k ih =>
    intro hk
    unfold lf
    split
    · exact ⟨k, by omega, rfl⟩
    · exact ih (by omega)
theorem df_at (n : Int) (hn : 1 ≤ n) : ∀ k, k ≤ 30 → ∃ m : Nat, m < 30 ∧ df n k = ((m : Int), dof m) := by
  intro k
  induction k with
  | zero => intro _; exact ⟨0, by decide, by show (0, 1, 0) = _; decide +kernel⟩
  | succ k ih =>
    intro hk
    unfold df
    split
    · exact ⟨k, by omega, rfl⟩
    · exact ih (by omega)
theorem lsym_at (n : Int) (hn : 3 ≤ n) : Ev (fun k => celluloidref05_Length.f k (lsym n).1) (lsym n).2 := by
  unfold lsym
  by_cases c : n = 258
  · rw [if_pos c]; exact length_last
  · rw [if_neg c]
    obtain ⟨m, hm, e⟩ := lf_at n hn 28 (Nat.le_refl _)
    rw [e]
    exact length_is m hm
theorem dsym_at (n : Int) (hn : 1 ≤ n) : Ev (fun k => celluloidref05_Distance.f k (dsym n).1) (dsym n).2 := by
  unfold dsym
  obtain ⟨m, hm, e⟩ := df_at n hn 30 (Nat.le_refl _)
  rw [e]
  exact distance_is m hm
end Go.Proofs.Ytpbhkdamkbopkaa.RefD
/- The reference's packing tells the bytes that the program tells. -/
namespace Go.Proofs.Ytpbhkdamkbopkaa.RefD
set_option linter.unusedSimpArgs false
set_option linter.unusedVariables false
open Go.RowKit Go.Proofs.Ytpbhkdamkbopkaa.GDefl Go.Proofs.Ytpbhkdamkbopkaa.Wr Go.Proofs.Ytpbhkdamkbopkaa.Ext Go.Proofs.YtpbhkdamkbopkaaW.PrintWords Go.Proofs.YtpbhkdamkbopkaaW.PrintLast Go.Proofs.YtpbhkdamkbopkaaW.PrintMore
open Go.Proofs.Ytpbhkdamkbopkaa.RefCo (refcodes_is rd_nat codesOf_length)
open Go.Proofs.Ytpbhkdamkbopkaa.Rn (run ip ref_f)
open Go.Proofs.Ytpbhkdamkbopkaa.GRuns (celluloidref06_Run.f)
attribute [local irreducible] LA LB codesOf

/-! ### The bits into bytes -/
theorem pack_l4 (l : List Int) (hl : Bits l) (hlen : l.length ≤ 1000000000) (i : Nat) (hi : i < l.length) (r : ByteArray)
    (hn : Ev (fun k => celluloidref06_Raw.l3 k l (pack l (i + 1)) ((i + 1 : Nat) : Int)) r) (d : Nat) : ∀ j, j + d = i % 8 → Ev (fun k => celluloidref06_Raw.l4 k l (pack l i) (i : Int) (l.getD i 0 * 2 ^ j) (j : Int)) r := by
  have hm : l.getD i 0 ∈ l := by rw [List.getD_eq_getElem?_getD, List.getElem?_eq_getElem hi]; exact List.getElem_mem hi
  have hb := hl _ hm
  have e8 : Int.tmod (i : Int) 8 = ((i % 8 : Nat) : Int) := by rw [Int.tmod_eq_emod_of_nonneg (by omega)]; omega
  have d8 : wrap64 (Int.tdiv (i : Int) 8) = ((i / 8 : Nat) : Int) := by rw [Int.tdiv_eq_ediv_of_nonneg (by omega), w64 (by omega) (by omega)]; omega
  induction d with
  | zero =>
    intro j hj
    obtain rfl : j = i % 8 := by omega
    refine Ev.step (fun k => ?_) hn
    have hlen2 := pack_len l i (by omega)
    have hby := pack_byte l hl i hi
    simp only [celluloidref06_Raw.l4]
    rw [if_neg (by rw [e8]; omega), d8, if_pos (by omega), if_pos (by rw [hlen2]; omega), Int.toNat_natCast, rd_nat, Int.emod_eq_of_lt hby.2.1 (by omega), ← pack_step l i hi, w64 (by omega) (by omega)]
    rfl
  | succ d ih =>
    intro j hj
    have hp := pow_le (j := j) (n := j) (Nat.le_refl _) (by omega)
    have hp7 := Wr.pow_rng (j + 1) (by omega)
    have h2 : (2 : Int) ^ (j + 1) = 2 ^ j * 2 := Int.pow_succ _ _
    have e : (l.getD i 0 * 2 ^ j * 2) % 256 = l.getD i 0 * 2 ^ (j + 1) := by
      rw [h2]
      rcases (show l.getD i 0 = 0 ∨ l.getD i 0 = 1 by omega) with h | h
      · rw [h]; simp
      · rw [h]; omega
    refine Ev.step (fun k => ?_) (ih (j + 1) (by omega))
    simp only [celluloidref06_Raw.l4]
    rw [if_pos (by rw [e8]; omega), e, w64 (by omega) (by omega)]
    rfl
theorem pack_l3 (l : List Int) (hl : Bits l) (hlen : l.length ≤ 1000000000) (d : Nat) : ∀ i, i + d = l.length → Ev (fun k => celluloidref06_Raw.l3 k l (pack l i) (i : Int)) (strOfNums (pk l)) := by
  induction d with
  | zero =>
    intro i hi
    obtain rfl : i = l.length := by omega
    refine Ev.step (f := fun _ => some (strOfNums (pk l))) (fun k => ?_) (Ev.now _)
    simp only [celluloidref06_Raw.l3]
    rw [if_neg (Int.lt_irrefl _), pack_all]
  | succ d ih =>
    intro i hi
    have h := pack_l4 l hl hlen i (by omega) _ (ih (i + 1) (by omega)) (i % 8) 0 (by omega)
    rw [Int.pow_zero, Int.mul_one] at h
    refine Ev.step (fun k => ?_) h
    simp only [celluloidref06_Raw.l3]
    rw [if_pos (by omega), if_pos (by omega), rd_nat]
    rfl

/-! ### A run -/
def ls (n : Int) (j : Nat) : Int := if j = 29 then (lsym n).1 else (lf n j).1
theorem ls_end (n : Int) (hn1 : n ≤ 258) : ls n (28 + 1) = if 258 ≤ n then 285 else ls n 28 := by
  unfold ls
  rw [if_pos (show 28 + 1 = 29 from rfl), if_neg (show ¬ (28 : Nat) = 29 by decide)]
  unfold lsym
  by_cases c : n = 258
  · rw [if_pos c, if_pos (by omega)]
  · rw [if_neg c, if_neg (by omega)]
theorem ls_next (n : Int) (j : Nat) (hj : j < 28) : ls n (j + 1) = if (Wr.lof j).1 ≤ n then 257 + (j : Int) else ls n j := by
  have e : lf n (j + 1) = if (Wr.lof j).1 ≤ n then (257 + (j : Int), Wr.lof j) else lf n j := rfl
  unfold ls
  rw [if_neg (show ¬ j + 1 = 29 by omega), if_neg (show ¬ j = 29 by omega), e]
  split <;> rfl
theorem len_lt (n : Int) (hn : 3 ≤ n) : 257 ≤ (lsym n).1 ∧ (lsym n).1 ≤ 285 := by have := lsym_rng hn; omega
theorem runs_l2 (s : ByteArray) (l : List Int) (hl : l.length ≤ 900000000) (i : Nat) (n far : Int) (hn0 : 3 ≤ n) (hn1 : n ≤ 258) (hf0 : 1 ≤ far) (hf1 : far ≤ 32768) (hi : i ≤ 1000000) (r : ByteArray)
    (hnext : Ev (fun k => celluloidref06_Raw.l0 k s LA (codesOf LA) (codesOf LB) (l ++ cb (dsym far).1 5 ++ nb (far - (dsym far).2.1) (dsym far).2.2.toNat) ((i : Int) + n)) r) (d : Nat) : ∀ j, j + d = 30 →
    Ev (fun k => celluloidref06_Raw.l2 k s LA (codesOf LA) (codesOf LB) l (i : Int) n far (df far j).1 (j : Int)) r := by
  induction d with
  | zero =>
    intro j hj
    obtain rfl : j = 30 := by omega
    have hd := dsym_at far hf0
    obtain ⟨q1, q2, q3, q4, q5, q6⟩ := df_rng hf0 30 (Nat.le_refl _)
    have e0 : (df far 30) = dsym far := rfl
    rw [e0] at q1 q2 q3 q4 q5 q6 ⊢
    obtain ⟨sy, hsy⟩ : ∃ sy : Nat, (dsym far).1 = (sy : Int) := ⟨(dsym far).1.toNat, by omega⟩
    obtain ⟨mm, hmm⟩ : ∃ mm : Nat, (dsym far).2.2 = (mm : Int) := ⟨(dsym far).2.2.toNat, by omega⟩
    have hY : (codesOf LB).length = 32 := by rw [codesOf_length, LB_len]
    have hrd : rd (codesOf LB) (dsym far).1 = (dsym far).1 := by rw [hsy, rd_nat, codeB sy (by omega)]
    have hc := code_is (dsym far).1 q1 (by omega) 5 (by decide) (by decide) l (by omega)
    have hm := number_is (far - (dsym far).2.1) (by omega) (by omega) mm (by omega) (l ++ cb (dsym far).1 5) (by rw [List.length_append, cb_len]; omega)
    rw [← hmm] at hm
    have hmt : mm = (dsym far).2.2.toNat := by omega
    rw [← hmt] at hnext
    have hw : wrap64 (far - (dsym far).2.1) = far - (dsym far).2.1 := w64 (by omega) (by omega)
    have hw2 : wrap64 ((i : Int) + n) = (i : Int) + n := w64 (by omega) (by omega)
    refine Ev.step (f := fun k => (celluloidref05_Distance.f k (dsym far).1).bind fun bt => (celluloidref06_code.f k l (dsym far).1 5).bind fun t195 => (celluloidref06_number.f k t195 (wrap64 (far - bt.1)) bt.2).bind fun t198 => celluloidref06_Raw.l0 k s LA (codesOf LA) (codesOf LB) t198 ((i : Int) + n)) (fun k => ?_) (Ev.bind hd (Ev.bind hc ?_))
    · simp only [celluloidref06_Raw.l2]
      rw [if_neg (by decide)]
      congr 1
      funext bt
      rw [if_pos q1, if_pos (by rw [hY]; omega), hrd, hw2]
    · try dsimp only
      rw [hw]
      exact Ev.bind hm hnext
  | succ d ih =>
    intro j hj
    have hl := distance_is j (by omega)
    have hj1 : wrap64 ((j : Int) + 1) = ((j + 1 : Nat) : Int) := by rw [w64 (by omega) (by omega)]; rfl
    refine Ev.step (fun k => ?_) (Ev.bind (f := fun k bt => if bt.1 ≤ far then celluloidref06_Raw.l2 k s LA (codesOf LA) (codesOf LB) l (i : Int) n far (j : Int) ((j + 1 : Nat) : Int) else celluloidref06_Raw.l2 k s LA (codesOf LA) (codesOf LB) l (i : Int) n far (df far j).1 ((j + 1 : Nat) : Int)) hl ?_)
    · simp only [celluloidref06_Raw.l2]
      rw [if_pos (by omega), hj1]
    · try dsimp only
      have h := ih (j + 1) (by omega)
      have e : df far (j + 1) = if (dof j).1 ≤ far then ((j : Int), dof j) else df far j := rfl
      rw [e] at h
      by_cases c : (dof j).1 ≤ far
      · rw [if_pos c] at h
        simp only [if_pos c]
        exact h
      · rw [if_neg c] at h
        simp only [if_neg c]
        exact h
theorem runs_l1 (s : ByteArray) (l : List Int) (hl : l.length ≤ 800000000) (i : Nat) (n far : Int) (hn0 : 3 ≤ n) (hn1 : n ≤ 258) (hf0 : 1 ≤ far) (hf1 : far ≤ 32768) (hi : i ≤ 1000000) (r : ByteArray)
    (hnext : Ev (fun k => celluloidref06_Raw.l0 k s LA (codesOf LA) (codesOf LB) (l ++ rc n far) ((i : Int) + n)) r) (d : Nat) : ∀ j, j + d = 29 →
    Ev (fun k => celluloidref06_Raw.l1 k s LA (codesOf LA) (codesOf LB) l (i : Int) n far (ls n j) (257 + (j : Int))) r := by
  induction d with
  | zero =>
    intro j hj
    obtain rfl : j = 29 := by omega
    have hd := lsym_at n hn0
    obtain ⟨q1, q2, q3, q4, q5, q6⟩ := lsym_rng hn0
    have e0 : ls n 29 = (lsym n).1 := if_pos rfl
    rw [e0]
    obtain ⟨sy, hsy⟩ : ∃ sy : Nat, (lsym n).1 = (sy : Int) := ⟨(lsym n).1.toNat, by omega⟩
    obtain ⟨mm, hmm⟩ : ∃ mm : Nat, (lsym n).2.2 = (mm : Int) := ⟨(lsym n).2.2.toNat, by omega⟩
    have hX : (codesOf LA).length = 288 := by rw [codesOf_length, LA_len]
    have hLA := LA_len
    obtain ⟨wd, hwd, hwd1, hwd2⟩ : ∃ wd : Nat, LA.getD sy 0 = (wd : Int) ∧ 1 ≤ wd ∧ wd ≤ 16 := by
      rw [LA_get sy (by omega)]
      (repeat' split) <;> first | exact ⟨8, rfl, by decide, by decide⟩ | exact ⟨9, rfl, by decide, by decide⟩ | exact ⟨7, rfl, by decide, by decide⟩
    have hcr : 0 ≤ (codesOf LA).getD sy 0 ∧ (codesOf LA).getD sy 0 ≤ 1000000 := by
      rw [codeA sy (by omega)]
      (repeat' split) <;> omega
    have hc := code_is ((codesOf LA).getD sy 0) hcr.1 hcr.2 wd hwd1 hwd2 l (by omega)
    have hsc := code_sc sy (by omega)
    rw [hwd, Int.toNat_natCast] at hsc
    rw [hsc, ← hwd] at hc
    have hscl := sc_len (sy : Int)
    have hm := number_is (n - (lsym n).2.1) (by omega) (by omega) mm (by omega) (l ++ sc (sy : Int)) (by rw [List.length_append]; omega)
    rw [← hmm] at hm
    have hmt : mm = (lsym n).2.2.toNat := by omega
    have hw : wrap64 (n - (lsym n).2.1) = n - (lsym n).2.1 := w64 (by omega) (by omega)
    have hfin := runs_l2 s (l ++ sc (sy : Int) ++ nb (n - (lsym n).2.1) mm) (by rw [List.length_append, List.length_append, nb_len]; omega) i n far hn0 hn1 hf0 hf1 hi r (by
      have e : l ++ sc (sy : Int) ++ nb (n - (lsym n).2.1) mm ++ cb (dsym far).1 5 ++ nb (far - (dsym far).2.1) (dsym far).2.2.toNat = l ++ rc n far := by
        unfold rc
        rw [hsy, hmt]
        simp only [List.append_assoc]
      rw [e]
      exact hnext) 30 0 rfl
    refine Ev.step (f := fun k => (celluloidref05_Length.f k (lsym n).1).bind fun bt => (celluloidref06_code.f k l (rd (codesOf LA) (lsym n).1) (rd LA (lsym n).1)).bind fun t184 => (celluloidref06_number.f k t184 (wrap64 (n - bt.1)) bt.2).bind fun t187 => celluloidref06_Raw.l2 k s LA (codesOf LA) (codesOf LB) t187 (i : Int) n far 0 0) (fun k => ?_) (Ev.bind hd ?_)
    · simp only [celluloidref06_Raw.l1]
      rw [if_neg (by decide)]
      congr 1
      funext bt
      rw [if_pos (by omega), if_pos (by rw [hX]; omega), if_pos (by rw [hLA]; omega)]
    · try dsimp only
      rw [hw, hsy, rd_nat, rd_nat]
      have e00 : (df far 0).1 = 0 := rfl
      rw [e00, Int.natCast_zero] at hfin
      refine Ev.bind hc ?_
      exact Ev.bind hm hfin
  | succ d ih =>
    intro j hj
    have hj1 : wrap64 (257 + (j : Int) + 1) = 257 + ((j + 1 : Nat) : Int) := by rw [w64 (by omega) (by omega)]; omega
    have h := ih (j + 1) (by omega)
    by_cases c28 : j = 28
    · subst c28
      have e1 := ls_end n hn1
      rw [e1] at h
      refine Ev.step (fun k => ?_) (Ev.bind (f := fun k bt => if bt.1 ≤ n then celluloidref06_Raw.l1 k s LA (codesOf LA) (codesOf LB) l (i : Int) n far 285 (257 + ((28 + 1 : Nat) : Int)) else celluloidref06_Raw.l1 k s LA (codesOf LA) (codesOf LB) l (i : Int) n far (ls n 28) (257 + ((28 + 1 : Nat) : Int))) length_last ?_)
      · simp only [celluloidref06_Raw.l1]
        rw [if_pos (by decide), hj1]
        rfl
      · try dsimp only
        by_cases c : 258 ≤ n
        · rw [if_pos c] at h
          simp only [if_pos c]
          exact h
        · rw [if_neg c] at h
          simp only [if_neg c]
          exact h
    · have hl := length_is j (by omega)
      have e1 := ls_next n j (by omega)
      rw [e1] at h
      refine Ev.step (fun k => ?_) (Ev.bind (f := fun k bt => if bt.1 ≤ n then celluloidref06_Raw.l1 k s LA (codesOf LA) (codesOf LB) l (i : Int) n far (257 + (j : Int)) (257 + ((j + 1 : Nat) : Int)) else celluloidref06_Raw.l1 k s LA (codesOf LA) (codesOf LB) l (i : Int) n far (ls n j) (257 + ((j + 1 : Nat) : Int))) hl ?_)
      · simp only [celluloidref06_Raw.l1]
        rw [if_pos (by omega), hj1]
      · try dsimp only
        by_cases c : (Wr.lof j).1 ≤ n
        · rw [if_pos c] at h
          simp only [if_pos c]
          exact h
        · rw [if_neg c] at h
          simp only [if_neg c]
          exact h

/-! ### The whole -/
theorem sym_code (c : Nat) (h : c < 288) (l : List Int) (hl : l.length ≤ 1000000000) : Ev (fun k => celluloidref06_code.f k l (rd (codesOf LA) (c : Int)) (rd LA (c : Int))) (l ++ sc (c : Int)) := by
  rw [rd_nat, rd_nat]
  obtain ⟨wd, hwd, hwd1, hwd2⟩ : ∃ wd : Nat, LA.getD c 0 = (wd : Int) ∧ 1 ≤ wd ∧ wd ≤ 16 := by
    rw [LA_get c h]
    (repeat' split) <;> first | exact ⟨8, rfl, by decide, by decide⟩ | exact ⟨9, rfl, by decide, by decide⟩ | exact ⟨7, rfl, by decide, by decide⟩
  have hcr : 0 ≤ (codesOf LA).getD c 0 ∧ (codesOf LA).getD c 0 ≤ 1000000 := by
    rw [codeA c h]
    (repeat' split) <;> omega
  have hc := code_is ((codesOf LA).getD c 0) hcr.1 hcr.2 wd hwd1 hwd2 l (by omega)
  have hsc := code_sc c h
  rw [hwd, Int.toNat_natCast] at hsc
  rw [hsc, ← hwd] at hc
  exact hc
theorem raw_end (s : ByteArray) (hs : s.size ≤ 1000000) (l : List Int) (hl : Bits l) (hlen : l.length ≤ 100000000) (i : Nat) (hi : s.size ≤ i) (hi1 : i ≤ 1000000) : Ev (fun k => celluloidref06_Raw.l0 k s LA (codesOf LA) (codesOf LB) l (i : Int)) (strOfNums (pk (l ++ sc 256))) := by
  have hX : (codesOf LA).length = 288 := by rw [codesOf_length, LA_len]
  have hLA := LA_len
  have hscl := sc_len 256
  have hb : Bits (l ++ sc 256) := hl.append (sc_bits _)
  obtain ⟨L, hL⟩ : ∃ L, L = l ++ sc 256 := ⟨_, rfl⟩
  have hLl : L.length ≤ 200000000 := by rw [hL, List.length_append]; omega
  have hw1 : wrap64 ((L.length : Int) + 7) = ((L.length + 7 : Nat) : Int) := by rw [w64 (by omega) (by omega)]; rfl
  have hw2 : wrap64 (Int.tdiv ((L.length + 7 : Nat) : Int) 8) = (((L.length + 7) / 8 : Nat) : Int) := by rw [Int.tdiv_eq_ediv_of_nonneg (by omega), w64 (by omega) (by omega)]; omega
  have hp := pack_l3 L (by rw [hL]; exact hb) (by omega) L.length 0 (by omega)
  rw [pack_zero] at hp
  have h := sym_code 256 (by decide) l (by omega)
  rw [show ((256 : Nat) : Int) = 256 from rfl, ← hL] at h
  rw [← hL]
  refine Ev.step (fun k => ?_) (Ev.bind (f := fun k t203 => if 0 ≤ (wrap64 (Int.tdiv (wrap64 ((t203.length : Int) + 7)) 8)) then (if (wrap64 (Int.tdiv (wrap64 ((t203.length : Int) + 7)) 8) : Int).toNat ≤ 281474976710656 then (celluloidref06_Raw.l3 k t203 (List.replicate (wrap64 (Int.tdiv (wrap64 ((t203.length : Int) + 7)) 8) : Int).toNat 0) 0) else (none)) else (none)) h ?_)
  · simp only [celluloidref06_Raw.l0]
    rw [if_neg (by omega), if_pos (by rw [hX]; decide), if_pos (by rw [hLA]; decide)]
  · try dsimp only
    refine Ev.congr (fun k => ?_) hp
    rw [hw1, hw2, if_pos (by omega), Int.toNat_natCast, if_pos (by omega)]
    rfl
theorem rbits_bits (s : ByteArray) : ∀ m i, Bits (rbits s m i) := by
  intro m
  induction m with
  | zero => intro i; exact fun b hb => absurd hb (by simp [rbits])
  | succ m ih =>
    intro i
    unfold rbits
    (repeat' split)
    · exact (sc_bits _).append (ih _)
    · exact (rc_bits _ _).append (ih _)
    · exact fun b hb => absurd hb (by simp)
theorem raw_l0 (s : ByteArray) (hs : s.size ≤ 1000000) : ∀ m i (l : List Int), s.size ≤ i + m → i ≤ s.size → Bits l → l.length ≤ 3 + 32 * i → Ev (fun k => celluloidref06_Raw.l0 k s LA (codesOf LA) (codesOf LB) l (i : Int)) (strOfNums (pk (l ++ rbits s m i ++ sc 256))) := by
  have hX : (codesOf LA).length = 288 := by rw [codesOf_length, LA_len]
  have hLA := LA_len
  intro m
  induction m with
  | zero =>
    intro i l h0 h1 hb hlen
    have h := raw_end s hs l hb (by omega) i (by omega) (by omega)
    rw [show rbits s 0 i = [] from rfl, List.append_nil]
    exact h
  | succ m ih =>
    intro i l h0 h1 hb hlen
    by_cases c : i < s.size
    · have hr : Ev (fun k => celluloidref06_Run.f k s (i : Int)) (ip (run s i)) := ⟨300 * i + 2, fun k hk => ref_f s (by omega) i h1 k hk⟩
      have hrr := run_rng s i h1
      have hbt := bt_range s (i : Int)
      obtain ⟨c0, hc0⟩ : ∃ c0 : Nat, bt s (i : Int) = (c0 : Int) := ⟨(bt s (i : Int)).toNat, by omega⟩
      have hwb : wrap64 (bt s (i : Int)) = (c0 : Int) := by rw [hc0, w64 (by omega) (by omega)]
      have hE : rbits s (m + 1) i = if (run s i).1 = 0 then sc (bt s (i : Int)) ++ rbits s m (i + 1) else rc ((run s i).1 : Nat) ((run s i).2 : Nat) ++ rbits s m (i + (run s i).1) := by
        show (if i < s.size then _ else _) = _
        rw [if_pos c]
      rw [hE]
      clear hE
      generalize run s i = p at hr hrr ⊢
      obtain ⟨n, far⟩ := p
      have hip : ip (n, far) = ((n : Int), (far : Int)) := rfl
      rw [hip] at hr
      simp only at hrr ⊢
      refine Ev.step (f := fun k => (celluloidref06_Run.f k s (i : Int)).bind fun bt171 => if bt171.1 = 0 then ((celluloidref06_code.f k l (rd (codesOf LA) (c0 : Int)) (rd LA (c0 : Int))).bind fun t175 => (celluloidref06_Raw.l0 k s LA (codesOf LA) (codesOf LB) t175 ((i + 1 : Nat) : Int))) else (celluloidref06_Raw.l1 k s LA (codesOf LA) (codesOf LB) l (i : Int) bt171.1 bt171.2 257 257)) (fun k => ?_) (Ev.bind hr ?_)
      · simp only [celluloidref06_Raw.l0]
        rw [if_pos (by omega)]
        congr 1
        funext bt171
        rw [if_pos (show (0 : Int) ≤ (i : Int) by omega), hwb, if_pos (show (0 : Int) ≤ (c0 : Int) by omega), if_pos (show (c0 : Int) < ((codesOf LA).length : Int) by rw [hX]; omega), if_pos (show (c0 : Int) < (LA.length : Int) by rw [hLA]; omega), show wrap64 ((i : Int) + 1) = ((i + 1 : Nat) : Int) by rw [w64 (by omega) (by omega)]; rfl]
      · try dsimp only
        by_cases hz : n = 0
        · have hz' : ((n : Nat) : Int) = 0 := by omega
          simp only [if_pos hz, if_pos hz']
          have hsl := sc_len (c0 : Int)
          have hn := ih (i + 1) (l ++ sc (c0 : Int)) (by omega) (by omega) (hb.append (sc_bits _)) (by rw [List.length_append]; omega)
          rw [hc0, ← List.append_assoc]
          exact Ev.bind (sym_code c0 (by omega) l (by omega)) hn
        · have hz' : ¬ ((n : Nat) : Int) = 0 := by omega
          simp only [if_neg hz, if_neg hz']
          obtain ⟨r1, r2, r3, r4, r5, r6⟩ : 3 ≤ n ∧ n ≤ 258 ∧ 1 ≤ far ∧ far ≤ i ∧ far ≤ 32768 ∧ i + n ≤ s.size := by
            rcases hrr with h | h
            · exact absurd h.1 hz
            · exact h
          have hrl := rc_len (n : Int) (far : Int) (by omega) (by omega)
          have hn := ih (i + n) (l ++ rc (n : Int) (far : Int)) (by omega) (by omega) (hb.append (rc_bits _ _)) (by rw [List.length_append]; omega)
          rw [show ((i + n : Nat) : Int) = (i : Int) + (n : Int) by omega, List.append_assoc l] at hn
          rw [List.append_assoc l, List.append_assoc]
          rw [List.append_assoc l, List.append_assoc] at hn
          exact runs_l1 s l (by omega) i (n : Int) (far : Int) (by omega) (by omega) (by omega) (by omega) (by omega) _ hn 29 0 rfl
    · have h := raw_end s hs l hb (by omega) i (by omega) (by omega)
      have e : rbits s (m + 1) i = [] := by unfold rbits; rw [if_neg c]
      rw [e, List.append_nil]
      exact h
/-- The reference tells the program's bytes. -/
theorem ref_raw (s : ByteArray) (hs : s.size ≤ 1000000) : Ev (fun k => celluloidref06_Raw.f k s) (strOfNums (pk (RB s))) := by
  have h := raw_l0 s hs s.size 0 [1, 1, 0] (by omega) (by omega) (fun b hb => by simp at hb; omega) (by decide)
  have e : ([] ++ [1]) ++ nb 1 2 = [1, 1, 0] := by decide +kernel
  unfold RB
  rw [e]
  exact Ev.bind plain_is (Ev.bind (refcodes_is LA (by rw [LA_len]; decide) okLA) (Ev.bind (refcodes_is LB (by rw [LB_len]; decide) okLB) h))
end Go.Proofs.Ytpbhkdamkbopkaa.RefD
/- The checksum: the program and the reference tell the same sum of any bytes. -/
set_option linter.unusedSimpArgs false
set_option linter.unusedVariables false
namespace Go.Proofs.Ytpbhkdamkbopkaa.ASumD
open Go.RowKit Go.Proofs.Ytpbhkdamkbopkaa.GDefl Go.Proofs.YtpbhkdamkbopkaaW.PrintWords Go.Proofs.YtpbhkdamkbopkaaW.PrintLast Go.Proofs.YtpbhkdamkbopkaaW.PrintMore
/-- A byte more. -/
def stp (p : Int × Int) (c : Int) : Int × Int := ((p.1 + c) % 65521, (p.2 + (p.1 + c) % 65521) % 65521)
def run (p : Int × Int) (l : List Int) : Int × Int := l.foldl stp p
def bts (s : ByteArray) : List Int := s.data.toList.map fun c => (c.toNat : Int)
def fin (p : Int × Int) : Int := p.2 * 65536 + p.1
def Rng (p : Int × Int) : Prop := 0 ≤ p.1 ∧ p.1 < 65521 ∧ 0 ≤ p.2 ∧ p.2 < 65521

theorem bts_length (s : ByteArray) : (bts s).length = s.size := by unfold bts; rw [List.length_map, Array.length_toList]; rfl
theorem bts_append (s t : ByteArray) : bts (s ++ t) = bts s ++ bts t := by simp [bts]
theorem bts_get (s : ByteArray) (i : Nat) (h : i < s.size) : (bts s)[i]'(by rw [bts_length]; exact h) = bt s i := by
  have h2 : (Int.toNat (i : Int)) < s.size := by simpa using h
  unfold bt
  rw [dif_pos h2]
  simp [bts]
  rfl
theorem bts_drop (s : ByteArray) (i : Nat) (h : i < s.size) : (bts s).drop i = bt s i :: (bts s).drop (i + 1) := by
  rw [List.drop_eq_getElem_cons (by rw [bts_length]; exact h), bts_get s i h]
theorem bts_nil : bts ⟨#[]⟩ = [] := rfl
theorem stp_rng (p : Int × Int) (c : Int) : Rng (stp p c) := by unfold stp Rng; refine ⟨?_, ?_, ?_, ?_⟩ <;> simp only <;> omega
theorem run_nil (p : Int × Int) : run p [] = p := rfl
theorem run_cons (p : Int × Int) (c : Int) (l : List Int) : run p (c :: l) = run (stp p c) l := rfl
theorem run_append (p : Int × Int) (l m : List Int) : run p (l ++ m) = run (run p l) m := by unfold run; rw [List.foldl_append]
theorem run_rng (l : List Int) : ∀ p, Rng p → Rng (run p l) := by
  induction l with
  | nil => intro p h; exact h
  | cons c l ih => intro p _; rw [run_cons]; exact ih _ (stp_rng p c)
theorem rng_one : Rng (1, 0) := by unfold Rng; simp

theorem wrap_in {n : Int} (h0 : -9223372036854775808 ≤ n) (h1 : n ≤ 9223372036854775807) : wrap64 n = n := by unfold wrap64; omega

theorem wraps_i64 (j : Nat) (hj : j ≤ 62) (n : Int) (h₀ : 0 ≤ n) (h₁ : n < 2 ^ j) : IntKind.i64.wrap n = n := by
  have : (2 : Int) ^ j ≤ 2 ^ 62 := by
    have := Nat.pow_le_pow_right (n := 2) (by decide) hj
    exact_mod_cast this
  have h2 : (2 : Int) ^ 62 = 4611686018427387904 := by decide
  rw [IntKind.wrap_i64]; omega
theorem wraps_u32 (n : Int) (h₀ : 0 ≤ n) (h₁ : n < 2 ^ 32) : IntKind.u32.wrap n = n := by rw [IntKind.wrap_u32]; omega
theorem or_16 {x y : Int} (hx₀ : 0 ≤ x) (hx₁ : x < 65536) (h₀ : 0 ≤ y) (h₁ : y < 65536) : Go.bits .or .i64 (x * 65536) y = x * 65536 + y :=
  Go.bits_join .i64 40 (by decide) (wraps_i64 40 (by decide)) 16 _ _ (by omega) (by omega) (by omega) h₀ (by omega) (by omega)
theorem and_16 {x : Int} (hx₀ : 0 ≤ x) (hx₁ : x < 4294967296) : Go.bits .and .i64 x 65535 = x % 65536 :=
  Go.bits_mask .i64 40 (by decide) (wraps_i64 40 (by decide)) 16 (by decide) x hx₀ (by omega)
theorem and_16u {x : Int} (hx₀ : 0 ≤ x) (hx₁ : x < 4294967296) : Go.bits .and .u32 x 65535 = x % 65536 :=
  Go.bits_mask .u32 32 (by decide) wraps_u32 16 (by decide) x hx₀ (by omega)

/-- What the sum's parts are. -/
def prt (n : Int) : Int × Int := (n % 4294967296 % 65536 % 65521, n % 4294967296 / 65536 % 65521)
theorem prt_rng (n : Int) : Rng (prt n) := by unfold prt Rng; refine ⟨?_, ?_, ?_, ?_⟩ <;> simp only <;> omega
theorem prt_fin (p : Int × Int) (h : Rng p) : prt (fin p) = p := by
  obtain ⟨a, b⟩ := p
  unfold Rng at h; unfold prt fin
  simp only at h ⊢
  rw [Prod.mk.injEq]; constructor <;> omega
theorem prt_one : prt 1 = (1, 0) := by decide

/-- From another beginning: what is ahead is added once to A, and as often to B as there are bytes. -/
theorem run_from (l : List Int) : ∀ (a b x y : Int), 0 ≤ a → a < 65521 → 0 ≤ b → b < 65521 →
    (run (a, b) l).1 = ((run (x, y) l).1 + (a - x)) % 65521 ∨ l = [] := by
  induction l with
  | nil => intro a b x y _ _ _ _; exact .inr rfl
  | cons c l ih =>
    intro a b x y h0 h1 h2 h3
    refine .inl ?_
    rw [run_cons, run_cons]
    have e := stp_rng (a, b) c
    unfold Rng at e
    rcases ih (stp (a, b) c).1 (stp (a, b) c).2 (stp (x, y) c).1 (stp (x, y) c).2 e.1 e.2.1 e.2.2.1 e.2.2.2 with e1 | rfl
    · rw [show stp (a, b) c = ((stp (a, b) c).1, (stp (a, b) c).2) from rfl, show stp (x, y) c = ((stp (x, y) c).1, (stp (x, y) c).2) from rfl, e1]
      simp only [stp]
      omega
    · simp only [run_nil, stp]
      omega

/-- Congruent modulo 65521, by the quotient. -/
def Cg (a b : Int) : Prop := ∃ t : Int, a = b + 65521 * t
theorem Cg.eq_mod {a b : Int} (h : Cg a b) : a % 65521 = b % 65521 := by obtain ⟨t, rfl⟩ := h; omega
theorem Cg.rfl' (a : Int) : Cg a a := ⟨0, by omega⟩

/-- The second sum over n bytes from (a, b) against that from (x, y). -/
theorem run_cg (l : List Int) : ∀ (a b x y : Int),
    Cg ((run (a, b) l).1 - (run (x, y) l).1) (a - x) ∧ Cg ((run (a, b) l).2 - (run (x, y) l).2) (b - y + l.length * (a - x)) := by
  induction l with
  | nil => intro a b x y; simp only [run_nil]; exact ⟨Cg.rfl' _, ⟨0, by simp⟩⟩
  | cons c l ih =>
    intro a b x y
    obtain ⟨⟨t, e1⟩, ⟨u, e2⟩⟩ := ih (stp (a, b) c).1 (stp (a, b) c).2 (stp (x, y) c).1 (stp (x, y) c).2
    rw [run_cons, run_cons]
    have e3 : run (stp (a, b) c) l = run ((stp (a, b) c).1, (stp (a, b) c).2) l := rfl
    have e4 : run (stp (x, y) c) l = run ((stp (x, y) c).1, (stp (x, y) c).2) l := rfl
    rw [e3, e4, e1, e2]
    obtain ⟨v, hv⟩ : ∃ v : Int, (stp (a, b) c).1 = a + c - 65521 * v := ⟨(a + c) / 65521, by simp only [stp]; omega⟩
    obtain ⟨v', hv'⟩ : ∃ v : Int, (stp (x, y) c).1 = x + c - 65521 * v := ⟨(x + c) / 65521, by simp only [stp]; omega⟩
    obtain ⟨z, hz⟩ : ∃ z : Int, (stp (a, b) c).2 = b + (stp (a, b) c).1 - 65521 * z := ⟨(b + (stp (a, b) c).1) / 65521, by simp only [stp]; omega⟩
    obtain ⟨z', hz'⟩ : ∃ z : Int, (stp (x, y) c).2 = y + (stp (x, y) c).1 - 65521 * z := ⟨(y + (stp (x, y) c).1) / 65521, by simp only [stp]; omega⟩
    refine ⟨⟨t - v + v', by rw [hv, hv']; omega⟩, ⟨u - z + z' - v + v' + l.length * (v' - v), ?_⟩⟩
    rw [hz, hz', hv, hv', List.length_cons]
    push_cast
    grind

theorem join_math (p l m : Int × Int) (n : Int) (h1 : Cg (l.1 - m.1) (p.1 - 1)) (h2 : Cg (l.2 - m.2) (p.2 - 0 + n * (p.1 - 1))) (hl : Rng l) :
    (p.2 + m.2 + n % 65521 * (p.1 + 65521 - 1)) % 65521 = l.2 ∧ (p.1 + m.1 + 65521 - 1) % 65521 = l.1 := by
  obtain ⟨t, e1⟩ := h1
  obtain ⟨u, e2⟩ := h2
  obtain ⟨l0, l1, l2, l3⟩ := hl
  refine ⟨?_, by omega⟩
  obtain ⟨q, hq⟩ : ∃ q : Int, n % 65521 = n - 65521 * q := ⟨n / 65521, by omega⟩
  have : p.2 + m.2 + n % 65521 * (p.1 + 65521 - 1) = l.2 + 65521 * (n - 65521 * q - q * (p.1 - 1) - u) := by
    rw [hq]
    grind
  rw [this]
  omega

/-- The document's way, by places. -/
theorem ref_stp (a b p q c m : Int) (ha : Cg a p) (hb : Cg b (q + (m + 1) * p)) :
    Cg (a + c) (stp (p, q) c).1 ∧ Cg ((b + c * (m + 1)) % 65521) ((stp (p, q) c).2 + m * (stp (p, q) c).1) := by
  obtain ⟨t, rfl⟩ := ha
  obtain ⟨u, rfl⟩ := hb
  obtain ⟨v, hv⟩ : ∃ v : Int, (stp (p, q) c).1 = p + c - 65521 * v := ⟨(p + c) / 65521, by simp only [stp]; omega⟩
  obtain ⟨z, hz⟩ : ∃ z : Int, (stp (p, q) c).2 = q + (stp (p, q) c).1 - 65521 * z := ⟨(q + (stp (p, q) c).1) / 65521, by simp only [stp]; omega⟩
  generalize hx : (q + (m + 1) * p + 65521 * u + c * (m + 1)) / 65521 = x
  have hm : (q + (m + 1) * p + 65521 * u + c * (m + 1)) % 65521 = q + (m + 1) * p + 65521 * u + c * (m + 1) - 65521 * x := by omega
  refine ⟨⟨t + v, by rw [hv]; omega⟩, ⟨u - x + z + v * (m + 1), ?_⟩⟩
  rw [hm, hz, hv]
  grind


theorem parts_is (n : Int) : adler_parts.f n = some (prt n) := by
  unfold adler_parts.f
  rw [and_16u (by omega) (by omega), wrap_in (by omega) (by omega), Int.tmod_eq_emod_of_nonneg (by omega)]
  rfl

theorem more_l (s : ByteArray) (hn : s.size ≤ 140737488351232) (d : Nat) : ∀ (k i : Nat) (p : Int × Int), Rng p → i + d = s.size → d < k →
    adler_More.l0 k s p.1 p.2 s.size i = some (fin (run p ((bts s).drop i))) := by
  induction d with
  | zero =>
    intro k i p hp hi hk
    obtain ⟨k, rfl⟩ : ∃ m, k = m + 1 := ⟨k - 1, by omega⟩
    simp only [adler_More.l0]
    rw [if_neg (by omega), List.drop_of_length_le (by rw [bts_length]; omega), run_nil]
    obtain ⟨h0, h1, h2, h3⟩ := hp
    rw [wrap_in (by omega) (by omega), or_16 h2 (by omega) h0 (by omega)]; rfl
  | succ d ih =>
    intro k i p hp hi hk
    obtain ⟨k, rfl⟩ : ∃ m, k = m + 1 := ⟨k - 1, by omega⟩
    have hb := bt_range s i
    obtain ⟨h0, h1, h2, h3⟩ := hp
    simp only [adler_More.l0]
    rw [if_pos (by omega), if_pos (by omega), if_pos (by omega)]
    have e := ih k (i + 1) (stp p (bt s i)) (stp_rng _ _) (by omega) (by omega)
    rw [bts_drop s i (by omega), run_cons, ← e]
    have w1 : wrap64 (bt s i) = bt s i := wrap_in (by omega) (by omega)
    have w2 : wrap64 (p.1 + bt s i) = p.1 + bt s i := wrap_in (by omega) (by omega)
    have w3 : wrap64 (p.2 + (p.1 + bt s i) % 65521) = p.2 + (p.1 + bt s i) % 65521 := wrap_in (by omega) (by omega)
    have w4 : wrap64 ((i : Int) + 1) = ((i + 1 : Nat) : Int) := by rw [wrap_in (by omega) (by omega)]; omega
    rw [w1, w2, Int.tmod_eq_emod_of_nonneg (by omega), w3, Int.tmod_eq_emod_of_nonneg (by omega), w4]
    rfl

theorem more_is (n : Int) (s : ByteArray) (hn : s.size ≤ 140737488351232) (k : Nat) (hk : s.size < k) :
    adler_More.f k n s = some (fin (run (prt n) (bts s))) := by
  unfold adler_More.f
  rw [parts_is]
  have e := more_l s hn s.size k 0 (prt n) (prt_rng n) (by omega) hk
  rw [List.drop_zero] at e
  exact e

theorem sum_is (s : ByteArray) (hn : s.size ≤ 140737488351232) (k : Nat) (hk : s.size < k) :
    adler_Sum.f k s = some (fin (run (1, 0) (bts s))) := by
  unfold adler_Sum.f
  rw [more_is 1 s hn k hk, prt_one]; rfl

theorem low_is (n : Int) : celluloidref03_low.f n = some (prt n).1 := rfl
theorem high_is (n : Int) : celluloidref03_high.f n = some (prt n).2 := rfl

theorem q1lem (a c : Int) (i : Nat) (h : a ≤ 65521 + 255 * i) (hc : c ≤ 255) : a + c ≤ 65521 + 255 * ((i + 1 : Nat) : Int) := by omega
theorem ref_l (s : ByteArray) (hn : s.size ≤ 8192) (d : Nat) : ∀ (k i : Nat) (a b : Int) (p : Int × Int), Rng p → i + d = s.size → d < k →
    0 ≤ a → a ≤ 65521 + 255 * i → 0 ≤ b → b ≤ 4294967296 → Cg a p.1 → Cg b (p.2 + d * p.1) →
    celluloidref03_More.l0 k s a b s.size i = some (fin (run p ((bts s).drop i))) := by
  induction d with
  | zero =>
    intro k i a b p hp hi hk a0 a1 b0 b1 ha hb
    obtain ⟨k, rfl⟩ : ∃ m, k = m + 1 := ⟨k - 1, by omega⟩
    simp only [celluloidref03_More.l0]
    rw [if_neg (by omega), List.drop_of_length_le (by rw [bts_length]; omega), run_nil]
    obtain ⟨h0, h1, h2, h3⟩ := hp
    have ea := ha.eq_mod
    have eb := hb.eq_mod
    simp only [Int.natCast_zero, Int.zero_mul, Int.add_zero] at eb
    rw [Int.tmod_eq_emod_of_nonneg b0, Int.tmod_eq_emod_of_nonneg a0, wrap_in (n := b % 65521 * 65536) (by omega) (by omega), wrap_in (by omega) (by omega)]
    unfold fin
    congr 1
    omega
  | succ d ih =>
    intro k i a b p hp hi hk a0 a1 b0 b1 ha hb
    obtain ⟨k, rfl⟩ : ∃ m, k = m + 1 := ⟨k - 1, by omega⟩
    have hc := bt_range s i
    simp only [celluloidref03_More.l0]
    rw [if_pos (by omega), if_pos (by omega), if_pos (by omega)]
    obtain ⟨e1, e2⟩ := ref_stp a b p.1 p.2 (bt s i) d ha (by exact_mod_cast hb)
    have q0 : 0 ≤ a + bt s i := by omega
    have q1 : a + bt s i ≤ 65521 + 255 * ((i + 1 : Nat) : Int) := q1lem a (bt s i) i a1 hc.2
    have q2 : i + 1 + d = s.size := by omega
    have q3 : d < k := by omega
    have d0 : (d : Int) + 1 ≤ 8192 := by omega
    have p0 : 0 ≤ bt s i * (d + 1) := Int.mul_nonneg hc.1 (by omega)
    have p1 : bt s i * ((d : Int) + 1) ≤ 255 * 8192 := Int.mul_le_mul hc.2 d0 (by omega) (by omega)
    have q4 : i < s.size := by omega
    have q5 : a + bt s i ≤ 9223372036854775807 := by omega
    have q6 : (s.size : Int) - i = d + 1 := by omega
    have w0 : wrap64 (bt s i) = bt s i := wrap_in (by omega) (by omega)
    have w1 : wrap64 (a + bt s i) = a + bt s i := wrap_in (Int.le_trans (by decide) q0) q5
    have w2 : wrap64 ((s.size : Int) - i) = d + 1 := by rw [q6]; exact wrap_in (Int.le_trans (by decide) (Int.natCast_nonneg (d + 1))) (Int.le_trans d0 (by decide))
    have q7 : (i : Int) + 1 ≤ 8193 := by clear w0 w1 w2; omega
    have w5 : wrap64 ((i : Int) + 1) = ((i + 1 : Nat) : Int) := wrap_in (Int.le_trans (by decide) (Int.natCast_nonneg (i + 1))) (Int.le_trans q7 (by decide))
    rw [bts_drop s i q4, run_cons, w0, w1, w2, w5]
    generalize bt s i * ((d : Int) + 1) = y at p0 p1 e2 ⊢
    clear ha hb w0 w1 w2 w5
    have w3 : wrap64 y = y := wrap_in (by omega) (by omega)
    have w4 : wrap64 (b + y) = b + y := wrap_in (by omega) (by omega)
    rw [w3, w4, Int.tmod_eq_emod_of_nonneg (by omega)]
    exact ih k (i + 1) (a + bt s i) ((b + y) % 65521) (stp p (bt s i)) (stp_rng _ _) q2 q3 q0 q1 (by omega) (by omega) e1 e2

theorem ref_is (n : Int) (s : ByteArray) (hn : s.size ≤ 8192) (k : Nat) (hk : s.size < k) :
    celluloidref03_More.f k n s = some (fin (run (prt n) (bts s))) := by
  unfold celluloidref03_More.f
  rw [low_is, high_is]
  simp only [Option.bind_some]
  obtain ⟨h0, h1, h2, h3⟩ := prt_rng n
  have e0 : (s.size : Int) % 65521 = s.size := by omega
  have p0 : 0 ≤ (s.size : Int) * (prt n).1 := Int.mul_nonneg (by omega) h0
  have p1 : (s.size : Int) * (prt n).1 ≤ 8192 * 65521 := Int.mul_le_mul (by omega) (by omega) h0 (by omega)
  rw [e0, wrap_in (n := (s.size : Int) * (prt n).1) (by omega) (by omega), wrap_in (by omega) (by omega)]
  have e := ref_l s hn s.size k 0 (prt n).1 ((prt n).2 + s.size * (prt n).1) (prt n) (prt_rng n) (by omega) hk (by omega) (by omega) (by omega) (by omega) (Cg.rfl' _) (Cg.rfl' _)
  rw [List.drop_zero] at e
  exact e

theorem ref_sum (s : ByteArray) (hn : s.size ≤ 8192) (k : Nat) (hk : s.size < k) : celluloidref03_Sum.f k s = some (fin (run (1, 0) (bts s))) := by
  unfold celluloidref03_Sum.f
  rw [ref_is 1 s hn k hk]; rfl
end Go.Proofs.Ytpbhkdamkbopkaa.ASumD
/- Any bytes are packed, and wrapped, as the reference does it: for every input. -/
namespace Go.Proofs.Ytpbhkdamkbopkaa.Pure
open Go.RowKit Go.Proofs.Ytpbhkdamkbopkaa.GDefl Go.Proofs.YtpbhkdamkbopkaaW.PrintWords Go.Proofs.YtpbhkdamkbopkaaW.PrintLast
open Go.Proofs.Ytpbhkdamkbopkaa.RefD
open Go.Proofs.Ytpbhkdamkbopkaa.Wr (pk RB)
open Go.Proofs.Ytpbhkdamkbopkaa.GRuns (celluloidlaw06_awake.f)
open Go.Proofs.Ytpbhkdamkbopkaa.Wr1 (deflate_Raw.f)

/-- The four bytes of a sum. -/
def four (t : Int) : List Int := [(t / 16777216) % 256, (t / 65536) % 256, (t / 256) % 256, t % 256]
theorem four_ref (t : Int) (h0 : 0 ≤ t) (h1 : t ≤ 4294967295) : [(wrap64 (Int.tdiv t 16777216)) % 256, (Int.tmod (wrap64 (Int.tdiv t 65536)) 256) % 256, (Int.tmod (wrap64 (Int.tdiv t 256)) 256) % 256, (Int.tmod t 256) % 256] = four t := by
  unfold four
  rw [Int.tdiv_eq_ediv_of_nonneg h0, Int.tdiv_eq_ediv_of_nonneg h0, Int.tdiv_eq_ediv_of_nonneg h0, RefD.w64 (n := t / 16777216) (by omega) (by omega), RefD.w64 (n := t / 65536) (by omega) (by omega), RefD.w64 (n := t / 256) (by omega) (by omega),
    Int.tmod_eq_emod_of_nonneg (by omega), Int.tmod_eq_emod_of_nonneg (by omega), Int.tmod_eq_emod_of_nonneg h0]
  congr 1
  congr 1
  · omega
  congr 1
  · omega
  congr 1
  omega
theorem sum_rng (s : ByteArray) : 0 ≤ ASumD.fin (ASumD.run (1, 0) (ASumD.bts s)) ∧ ASumD.fin (ASumD.run (1, 0) (ASumD.bts s)) ≤ 4294967295 := by
  have h : ∀ (l : List Int) (p : Int × Int), ASumD.Rng p → ASumD.Rng (ASumD.run p l) := by
    intro l
    induction l with
    | nil => intro p hp; exact hp
    | cons c l ih => intro p hp; rw [ASumD.run_cons]; exact ih _ (ASumD.stp_rng p c)
  have hr := h (ASumD.bts s) (1, 0) ⟨by decide, by decide, by decide, by decide⟩
  generalize ASumD.run (1, 0) (ASumD.bts s) = p at hr ⊢
  obtain ⟨h0, h1, h2, h3⟩ := hr
  unfold ASumD.fin
  omega
theorem awake_ev : Ev (fun k => celluloidlaw06_awake.f k) true := ⟨300, fun k hk => Rn.awake_ok k hk⟩
theorem str_size (l : List Int) : (strOfNums l).size = l.length := by simp [strOfNums, ByteArray.size]
theorem raw_small (s : ByteArray) (hs : s.size ≤ 2048) : (strOfNums (pk (RB s))).size ≤ 1000000 := by
  have hl : ∀ m i, i ≤ s.size → (Wr.rbits s m i).length ≤ 32 * (s.size - i) := by
    intro m
    induction m with
    | zero => intro i _; simp [Wr.rbits]
    | succ m ih =>
      intro i hi
      unfold Wr.rbits
      have hr := Wr.run_rng s i hi
      by_cases c : i < s.size
      · rw [if_pos c]
        by_cases hz : (Rn.run s i).1 = 0
        · rw [if_pos hz, List.length_append]
          have h1 := ih (i + 1) (by omega)
          have h2 := Wr.sc_len (bt s (i : Int))
          omega
        · rw [if_neg hz, List.length_append]
          have h1 := ih (i + (Rn.run s i).1) (by omega)
          have h2 := Wr.rc_len ((Rn.run s i).1 : Nat) ((Rn.run s i).2 : Nat) (by omega) (by omega)
          omega
      · rw [if_neg c]; simp
  have h := hl s.size 0 (by omega)
  have h2 := Wr.sc_len 256
  rw [str_size, Wr.pk_len]
  unfold RB
  rw [List.length_append, List.length_append, List.length_append, Wr.nb_len]
  simp only [List.length_append, List.length_nil, List.length_singleton]
  omega
theorem size_app (a b : ByteArray) : (a ++ b).size = a.size + b.size := ByteArray.size_append
theorem DeflateRaw : celluloidlaw06_DeflateRaw.Pure := by
  intro s hs
  refine Ev.rounds ?_
  by_cases c : (s.size : Int) > 2048
  · refine Ev.congr (fun k => ?_) awake_ev
    unfold celluloidlaw06_DeflateRaw.f
    rw [if_pos c]
    cases celluloidlaw06_awake.f k <;> rfl
  · obtain ⟨R, hR⟩ : ∃ R, R = strOfNums (pk (RB s)) := ⟨_, rfl⟩
    obtain ⟨t, ht⟩ : ∃ t, t = ASumD.fin (ASumD.run (1, 0) (ASumD.bts s)) := ⟨_, rfl⟩
    have htr := sum_rng s
    rw [← ht] at htr
    have hRs := raw_small s (by omega)
    rw [← hR] at hRs
    have e1 : deflate_Raw.f s = some (R, 0) := by unfold deflate_Raw.f; rw [if_pos (by omega), hR]
    have e2 : Ev (fun k => celluloidref06_Raw.f k s) R := by rw [hR]; exact ref_raw s (by omega)
    have e3 : Ev (fun k => adler_Sum.f k s) t := ⟨s.size + 1, fun k hk => by rw [ht]; exact ASumD.sum_is s hs k (by omega)⟩
    have e4 : Ev (fun k => celluloidref03_Sum.f k s) t := ⟨s.size + 1, fun k hk => by rw [ht]; exact ASumD.ref_sum s (by omega) k (by omega)⟩
    have h2 : (strOfNums [120, 156]).size = 2 := rfl
    have h4 : (strOfNums (four t)).size = 4 := str_size _
    have hc2 : (⟨#[120, 156]⟩ : ByteArray) = strOfNums [120, 156] := by decide +kernel
    have e5 : Ev (fun k => deflate_Close.f k s) (strOfNums [120, 156] ++ R ++ strOfNums (four t), 0) := by
      refine Ev.congr (fun k => ?_) (Ev.bind (f := fun k x => some (strOfNums [120, 156] ++ R ++ strOfNums (four x), (0 : Int))) e3 (Ev.now _))
      unfold deflate_Close.f
      rw [e1]
      simp only [Option.bind_some]
      rw [if_pos trivial]
      cases adler_Sum.f k s with
      | none => rfl
      | some x =>
        simp only [Option.bind_some]
        have h5 : (strOfNums (four x)).size = 4 := str_size _
        rw [if_pos (by omega), hc2]
        show (if _ + (strOfNums (four x)).size ≤ _ then _ else _) = _
        rw [if_pos (by rw [size_app, h2, h5]; omega)]
        rfl
    have e6 : Ev (fun k => celluloidref06_Close.f k s) (strOfNums [120, 156] ++ R ++ strOfNums (four t)) := by
      unfold celluloidref06_Close.f
      refine Ev.bind e4 ?_
      simp only [Option.bind_some]
      refine Ev.bind e2 ?_
      rw [four_ref t htr.1 htr.2]
      refine Ev.congr (fun k => ?_) (Ev.now _)
      rw [if_pos (by rw [h2]; omega), if_pos (by rw [size_app, h2, h4]; omega)]
    unfold celluloidlaw06_DeflateRaw.f
    simp only [if_neg c, e1, Option.bind_some]
    refine Ev.bind e5 (Ev.bind e2 ?_)
    simp only [if_true]
    refine Ev.bind e6 ?_
    simp only [if_true]
    refine Ev.congr (fun k => ?_) awake_ev
    cases celluloidlaw06_awake.f k <;> rfl
end Go.Proofs.Ytpbhkdamkbopkaa.Pure
