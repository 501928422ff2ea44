/- The reference's error of lengths is the program's; the reference's codes are those of the lengths. -/
import Derived.Test.YtpbhkdamkbopkaaRefA
import Derived.Test.YtpbhkdamkbopkaaGHuffx2
import Derived.Test.YtpbhkdamkbopkaaGHuffx4
set_option linter.unusedSimpArgs false
set_option linter.unusedVariables false
namespace Go.Proofs.Ytpbhkdamkbopkaa.RefA
open Go.RowKit Go.Proofs.Ytpbhkdamkbopkaa.Ext Go.Proofs.Ytpbhkdamkbopkaa.GHuff Go.Proofs.YtpbhkdamkbopkaaW.PrintWords Go.Proofs.YtpbhkdamkbopkaaW.PrintLast Go.Proofs.YtpbhkdamkbopkaaW.PrintMore

/-! ### What counts say of sums -/
theorem cz_snoc (a : List Int) (x : Int) (n : Nat) (h : n < 16) : cz (a ++ [x]) n = cz a n + if x = n ∧ 0 < n then 1 else 0 := by
  unfold cz
  rw [List.getD_eq_getElem?_getD, List.getD_eq_getElem?_getD, cnts_get _ _ h, cnts_get _ _ h]
  simp only [Option.getD_some]
  by_cases h0 : n = 0
  · rw [if_pos h0, if_pos h0, if_neg (by omega)]; rfl
  · rw [if_neg h0, if_neg h0, cnt_snoc]
    by_cases hx : x = (n : Int)
    · rw [if_pos hx, if_pos ⟨hx, by omega⟩]
    · rw [if_neg hx, if_neg (fun h => hx h.1)]
theorem room_snoc (a : List Int) (x : Int) (n : Nat) (h : n ≤ 16) : roomN (cnts (a ++ [x])) n = roomN (cnts a) n - if 0 < x ∧ x < n then 2 ^ (15 - x.toNat) else 0 := by
  induction n with
  | zero => rw [if_neg (by omega)]; rfl
  | succ n ih =>
    have h1 : roomN (cnts (a ++ [x])) (n + 1) = roomN (cnts (a ++ [x])) n - cz (a ++ [x]) n * 2 ^ (15 - n) := rfl
    have h2 : roomN (cnts a) (n + 1) = roomN (cnts a) n - cz a n * 2 ^ (15 - n) := rfl
    have hc := cz_snoc a x n (by omega)
    rw [h1, h2, ih (by omega)]
    by_cases hx : x = (n : Int)
    · by_cases h0 : 0 < n
      · rw [if_pos (show x = (n : Int) ∧ 0 < n from ⟨hx, h0⟩)] at hc
        rw [hc, if_neg (show ¬ (0 < x ∧ x < (n : Int)) by omega), if_pos (show 0 < x ∧ x < ((n + 1 : Nat) : Int) by omega), Int.add_mul, hx, Int.toNat_natCast]
        omega
      · rw [if_neg (show ¬ (x = (n : Int) ∧ 0 < n) by omega)] at hc
        rw [hc, if_neg (show ¬ (0 < x ∧ x < (n : Int)) by omega), if_neg (show ¬ (0 < x ∧ x < ((n + 1 : Nat) : Int)) by omega), Int.add_zero]
        omega
    · rw [if_neg (show ¬ (x = (n : Int) ∧ 0 < n) from fun h => hx h.1), Int.add_zero] at hc
      rw [hc]
      by_cases h3 : 0 < x ∧ x < n
      · rw [if_pos h3, if_pos (show 0 < x ∧ x < ((n + 1 : Nat) : Int) by omega)]
        omega
      · rw [if_neg h3, if_neg (show ¬ (0 < x ∧ x < ((n + 1 : Nat) : Int)) by omega)]
        omega
theorem many_snoc (a : List Int) (x : Int) (n : Nat) (h : n ≤ 16) : manyN (cnts (a ++ [x])) n = manyN (cnts a) n + if 0 < x ∧ x < n then 1 else 0 := by
  induction n with
  | zero => rw [if_neg (by omega)]; rfl
  | succ n ih =>
    have h1 : manyN (cnts (a ++ [x])) (n + 1) = manyN (cnts (a ++ [x])) n + cz (a ++ [x]) n := rfl
    have h2 : manyN (cnts a) (n + 1) = manyN (cnts a) n + cz a n := rfl
    have hc := cz_snoc a x n (by omega)
    rw [h1, h2, ih (by omega)]
    by_cases hx : x = (n : Int)
    · by_cases h0 : 0 < n
      · rw [if_pos (show x = (n : Int) ∧ 0 < n from ⟨hx, h0⟩)] at hc
        rw [hc, if_neg (show ¬ (0 < x ∧ x < (n : Int)) by omega), if_pos (show 0 < x ∧ x < ((n + 1 : Nat) : Int) by omega)]
        omega
      · rw [if_neg (show ¬ (x = (n : Int) ∧ 0 < n) by omega)] at hc
        rw [hc, if_neg (show ¬ (0 < x ∧ x < (n : Int)) by omega), if_neg (show ¬ (0 < x ∧ x < ((n + 1 : Nat) : Int)) by omega), Int.add_zero]
        omega
    · rw [if_neg (show ¬ (x = (n : Int) ∧ 0 < n) from fun h => hx h.1), Int.add_zero] at hc
      rw [hc]
      by_cases h3 : 0 < x ∧ x < n
      · rw [if_pos h3, if_pos (show 0 < x ∧ x < ((n + 1 : Nat) : Int) by omega)]
        omega
      · rw [if_neg h3, if_neg (show ¬ (0 < x ∧ x < ((n + 1 : Nat) : Int)) by omega)]
        omega
theorem room_nil (n : Nat) (h : n ≤ 16) : roomN (cnts []) n = 32768 ∧ manyN (cnts []) n = 0 := by
  have hz : ∀ m, cz [] m = 0 := fun m => by have := cz_rng [] m; simp at this; omega
  induction n with
  | zero => exact ⟨rfl, rfl⟩
  | succ n ih =>
    have h1 : roomN (cnts []) (n + 1) = roomN (cnts []) n - cz [] n * 2 ^ (15 - n) := rfl
    have h2 : manyN (cnts []) (n + 1) = manyN (cnts []) n + cz [] n := rfl
    rw [h1, h2, hz n, (ih (by omega)).1, (ih (by omega)).2]
    simp
theorem ok_at (l : List Int) (h : okL l = true) (i : Nat) (hi : i < l.length) : ∃ n : Nat, l.getD i 0 = n ∧ n ≤ 15 := by
  obtain ⟨n, e, hn⟩ := good_is l i ((ok_is l).2 h i hi)
  exact ⟨n, by rw [← rd_nat]; exact e, by omega⟩
theorem takes_is (l : List Int) (h : okL l = true) : ∀ k, k ≤ l.length → takes l k = 32768 - roomN (cnts (l.take k)) 16 ∧ manyK l k = manyN (cnts (l.take k)) 16 ∧ onesK l k = cnt (l.take k) 1 := by
  intro k
  induction k with
  | zero => intro _; rw [List.take_zero, (room_nil 16 (Nat.le_refl _)).1, (room_nil 16 (Nat.le_refl _)).2]; simp [takes, manyK, onesK, cnt]
  | succ k ih =>
    intro hk
    obtain ⟨h1, h2, h3⟩ := ih (by omega)
    obtain ⟨n, en, hn⟩ := ok_at l h k (by omega)
    rw [take_snoc' l k (by omega), room_snoc _ _ 16 (Nat.le_refl _), many_snoc _ _ 16 (Nat.le_refl _), cnt_snoc, en]
    simp only [takes, manyK, onesK]
    rw [h1, h2, h3, en, Int.toNat_natCast, half_is n hn]
    refine ⟨?_, ?_, rfl⟩
    · by_cases h0 : 0 < (n : Int)
      · rw [if_pos h0, if_pos ⟨h0, by omega⟩]; omega
      · rw [if_neg h0, if_neg (fun h => h0 h.1)]; omega
    · by_cases h0 : 0 < (n : Int)
      · rw [if_pos h0, if_pos ⟨h0, by omega⟩]
      · rw [if_neg h0, if_neg (fun h => h0 h.1)]
theorem refErr_is (l : List Int) (h : okL l = true) : refErrOf l = if badSum l = true then 4 else 0 := by
  obtain ⟨h1, h2, h3⟩ := takes_is l h l.length (Nat.le_refl _)
  rw [List.take_length] at h1 h2 h3
  have hG := Gn_room l 15 (Nat.le_refl _)
  have hS := many_Sn l 15 (Nat.le_refl _)
  have hc1 : cz l 1 = cnt l 1 := cz_is l 1 (by decide) (by decide)
  rw [show (15 : Nat) + 1 = 16 from rfl] at hG hS
  simp only [Nat.sub_self, Int.pow_zero, Int.mul_one] at hG
  have hz : Sn l 15 = 0 → Gn l 15 = 0 := fun h0 => by
    have := Gn_stop l 0 15 (by decide) (by decide) (by rw [h0]; rfl)
    rw [Gn_zero] at this
    simpa using this
  have ho : Sn l 15 = 1 → cz l 1 = 1 → Gn l 15 = 16384 := fun h0 hc => by
    have hs1 := Sn_succ l 0 (by decide)
    have hs0 : Sn l 0 = 0 := rfl
    have := Gn_stop l 1 15 (by decide) (by decide) (by rw [h0, hs1, hs0, hc]; rfl)
    rw [this, Gn_succ, Gn_zero, hc]
    decide
  have hs0 : 0 ≤ Sn l 15 := Int.natCast_nonneg _
  unfold refErrOf badSum
  rw [h1, h2, h3, hS]
  rw [hS] at h2
  generalize roomN (cnts l) 16 = r at *
  generalize Sn l 15 = m at *
  rw [hc1] at ho
  generalize cnt l 1 = c at *
  generalize Gn l 15 = g at *
  by_cases hr : r = 0
  · subst hr; rw [if_pos (by omega), if_neg (by simp)]
  rw [if_neg (by omega)]
  by_cases hm : m = 0
  · have := hz hm
    rw [if_pos hm, if_neg]
    subst hm
    simp
    omega
  rw [if_neg hm]
  by_cases hm1 : m = 1
  · rw [if_pos hm1]
    by_cases hcc : c = 1
    · have := ho hm1 hcc
      rw [if_pos hcc, if_neg]
      subst hm1 hcc
      simp
      omega
    · rw [if_neg hcc, if_pos]
      subst hm1
      simp [hcc]
      omega
  · rw [if_neg hm1, if_pos]
    simp [hm1]
    omega
theorem referr_is (l : List Int) : Ev (fun k => celluloidref04_Error.f k l) (errOf l) := by
  unfold errOf
  by_cases h : 320 < l.length
  · rw [if_pos h]
    exact Ev.congr (f := fun _ => some 1) (fun k => by unfold celluloidref04_Error.f; rw [if_pos (by omega)]) (Ev.now _)
  rw [if_neg h]
  have h0 := referr_l0 l (by omega) l.length 0 (by omega) (fun q hq => absurd hq (Nat.not_lt_zero q))
  have e : (if okL l = true then refErrOf l else 1) = if okL l = false then 1 else if badSum l = true then 4 else 0 := by
    by_cases hk : okL l = true
    · rw [if_pos hk, if_neg (by rw [hk]; decide), refErr_is l hk]
    · rw [if_neg hk, if_pos (by simpa using hk)]
  rw [e] at h0
  exact Ev.congr (fun k => by unfold celluloidref04_Error.f; rw [if_neg (by omega)]; rfl) h0

/-! ### The reference's codes -/
/-- What the codes ahead of symbol i take, among the first q. -/
def ahead (l : List Int) (i : Nat) : Nat → Int
  | 0 => 0
  | q + 1 => ahead l i q + if 0 < l.getD q 0 ∧ (l.getD q 0 < l.getD i 0 ∨ l.getD q 0 = l.getD i 0 ∧ q < i) then half (l.getD q 0).toNat else 0
theorem ahead_rng (l : List Int) (i q : Nat) : 0 ≤ ahead l i q ∧ ahead l i q ≤ 32768 * q := by
  induction q with
  | zero => simp [ahead]
  | succ q ih =>
    have := half_rng (l.getD q 0).toNat
    simp only [ahead]
    split <;> omega
theorem ahead_is (l : List Int) (h : okL l = true) (i : Nat) (hi : i < l.length) (n : Nat) (hn : l.getD i 0 = n) (h0 : 0 < n) (hn15 : n ≤ 15) : ∀ q, q ≤ l.length →
    ahead l i q = 32768 - roomN (cnts (l.take q)) n + ((idxN l n (min q i)).length : Int) * 2 ^ (15 - n) := by
  intro q
  induction q with
  | zero => intro _; rw [List.take_zero, (room_nil n (by omega)).1, Nat.zero_min]; simp [ahead, idxN]
  | succ q ih =>
    intro hq
    obtain ⟨m, em, hm⟩ := ok_at l h q (by omega)
    have ih := ih (by omega)
    rw [take_snoc' l q (by omega), room_snoc _ _ n (by omega), em]
    simp only [ahead]
    rw [ih, em, hn, Int.toNat_natCast, half_is m hm]
    by_cases hqi : q < i
    · rw [show min (q + 1) i = q + 1 by omega, show min q i = q by omega, idxN_succ, em, List.length_append]
      by_cases hmn : m = n
      · subst hmn
        rw [if_pos (show 0 < (m : Int) ∧ ((m : Int) < m ∨ (m : Int) = m ∧ q < i) from ⟨by omega, .inr ⟨rfl, hqi⟩⟩), if_neg (show ¬ (0 < (m : Int) ∧ (m : Int) < m) by omega), if_pos rfl]
        simp only [List.length_singleton, Int.natCast_add, Int.add_mul]
        omega
      · have hz : ((idxN l n q).length + (if (m : Int) = (n : Int) then [(q : Int)] else []).length : Nat) = (idxN l n q).length := by
          rw [if_neg (by omega)]; rfl
        rw [hz]
        by_cases hlt : 0 < (m : Int) ∧ (m : Int) < n
        · rw [if_pos hlt, if_pos (show 0 < (m : Int) ∧ ((m : Int) < n ∨ (m : Int) = n ∧ q < i) from ⟨hlt.1, .inl hlt.2⟩)]
          omega
        · rw [if_neg hlt, if_neg (show ¬ (0 < (m : Int) ∧ ((m : Int) < n ∨ (m : Int) = n ∧ q < i)) by omega)]
          omega
    · rw [show min (q + 1) i = i by omega, show min q i = i by omega]
      by_cases hlt : 0 < (m : Int) ∧ (m : Int) < n
      · rw [if_pos hlt, if_pos (show 0 < (m : Int) ∧ ((m : Int) < n ∨ (m : Int) = n ∧ q < i) from ⟨hlt.1, .inl hlt.2⟩)]
        omega
      · rw [if_neg hlt, if_neg (show ¬ (0 < (m : Int) ∧ ((m : Int) < n ∨ (m : Int) = n ∧ q < i)) by omega)]
        omega
theorem firstC_room (l : List Int) (n : Nat) (h0 : 0 < n) (hn : n ≤ 15) : firstC l n * 2 ^ (15 - n) = 32768 - roomN (cnts l) n := by
  obtain ⟨m, rfl⟩ : ∃ m, n = m + 1 := ⟨n - 1, by omega⟩
  have h1 := Gn_room l m (by omega)
  rw [pow_split m hn] at h1
  rw [firstC_succ, Int.mul_comm 2, Int.mul_assoc]
  exact h1
/-- All that stands ahead, in units of the code's own last bit. -/
theorem ahead_code (l : List Int) (h : okL l = true) (i : Nat) (hi : i < l.length) (n : Nat) (hn : l.getD i 0 = n) (h0 : 0 < n) (hn15 : n ≤ 15) : ahead l i l.length / 2 ^ (15 - n) = codeAt l i := by
  rw [ahead_is l h i hi n hn h0 hn15 l.length (Nat.le_refl _), List.take_length, ← firstC_room l n h0 hn15, show min l.length i = i by omega, ← Int.add_mul,
    Int.mul_ediv_cancel _ (Int.ne_of_gt (Int.pow_pos (by decide)))]
  unfold codeAt
  rw [rank_n l i n hn, hn, Int.toNat_natCast]
theorem refcodes_l2 (l out : List Int) (i q : Nat) (hq : q < l.length) (n : Nat) (hn : l.getD q 0 = n) (hn15 : n ≤ 15) (sum : Int) (hs0 : 0 ≤ sum) (hs1 : sum ≤ 32768 * 400) (hl : l.length ≤ 320) (r : List Int)
    (h : Ev (fun k => celluloidref04_Codes.l1 k l out i (sum + half n) ((q + 1 : Nat) : Int)) r) (d : Nat) : ∀ j : Nat, j + d = n →
    Ev (fun k => celluloidref04_Codes.l2 k l out i sum q (half j) j) r := by
  have hrd : rd l q = n := by rw [rd_nat]; exact hn
  have hq1 : (q : Int) < l.length := by omega
  have e1 : Aside0 (wrap64 ((q : Int) + 1) = ((q + 1 : Nat) : Int)) := ⟨by rw [wrap_in (by omega) (by omega)]; rfl⟩
  induction d with
  | zero =>
    intro j hj
    obtain rfl : j = n := by omega
    have hh := half_rng j
    obtain ⟨K, h⟩ := h
    dsimp only at h
    have e2 : Aside0 (wrap64 (sum + half j) = sum + half j) := ⟨wrap_in (by omega) (by omega)⟩
    refine ⟨K + 1, fun k hk => ?_⟩
    obtain ⟨k, rfl⟩ : ∃ q, k = q + 1 := ⟨k - 1, by omega⟩
    simp only [celluloidref04_Codes.l2]
    rw [if_pos (Int.natCast_nonneg _), if_pos hq1, hrd, if_neg (Int.lt_irrefl _), e2.out, e1.out]
    exact h k (by omega)
  | succ d ih =>
    intro j hj
    obtain ⟨K, hd⟩ := ih (j + 1) (by omega)
    dsimp only at hd
    have hh := half_rng j
    rw [half_succ] at hd
    have hjn : (j : Int) < n := by omega
    have e2 : Aside0 (wrap64 (half j / 2) = half j / 2) := ⟨wrap_in (by omega) (by omega)⟩
    have e3 : Aside0 (wrap64 ((j : Int) + 1) = ((j + 1 : Nat) : Int)) := ⟨by rw [wrap_in (by omega) (by omega)]; rfl⟩
    refine ⟨K + 1, fun k hk => ?_⟩
    obtain ⟨k, rfl⟩ : ∃ q, k = q + 1 := ⟨k - 1, by omega⟩
    simp only [celluloidref04_Codes.l2]
    rw [if_pos (Int.natCast_nonneg _), if_pos hq1, hrd, if_pos hjn, Int.tdiv_eq_ediv_of_nonneg hh.1, e2.out, e3.out]
    exact hd k (by omega)
theorem refcodes_l3 (l out : List Int) (i : Nat) (hi : i < out.length) (hol : out.length ≤ 320) (r : List Int) (d : Nat) : ∀ (j : Nat) (sum : Int), j + d = 15 → 0 ≤ sum → sum ≤ 32768 * 400 →
    Ev (fun k => celluloidref04_Codes.l0 k l (out.set i (sum / 2 ^ d)) ((i + 1 : Nat) : Int)) r → Ev (fun k => celluloidref04_Codes.l3 k l out i sum j) r := by
  have e1 : Aside0 (wrap64 ((i : Int) + 1) = ((i + 1 : Nat) : Int)) := ⟨by rw [wrap_in (by omega) (by omega)]; rfl⟩
  induction d with
  | zero =>
    intro j sum hj hs0 hs1 h
    obtain ⟨K, h⟩ := h
    dsimp only at h
    rw [Int.pow_zero, Int.ediv_one] at h
    have hj' : ¬ (j : Int) < 15 := by omega
    have hi' : (i : Int) < out.length := by omega
    refine ⟨K + 1, fun k hk => ?_⟩
    obtain ⟨k, rfl⟩ : ∃ q, k = q + 1 := ⟨k - 1, by omega⟩
    simp only [celluloidref04_Codes.l3]
    rw [if_neg hj', if_pos (Int.natCast_nonneg _), if_pos hi', Int.toNat_natCast, e1.out]
    exact h k (by omega)
  | succ d ih =>
    intro j sum hj hs0 hs1 h
    have e : sum / 2 ^ (d + 1) = sum / 2 / 2 ^ d := by rw [Int.pow_succ, Int.mul_comm, Int.ediv_ediv_of_nonneg (by decide)]
    rw [e] at h
    obtain ⟨K, h⟩ := ih (j + 1) (sum / 2) (by omega) (by omega) (by omega) h
    dsimp only at h
    have hj' : (j : Int) < 15 := by omega
    have e2 : Aside0 (wrap64 (sum / 2) = sum / 2) := ⟨wrap_in (by omega) (by omega)⟩
    have e3 : Aside0 (wrap64 ((j : Int) + 1) = ((j + 1 : Nat) : Int)) := ⟨by rw [wrap_in (by omega) (by omega)]; rfl⟩
    refine ⟨K + 1, fun k hk => ?_⟩
    obtain ⟨k, rfl⟩ : ∃ q, k = q + 1 := ⟨k - 1, by omega⟩
    simp only [celluloidref04_Codes.l3]
    rw [if_pos hj', Int.tdiv_eq_ediv_of_nonneg hs0, e2.out, e3.out]
    exact h k (by omega)
theorem refcodes_l1 (l out : List Int) (hl : l.length ≤ 320) (hok : okL l = true) (i : Nat) (hi : i < l.length) (r : List Int)
    (h : Ev (fun k => celluloidref04_Codes.l3 k l out i (ahead l i l.length) (l.getD i 0)) r) (d : Nat) : ∀ q : Nat, q + d = l.length →
    Ev (fun k => celluloidref04_Codes.l1 k l out i (ahead l i q) q) r := by
  have hri : rd l i = l.getD i 0 := rd_nat l i
  have hi1 : (i : Int) < l.length := by omega
  induction d with
  | zero =>
    intro q hq
    obtain rfl : q = l.length := by omega
    obtain ⟨K, h⟩ := h
    dsimp only at h
    refine ⟨K + 1, fun k hk => ?_⟩
    obtain ⟨k, rfl⟩ : ∃ q, k = q + 1 := ⟨k - 1, by omega⟩
    simp only [celluloidref04_Codes.l1]
    rw [if_neg (Int.lt_irrefl _), if_pos (Int.natCast_nonneg _), if_pos hi1, hri]
    exact h k (by omega)
  | succ d ih =>
    intro q hq
    have hrq : rd l q = l.getD q 0 := rd_nat l q
    have hq1 : (q : Int) < l.length := by omega
    obtain ⟨m, em, hm⟩ := ok_at l hok q (by omega)
    have hd := ih (q + 1) (by omega)
    have har := ahead_rng l i q
    have e1 : Aside0 (wrap64 ((q : Int) + 1) = ((q + 1 : Nat) : Int)) := ⟨by rw [wrap_in (by omega) (by omega)]; rfl⟩
    simp only [ahead] at hd
    -- the test comes to this
    have key : Ev (fun k => celluloidref04_Codes.j2 k l out i (ahead l i q) q (decide (0 < l.getD q 0 ∧ (l.getD q 0 < l.getD i 0 ∨ l.getD q 0 = l.getD i 0 ∧ q < i)))) r := by
      by_cases hc : 0 < l.getD q 0 ∧ (l.getD q 0 < l.getD i 0 ∨ l.getD q 0 = l.getD i 0 ∧ q < i)
      · rw [decide_eq_true hc]
        rw [if_pos hc, em, Int.toNat_natCast] at hd
        have h2 := refcodes_l2 l out i q (by omega) m em hm (ahead l i q) har.1 (by omega) hl r hd m 0 (by omega)
        exact Ev.step (fun k => by simp only [celluloidref04_Codes.j2]; rw [if_pos trivial]; rfl) h2
      · rw [decide_eq_false hc]
        rw [if_neg hc, Int.add_zero] at hd
        exact Ev.step (fun k => by simp only [celluloidref04_Codes.j2]; rw [if_neg (by simp), e1.out]) hd
    refine Ev.step (fun k => ?_) key
    simp only [celluloidref04_Codes.l1]
    rw [if_pos hq1, if_pos (Int.natCast_nonneg _), hrq, hri]
    by_cases h0 : l.getD q 0 > 0
    · rw [if_pos h0, if_pos (Int.natCast_nonneg _), if_pos hi1]
      by_cases h1 : l.getD q 0 < l.getD i 0
      · rw [if_pos h1, decide_eq_true ⟨h0, .inl h1⟩]
      · rw [if_neg h1]
        by_cases h2 : l.getD q 0 = l.getD i 0
        · rw [if_pos h2]
          congr 1
          rw [Bool.eq_iff_iff]
          simp only [decide_eq_true_eq]
          omega
        · rw [if_neg h2, decide_eq_false (fun h => h.2.elim h1 (fun h => h2 h.1))]
    · rw [if_neg h0, decide_eq_false (fun h => h0 h.1)]
theorem set_mid (a b : List Int) (x v : Int) (i : Nat) (h : a.length = i) : (a ++ x :: b).set i v = a ++ v :: b := by
  subst h
  simp [List.set_append]
theorem codesOf_length (l : List Int) : (codesOf l).length = l.length := by simp [codesOf]
theorem codesOf_get (l : List Int) (i : Nat) (hi : i < l.length) : (codesOf l)[i]? = some (if l.getD i 0 ≤ 0 then 0 else codeAt l i) := by simp [codesOf, hi]
theorem refcodes_l0 (l : List Int) (hl : l.length ≤ 320) (hok : okL l = true) (d : Nat) : ∀ i : Nat, i + d = l.length →
    Ev (fun k => celluloidref04_Codes.l0 k l ((codesOf l).take i ++ List.replicate d 0) i) (codesOf l) := by
  induction d with
  | zero =>
    intro i hi
    obtain rfl : i = l.length := by omega
    refine Ev.step (f := fun _ => some (codesOf l)) (fun k => ?_) (Ev.now _)
    simp only [celluloidref04_Codes.l0]
    rw [if_neg (Int.lt_irrefl _), List.take_of_length_le (by rw [codesOf_length]; omega)]
    simp
  | succ d ih =>
    intro i hi
    have hd := ih (i + 1) (by omega)
    have hil : (i : Int) < l.length := by omega
    have hri : rd l i = l.getD i 0 := rd_nat l i
    have hget := codesOf_get l i (by omega)
    have hci : i < (codesOf l).length := by rw [codesOf_length]; omega
    have e1 : Aside0 (wrap64 ((i : Int) + 1) = ((i + 1 : Nat) : Int)) := ⟨by rw [wrap_in (by omega) (by omega)]; rfl⟩
    have hset : ∀ v, (codesOf l)[i]? = some v → ((codesOf l).take i ++ List.replicate (d + 1) 0).set i v = (codesOf l).take (i + 1) ++ List.replicate d 0 := by
      intro v hv
      rw [List.take_succ_eq_append_getElem hci, List.replicate_succ, set_mid _ _ _ _ i (by rw [List.length_take]; omega), List.append_assoc, List.singleton_append]
      rw [List.getElem?_eq_getElem hci] at hv
      injection hv with hv
      rw [hv]
    obtain ⟨n, en, hn⟩ := ok_at l hok i (by omega)
    by_cases h0 : l.getD i 0 = 0
    · rw [if_pos (by omega)] at hget
      have hs := hset 0 hget
      have hsame : ((codesOf l).take i ++ List.replicate (d + 1) 0).set i 0 = (codesOf l).take i ++ List.replicate (d + 1) (0 : Int) := by
        rw [List.replicate_succ, set_mid _ _ _ _ i (by rw [List.length_take]; omega)]
      rw [hsame] at hs
      rw [hs]
      refine Ev.step (fun k => ?_) hd
      simp only [celluloidref04_Codes.l0]
      rw [if_pos hil, if_pos (Int.natCast_nonneg _), hri, if_pos h0, e1.out]
    · rw [if_neg (by omega)] at hget
      have hs := hset _ hget
      have hol : ((codesOf l).take i ++ List.replicate (d + 1) (0 : Int)).length = l.length := by
        rw [List.length_append, List.length_take, List.length_replicate]; omega
      have har := ahead_rng l i l.length
      rw [← hs, ← ahead_code l hok i (by omega) n en (by omega) hn] at hd
      have h3 := refcodes_l3 l _ i (by rw [hol]; omega) (by rw [hol]; omega) _ (15 - n) n (ahead l i l.length) (by omega) har.1 (by omega) hd
      rw [← en] at h3
      have h1 := refcodes_l1 l _ hl hok i (by omega) _ h3 l.length 0 (by omega)
      refine Ev.step (fun k => ?_) h1
      simp only [celluloidref04_Codes.l0]
      rw [if_pos hil, if_pos (Int.natCast_nonneg _), hri, if_neg h0]
      rfl
theorem refcodes_is (l : List Int) (hl : l.length ≤ 320) (hok : okL l = true) : Ev (fun k => celluloidref04_Codes.f k l) (codesOf l) := by
  refine Ev.congr (fun k => ?_) (refcodes_l0 l hl hok l.length 0 (by omega))
  unfold celluloidref04_Codes.f
  rw [if_pos (Int.natCast_nonneg _), Int.toNat_natCast, if_pos (by omega)]
  rfl
end Go.Proofs.Ytpbhkdamkbopkaa.RefA
