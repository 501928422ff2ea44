/- The program's loops of Run answer the run of a place. -/
import Derived.Test.YtpbhkdamkbopkaaRunMath
namespace Go.Proofs.Ytpbhkdamkbopkaa.Rn
set_option linter.unusedSimpArgs false
set_option linter.unusedVariables false
open Go.RowKit Go.Proofs.Ytpbhkdamkbopkaa.GRuns Go.Proofs.YtpbhkdamkbopkaaW.PrintWords Go.Proofs.YtpbhkdamkbopkaaW.PrintLast Go.Proofs.YtpbhkdamkbopkaaW.PrintMore

theorem alike_loop (s : ByteArray) (hs : s.size ≤ 140737488351232) (i j : Nat) (hj : j ≤ i) : ∀ (e n : Nat), n + e = 258 → i + n ≤ s.size → ∀ k, e + 1 ≤ k → deflate_alike.l0 k s (i : Int) (j : Int) (n : Int) = some ((ml s i j e n : Nat) : Int) := by
  intro e
  induction e with
  | zero =>
    intro n hn hi k hk
    obtain ⟨k, rfl⟩ := Nat.exists_eq_add_of_le' hk
    obtain rfl : n = 258 := by omega
    rw [show k + (0 + 1) = k + 1 from rfl, deflate_alike.l0, if_neg (by omega)]
    rfl
  | succ e ih =>
    intro n hn hi k hk
    obtain ⟨k, rfl⟩ := Nat.exists_eq_add_of_le' hk
    have e1 : wrap64 ((i : Int) + (n : Int)) = ((i + n : Nat) : Int) := by rw [w64 (by omega) (by omega)]; omega
    have e2 : wrap64 ((j : Int) + (n : Int)) = ((j + n : Nat) : Int) := by rw [w64 (by omega) (by omega)]; omega
    have e3 : wrap64 ((n : Int) + 1) = ((n + 1 : Nat) : Int) := by rw [w64 (by omega) (by omega)]; omega
    rw [show k + (e + 1 + 1) = (k + e + 1) + 1 from rfl, deflate_alike.l0, e1, e2, e3, if_pos (by omega)]
    simp only [ml]
    by_cases c : i + n < s.size
    · rw [if_pos (by omega), if_pos (by omega), if_pos (by omega), if_pos (by omega)]
      by_cases c2 : bt s ((i + n : Nat) : Int) = bt s ((j + n : Nat) : Int)
      · rw [if_pos c2, if_pos ⟨by omega, c, c2⟩]
        exact ih (n + 1) (by omega) (by omega) (k + e + 1) (by omega)
      · rw [if_neg c2, if_neg (fun h => c2 h.2.2)]
    · rw [if_neg (by omega), if_neg (fun h => c h.2.1)]
theorem alike_f (s : ByteArray) (hs : s.size ≤ 140737488351232) (i j : Nat) (hj : j ≤ i) (hi : i ≤ s.size) (k : Nat) (hk : 259 ≤ k) : deflate_alike.f k s (i : Int) (j : Int) = some ((mlen s i j : Nat) : Int) := by
  have h := alike_loop s hs i j hj 258 0 rfl (by omega) k hk
  unfold mlen
  exact h
/-- Three bytes alike. -/
def tri (s : ByteArray) (i j : Nat) : Prop := bt s (i : Int) = bt s (j : Int) ∧ bt s ((i + 1 : Nat) : Int) = bt s ((j + 1 : Nat) : Int) ∧ bt s ((i + 2 : Nat) : Int) = bt s ((j + 2 : Nat) : Int)
instance (s : ByteArray) (i j : Nat) : Decidable (tri s i j) := by unfold tri; infer_instance
theorem tri_iff {s : ByteArray} {i j : Nat} (hi : i + 3 ≤ s.size) : tri s i j ↔ 3 ≤ mlen s i j := by
  obtain ⟨a, b, c, d⟩ := mlen_spec (s := s) (i := i) (j := j) (by omega)
  constructor
  · intro ⟨h0, h1, h2⟩
    rcases Nat.lt_or_ge (mlen s i j) 3 with h | h
    · exfalso
      rcases d with d | d | d
      · omega
      · omega
      · generalize mlen s i j = m at *
        have : m = 0 ∨ m = 1 ∨ m = 2 := by omega
        rcases this with rfl | rfl | rfl
        · exact d h0
        · exact d h1
        · exact d h2
    · exact h
  · intro h
    exact ⟨c 0 (by omega), c 1 (by omega), c 2 (by omega)⟩
/-- The places from a on with three bytes as at i, n of them looked at. -/
def pl (s : ByteArray) (i a : Nat) : Nat → List Int
  | 0 => []
  | n + 1 => if tri s i (a + n) then pl s i a n ++ [((a + n : Nat) : Int)] else pl s i a n
theorem pl_len (s : ByteArray) (i a : Nat) : ∀ n, (pl s i a n).length ≤ n := by
  intro n
  induction n with
  | zero => exact Nat.le_refl _
  | succ n ih =>
    simp only [pl]
    split
    · simp; omega
    · omega
theorem fin_stay (s : ByteArray) (i D : Nat) (h : mlen s i (i - (D + 1)) < 3) : fin (best s i (D + 1)) = fin (best s i D) := by
  simp only [best]
  split
  · unfold fin
    rw [if_pos (by simp only; omega), if_pos (by omega)]
  · rfl
/-- A best of the length that none is above stays. -/
theorem best_stay (s : ByteArray) (i D : Nat) (h : ∀ d, mlen s i (i - d) ≤ (best s i D).1) : ∀ n, best s i (D + n) = best s i D := by
  intro n
  induction n with
  | zero => rfl
  | succ n ih =>
    rw [show D + (n + 1) = (D + n) + 1 from rfl]
    simp only [best]
    rw [if_neg (by rw [ih]; have := h (D + n + 1); omega), ih]
/-- As integers. -/
def ip (p : Nat × Nat) : Int × Int := (((p.1 : Nat) : Int), ((p.2 : Nat) : Int))
theorem fin_int (p : Nat × Nat) : (if (((fin p).1 : Nat) : Int) < 3 then some ((0 : Int), (0 : Int)) else some ((((fin p).1 : Nat) : Int), (((fin p).2 : Nat) : Int))) = some (ip (fin p)) := by
  unfold fin
  split <;> rename_i c
  · simp [ip]
  · rw [if_neg (by omega)]; rfl
theorem rd_mid (L Q : List Int) (x : Int) : rd (L ++ [x] ++ Q) (L.length : Int) = x := by
  simp [rd, List.getD_eq_getElem?_getD]
/-- What stops the loop is the run. -/
theorem stay_of {s : ByteArray} {i D n : Nat} (hi : i + 3 ≤ s.size) (hn : min i 32768 = D + n) (h : (fin (best s i D)).1 = 258 ∨ i + (fin (best s i D)).1 = s.size) : run s i = fin (best s i D) ∧ ¬ (fin (best s i D)).1 < 3 := by
  have h3 : ¬ (best s i D).1 < 3 := by
    intro h4
    unfold fin at h
    rw [if_pos h4] at h
    simp only at h
    omega
  have e4 : fin (best s i D) = best s i D := by unfold fin; rw [if_neg h3]
  rw [e4] at h ⊢
  refine ⟨?_, h3⟩
  have h5 := best_stay s i D (fun d => by
    obtain ⟨v0, v1, _, _⟩ := mlen_spec (s := s) (i := i) (j := i - d) (by omega)
    omega) n
  unfold run
  rw [hn, h5, e4]
/-- The end of a turn. -/
theorem turn_ite (i m f z : Nat) (r : Nat × Nat) (c : Option (Int × Int)) (hm : m ≤ 258) (hz : i + m ≤ z) (hz' : z ≤ 140737488351232) (stay : m = 258 ∨ i + m = z → r = (m, f) ∧ ¬ m < 3) (hc : c = some (ip r)) :
    (if ((m : Nat) : Int) = 258 then (if ((m : Nat) : Int) < 3 then some (0, 0) else some (((m : Nat) : Int), ((f : Nat) : Int))) else if wrap64 (((i : Nat) : Int) + ((m : Nat) : Int)) = ((z : Nat) : Int) then (if ((m : Nat) : Int) < 3 then some (0, 0) else some (((m : Nat) : Int), ((f : Nat) : Int))) else c) = some (ip r) := by
  rw [w64 (by omega) (by omega)]
  by_cases c1 : m = 258
  · have h := stay (.inl c1)
    rw [if_pos (by omega), if_neg (by omega), h.1]; rfl
  · rw [if_neg (by omega)]
    by_cases c2 : i + m = z
    · have h := stay (.inr c2)
      rw [if_pos (by omega), if_neg (by omega), h.1]; rfl
    · rw [if_neg (by omega)]; exact hc
/-- The best with a distance more, where three bytes are alike. -/
theorem best_more {s : ByteArray} {i D : Nat} (hm : 3 ≤ mlen s i (i - (D + 1))) : fin (best s i (D + 1)) = if mlen s i (i - (D + 1)) > (fin (best s i D)).1 then (mlen s i (i - (D + 1)), D + 1) else fin (best s i D) := by
  simp only [best]
  generalize mlen s i (i - (D + 1)) = m at *
  generalize best s i D = p
  have e0 : fin (m, D + 1) = (m, D + 1) := by unfold fin; rw [if_neg (by simp only; omega)]
  by_cases h : p.1 < 3
  · have e1 : fin p = (0, 0) := by unfold fin; rw [if_pos h]
    rw [e1, if_pos (show m > p.1 by omega), e0, if_pos (by simp only; omega)]
  · have e1 : fin p = p := by unfold fin; rw [if_neg h]
    rw [e1]
    by_cases g : m > p.1
    · rw [if_pos g, e0]
    · rw [if_neg g, e1]
/-- A turn of the loop over the places: nothing but numbers. -/
theorem turn_all (i m f m' f' z : Nat) (r : Nat × Nat) (c c' : Option (Int × Int)) (hm : m ≤ 258) (hz : i + m ≤ z) (hm' : m' ≤ m ∨ m' ≤ 258 ∧ i + m' ≤ z) (hz' : z ≤ 140737488351232)
    (stay : (if m > m' then (m, f) else (m', f')).1 = 258 ∨ i + (if m > m' then (m, f) else (m', f')).1 = z → r = (if m > m' then (m, f) else (m', f')) ∧ ¬ (if m > m' then (m, f) else (m', f')).1 < 3) (hc : m > m' → c = some (ip r)) (hc' : ¬ m > m' → c' = some (ip r)) :
    (if ((m : Nat) : Int) > ((m' : Nat) : Int) then (if ((m : Nat) : Int) = 258 then (if ((m : Nat) : Int) < 3 then some (0, 0) else some (((m : Nat) : Int), ((f : Nat) : Int))) else if wrap64 (((i : Nat) : Int) + ((m : Nat) : Int)) = ((z : Nat) : Int) then (if ((m : Nat) : Int) < 3 then some (0, 0) else some (((m : Nat) : Int), ((f : Nat) : Int))) else c) else (if ((m' : Nat) : Int) = 258 then (if ((m' : Nat) : Int) < 3 then some (0, 0) else some (((m' : Nat) : Int), ((f' : Nat) : Int))) else if wrap64 (((i : Nat) : Int) + ((m' : Nat) : Int)) = ((z : Nat) : Int) then (if ((m' : Nat) : Int) < 3 then some (0, 0) else some (((m' : Nat) : Int), ((f' : Nat) : Int))) else c')) = some (ip r) := by
  by_cases g : m > m'
  · rw [if_pos (by omega)]
    simp only [if_pos g] at stay
    exact turn_ite i m f z r c hm hz hz' stay (hc g)
  · rw [if_neg (by omega)]
    simp only [if_neg g] at stay
    exact turn_ite i m' f' z r c' (by omega) (by omega) hz' stay (hc' g)
/-- The loop over the places, from the nearest on. -/
theorem best_loop (s : ByteArray) (hs : s.size ≤ 140737488351232) (i : Nat) (hi : i + 3 ≤ s.size) (a : Nat) (ha : a = i - 32768) (L : List Int) (hL : L.length < 17592186044416) : ∀ n D, n + D = i - a → (∃ Q, L = pl s i a n ++ Q) →
    ∀ k, 2 * n + 262 ≤ k → deflate_best.l0 k s (i : Int) L (((fin (best s i D)).1 : Nat) : Int) (((fin (best s i D)).2 : Nat) : Int) (((pl s i a n).length : Int) - 1) = some (ip (run s i)) := by
  have hW : min i 32768 = i - a := by omega
  intro n
  induction n with
  | zero =>
    intro D hD _ k hk
    obtain ⟨k, rfl⟩ := Nat.exists_eq_add_of_le' (show 2 ≤ k by omega)
    have hr : run s i = fin (best s i D) := by unfold run; rw [hW, ← hD, Nat.zero_add]
    rw [show k + 2 = (k + 1) + 1 from rfl, deflate_best.l0]
    rw [if_neg (by simp [pl]), deflate_best.j1, if_neg (by simp), hr]
    exact fin_int _
  | succ n ih =>
    intro D hD hQ k hk
    obtain ⟨Q, hQ⟩ := hQ
    have hp : i - (D + 1) = a + n := by omega
    by_cases c : tri s i (a + n)
    · have hm := (tri_iff hi).1 c
      simp only [pl, if_pos c] at hQ ⊢
      obtain ⟨k, rfl⟩ := Nat.exists_eq_add_of_le' (show 2 ≤ k by omega)
      have hrd : rd L ((pl s i a n).length : Int) = ((a + n : Nat) : Int) := by rw [hQ]; exact rd_mid _ _ _
      have hlen : (pl s i a n).length < L.length := by rw [hQ]; simp
      have hl1 : (((pl s i a n ++ [((a + n : Nat) : Int)]).length : Int) - 1) = ((pl s i a n).length : Int) := by simp
      have ih' := ih (D + 1) (by omega) ⟨[((a + n : Nat) : Int)] ++ Q, by rw [hQ, List.append_assoc]⟩ k (by omega)
      have stay := stay_of (s := s) (i := i) (D := D + 1) (n := n) hi (by omega)
      obtain ⟨u0, u1, _, _⟩ := mlen_spec (s := s) (i := i) (j := a + n) (by omega)
      have v : (fin (best s i D)).1 ≤ mlen s i (a + n) ∨ (fin (best s i D)).1 ≤ 258 ∧ i + (fin (best s i D)).1 ≤ s.size := by
        rcases (best_spec s i D).2 with h | ⟨_, _, h, _⟩
        · left; unfold fin; split <;> (try simp only) <;> omega
        · right
          obtain ⟨v0, v1, _, _⟩ := mlen_spec (s := s) (i := i) (j := i - (best s i D).2) (by omega)
          rw [h] at v0 v1
          unfold fin
          split <;> (try simp only) <;> omega
      have hb := best_more (s := s) (i := i) (D := D) (by rw [hp]; exact hm)
      rw [hb, hp] at stay ih'
      have ed : wrap64 ((i : Int) - ((a + n : Nat) : Int)) = ((D + 1 : Nat) : Int) := by rw [w64 (by omega) (by omega)]; omega
      have el : wrap64 (((pl s i a n).length : Int) - 1) = ((pl s i a n).length : Int) - 1 := w64 (by omega) (by omega)
      have hk1 : 259 ≤ k := by omega
      have hd : ((D + 1 : Nat) : Int) ≤ 32768 := by omega
      have hn0 : (0 : Int) ≤ ((pl s i a n).length : Int) := Int.natCast_nonneg _
      have hn1 : ((pl s i a n).length : Int) < (L.length : Int) := Int.ofNat_lt.mpr hlen
      have hal := alike_f s hs i (a + n) (by omega) (by omega) k hk1
      rw [hl1, show k + 2 = (k + 1) + 1 from rfl, deflate_best.l0, hrd]
      rw [if_pos hn0, if_pos hn0, if_pos hn1, ed, decide_eq_true hd, deflate_best.j1, if_pos rfl, if_pos hn0, if_pos hn1, hrd, ed, el, hal]
      simp only [Option.bind_some]
      generalize mlen s i (a + n) = m at *
      generalize fin (best s i D) = p at *
      obtain ⟨m', f'⟩ := p
      exact turn_all i m (D + 1) m' f' s.size (run s i) _ _ u0 u1 v hs stay (fun g => by rw [if_pos g] at ih'; exact ih') (fun g => by rw [if_neg g] at ih'; exact ih')
    · have hm : mlen s i (i - (D + 1)) < 3 := by
        rw [hp]
        rcases Nat.lt_or_ge (mlen s i (a + n)) 3 with h | h
        · exact h
        · exact absurd ((tri_iff hi).2 h) c
      simp only [pl, if_neg c] at hQ ⊢
      have ih' := ih (D + 1) (by omega) ⟨Q, hQ⟩ k (by omega)
      rw [fin_stay s i D hm] at ih'
      exact ih'
theorem at_ok (s : ByteArray) (hs : s.size ≤ 140737488351232) (p : Nat) (hp : p + 3 ≤ s.size) : deflate_at.f s (p : Int) = some (bt s (p : Int), bt s ((p + 1 : Nat) : Int), bt s ((p + 2 : Nat) : Int), true) := by
  have e1 : wrap64 ((p : Int) + 1) = ((p + 1 : Nat) : Int) := by rw [w64 (by omega) (by omega)]; omega
  have e2 : wrap64 ((p : Int) + 2) = ((p + 2 : Nat) : Int) := by rw [w64 (by omega) (by omega)]; omega
  have e3 : wrap64 ((s.size : Int) - 3) = ((s.size - 3 : Nat) : Int) := by rw [w64 (by omega) (by omega)]; omega
  unfold deflate_at.f
  rw [e1, e2, e3]
  clear e1 e2 e3
  rw [if_neg (by omega), if_neg (by omega), if_pos (by omega), if_pos (by omega), if_pos (by omega), if_pos (by omega), if_pos (by omega), if_pos (by omega)]
theorem at_no (s : ByteArray) (hs : s.size ≤ 140737488351232) (p : Int) (hp : p < 0 ∨ p + 3 > s.size) : deflate_at.f s p = some (0, 0, 0, false) := by
  have e3 : wrap64 ((s.size : Int) - 3) = (s.size : Int) - 3 := w64 (by omega) (by omega)
  unfold deflate_at.f
  rw [e3]
  by_cases c : p < 0
  · rw [if_pos c]
  · rw [if_neg c, if_pos (by omega)]
theorem run_loop (s : ByteArray) (hs : s.size ≤ 140737488351232) (i : Nat) (hi : i + 3 ≤ s.size) (a : Nat) (ha : a = i - 32768) : ∀ e n, n + e = i - a →
    ∀ k, e + 2 * (i - a) + 263 ≤ k → deflate_Run.l0 k s (i : Int) (pl s i a n) ((a + n : Nat) : Int) (bt s (i : Int)) (bt s ((i + 1 : Nat) : Int)) (bt s ((i + 2 : Nat) : Int)) = some (ip (run s i)) := by
  intro e
  induction e with
  | zero =>
    intro n hn k hk
    obtain ⟨k, rfl⟩ := Nat.exists_eq_add_of_le' (show 1 ≤ k by omega)
    have hl := pl_len s i a n
    have el : wrap64 (((pl s i a n).length : Int) - 1) = ((pl s i a n).length : Int) - 1 := w64 (by omega) (by omega)
    have h := best_loop s hs i hi a ha (pl s i a n) (by omega) n 0 (by omega) ⟨[], by rw [List.append_nil]⟩ k (by omega)
    have h' : deflate_best.f k s (i : Int) (pl s i a n) = some (ip (run s i)) := by
      unfold deflate_best.f
      rw [el]
      exact h
    rw [deflate_Run.l0, if_neg (by omega), h']
    rfl
  | succ e ih =>
    intro n hn k hk
    obtain ⟨k, rfl⟩ := Nat.exists_eq_add_of_le' (show 1 ≤ k by omega)
    have hl := pl_len s i a n
    have e1 : wrap64 (((a + n : Nat) : Int) + 1) = ((a + (n + 1) : Nat) : Int) := by rw [w64 (by omega) (by omega)]; omega
    have ih' := ih (n + 1) (by omega) k (by omega)
    rw [deflate_Run.l0, if_pos (by omega), at_ok s hs (a + n) (by omega)]
    simp only [Option.bind_some, e1]
    by_cases c : tri s i (a + n)
    · simp only [pl, if_pos c] at ih'
      obtain ⟨c0, c1, c2⟩ := c
      rw [if_pos (by rw [c0, c1, c2]; simp only [beq_self_eq_true, Bool.and_self]), if_pos (by omega)]
      exact ih'
    · simp only [pl, if_neg c] at ih'
      rw [if_neg (fun h => c (by
        simp only [Bool.and_eq_true, beq_iff_eq] at h
        exact ⟨h.1.symm, h.2.1.symm, h.2.2.symm⟩))]
      exact ih'
/-- The program's Run is the run of a place. -/
theorem Run_f (s : ByteArray) (hs : s.size ≤ 140737488351232) (i : Nat) (hi : i < s.size) (k : Nat) (hk : 3 * i + 263 ≤ k) : deflate_Run.f k s (i : Int) = some (ip (run s i)) := by
  unfold deflate_Run.f
  rcases Nat.lt_or_ge s.size (i + 3) with h | h
  · rw [at_no s hs i (.inr (by omega)), run_none (fun d _ _ => by
      have := (mlen_spec (s := s) (i := i) (j := i - d) (by omega)).2.1
      omega)]
    rfl
  · rw [at_ok s hs i h]
    simp only [Option.bind_some]
    rw [if_pos trivial]
    have e : mx 0 (wrap64 ((i : Int) - 32768)) = ((i - 32768 + 0 : Nat) : Int) := by
      rw [w64 (by omega) (by omega)]
      unfold mx
      split <;> omega
    rw [e]
    exact run_loop s hs i h (i - 32768) rfl (i - (i - 32768)) 0 (by omega) k (by omega)
theorem Run_no (s : ByteArray) (hs : s.size ≤ 140737488351232) (i : Int) (hi : i < 0 ∨ i ≥ s.size) (k : Nat) : deflate_Run.f k s i = some (0, 0) := by
  unfold deflate_Run.f
  rw [at_no s hs i (by omega)]
  rfl
end Go.Proofs.Ytpbhkdamkbopkaa.Rn
