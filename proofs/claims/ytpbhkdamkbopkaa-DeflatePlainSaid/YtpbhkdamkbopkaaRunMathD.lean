/- The best among all the places of the same three bytes is the run of a place, too: those beyond the window end the loop. -/
import Derived.Test.YtpbhkdamkbopkaaRunMathB
namespace Go.Proofs.Ytpbhkdamkbopkaa.Rn
set_option linter.unusedSimpArgs false
set_option linter.unusedVariables false
open Go.RowKit Go.Proofs.Ytpbhkdamkbopkaa.GRuns Go.Proofs.YtpbhkdamkbopkaaW.PrintWords Go.Proofs.YtpbhkdamkbopkaaW.PrintLast Go.Proofs.YtpbhkdamkbopkaaW.PrintMore

theorem pl_last (s : ByteArray) (i : Nat) : ∀ n, pl s i 0 n = [] ∨ ∃ Q p, pl s i 0 n = Q ++ [((p : Nat) : Int)] ∧ p < n := by
  intro n
  induction n with
  | zero => exact .inl rfl
  | succ n ih =>
    simp only [pl]
    split
    · exact .inr ⟨_, 0 + n, rfl, by omega⟩
    · rcases ih with h | ⟨Q, p, h, hp⟩
      · exact .inl h
      · exact .inr ⟨Q, p, h, by omega⟩
/-- The loop over all the places, from the nearest on. -/
theorem best_full (s : ByteArray) (hs : s.size ≤ 140737488351232) (i : Nat) (hi : i + 3 ≤ s.size) (L : List Int) (hL : L.length < 17592186044416) : ∀ n D, n + D = i → D ≤ 32768 → (∃ Q, L = pl s i 0 n ++ Q) →
    ∀ k, 2 * n + 262 ≤ k → deflate_best.l0 k s (i : Int) L (((fin (best s i D)).1 : Nat) : Int) (((fin (best s i D)).2 : Nat) : Int) (((pl s i 0 n).length : Int) - 1) = some (ip (run s i)) := by
  intro n
  induction n with
  | zero =>
    intro D hD hD2 _ k hk
    obtain ⟨k, rfl⟩ := Nat.exists_eq_add_of_le' (show 2 ≤ k by omega)
    have hr : run s i = fin (best s i D) := by unfold run; rw [show min i 32768 = D by omega]
    rw [show k + 2 = (k + 1) + 1 from rfl, deflate_best.l0]
    rw [if_neg (by simp [pl]), deflate_best.j1, if_neg (by simp), hr]
    exact fin_int _
  | succ n ih =>
    intro D hD hD2 hQ k hk
    obtain ⟨Q, hQ⟩ := hQ
    rcases Nat.lt_or_ge D 32768 with hlt | hge
    · have hp : i - (D + 1) = 0 + n := by omega
      by_cases c : tri s i (0 + n)
      · have hm := (tri_iff hi).1 c
        simp only [pl, if_pos c] at hQ ⊢
        obtain ⟨k, rfl⟩ := Nat.exists_eq_add_of_le' (show 2 ≤ k by omega)
        have hrd : rd L ((pl s i 0 n).length : Int) = ((0 + n : Nat) : Int) := by rw [hQ]; exact rd_mid _ _ _
        have hlen : (pl s i 0 n).length < L.length := by rw [hQ]; simp
        have hl1 : (((pl s i 0 n ++ [((0 + n : Nat) : Int)]).length : Int) - 1) = ((pl s i 0 n).length : Int) := by simp
        have ih' := ih (D + 1) (by omega) (by omega) ⟨[((0 + n : Nat) : Int)] ++ Q, by rw [hQ, List.append_assoc]⟩ k (by omega)
        have stay := stay_of (s := s) (i := i) (D := D + 1) (n := min i 32768 - (D + 1)) hi (by omega)
        obtain ⟨u0, u1, _, _⟩ := mlen_spec (s := s) (i := i) (j := 0 + n) (by omega)
        have v : (fin (best s i D)).1 ≤ mlen s i (0 + n) ∨ (fin (best s i D)).1 ≤ 258 ∧ i + (fin (best s i D)).1 ≤ s.size := by
          rcases (best_spec s i D).2 with h | ⟨_, _, h, _⟩
          · left; unfold fin; split <;> (try simp only) <;> omega
          · right
            obtain ⟨v0, v1, _, _⟩ := mlen_spec (s := s) (i := i) (j := i - (best s i D).2) (by omega)
            rw [h] at v0 v1
            unfold fin
            split <;> (try simp only) <;> omega
        have hb := best_more (s := s) (i := i) (D := D) (by rw [hp]; exact hm)
        rw [hb, hp] at stay ih'
        have ed : wrap64 ((i : Int) - ((0 + n : Nat) : Int)) = ((D + 1 : Nat) : Int) := by rw [w64 (by omega) (by omega)]; omega
        have el : wrap64 (((pl s i 0 n).length : Int) - 1) = ((pl s i 0 n).length : Int) - 1 := w64 (by omega) (by omega)
        have hk1 : 259 ≤ k := by omega
        have hd : ((D + 1 : Nat) : Int) ≤ 32768 := by omega
        have hn0 : (0 : Int) ≤ ((pl s i 0 n).length : Int) := Int.natCast_nonneg _
        have hn1 : ((pl s i 0 n).length : Int) < (L.length : Int) := Int.ofNat_lt.mpr hlen
        have hal := alike_f s hs i (0 + n) (by omega) (by omega) k hk1
        rw [hl1, show k + 2 = (k + 1) + 1 from rfl, deflate_best.l0, hrd]
        rw [if_pos hn0, if_pos hn0, if_pos hn1, ed, decide_eq_true hd, deflate_best.j1, if_pos rfl, if_pos hn0, if_pos hn1, hrd, ed, el, hal]
        simp only [Option.bind_some]
        generalize mlen s i (0 + n) = m at *
        generalize fin (best s i D) = p at *
        obtain ⟨m', f'⟩ := p
        exact turn_all i m (D + 1) m' f' s.size (run s i) _ _ u0 u1 v hs stay (fun g => by rw [if_pos g] at ih'; exact ih') (fun g => by rw [if_neg g] at ih'; exact ih')
      · have hm : mlen s i (i - (D + 1)) < 3 := by
          rw [hp]
          rcases Nat.lt_or_ge (mlen s i (0 + n)) 3 with h | h
          · exact h
          · exact absurd ((tri_iff hi).2 h) c
        simp only [pl, if_neg c] at hQ ⊢
        have ih' := ih (D + 1) (by omega) (by omega) ⟨Q, hQ⟩ k (by omega)
        rw [fin_stay s i D hm] at ih'
        exact ih'
    · obtain ⟨k, rfl⟩ := Nat.exists_eq_add_of_le' (show 2 ≤ k by omega)
      have hr : run s i = fin (best s i D) := by unfold run; rw [show min i 32768 = D by omega]
      have hj : deflate_best.j1 (k + 1) s (i : Int) L (((fin (best s i D)).1 : Nat) : Int) (((fin (best s i D)).2 : Nat) : Int) (((pl s i 0 (n + 1)).length : Int) - 1) false = some (ip (run s i)) := by
        rw [deflate_best.j1, if_neg (by simp), hr]
        exact fin_int _
      rw [show k + 2 = (k + 1) + 1 from rfl, deflate_best.l0]
      rcases pl_last s i (n + 1) with h | ⟨Q', p, h, hp⟩
      · rw [if_neg (by rw [h]; simp)]
        exact hj
      · have hl : (((pl s i 0 (n + 1)).length : Int) - 1) = (Q'.length : Int) := by rw [h]; simp
        have hlen : Q'.length < L.length := by rw [hQ, h]; simp
        have hrd : rd L (Q'.length : Int) = ((p : Nat) : Int) := by rw [hQ, h]; exact rd_mid _ _ _
        have ed : wrap64 ((i : Int) - ((p : Nat) : Int)) = ((i - p : Nat) : Int) := by rw [w64 (by omega) (by omega)]; omega
        rw [hl] at hj ⊢
        have hd : ¬ ((i - p : Nat) : Int) ≤ 32768 := by omega
        rw [if_pos (Int.natCast_nonneg _), if_pos (Int.natCast_nonneg _), if_pos (Int.ofNat_lt.mpr hlen), hrd, ed, decide_eq_false hd]
        exact hj
/-- Over all the places of the same three bytes, best answers the run. -/
theorem best_f (s : ByteArray) (hs : s.size ≤ 140737488351232) (i : Nat) (hi : i + 3 ≤ s.size) (hi2 : i < 17592186044416) (k : Nat) (hk : 2 * i + 262 ≤ k) : deflate_best.f k s (i : Int) (pl s i 0 i) = some (ip (run s i)) := by
  have hl := pl_len s i 0 i
  have el : wrap64 (((pl s i 0 i).length : Int) - 1) = ((pl s i 0 i).length : Int) - 1 := w64 (by omega) (by omega)
  unfold deflate_best.f
  rw [el]
  exact best_full s hs i hi _ (by omega) i 0 (by omega) (by omega) ⟨[], by rw [List.append_nil]⟩ k hk
end Go.Proofs.Ytpbhkdamkbopkaa.Rn
