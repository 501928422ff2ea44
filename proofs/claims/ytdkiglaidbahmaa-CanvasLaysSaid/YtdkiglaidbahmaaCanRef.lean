/- What the reference answers of parts and pixels, in clean numbers. -/
import Derived.Test.YtdkiglaidbahmaaCanPure
import Derived.Test.YtdkiglaidbahmaaGCanx5
import Derived.Test.YtdkiglaidbahmaaGCanx6
namespace Go.Proofs.Ytdkiglaidbahmaa.Can
set_option linter.unusedSimpArgs false
set_option linter.unusedVariables false
open Go.RowKit Go.Proofs.Ytdkiglaidbahmaa.PCanvasLays Go.Proofs.Ytdkiglaidbahmaa.Ext Go.Proofs.Ytdkiglaidbahmaa.GCan Go.Proofs.YtdkiglaidbahmaaW.PrintWords Go.Proofs.YtdkiglaidbahmaaW.PrintLast Go.Proofs.YtdkiglaidbahmaaW.PrintMore

/-- A part as the document's. -/
def cv (x : S50) : S55 := ⟨⟨x.f0.f0, x.f0.f1, x.f0.f2, x.f0.f3⟩, x.f1⟩
theorem cv0 (x : S50) : (cv x).f0.f0 = x.f0.f0 := rfl
theorem cv1 (x : S50) : (cv x).f0.f1 = x.f0.f1 := rfl
theorem cv2 (x : S50) : (cv x).f0.f2 = x.f0.f2 := rfl
theorem cv3 (x : S50) : (cv x).f0.f3 = x.f0.f3 := rfl
theorem cv4 (x : S50) : (cv x).f1 = x.f1 := rfl
theorem refs_loop (l : List S50) (hl : l.length ≤ 1000) (k : Nat) : ∀ (d i : Nat) (acc : List S55), l.length - i = d → i ≤ l.length → acc.length ≤ i → celluloidlaw21_refs.l0 (k + 1 + d) acc l (l.length : Int) (i : Int) = some (acc ++ (l.drop i).map cv) := by
  intro d
  induction d with
  | zero =>
    intro i acc hd hi _
    rw [Nat.add_zero, celluloidlaw21_refs.l0, if_neg (by omega), List.drop_eq_nil_of_le (by omega)]
    simp
  | succ d ih =>
    intro i acc hd hi ha
    have e3 : wrap64 ((i : Int) + 1) = ((i + 1 : Nat) : Int) := by rw [w64 (by omega) (by omega)]; omega
    rw [← Nat.add_assoc, celluloidlaw21_refs.l0, e3, if_pos (by omega), if_pos (by omega), if_pos (by omega), if_pos (by omega), ih (i + 1) _ (by omega) (by omega) (by simp; omega), drop_rd50 l i (by omega)]
    simp [cv]
theorem refs_ge {l : List S50} {k : Nat} (hl : l.length ≤ 1000) (hk : l.length + 1 ≤ k) : celluloidlaw21_refs.f k l = some (l.map cv) := by
  have h := refs_loop l hl (k - 1 - l.length) l.length 0 [] (by omega) (by omega) (by simp)
  rw [show k - 1 - l.length + 1 + l.length = k by omega] at h
  simpa [celluloidlaw21_refs.f] using h
theorem rd_cv (l : List S50) (i : Nat) (h : i < l.length) : rd_T55 (l.map cv) (i : Int) = cv (rd_T50 l (i : Int)) := by
  unfold rd_T55 rd_T50
  rw [Int.toNat_natCast, List.getD_eq_getElem?_getD, List.getD_eq_getElem?_getD, List.getElem?_map, List.getElem?_eq_getElem h]
  rfl
theorem refparts_loop (l : List S50) (hl : l.length ≤ maxLen) (d : Nat) : ∀ (i : Nat) (acc : Int) (k : Nat), l.length - i = d → i ≤ l.length → 0 ≤ acc → acc ≤ 16 → 2 * d + 7 ≤ k → celluloidref21_Parts.l0 k (l.map cv) (16 - acc) (i : Int) = some (decide (PB acc (l.drop i))) := by
  unfold maxLen at hl
  induction d with
  | zero =>
    intro i acc k hd hi h0 h1 hk
    obtain ⟨k, rfl⟩ : ∃ m, k = m + 1 := ⟨k - 1, by omega⟩
    simp only [celluloidref21_Parts.l0, List.length_map]
    rw [if_neg (by omega), List.drop_eq_nil_of_le (by omega)]
    exact congrArg some (decide_eq_true trivial).symm
  | succ d ih =>
    intro i acc k hd hi h0 h1 hk
    obtain ⟨k, rfl⟩ : ∃ m, k = m + 2 := ⟨k - 2, by omega⟩
    simp only [celluloidref21_Parts.l0, List.length_map]
    have hrd := rd_cv l i (by omega)
    rw [if_pos (by omega), if_pos (by omega), drop_rd50 l i (by omega)]
    generalize rd_T50 l i = x at *
    obtain ⟨y, hy⟩ : ∃ y, y = rd_T55 (l.map cv) (i : Int) := ⟨_, rfl⟩
    rw [← hy] at hrd ⊢
    obtain rfl : x = (⟨⟨y.f0.f0, y.f0.f1, y.f0.f2, y.f0.f3⟩, y.f1⟩ : S50) := by rw [hrd]; rfl
    clear hrd
    rw [reffaint_ge (by omega)]
    simp only [Option.bind_some]
    by_cases hf : FB y.f0.f0 y.f0.f1 y.f0.f2 y.f0.f3
    · rw [if_pos (decide_eq_true hf)]
      by_cases hn : y.f1 < 0
      · rw [if_pos hn]
        simp only [celluloidref21_Parts.j1, if_true]
        congr 1; symm; apply decide_eq_false; unfold PB; rintro ⟨_, h, _⟩; simp only at h; omega
      · rw [if_neg hn]
        by_cases h16 : y.f1 > 16 - acc
        · rw [decide_eq_true h16]
          simp only [celluloidref21_Parts.j1, if_true]
          congr 1; symm; apply decide_eq_false; unfold PB; rintro ⟨_, _, h, _⟩; simp only at h; omega
        · rw [decide_eq_false h16]
          simp only [celluloidref21_Parts.j1, List.length_map]
          rw [if_neg (by decide), if_pos (by omega), if_pos (by omega), ← hy]
          rw [show wrap64 (16 - acc - y.f1) = 16 - (acc + y.f1) by rw [w64 (by omega) (by omega)]; omega, w64 (n := (i : Int) + 1) (by omega) (by omega), show ((i : Int) + 1) = ((i + 1 : Nat) : Int) by omega, ih (i + 1) (acc + y.f1) k (by omega) (by omega) (by omega) (by omega) (by omega)]
          congr 1
          rw [decide_eq_decide]
          show _ ↔ PB acc (_ :: l.drop (i + 1))
          simp only [PB]
          constructor
          · intro h; exact ⟨hf, by omega, by omega, h⟩
          · rintro ⟨_, _, _, h⟩; exact h
    · rw [if_neg (by simp only [decide_eq_true_eq]; exact hf)]
      simp only [celluloidref21_Parts.j1, if_true]
      congr 1; symm; apply decide_eq_false; unfold PB; rintro ⟨h, _⟩; exact hf h
theorem refparts_ge {l : List S50} {k : Nat} (hl : l.length ≤ maxLen) (hk : 2 * l.length + 7 ≤ k) : celluloidref21_Parts.f k (l.map cv) = some (decide (PB 0 l)) := by
  have := refparts_loop l hl l.length 0 0 k (by omega) (by omega) (by omega) (by omega) hk
  simpa [celluloidref21_Parts.f] using this

/-- The sum of a part of the colours, as the reference counts it. -/
theorem refsum (l : List S50) (hl : l.length ≤ 1000) (f : S50 → Int) (c : Int) (hc0 : 0 ≤ c) (hc1 : c < 4) (hc : ∀ x : S50, rd [x.f0.f0, x.f0.f1, x.f0.f2, x.f0.f3] c = f x) (hf : ∀ x, F23 x.f0 → 0 ≤ f x ∧ f x ≤ 255) (m : Int) (x7 : List Int) (p0 p1 p2 p3 : Int) (k : Nat) :
    ∀ (d i : Nat) (n acc : Int), l.length - i = d → i ≤ l.length → PB acc (l.drop i) → 0 ≤ n → 0 ≤ acc → acc ≤ 16 → n ≤ 8 + 255 * acc →
      celluloidref21_Over.l1 (k + d) (l.map cv) m x7 c n (i : Int) p0 p1 p2 p3 = celluloidref21_Over.l1 k (l.map cv) m x7 c (n + sumP f (l.drop i)) (l.length : Int) p0 p1 p2 p3 := by
  intro d
  induction d with
  | zero =>
    intro i n acc hd hi _ _ _ _ _
    obtain rfl : i = l.length := by omega
    rw [List.drop_eq_nil_of_le (by omega), sumP_nil, Int.add_zero]
    rfl
  | succ d ih =>
    intro i n acc hd hi hp h0 ha0 ha1 hn
    rw [drop_rd50 l i (by omega)] at hp ⊢
    have e3 : wrap64 ((i : Int) + 1) = ((i + 1 : Nat) : Int) := by rw [w64 (by omega) (by omega)]; omega
    rw [← Nat.add_assoc, celluloidref21_Over.l1, e3, List.length_map, if_pos (by omega), if_pos (by omega), rd_cv l i (by omega)]
    generalize rd_T50 l i = x at *
    obtain ⟨q0, q1, q2, q3⟩ := hp
    have hx := hf x q0
    have hm := mul_rng hx.1 hx.2 q1 (Int.le_refl x.f1)
    unfold celluloidref21_numbers.f
    simp only [Option.bind_some, cv0, cv1, cv2, cv3, cv4]
    have hr : rd [x.f0.f0, x.f0.f1, x.f0.f2, x.f0.f3] c = f x := hc x
    rw [if_pos hc0, if_pos (by simp; omega), hr, w64 (n := f x * x.f1) (by omega) (by omega), w64 (n := n + f x * x.f1) (by omega) (by omega), sumP_cons]
    have := ih (i + 1) (n + f x * x.f1) (acc + x.f1) (by omega) (by omega) q3 (by omega) (by omega) q2 (by omega)
    rw [this, Int.add_assoc]
theorem refstep (l : List S50) (hl : l.length ≤ 1000) (f : S50 → Int) (c : Int) (hc0 : 0 ≤ c) (hc1 : c < 4) (hc : ∀ x : S50, rd [x.f0.f0, x.f0.f1, x.f0.f2, x.f0.f3] c = f x) (hf : ∀ x, F23 x.f0 → 0 ≤ f x ∧ f x ≤ 255) {m : Int} (m0 : 0 ≤ m) (m1 : m ≤ 16) (h : PB 0 l) (x7 : List Int) (h7 : x7.length = 4) (p0 p1 p2 p3 : Int) (k : Nat) :
    celluloidref21_Over.l0 (k + 1 + l.length + 1) (l.map cv) m x7 c p0 p1 p2 p3 = celluloidref21_Over.l0 k (l.map cv) m (x7.set c.toNat (cp f l m)) (c + 1) p0 p1 p2 p3 := by
  rw [celluloidref21_Over.l0, if_pos hc1]
  have hs := refsum l hl f c hc0 hc1 hc hf m x7 p0 p1 p2 p3 (k + 1) l.length 0 8 0 (by omega) (by omega) h (by omega) (by omega) (by omega) (by omega)
  rw [show ((0 : Nat) : Int) = 0 from rfl, List.drop_zero] at hs
  have r := sumP_max h hf (by omega)
  rw [hs, celluloidref21_Over.l1, if_neg (by simp), if_pos hc0, if_pos (by omega)]
  have hm := mul_rng (a := (8 + sumP f l) / 16) (A := 255) (b := m) (B := 16) (by omega) (by omega) m0 m1
  rw [Int.tdiv_eq_ediv_of_nonneg (a := 8 + sumP f l) (by omega), w64 (n := (8 + sumP f l) / 16) (by omega) (by omega), w64 (n := (8 + sumP f l) / 16 * m) (by omega) (by omega), w64 (n := (8 + sumP f l) / 16 * m + 8) (by omega) (by omega), Int.tdiv_eq_ediv_of_nonneg (by omega), w64 (n := ((8 + sumP f l) / 16 * m + 8) / 16) (by omega) (by omega), w64 (n := c + 1) (by omega) (by omega)]
  unfold cp cl
  rw [Int.add_comm 8]
theorem ovw64 {s a u : Int} (s0 : 0 ≤ s) (s1 : s ≤ 255) (a0 : 0 ≤ a) (a1 : a ≤ 255) (u0 : 0 ≤ u) (u1 : u ≤ 255) : wrap64 (s + wrap64 (Int.tdiv (wrap64 (wrap64 (u * wrap64 (255 - a)) + 127)) 255)) = ov s a u := by
  have q3 := mul_rng (a := u) (A := 255) (b := 255 - a) (B := 255) u0 u1 (by omega) (by omega)
  unfold ov
  rw [w64 (n := 255 - a) (by omega) (by omega), w64 (n := u * (255 - a)) (by omega) (by omega), w64 (n := u * (255 - a) + 127) (by omega) (by omega), Int.tdiv_eq_ediv_of_nonneg (by omega), w64 (n := (u * (255 - a) + 127) / 255) (by omega) (by omega), w64 (by omega) (by omega)]
theorem refend {s0 s1 s2 s3 p0 p1 p2 p3 : Int} (h0 : 0 ≤ s0 ∧ s0 ≤ 255) (h1 : 0 ≤ s1 ∧ s1 ≤ 255) (h2 : 0 ≤ s2 ∧ s2 ≤ 255) (h3 : 0 ≤ s3 ∧ s3 ≤ 255) (q0 : 0 ≤ p0 ∧ p0 ≤ 255) (q1 : 0 ≤ p1 ∧ p1 ≤ 255) (q2 : 0 ≤ p2 ∧ p2 ≤ 255) (q3 : 0 ≤ p3 ∧ p3 ≤ 255) (k : Nat) :
    celluloidref21_Over.l2 (k + 5) [s0, s1, s2, s3] [p0, p1, p2, p3] 0 = some (ov s0 s3 p0, ov s1 s3 p1, ov s2 s3 p2, ov s3 s3 p3) := by
  have e1 : wrap64 (0 + 1) = 1 := w64 (by decide) (by decide)
  have e2 : wrap64 (1 + 1) = 2 := w64 (by decide) (by decide)
  have e3 : wrap64 (2 + 1) = 3 := w64 (by decide) (by decide)
  have e4 : wrap64 (3 + 1) = 4 := w64 (by decide) (by decide)
  have r0 : ∀ a b c d : Int, rd [a, b, c, d] 0 = a := fun _ _ _ _ => rfl
  have r1 : ∀ a b c d : Int, rd [a, b, c, d] 1 = b := fun _ _ _ _ => rfl
  have r2 : ∀ a b c d : Int, rd [a, b, c, d] 2 = c := fun _ _ _ _ => rfl
  have r3 : ∀ a b c d : Int, rd [a, b, c, d] 3 = d := fun _ _ _ _ => rfl
  have t0 : ∀ a b c d x : Int, [a, b, c, d].set (0 : Int).toNat x = [x, b, c, d] := fun _ _ _ _ _ => rfl
  have t1 : ∀ a b c d x : Int, [a, b, c, d].set (1 : Int).toNat x = [a, x, c, d] := fun _ _ _ _ _ => rfl
  have t2 : ∀ a b c d x : Int, [a, b, c, d].set (2 : Int).toNat x = [a, b, x, d] := fun _ _ _ _ _ => rfl
  have t3 : ∀ a b c d x : Int, [a, b, c, d].set (3 : Int).toNat x = [a, b, c, x] := fun _ _ _ _ _ => rfl
  have hl : ∀ a b c d : Int, (([a, b, c, d] : List Int).length : Int) = 4 := fun _ _ _ _ => rfl
  simp only [celluloidref21_Over.l2, hl, r0, r1, r2, r3, t0, t1, t2, t3, e1, e2, e3, e4, show (0 : Int) < 4 by decide, show (1 : Int) < 4 by decide, show (2 : Int) < 4 by decide, show (3 : Int) < 4 by decide, show ¬ (4 : Int) < 4 by decide, show (0 : Int) ≤ 0 by decide, show (0 : Int) ≤ 1 by decide, show (0 : Int) ≤ 2 by decide, show (0 : Int) ≤ 3 by decide, if_true, if_false, ite_true, ite_false]
  rw [ovw64 h0.1 h0.2 h3.1 h3.2 q0.1 q0.2, ovw64 h1.1 h1.2 h3.1 h3.2 q1.1 q1.2, ovw64 h2.1 h2.2 h3.1 h3.2 q2.1 q2.2, ovw64 h3.1 h3.2 h3.1 h3.2 q3.1 q3.2]
theorem refover_ge {k : Nat} {p0 p1 p2 p3 : Int} {l : List S50} {m : Int} (hl : l.length ≤ 1000) (hk : 4 * l.length + 20 ≤ k) (h : OK p0 p1 p2 p3 l m) :
    celluloidref21_Over.f k p0 p1 p2 p3 (l.map cv) m = some ((px l m p0 p1 p2 p3).1, (px l m p0 p1 p2 p3).2.1, (px l m p0 p1 p2 p3).2.2.1, (px l m p0 p1 p2 p3).2.2.2.1) := by
  obtain ⟨hf, hp, h0, h1⟩ := h
  have hf' := (FB_iff _ _ _ _).1 hf
  obtain ⟨c0, c1, c2, c3, c4⟩ := cp_rng hp h0 h1
  have go := at_rounds (g := fun k => celluloidref21_Over.f k p0 p1 p2 p3 (l.map cv) m) (celluloidref21_Over.mono p0 p1 p2 p3 (l.map cv) m) (k := 5 + 1 + 1 + l.length + 1 + 1 + l.length + 1 + 1 + l.length + 1 + 1 + l.length + 1) (k' := k) (by omega) (r := ((px l m p0 p1 p2 p3).1, (px l m p0 p1 p2 p3).2.1, (px l m p0 p1 p2 p3).2.2.1, (px l m p0 p1 p2 p3).2.2.2.1)) (by
    show celluloidref21_Over.f _ p0 p1 p2 p3 (l.map cv) m = _
    unfold celluloidref21_Over.f
    rw [if_pos (by decide)]
    rw [refstep l hl (fun x => x.f0.f0) 0 (by decide) (by decide) (fun _ => rfl) f_rng.1 h0 h1 hp _ (by simp)]
    rw [refstep l hl (fun x => x.f0.f1) (0 + 1) (by decide) (by decide) (fun _ => rfl) f_rng.2.1 h0 h1 hp _ (by simp)]
    rw [refstep l hl (fun x => x.f0.f2) (0 + 1 + 1) (by decide) (by decide) (fun _ => rfl) f_rng.2.2.1 h0 h1 hp _ (by simp)]
    rw [refstep l hl (fun x => x.f0.f3) (0 + 1 + 1 + 1) (by decide) (by decide) (fun _ => rfl) f_rng.2.2.2 h0 h1 hp _ (by simp)]
    rw [celluloidref21_Over.l0, if_neg (by decide)]
    unfold celluloidref21_numbers.f
    simp only [Option.bind_some]
    exact refend (k := 0) ⟨c0.1, by omega⟩ ⟨c1.1, by omega⟩ ⟨c2.1, by omega⟩ ⟨c3, c4⟩ ⟨by omega, by omega⟩ ⟨by omega, by omega⟩ ⟨by omega, by omega⟩ ⟨by omega, by omega⟩)
  exact go
end Go.Proofs.Ytdkiglaidbahmaa.Can
