/- Plain laws on colours, parts and pixels: what the program's small functions answer, and what an overlay's numbers are. -/
import Derived.Test.YtdkiglaidbahmaaExtOver
import Derived.Test.YtdkiglaidbahmaaExtRight
import Derived.Test.YtdkiglaidbahmaaPCanvasLaysx4
namespace Go.Proofs.Ytdkiglaidbahmaa.Can
set_option linter.unusedSimpArgs false
set_option linter.unusedVariables false
open Go.RowKit Go.Proofs.Ytdkiglaidbahmaa.PCanvasLays Go.Proofs.Ytdkiglaidbahmaa.Ext Go.Proofs.YtdkiglaidbahmaaW.PrintWords Go.Proofs.YtdkiglaidbahmaaW.PrintLast Go.Proofs.YtdkiglaidbahmaaW.PrintMore

theorem w64 {n : Int} (h0 : -9223372036854775808 ≤ n) (h1 : n ≤ 9223372036854775807) : wrap64 n = n := by unfold wrap64; omega

/-- A faint colour. -/
def FB (a b c d : Int) : Prop := 0 ≤ a ∧ 0 ≤ b ∧ 0 ≤ c ∧ 0 ≤ d ∧ d ≤ 255 ∧ a ≤ d ∧ b ≤ d ∧ c ≤ d
instance (a b c d : Int) : Decidable (FB a b c d) := inferInstanceAs (Decidable (0 ≤ a ∧ 0 ≤ b ∧ 0 ≤ c ∧ 0 ≤ d ∧ d ≤ 255 ∧ a ≤ d ∧ b ≤ d ∧ c ≤ d))
theorem FB_iff (a b c d : Int) : FB a b c d ↔ 0 ≤ a ∧ 0 ≤ b ∧ 0 ≤ c ∧ 0 ≤ d ∧ d ≤ 255 ∧ a ≤ d ∧ b ≤ d ∧ c ≤ d := Iff.rfl

theorem within_f (k : Nat) (a b c d : Int) : field_within.f (k + 5) 0 255 [a, b, c, d] = some (decide (0 ≤ a ∧ a ≤ 255 ∧ 0 ≤ b ∧ b ≤ 255 ∧ 0 ≤ c ∧ c ≤ 255 ∧ 0 ≤ d ∧ d ≤ 255)) := by
  have e1 : wrap64 (0 + 1) = 1 := w64 (by decide) (by decide)
  have e2 : wrap64 (1 + 1) = 2 := w64 (by decide) (by decide)
  have e3 : wrap64 (2 + 1) = 3 := w64 (by decide) (by decide)
  have e4 : wrap64 (3 + 1) = 4 := w64 (by decide) (by decide)
  have r0 : rd [a, b, c, d] 0 = a := rfl
  have r1 : rd [a, b, c, d] 1 = b := rfl
  have r2 : rd [a, b, c, d] 2 = c := rfl
  have r3 : rd [a, b, c, d] 3 = d := rfl
  have hl : (([a, b, c, d] : List Int).length : Int) = 4 := rfl
  unfold field_within.f
  rw [hl]
  simp only [field_within.l0, hl, e1, e2, e3, e4, r0, r1, r2, r3]
  simp only [show (0 : Int) < 4 by decide, show (1 : Int) < 4 by decide, show (2 : Int) < 4 by decide, show (3 : Int) < 4 by decide, show ¬ (4 : Int) < 4 by decide, show (0 : Int) ≤ 0 by decide, show (0 : Int) ≤ 1 by decide, show (0 : Int) ≤ 2 by decide, show (0 : Int) ≤ 3 by decide, if_true, if_false, ite_true, ite_false]
  (repeat' split) <;> simp <;> omega
theorem faint_f (k : Nat) (a b c d : Int) : canvas_faint.f (k + 5) a b c d = some (decide (FB a b c d)) := by
  unfold canvas_faint.f field_RightRGBA.f
  rw [within_f]
  simp only [Option.bind_some]
  by_cases h : 0 ≤ a ∧ a ≤ 255 ∧ 0 ≤ b ∧ b ≤ 255 ∧ 0 ≤ c ∧ c ≤ 255 ∧ 0 ≤ d ∧ d ≤ 255
  · rw [if_pos (decide_eq_true h)]
    congr 1
    rw [decide_eq_decide, FB_iff]
    unfold mx
    (repeat' split) <;> omega
  · rw [if_neg (by simp only [decide_eq_true_eq]; exact h)]
    congr 1
    symm
    apply decide_eq_false
    rw [FB_iff]
    omega
theorem rgba_f (k : Nat) (a b c d : Int) : celluloidref07_RGBA.f (k + 5) a b c d = some (decide (0 ≤ a ∧ a ≤ 255 ∧ 0 ≤ b ∧ b ≤ 255 ∧ 0 ≤ c ∧ c ≤ 255 ∧ 0 ≤ d ∧ d ≤ 255)) := by
  have e1 : wrap64 (0 + 1) = 1 := w64 (by decide) (by decide)
  have e2 : wrap64 (1 + 1) = 2 := w64 (by decide) (by decide)
  have e3 : wrap64 (2 + 1) = 3 := w64 (by decide) (by decide)
  have e4 : wrap64 (3 + 1) = 4 := w64 (by decide) (by decide)
  have r0 : rd [a, b, c, d] 0 = a := rfl
  have r1 : rd [a, b, c, d] 1 = b := rfl
  have r2 : rd [a, b, c, d] 2 = c := rfl
  have r3 : rd [a, b, c, d] 3 = d := rfl
  have hl : (([a, b, c, d] : List Int).length : Int) = 4 := rfl
  unfold celluloidref07_RGBA.f
  simp only [Option.bind_some]
  rw [hl]
  simp only [celluloidref07_RGBA.l0, hl, e1, e2, e3, e4, r0, r1, r2, r3]
  simp only [show (0 : Int) < 4 by decide, show (1 : Int) < 4 by decide, show (2 : Int) < 4 by decide, show (3 : Int) < 4 by decide, show ¬ (4 : Int) < 4 by decide, show (0 : Int) ≤ 0 by decide, show (0 : Int) ≤ 1 by decide, show (0 : Int) ≤ 2 by decide, show (0 : Int) ≤ 3 by decide, if_true, if_false, ite_true, ite_false]
  (repeat' split) <;> simp <;> omega
theorem reffaint_f (k : Nat) (a b c d : Int) : celluloidref21_Faint.f (k + 5) a b c d = some (decide (FB a b c d)) := by
  unfold celluloidref21_Faint.f
  rw [rgba_f]
  simp only [Option.bind_some]
  by_cases h : 0 ≤ a ∧ a ≤ 255 ∧ 0 ≤ b ∧ b ≤ 255 ∧ 0 ≤ c ∧ c ≤ 255 ∧ 0 ≤ d ∧ d ≤ 255
  · rw [if_pos (decide_eq_true h)]
    (repeat' split) <;> (congr 1; first | (rw [decide_eq_decide, FB_iff]; omega) | (symm; apply decide_eq_false; rw [FB_iff]; omega))
  · rw [if_neg (by simp only [decide_eq_true_eq]; exact h)]
    congr 1
    symm
    apply decide_eq_false
    rw [FB_iff]
    omega
theorem faint_ge {k : Nat} (h : 5 ≤ k) (a b c d : Int) : canvas_faint.f k a b c d = some (decide (FB a b c d)) := by
  obtain ⟨m, rfl⟩ : ∃ m, k = m + 5 := ⟨k - 5, by omega⟩
  exact faint_f m a b c d
theorem reffaint_ge {k : Nat} (h : 5 ≤ k) (a b c d : Int) : celluloidref21_Faint.f k a b c d = some (decide (FB a b c d)) := by
  obtain ⟨m, rfl⟩ : ∃ m, k = m + 5 := ⟨k - 5, by omega⟩
  exact reffaint_f m a b c d

/-- Is a colour faint? -/
def F23 (x : S23) : Prop := FB x.f0 x.f1 x.f2 x.f3
instance (x : S23) : Decidable (F23 x) := inferInstanceAs (Decidable (FB x.f0 x.f1 x.f2 x.f3))
/-- Parts that are such, so many samples being covered before. -/
def PB : Int → List S50 → Prop
  | _, [] => True
  | acc, x :: t => F23 x.f0 ∧ 0 ≤ x.f1 ∧ acc + x.f1 ≤ 16 ∧ PB (acc + x.f1) t
instance PB.dec : ∀ (acc : Int) (l : List S50), Decidable (PB acc l)
  | _, [] => isTrue trivial
  | acc, x :: t => by
    have := PB.dec (acc + x.f1) t
    exact inferInstanceAs (Decidable (F23 x.f0 ∧ 0 ≤ x.f1 ∧ acc + x.f1 ≤ 16 ∧ PB (acc + x.f1) t))

theorem drop_rd50 (l : List S50) (j : Nat) (h : j < l.length) : l.drop j = rd_T50 l j :: l.drop (j + 1) := by
  rw [List.drop_eq_getElem_cons h]
  unfold rd_T50
  rw [Int.toNat_natCast, List.getD_eq_getElem?_getD, List.getElem?_eq_getElem h]
  rfl

theorem rp_loop (l : List S50) (hl : l.length ≤ maxLen) (d : Nat) : ∀ (i : Nat) (acc : Int) (k : Nat), l.length - i = d → i ≤ l.length → 0 ≤ acc → acc ≤ 16 → 2 * d + 7 ≤ k → canvas_RightParts.l0 k acc l (l.length : Int) (i : Int) = some (decide (PB acc (l.drop i))) := by
  unfold maxLen at hl
  induction d with
  | zero =>
    intro i acc k hd hi h0 h1 hk
    obtain ⟨k, rfl⟩ : ∃ m, k = m + 1 := ⟨k - 1, by omega⟩
    simp only [canvas_RightParts.l0]
    rw [if_neg (by omega), List.drop_eq_nil_of_le (by omega)]
    exact congrArg some (decide_eq_true trivial).symm
  | succ d ih =>
    intro i acc k hd hi h0 h1 hk
    obtain ⟨k, rfl⟩ : ∃ m, k = m + 2 := ⟨k - 2, by omega⟩
    simp only [canvas_RightParts.l0]
    rw [if_pos (by omega), if_pos (by omega), if_pos (by omega), faint_ge (by omega), drop_rd50 l i (by omega)]
    simp only [Option.bind_some]
    generalize rd_T50 l i = x
    by_cases hf : FB x.f0.f0 x.f0.f1 x.f0.f2 x.f0.f3
    · rw [if_pos (decide_eq_true hf)]
      by_cases hn : x.f1 < 0
      · rw [if_pos hn]
        simp only [canvas_RightParts.j1, if_true]
        congr 1; symm; apply decide_eq_false; unfold PB; rintro ⟨_, h, _⟩; omega
      · rw [if_neg hn]
        by_cases h16 : x.f1 > 16
        · rw [decide_eq_true h16]
          simp only [canvas_RightParts.j1, if_true]
          congr 1; symm; apply decide_eq_false; unfold PB; rintro ⟨_, _, h, _⟩; omega
        · rw [decide_eq_false h16]
          simp only [canvas_RightParts.j1]
          rw [if_neg (by decide), w64 (by omega) (by omega)]
          by_cases ha : acc + x.f1 > 16
          · rw [if_pos ha]
            congr 1; symm; apply decide_eq_false; unfold PB; rintro ⟨_, _, h, _⟩; omega
          · rw [if_neg ha, w64 (by omega) (by omega), show ((i : Int) + 1) = ((i + 1 : Nat) : Int) by omega, ih (i + 1) (acc + x.f1) k (by omega) (by omega) (by omega) (by omega) (by omega)]
            congr 1
            rw [decide_eq_decide]
            show _ ↔ PB acc (x :: l.drop (i + 1))
            simp only [PB]
            constructor
            · intro h; exact ⟨hf, by omega, by omega, h⟩
            · rintro ⟨_, _, _, h⟩; exact h
    · rw [if_neg (by simp only [decide_eq_true_eq]; exact hf)]
      simp only [canvas_RightParts.j1, if_true]
      congr 1; symm; apply decide_eq_false; unfold PB; rintro ⟨h, _⟩; exact hf h
theorem rp_ge {l : List S50} {k : Nat} (hl : l.length ≤ maxLen) (hk : 2 * l.length + 7 ≤ k) : canvas_RightParts.f k l = some (decide (PB 0 l)) := by
  have := rp_loop l hl l.length 0 0 k (by omega) (by omega) (by omega) (by omega) hk
  simpa [canvas_RightParts.f] using this

/-- The sum of a part of the colours, each so often as it covers samples. -/
def sumP (f : S50 → Int) (l : List S50) : Int := (l.map fun x => f x * x.f1).sum
theorem sumP_nil (f : S50 → Int) : sumP f [] = 0 := rfl
theorem sumP_cons (f : S50 → Int) (x : S50) (t : List S50) : sumP f (x :: t) = f x * x.f1 + sumP f t := by simp [sumP]
theorem sumP_append (f : S50 → Int) (l m : List S50) : sumP f (l ++ m) = sumP f l + sumP f m := by simp [sumP]
/-- Two numbers of each part, the one not above the other one. -/
theorem sumP_le {f g : S50 → Int} : ∀ {acc : Int} {l : List S50}, PB acc l → (∀ x, F23 x.f0 → 0 ≤ f x ∧ f x ≤ g x) → 0 ≤ sumP f l ∧ sumP f l ≤ sumP g l
  | _, [], _, _ => by simp [sumP_nil]
  | acc, x :: t, h, hf => by
    obtain ⟨h0, h1, h2, h3⟩ := h
    have ih := sumP_le h3 hf
    have hx := hf x h0
    rw [sumP_cons, sumP_cons]
    have a1 := Int.mul_nonneg hx.1 h1
    have a2 := Int.mul_le_mul_of_nonneg_right hx.2 h1
    omega
theorem sumP_const (c : Int) : ∀ (l : List S50), sumP (fun _ => c) l = c * (l.map fun x => x.f1).sum
  | [] => by simp [sumP_nil]
  | x :: t => by rw [sumP_cons, sumP_const c t]; simp [Int.mul_add]
theorem covers_le : ∀ {acc : Int} {l : List S50}, PB acc l → acc ≤ 16 → 0 ≤ (l.map fun x => x.f1).sum ∧ acc + (l.map fun x => x.f1).sum ≤ 16
  | acc, [], _, h => by simp; exact h
  | acc, x :: t, h, ha => by
    obtain ⟨h0, h1, h2, h3⟩ := h
    have ih := covers_le h3 h2
    simp only [List.map_cons, List.sum_cons]
    omega
theorem sumP_max {f : S50 → Int} {c : Int} {l : List S50} (h : PB 0 l) (hf : ∀ x, F23 x.f0 → 0 ≤ f x ∧ f x ≤ c) (hc : 0 ≤ c) : 0 ≤ sumP f l ∧ sumP f l ≤ 16 * c := by
  have h1 := sumP_le (g := fun _ => c) h hf
  rw [sumP_const] at h1
  have h2 := covers_le h (by omega)
  have h3 := Int.mul_le_mul_of_nonneg_left (show (l.map fun x => x.f1).sum ≤ 16 by omega) hc
  omega

/-- A sum's share, under a mask. -/
def cl (S m : Int) : Int := ((S + 8) / 16 * m + 8) / 16
/-- A part of a pixel with a share c laid over u, the opacity being a. -/
def ov (c a u : Int) : Int := c + (u * (255 - a) + 127) / 255

theorem mul_rng {a b A B : Int} (h0 : 0 ≤ a) (h1 : a ≤ A) (k0 : 0 ≤ b) (k1 : b ≤ B) : 0 ≤ a * b ∧ a * b ≤ A * B :=
  ⟨Int.mul_nonneg h0 k0, Int.le_trans (Int.mul_le_mul_of_nonneg_right h1 k0) (Int.mul_le_mul_of_nonneg_left k1 (by omega))⟩
theorem sh_is {n : Int} (h0 : 0 ≤ n) (h1 : n ≤ 1000000) : sh n = (n + 8) / 16 := by
  unfold sh
  rw [w64 (n := n + 8) (by omega) (by omega), Int.tdiv_eq_ediv_of_nonneg (by omega), w64 (by omega) (by omega)]
theorem sumW_is {f : S50 → Int} {l : List S50} (h : PB 0 l) (hf : ∀ x, F23 x.f0 → 0 ≤ f x ∧ f x ≤ 255) : ∀ k : Nat, k ≤ l.length → sumW f l k = sumP f (l.take k) ∧ 0 ≤ sumP f (l.take k) ∧ sumP f (l.take k) + sumP f (l.drop k) ≤ 4080 ∧ PB ((l.take k).map fun x => x.f1).sum (l.drop k) ∧ 0 ≤ ((l.take k).map fun x => x.f1).sum := by
  intro k
  have hall := sumP_max h hf (by omega)
  induction k with
  | zero => intro _; simp [sumW, sumP_nil]; exact ⟨by omega, h⟩
  | succ k ih =>
    intro hk
    obtain ⟨e, e0, e1, e2, e3⟩ := ih (by omega)
    have hd := drop_rd50 l k (by omega)
    have ht : l.take (k + 1) = l.take k ++ [rd_T50 l k] := by
      rw [List.take_succ_eq_append_getElem (by omega)]
      congr 2
      unfold rd_T50
      rw [Int.toNat_natCast, List.getD_eq_getElem?_getD, List.getElem?_eq_getElem (by omega)]
      rfl
    rw [hd] at e2 e1
    obtain ⟨p0, p1, p2, p3⟩ := e2
    have hx := hf _ p0
    rw [sumP_cons] at e1
    have hp := mul_rng hx.1 hx.2 p1 (show (rd_T50 l k).f1 ≤ 16 by omega)
    have hrest := sumP_le (g := fun _ => 255) p3 (fun x hx => hf x hx)
    rw [ht, sumP_append, sumP_cons, sumP_nil]
    simp only [sumW, List.map_append, List.map_cons, List.map_nil, List.sum_append, List.sum_cons, List.sum_nil, Int.add_zero]
    rw [e, w64 (n := f (rd_T50 l k) * (rd_T50 l k).f1) (by omega) (by omega), w64 (by omega) (by omega)]
    exact ⟨rfl, by omega, by omega, p3, by omega⟩
theorem cl_rng {S m : Int} (h0 : 0 ≤ S) (h1 : S ≤ 4080) (m0 : 0 ≤ m) (m1 : m ≤ 16) : 0 ≤ cl S m ∧ cl S m ≤ 255 := by
  unfold cl
  have := mul_rng (a := (S + 8) / 16) (A := 255) (b := m) (B := 16) (by omega) (by omega) m0 m1
  omega
theorem cl_le {S T m : Int} (h : S ≤ T) (m0 : 0 ≤ m) : cl S m ≤ cl T m := by
  unfold cl
  have := Int.mul_le_mul_of_nonneg_right (show (S + 8) / 16 ≤ (T + 8) / 16 by omega) m0
  omega
theorem cl_mask {S m : Int} (h0 : 0 ≤ S) : cl S m ≤ cl S (m + 1) := by
  unfold cl
  rw [Int.mul_add, Int.mul_one]
  omega
/-- The clean numbers of an overlay. -/
theorem ovR_is {f : S50 → Int} {l : List S50} {m u : Int} (h : PB 0 l) (hf : ∀ x, F23 x.f0 → 0 ≤ f x ∧ f x ≤ 255) (m0 : 0 ≤ m) (m1 : m ≤ 16) (u0 : 0 ≤ u) (u1 : u ≤ 255) :
    ovR f l m u = ov (cl (sumP f l) m) (cl (sumP (fun x => x.f0.f3) l) m) u := by
  have hA : ∀ x : S50, F23 x.f0 → 0 ≤ x.f0.f3 ∧ x.f0.f3 ≤ 255 := fun x hx => ⟨hx.2.2.2.1, hx.2.2.2.2.1⟩
  have s1 := sumW_is h hf l.length (Nat.le_refl _)
  have s2 := sumW_is (f := fun x => x.f0.f3) h hA l.length (Nat.le_refl _)
  rw [List.take_length] at s1 s2
  have r1 := sumP_max h hf (by omega)
  have r2 := sumP_max (f := fun x => x.f0.f3) h hA (by omega)
  unfold ovR
  rw [s1.1, s2.1]
  generalize sumP f l = S at *
  generalize sumP (fun x => x.f0.f3) l = A at *
  have e1 : sh S = (S + 8) / 16 := sh_is (by omega) (by omega)
  have e2 : sh A = (A + 8) / 16 := sh_is (by omega) (by omega)
  have q1 := mul_rng (a := (S + 8) / 16) (A := 255) (b := m) (B := 16) (by omega) (by omega) m0 m1
  have q2 := mul_rng (a := (A + 8) / 16) (A := 255) (b := m) (B := 16) (by omega) (by omega) m0 m1
  have c2 : sh (wrap64 (sh A * m)) = cl A m := by
    rw [e2, w64 (by omega) (by omega), sh_is (by omega) (by omega)]
    rfl
  have c1 : sh (wrap64 (sh S * m)) = cl S m := by
    rw [e1, w64 (by omega) (by omega), sh_is (by omega) (by omega)]
    rfl
  unfold ovw
  rw [c2, c1]
  have ra := cl_rng (S := A) (m := m) (by omega) (by omega) m0 m1
  have rs := cl_rng (S := S) (m := m) (by omega) (by omega) m0 m1
  generalize cl A m = a at *
  generalize cl S m = s at *
  have q3 := mul_rng (a := u) (A := 255) (b := 255 - a) (B := 255) u0 u1 (by omega) (by omega)
  unfold ov
  rw [w64 (n := 255 - a) (by omega) (by omega), w64 (n := u * (255 - a)) (by omega) (by omega), w64 (n := u * (255 - a) + 127) (by omega) (by omega), Int.tdiv_eq_ediv_of_nonneg (by omega), w64 (n := (u * (255 - a) + 127) / 255) (by omega) (by omega), w64 (by omega) (by omega)]
/-- .. at a part of a colour that is at most its opacity. -/
theorem ov_rng {c a u : Int} (h0 : 0 ≤ c) (h1 : c ≤ a) (ha : a ≤ 255) (u0 : 0 ≤ u) (u1 : u ≤ 255) : 0 ≤ ov c a u ∧ ov c a u ≤ 255 := by
  unfold ov
  have := mul_rng (a := u) (A := 255) (b := 255 - a) (B := 255 - a) u0 u1 (by omega) (by omega)
  omega
theorem ov_le {c c' a u u' : Int} (h : c ≤ c') (hu : u ≤ u') (ha : a ≤ 255) : ov c a u ≤ ov c' a u' := by
  unfold ov
  have := Int.mul_le_mul_of_nonneg_right hu (show 0 ≤ 255 - a by omega)
  omega
theorem ov_more {a u : Int} (a0 : 0 ≤ a) (u1 : u ≤ 255) : u ≤ ov a a u := by
  unfold ov
  have h := Int.mul_nonneg a0 (show 0 ≤ 255 - u by omega)
  rw [Int.mul_sub, Int.mul_comm a u] at h
  rw [Int.mul_sub]
  omega
theorem ov_mono {a b u : Int} (h : a ≤ b) (u1 : u ≤ 255) : ov a a u ≤ ov b b u := by
  unfold ov
  have h2 := Int.mul_nonneg (show 0 ≤ b - a by omega) (show 0 ≤ 255 - u by omega)
  rw [Int.mul_sub, Int.sub_mul b a u, Int.mul_comm b u, Int.mul_comm a u] at h2
  rw [Int.mul_sub, Int.mul_sub]
  omega
end Go.Proofs.Ytdkiglaidbahmaa.Can
