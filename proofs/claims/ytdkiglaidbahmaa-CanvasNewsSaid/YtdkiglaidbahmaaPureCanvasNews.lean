/- A canvas of any numbers is told as the document says, or refused. -/
import Derived.Test.YtdkiglaidbahmaaGCanx4
import Derived.Test.YtdkiglaidbahmaaOpensK
import Derived.Test.YtdkiglaidbahmaaCanPure
namespace Go.Proofs.Ytdkiglaidbahmaa.Pure
set_option linter.unusedSimpArgs false
set_option linter.unusedVariables false
open Go.RowKit Go.Proofs.Ytdkiglaidbahmaa.Can Go.Proofs.Ytdkiglaidbahmaa.PCanvasLays Go.Proofs.Ytdkiglaidbahmaa.Ext Go.Proofs.Ytdkiglaidbahmaa.Opens Go.Proofs.Ytdkiglaidbahmaa.GCan Go.Proofs.YtdkiglaidbahmaaW.PrintWords Go.Proofs.YtdkiglaidbahmaaW.PrintLast Go.Proofs.YtdkiglaidbahmaaW.PrintMore

theorem allF_ge {k : Nat} (hk : 5 ≤ k) : ∀ l : List S23, allF k l = some (decide (∀ x ∈ l, F23 x))
  | [] => by simp [allF]
  | x :: t => by
    simp only [allF, faint_ge hk, Option.bind_some]
    by_cases h : FB x.f0 x.f1 x.f2 x.f3
    · rw [if_pos (decide_eq_true h), allF_ge hk t]
      congr 1
      rw [decide_eq_decide]
      simp only [List.mem_cons, forall_eq_or_imp]
      exact ⟨fun h' => ⟨h, h'⟩, fun h' => h'.2⟩
    · rw [if_neg (by rw [decide_eq_false h]; decide)]
      congr 1
      symm
      apply decide_eq_false
      intro h'
      exact h (h' x (by simp))
theorem right_rep {k : Nat} (hk : 5 ≤ k) {w h : Int} {x : S23} (w0 : 1 ≤ w) (w1 : w ≤ 256) (h0 : 1 ≤ h) (h1 : h ≤ 256) (hx : F23 x) (e : (w * h).toNat = ((w * h).toNat : Nat)) : canvas_Right.f k w h (List.replicate (w * h).toNat x) = some true := by
  have hr := mul_rng (a := w) (A := 256) (b := h) (B := 256) (by omega) w1 (by omega) h1
  unfold canvas_Right.f
  have m1 : 1 ≤ mn w h := by unfold mn; split <;> omega
  have m2 : mx w h ≤ 256 := by unfold mx; split <;> omega
  rw [if_pos m1, if_pos m2, List.length_replicate, w64 (by omega) (by omega), if_pos (by omega), allF_ge hk]
  congr 1
  apply decide_eq_true
  intro y hy
  rw [List.eq_of_mem_replicate hy]
  exact hx
theorem rd_rep {n : Nat} {x : S23} {i : Int} (h0 : 0 ≤ i) (h1 : i < n) : rd_T23 (List.replicate n x) i = x := by
  unfold rd_T23
  rw [List.getD_eq_getElem?_getD, List.getElem?_replicate, if_pos (by omega)]
  rfl
theorem news_loop (w h x y p0 p1 p2 p3 : Int) (n : Nat) (hn : n ≤ 65536) (k : Nat) : ∀ (d i : Nat), n - i = d → i ≤ n →
    celluloidlaw21_CanvasNews.l0 (k + d) w h x y (n : Int) (i : Int) p0 p1 p2 p3 w h (List.replicate n ⟨p0, p1, p2, p3⟩) = celluloidlaw21_CanvasNews.l0 k w h x y (n : Int) (n : Int) p0 p1 p2 p3 w h (List.replicate n ⟨p0, p1, p2, p3⟩) := by
  intro d
  induction d with
  | zero =>
    intro i hd hi
    obtain rfl : i = n := by omega
    rfl
  | succ d ih =>
    intro i hd hi
    have e3 : wrap64 ((i : Int) + 1) = ((i + 1 : Nat) : Int) := by rw [w64 (by omega) (by omega)]; omega
    rw [← Nat.add_assoc, celluloidlaw21_CanvasNews.l0, e3, if_pos (by omega), if_pos (by omega), if_pos (by rw [List.length_replicate]; omega), rd_rep (by omega) (by omega)]
    simp only [beq_self_eq_true, Bool.not_true, Bool.or_self]
    rw [if_neg (by decide), ih (i + 1) (by omega) (by omega)]
theorem at_rep {k : Nat} (hk : 6 ≤ k) {w h x y p0 p1 p2 p3 : Int} (w0 : 1 ≤ w) (w1 : w ≤ 256) (h0 : 1 ≤ h) (h1 : h ≤ 256) (hx : FB p0 p1 p2 p3) :
    canvas_At.f k w h (List.replicate (w * h).toNat ⟨p0, p1, p2, p3⟩) x y = some (if x < 0 ∨ w ≤ x ∨ y < 0 ∨ h ≤ y then (0, 0, 0, 0) else (p0, p1, p2, p3)) := by
  have j0t : ∀ {k : Nat} (x y : Int) (l : List S23), 1 ≤ k → canvas_At.j0 k x y true w h l = some (0, 0, 0, 0) := by
    intro k x y l hk
    obtain ⟨k, rfl⟩ : ∃ m, k = m + 1 := ⟨k - 1, by omega⟩
    simp [canvas_At.j0]
  unfold canvas_At.f
  rw [right_rep (x := ⟨p0, p1, p2, p3⟩) (by omega) w0 w1 h0 h1 hx rfl]
  simp only [Option.bind_some, if_true]
  by_cases c0 : x < 0
  · rw [if_pos c0, if_pos (.inl c0)]; exact j0t _ _ _ (by omega)
  rw [if_neg c0]
  by_cases c1 : x ≥ w
  · rw [if_pos c1, if_pos (.inr (.inl c1))]; exact j0t _ _ _ (by omega)
  rw [if_neg c1]
  by_cases c2 : y < 0
  · rw [if_pos c2, if_pos (.inr (.inr (.inl c2)))]; exact j0t _ _ _ (by omega)
  rw [if_neg c2]
  by_cases c3 : y ≥ h
  · rw [decide_eq_true c3, if_pos (.inr (.inr (.inr c3)))]; exact j0t _ _ _ (by omega)
  rw [decide_eq_false c3, if_neg (by omega)]
  obtain ⟨k, rfl⟩ : ∃ m, k = m + 1 := ⟨k - 1, by omega⟩
  have r1 := mul_rng (a := y) (A := h - 1) (b := w) (B := w) (by omega) (by omega) (by omega) (Int.le_refl _)
  have r2 := mul_rng (a := w) (A := 256) (b := h) (B := 256) (by omega) w1 (by omega) h1
  have r3 : (h - 1) * w = w * h - w := by rw [Int.sub_mul, Int.one_mul, Int.mul_comm]
  have e1 : wrap64 (y * w) = y * w := w64 (by omega) (by omega)
  have e2 : wrap64 (y * w + x) = y * w + x := w64 (by omega) (by omega)
  simp only [canvas_At.j0]
  rw [if_neg (by decide), e1, e2, if_pos (by omega), if_pos (by rw [List.length_replicate]; omega), rd_rep (by omega) (by omega)]
theorem new_yes {k : Nat} (hk : 6 ≤ k) {w h p0 p1 p2 p3 : Int} (w0 : 1 ≤ w) (w1 : w ≤ 256) (h0 : 1 ≤ h) (h1 : h ≤ 256) (hx : FB p0 p1 p2 p3) : canvas_New.f k w h p0 p1 p2 p3 = some (w, h, List.replicate (w * h).toNat ⟨p0, p1, p2, p3⟩, 0) := by
  have r2 := mul_rng (a := w) (A := 256) (b := h) (B := 256) (by omega) w1 (by omega) h1
  have r3 := mul_rng (a := 1) (A := w) (b := 1) (B := h) (by omega) w0 (by omega) h0
  unfold canvas_New.f
  have m1 : ¬ mn w h < 1 := by unfold mn; split <;> omega
  have m2 : ¬ mx w h > 256 := by unfold mx; split <;> omega
  rw [if_neg m1, if_neg m2, faint_ge (by omega), decide_eq_true hx]
  simp only [Option.bind_some]
  obtain ⟨k, rfl⟩ : ∃ m, k = m + 1 := ⟨k - 1, by omega⟩
  simp only [canvas_New.j0, Bool.not_true]
  rw [if_neg (by decide), w64 (n := w * h) (by omega) (by omega)]
  unfold api_RGBA_23.f
  have p1' : 1 ≤ w * h := by omega
  rw [if_pos ⟨rfl, p1', by omega⟩]
  rfl
theorem new_no {k : Nat} (hk : 6 ≤ k) {w h p0 p1 p2 p3 : Int} (hc : ¬ (1 ≤ w ∧ w ≤ 256 ∧ 1 ≤ h ∧ h ≤ 256 ∧ FB p0 p1 p2 p3)) : canvas_New.f k w h p0 p1 p2 p3 = some (0, 0, [], 1) := by
  have j0t : ∀ {k : Nat}, 1 ≤ k → canvas_New.j0 k w h true p0 p1 p2 p3 = some (0, 0, [], 1) := by
    intro k hk
    obtain ⟨k, rfl⟩ : ∃ m, k = m + 1 := ⟨k - 1, by omega⟩
    simp [canvas_New.j0]
  unfold canvas_New.f
  by_cases m1 : mn w h < 1
  · rw [if_pos m1]; exact j0t (by omega)
  rw [if_neg m1]
  by_cases m2 : mx w h > 256
  · rw [if_pos m2]; exact j0t (by omega)
  rw [if_neg m2, faint_ge (by omega)]
  simp only [Option.bind_some]
  by_cases hx : FB p0 p1 p2 p3
  · exfalso
    apply hc
    unfold mn at m1
    unfold mx at m2
    refine ⟨?_, ?_, ?_, ?_, hx⟩ <;> (split at m1 <;> split at m2 <;> omega)
  · rw [decide_eq_false hx]; exact j0t (by omega)
theorem j0_no {k : Nat} (hk : 50 ≤ k) {w h x y p0 p1 p2 p3 : Int} : celluloidlaw21_CanvasNews.j0 k w h x y 1 true p0 p1 p2 p3 0 0 [] = some true := by
  obtain ⟨k, rfl⟩ : ∃ m, k = m + 1 := ⟨k - 1, by omega⟩
  simp only [celluloidlaw21_CanvasNews.j0]
  rw [if_pos trivial, if_pos trivial, if_pos (by rfl)]
  exact awake_bind (by omega)
theorem j4_yes {k : Nat} (hk : 50 ≤ k) {w h x y p0 p1 p2 p3 : Int} (w0 : 1 ≤ w) (w1 : w ≤ 256) (h0 : 1 ≤ h) (h1 : h ≤ 256) (hx : FB p0 p1 p2 p3) (q : Int × Int × Int × Int) (hq : q = if x < 0 ∨ w ≤ x ∨ y < 0 ∨ h ≤ y then (0, 0, 0, 0) else (p0, p1, p2, p3)) :
    celluloidlaw21_CanvasNews.j4 k x y w h (List.replicate (w * h).toNat ⟨p0, p1, p2, p3⟩) q.1 q.2.1 q.2.2.1 q.2.2.2 = some true := by
  obtain ⟨k, rfl⟩ : ∃ m, k = m + 1 := ⟨k - 1, by omega⟩
  simp only [celluloidlaw21_CanvasNews.j4]
  rw [at_rep (by omega) w0 w1 h0 h1 hx, ← hq]
  simp only [Option.bind_some, beq_self_eq_true, Bool.and_self, if_true]
  exact awake_bind (by omega)
theorem j0_yes {w h x y p0 p1 p2 p3 : Int} (w0 : 1 ≤ w) (w1 : w ≤ 256) (h0 : 1 ≤ h) (h1 : h ≤ 256) (hx : FB p0 p1 p2 p3) (e : celluloidlaw21_CanvasNews.j0 (100 + (w * h).toNat + 1 + 1) w h x y 0 false p0 p1 p2 p3 w h (List.replicate (w * h).toNat ⟨p0, p1, p2, p3⟩) = celluloidlaw21_CanvasNews.j0 (100 + (w * h).toNat + 1 + 1) w h x y 0 false p0 p1 p2 p3 w h (List.replicate (w * h).toNat ⟨p0, p1, p2, p3⟩)) :
    celluloidlaw21_CanvasNews.j0 (100 + (w * h).toNat + 1 + 1) w h x y 0 false p0 p1 p2 p3 w h (List.replicate (w * h).toNat ⟨p0, p1, p2, p3⟩) = some true := by
  have r2 := mul_rng (a := w) (A := 256) (b := h) (B := 256) (by omega) w1 (by omega) h1
  have hr := right_rep (k := 100 + (w * h).toNat + 1) (x := ⟨p0, p1, p2, p3⟩) (by omega) w0 w1 h0 h1 hx rfl
  rw [celluloidlaw21_CanvasNews.j0, if_neg (by decide), if_pos rfl, if_pos rfl, if_pos rfl, List.length_replicate, w64 (n := w * h) (by omega) (by omega), if_pos (by omega), hr]
  simp only [Option.bind_some, Bool.not_true]
  rw [celluloidlaw21_CanvasNews.j1, if_neg (by decide), List.length_replicate]
  have hloop := news_loop w h x y p0 p1 p2 p3 (w * h).toNat (by omega) 100 (w * h).toNat 0 (by omega) (by omega)
  rw [show ((0 : Nat) : Int) = 0 from rfl] at hloop
  rw [hloop, show (100 : Nat) = 98 + 1 + 1 from rfl, celluloidlaw21_CanvasNews.l0, if_neg (by omega)]
  by_cases c0 : x < 0
  · rw [if_pos c0, celluloidlaw21_CanvasNews.j3, if_pos rfl]
    exact j4_yes (by omega) w0 w1 h0 h1 hx (0, 0, 0, 0) (by rw [if_pos (.inl c0)])
  rw [if_neg c0]
  by_cases c1 : x ≥ w
  · rw [if_pos c1, celluloidlaw21_CanvasNews.j3, if_pos rfl]
    exact j4_yes (by omega) w0 w1 h0 h1 hx (0, 0, 0, 0) (by rw [if_pos (.inr (.inl c1))])
  rw [if_neg c1]
  by_cases c2 : y < 0
  · rw [if_pos c2, celluloidlaw21_CanvasNews.j3, if_pos rfl]
    exact j4_yes (by omega) w0 w1 h0 h1 hx (0, 0, 0, 0) (by rw [if_pos (.inr (.inr (.inl c2)))])
  rw [if_neg c2]
  by_cases c3 : y ≥ h
  · rw [decide_eq_true c3, celluloidlaw21_CanvasNews.j3, if_pos rfl]
    exact j4_yes (by omega) w0 w1 h0 h1 hx (0, 0, 0, 0) (by rw [if_pos (.inr (.inr (.inr c3)))])
  rw [decide_eq_false c3, celluloidlaw21_CanvasNews.j3, if_neg (by decide)]
  exact j4_yes (by omega) w0 w1 h0 h1 hx (p0, p1, p2, p3) (by rw [if_neg (by omega)])
def SaidCanvasNews : Prop := ∀ (a0 : Int) (a1 : Int) (a2_0 : Int) (a2_1 : Int) (a2_2 : Int) (a2_3 : Int) (a3 : Int) (a4 : Int), (Lit.int .i64 a0).wf = true → (Lit.int .i64 a1).wf = true → (Lit.int .i64 a2_0).wf = true → (Lit.int .i64 a2_1).wf = true → (Lit.int .i64 a2_2).wf = true → (Lit.int .i64 a2_3).wf = true → (Lit.int .i64 a3).wf = true → (Lit.int .i64 a4).wf = true → ∃ k, celluloidlaw21_CanvasNews.f k a0 a1 a2_0 a2_1 a2_2 a2_3 a3 a4 = some true
theorem CanvasNews : SaidCanvasNews := by
  intro w h p0 p1 p2 p3 x y _ _ _ _ _ _ _ _
  refine ⟨100 + (w * h).toNat + 1 + 1, ?_⟩
  unfold celluloidlaw21_CanvasNews.f
  by_cases hc : 1 ≤ w ∧ w ≤ 256 ∧ 1 ≤ h ∧ h ≤ 256 ∧ FB p0 p1 p2 p3
  · obtain ⟨w0, w1, h0, h1, hx⟩ := hc
    rw [new_yes (by omega) w0 w1 h0 h1 hx]
    simp only [Option.bind_some]
    rw [if_neg (by omega), if_neg (by omega), if_neg (by omega), if_neg (by omega), reffaint_ge (by omega), decide_eq_true hx]
    simp only [Option.bind_some, Bool.not_true]
    exact j0_yes w0 w1 h0 h1 hx rfl
  · rw [new_no (by omega) hc]
    simp only [Option.bind_some]
    by_cases c0 : w < 1
    · rw [if_pos c0]; exact j0_no (by omega)
    rw [if_neg c0]
    by_cases c1 : w > 256
    · rw [if_pos c1]; exact j0_no (by omega)
    rw [if_neg c1]
    by_cases c2 : h < 1
    · rw [if_pos c2]; exact j0_no (by omega)
    rw [if_neg c2]
    by_cases c3 : h > 256
    · rw [if_pos c3]; exact j0_no (by omega)
    rw [if_neg c3, reffaint_ge (by omega)]
    simp only [Option.bind_some]
    have hx : ¬ FB p0 p1 p2 p3 := fun hx => hc ⟨by omega, by omega, by omega, by omega, hx⟩
    rw [decide_eq_false hx]
    exact j0_no (by omega)
end Go.Proofs.Ytdkiglaidbahmaa.Pure
