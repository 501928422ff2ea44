/- Parts of the proof, glued by a program of this session (wip/tools/claimfit.py). -/
import Derived.Test.YtpbhkdamkbopkaaMPXC
namespace Go.Proofs.Ytpbhkdamkbopkaa.Inf
set_option linter.unusedSimpArgs false
set_option linter.unusedVariables false
open Go.RowKit Go.Proofs.Ytpbhkdamkbopkaa.Ext Go.Proofs.Ytpbhkdamkbopkaa.RefP Go.Proofs.YtpbhkdamkbopkaaW.PrintWords Go.Proofs.YtpbhkdamkbopkaaW.PrintLast Go.Proofs.YtpbhkdamkbopkaaW.PrintMore
/-- A state behind another: its place further, not too many bytes. -/
structure Aft (s : ByteArray) (mx : Int) (x y : St) : Prop where
  ok : Ok s y
  p : x.p ≤ y.p
  o : (x.o.length : Int) ≤ mx → (y.o.length : Int) ≤ mx
  e : y.e = 0 → x.e = 0
  l : x.o.length ≤ y.o.length
section
variable {s : ByteArray} {mx : Int} {x y z : St}
theorem Aft.refl (h : Ok s x) : Aft s mx x x := ⟨h, Int.le_refl _, fun h => h, fun h => h, Nat.le_refl _⟩
theorem Aft.trans (h : Aft s mx x y) (k : Aft s mx y z) : Aft s mx x z := ⟨k.ok, Int.le_trans h.p k.p, fun c => k.o (h.o c), fun c => h.e (k.e c), Nat.le_trans h.l k.l⟩
theorem fail_p (x : St) (e : Int) : (fail x e).p = x.p := by unfold fail; split <;> rfl
theorem fail_o (x : St) (e : Int) : (fail x e).o = x.o := by unfold fail; split <;> rfl
theorem fail_e {x : St} {e : Int} (h : (fail x e).e = 0) : x.e = 0 ∧ e = 0 := by
  unfold fail at h
  by_cases c : x.e = 0
  · rw [if_pos c] at h; exact ⟨c, h⟩
  · rw [if_neg c] at h; exact absurd h c
theorem Aft.fail (h : Ok s x) (e : Int) (he : e = 0 ∨ e = 1 ∨ e = 2 ∨ e = 3 ∨ e = 4 ∨ e = 7) : Aft s mx x (fail x e) := ⟨fail_ok h he, by rw [fail_p]; exact Int.le_refl _, by rw [fail_o]; exact fun h => h, fun h => (fail_e h).1, by rw [fail_o]; exact Nat.le_refl _⟩
theorem Aft.table (h : Ok s x) (l : List Int) : Aft s mx x (table l x) := ⟨table_ok h l, by unfold Inf.table; rw [fail_p]; exact Int.le_refl _, by unfold Inf.table; rw [fail_o]; exact fun h => h, fun h => (fail_e h).1, by unfold Inf.table; rw [fail_o]; exact Nat.le_refl _⟩
theorem table_e {l : List Int} {x : St} (h : (table l x).e = 0) : x.e = 0 ∧ errOf l = 0 := fail_e h
theorem Aft.bits (h : Ok s x) (n : Nat) (hn : n ≤ 16) (k : Int) (hk : k = n) : Aft s mx x (bits s k x).2 := by
  have g := bits_get (n := n) (k := k) (m := (Inf.bits s k x).1) (y := (Inf.bits s k x).2) hk h hn rfl
  have p := bits_p (s := s) n h hn
  rw [← hk] at p
  exact ⟨g.1, p, by rw [g.2.2.2.1]; exact fun h => h, fun h => (g.2.2.2.2.1 h).1, by rw [g.2.2.2.1]; exact Nat.le_refl _⟩
theorem Aft.next (hs : s.size ≤ 140737488351232) (h : Ok s x) (l : List Int) (he : x.e = 0 → errOf l = 0) : Aft s mx x (next l s x).2 := by
  have g := next_get (m := (Inf.next l s x).1) (y := (Inf.next l s x).2) hs h he rfl
  exact ⟨g.1, next_p hs h he, by rw [g.2.2.2.1]; exact fun h => h, fun h => (g.2.2.2.2.1 h).1, by rw [g.2.2.2.1]; exact Nat.le_refl _⟩
theorem Aft.copy (h : Ok s x) (n d : Int) (hn : 0 ≤ n) : Aft s mx x (copy mx x n d) := by
  unfold Inf.copy
  by_cases c1 : d ≤ x.o.length
  · rw [if_pos c1]
    by_cases c2 : (x.o.length : Int) + n ≤ mx
    · rw [if_pos c2]
      exact ⟨⟨h.p0, h.p1, h.e⟩, Int.le_refl _, fun _ => by show ((again x.o d.toNat n.toNat).length : Int) ≤ mx; rw [again_len]; omega, fun h => h, by show x.o.length ≤ (again x.o d.toNat n.toNat).length; rw [again_len]; omega⟩
    · rw [if_neg c2]; exact Aft.fail h 7 (by decide)
  · rw [if_neg c1]; exact Aft.fail h 3 (by decide)
theorem Aft.far (hs : s.size ≤ 140737488351232) (h : Ok s x) (lb : List Int) (hb : errOf lb = 0) (y : Int) (h0 : 257 ≤ y) (h1 : y < 286) : Aft s mx x (far s mx lb x y) := by
  unfold Inf.far
  obtain ⟨q, hq⟩ : ∃ q : Nat, (y - 257).toNat = q := ⟨_, rfl⟩
  have hqr := len_rng q (by omega)
  obtain ⟨k, hk⟩ : ∃ k : Nat, lenM.getD q 0 = (k : Int) := ⟨(lenM.getD q 0).toNat, by omega⟩
  simp only [hq, hk]
  have a1 := Aft.bits (mx := mx) h k (by omega) k rfl
  have a2 := Aft.next (mx := mx) hs a1.ok lb (fun _ => hb)
  have g2 := next_get (m := (Inf.next lb s (Inf.bits s k x).2).1) (y := (Inf.next lb s (Inf.bits s k x).2).2) hs a1.ok (fun _ => hb) rfl
  have gm := (bits_get (n := k) (k := k) (m := (Inf.bits s k x).1) (y := (Inf.bits s k x).2) rfl h (by omega) rfl).2.1
  generalize Inf.bits s k x = m at *
  generalize Inf.next lb s m.2 = d at *
  by_cases c : d.2.e = 0 ∧ d.1 ≥ 30
  · rw [if_pos c]
    have a3 := Aft.fail (mx := mx) a2.ok 3 (by decide)
    have : (Inf.fail d.2 3).e = 3 := by unfold Inf.fail; rw [if_pos c.1]
    rw [if_neg (by rw [this]; decide)]
    exact (a1.trans a2).trans a3
  · rw [if_neg c]
    by_cases ce : d.2.e = 0
    · rw [if_pos ce]
      have h30 : d.1 < 30 := by
        rcases Decidable.em (d.1 < 30) with h | h
        · exact h
        · exact absurd ⟨ce, Int.not_lt.1 h⟩ c
      have hdr := dis_rng d.1.toNat (by have := g2.2.1; omega)
      obtain ⟨k2, hk2⟩ : ∃ k2 : Nat, disM.getD d.1.toNat 0 = (k2 : Int) := ⟨(disM.getD d.1.toNat 0).toNat, by omega⟩
      rw [hk2]
      have a3 := Aft.bits (mx := mx) a2.ok k2 (by omega) k2 rfl
      generalize Inf.bits s k2 d.2 = e at *
      by_cases c3 : e.2.e = 0
      · rw [if_pos c3]
        exact ((a1.trans a2).trans a3).trans (Aft.copy a3.ok _ _ (by omega))
      · rw [if_neg c3]; exact (a1.trans a2).trans a3
    · rw [if_neg ce]; exact a1.trans a2
theorem Aft.one (hs : s.size ≤ 140737488351232) (h : Ok s x) (la lb : List Int) (he : x.e = 0) (ha : errOf la = 0) (hb : errOf lb = 0) : Aft s mx x (one s mx la lb x).2 ∧ ((one s mx la lb x).1 = false → (one s mx la lb x).2.e = 0 → x.p + 1 ≤ (one s mx la lb x).2.p) ∧ ((x.o.length : Int) ≤ mx → ((one s mx la lb x).2.o.length : Int) ≤ mx) := by
  have a1 := Aft.next (mx := mx) hs h la (fun _ => ha)
  have g1 := next_get (m := (Inf.next la s x).1) (y := (Inf.next la s x).2) hs h (fun _ => ha) rfl
  unfold Inf.one
  simp only
  generalize Inf.next la s x = a at *
  by_cases c1 : a.2.e ≠ 0 ∨ a.1 = 256
  · rw [if_pos c1]; exact ⟨a1, fun h => Bool.noConfusion h, a1.o⟩
  · rw [if_neg c1]
    have c10 : a.2.e = 0 := Decidable.byContradiction fun h => c1 (.inl h)
    have hp1 := (g1.2.2.2.2.1 c10).2.1
    by_cases c2 : a.1 < 256
    · rw [if_pos c2]
      by_cases c3 : (a.2.o.length : Int) = mx
      · rw [if_pos c3]
        have := a1.trans (Aft.fail (mx := mx) a1.ok 7 (by decide))
        exact ⟨this, fun h => Bool.noConfusion h, this.o⟩
      · rw [if_neg c3]
        have hl : (x.o.length : Int) ≤ mx → ((a.2.o ++ [a.1 % 256]).length : Int) ≤ mx := fun h => by have := a1.o h; rw [List.length_append]; simp only [List.length_cons, List.length_nil]; omega
        exact ⟨⟨⟨a1.ok.p0, a1.ok.p1, a1.ok.e⟩, a1.p, hl, fun _ => he, by show x.o.length ≤ (a.2.o ++ [a.1 % 256]).length; rw [List.length_append]; have := a1.l; omega⟩, fun _ _ => hp1, hl⟩
    · rw [if_neg c2]
      by_cases c3 : a.1 ≥ 286
      · rw [if_pos c3]
        have := a1.trans (Aft.fail (mx := mx) a1.ok 3 (by decide))
        exact ⟨this, fun h => Bool.noConfusion h, this.o⟩
      · rw [if_neg c3]
        have a2 := Aft.far (mx := mx) hs a1.ok lb hb a.1 (by have h : ¬ a.1 = 256 := fun h => c1 (.inr h); omega) (by omega)
        exact ⟨a1.trans a2, fun _ _ => Int.le_trans hp1 a2.p, (a1.trans a2).o⟩
theorem Aft.codes (hs : s.size ≤ 140737488351232) (la lb : List Int) : ∀ (k : Nat) (x : St), Ok s x → (x.e = 0 → errOf la = 0 ∧ errOf lb = 0) → Aft s mx x (codes s mx la lb k x) := by
  intro k
  induction k with
  | zero => intro x h _; exact Aft.refl h
  | succ k ih =>
    intro x h he
    unfold Inf.codes
    by_cases c : x.e = 0
    · rw [if_pos c]
      have a1 := (Aft.one (mx := mx) hs h la lb c (he c).1 (he c).2).1
      by_cases c2 : (Inf.one s mx la lb x).1 = true
      · rw [if_pos c2]; exact a1
      · rw [if_neg c2]; exact a1.trans (ih _ a1.ok (fun _ => he c))
    · rw [if_neg c]; exact Aft.refl h
theorem both_e {la lb : List Int} {x : St} (h : (table lb (table la x)).e = 0) : errOf la = 0 ∧ errOf lb = 0 := ⟨(table_e (table_e h).1).2, (table_e h).2⟩
theorem Aft.both (hs : s.size ≤ 140737488351232) (la lb : List Int) (h : Ok s x) : Aft s mx x (both s mx la lb x) :=
  (((Aft.table h la).trans (Aft.table (table_ok h la) lb))).trans (Aft.codes hs la lb _ _ (table_ok (table_ok h la) lb) both_e)
theorem both_eq (la lb : List Int) (x : St) : both s mx la lb x = codes s mx la lb (left s (table lb (table la x))) (table lb (table la x)) := by
  have e : left s (table lb (table la x)) = left s x := by unfold left Inf.table; rw [fail_p, fail_p]
  rw [e]; rfl
theorem lengthen_o (l : List Int) (y : Int) (h : Ok s x) : (lengthen s l y x).2.o = x.o := by
  have b2 := bits_get (n := 2) (k := 2) (m := (bits s 2 x).1) (y := (bits s 2 x).2) rfl h (by decide) rfl
  have b3 := bits_get (n := 3) (k := 3) (m := (bits s 3 x).1) (y := (bits s 3 x).2) rfl h (by decide) rfl
  have b7 := bits_get (n := 7) (k := 7) (m := (bits s 7 x).1) (y := (bits s 7 x).2) rfl h (by decide) rfl
  unfold lengthen
  by_cases c0 : x.e = 0
  · rw [if_pos c0]
    by_cases c16 : y = 16
    · rw [if_pos c16]
      by_cases cl : l.length = 0
      · rw [if_pos cl]; exact fail_o _ _
      · rw [if_neg cl]; exact b2.2.2.2.1
    · rw [if_neg c16]
      by_cases c17 : y = 17
      · rw [if_pos c17]; exact b3.2.2.2.1
      · rw [if_neg c17]
        by_cases c18 : y = 18
        · rw [if_pos c18]; exact b7.2.2.2.1
        · rw [if_neg c18]
  · rw [if_neg c0]
theorem lengthen_e {l : List Int} {y : Int} (h : (lengthen s l y x).2.e = 0) : x.e = 0 := by
  by_cases c : x.e = 0
  · exact c
  · rw [lengthen_same c] at h; exact h
theorem Aft.many (hs : s.size ≤ 140737488351232) (own : List Int) (all : Int) : ∀ (k : Nat) (l : List Int) (x : St), Ok s x → (x.e = 0 → errOf own = 0) → Aft s mx x (many s own all k l x).2 := by
  intro k
  induction k with
  | zero => intro l x h _; exact Aft.refl h
  | succ k ih =>
    intro l x h he
    unfold Inf.many
    by_cases c : (l.length : Int) < all
    · rw [if_pos c]
      by_cases c2 : x.e = 0
      · rw [if_pos c2]
        have a1 := Aft.next (mx := mx) hs h own he
        have l1 := lengthen_spec (l := l) (y := (Inf.next own s x).1) a1.ok
        have l2 := lengthen_o l (Inf.next own s x).1 a1.ok
        have a2 : Aft s mx _ (lengthen s l (Inf.next own s x).1 (Inf.next own s x).2).2 := ⟨l1.1, l1.2.1, by rw [l2]; exact fun h => h, lengthen_e, by rw [l2]; exact Nat.le_refl _⟩
        exact (a1.trans a2).trans (ih _ _ a2.ok (fun _ => he c2))
      · rw [if_neg c2]; exact Aft.refl h
    · rw [if_neg c]; exact Aft.refl h
theorem Aft.owns : ∀ (t : List Nat) (own : List Int) (x : St), Ok s x → Aft s mx x (owns s t own x).2 := by
  intro t
  induction t with
  | nil => intro own x h; exact Aft.refl h
  | cons a t ih =>
    intro own x h
    have a1 := Aft.bits (mx := mx) h 3 (by decide) 3 rfl
    exact a1.trans (ih _ _ a1.ok)
theorem Aft.lengths (hs : s.size ≤ 140737488351232) (h : Ok s x) : Aft s mx x (lengths s x).2.2 := by
  unfold Inf.lengths
  have a1 := Aft.bits (mx := mx) h 5 (by decide) 5 rfl
  generalize Inf.bits s 5 x = a at *
  have a2 := Aft.bits (mx := mx) a1.ok 5 (by decide) 5 rfl
  simp only
  generalize Inf.bits s 5 a.2 = b at *
  have a3 := Aft.bits (mx := mx) a2.ok 4 (by decide) 4 rfl
  generalize Inf.bits s 4 b.2 = c at *
  have a4 : Aft s mx c.2 (if c.2.e = 0 ∧ (a.1 + 257 > 286 ∨ b.1 + 1 > 30) then Inf.fail c.2 3 else c.2) := by
    split
    · exact Aft.fail a3.ok 3 (by decide)
    · exact Aft.refl a3.ok
  generalize (if c.2.e = 0 ∧ (a.1 + 257 > 286 ∨ b.1 + 1 > 30) then Inf.fail c.2 3 else c.2) = x1 at *
  have a5 := Aft.owns (mx := mx) (order.take (c.1 + 4).toNat) (List.replicate 19 0) x1 a4.ok
  generalize Inf.owns s (order.take (c.1 + 4).toNat) (List.replicate 19 0) x1 = w at *
  have a6 := Aft.table (mx := mx) a5.ok w.1
  have a7 := Aft.many (mx := mx) hs w.1 (a.1 + 257 + (b.1 + 1)) (left s (Inf.table w.1 w.2)) [] _ a6.ok (fun h => (table_e h).2)
  generalize Inf.many s w.1 (a.1 + 257 + (b.1 + 1)) (left s (Inf.table w.1 w.2)) [] (Inf.table w.1 w.2) = z at *
  have a8 := (((((a1.trans a2).trans a3).trans a4).trans a5).trans a6).trans a7
  by_cases c1 : z.2.e = 0
  · rw [if_pos c1]
    by_cases c2 : (z.1.length : Int) > a.1 + 257 + (b.1 + 1) ∨ z.1.getD 256 0 = 0
    · rw [if_pos c2]; exact a8.trans (Aft.fail a7.ok 3 (by decide))
    · rw [if_neg c2]; exact a8
  · rw [if_neg c1]; exact a8
theorem cut_len (s : ByteArray) (a n : Nat) : (cut s a n).length = n := by unfold cut; simp
theorem Aft.stored (h : Ok s x) : Aft s mx x (stored s mx x) := by
  have h' : Ok s ⟨(x.p + 7) / 8 * 8, x.o, x.e⟩ := ⟨by have := h.p0; show 0 ≤ (x.p + 7) / 8 * 8; omega, by have := h.p1; show (x.p + 7) / 8 * 8 ≤ _; omega, h.e⟩
  have a0 : Aft s mx x ⟨(x.p + 7) / 8 * 8, x.o, x.e⟩ := ⟨h', by show x.p ≤ (x.p + 7) / 8 * 8; omega, fun h => h, fun h => h, Nat.le_refl _⟩
  have a1 := Aft.bits (mx := mx) h' 16 (by decide) 16 rfl
  have g1 := (bits_get (n := 16) (k := 16) (m := (Inf.bits s 16 ⟨(x.p + 7) / 8 * 8, x.o, x.e⟩).1) (y := (Inf.bits s 16 ⟨(x.p + 7) / 8 * 8, x.o, x.e⟩).2) rfl h' (by decide) rfl).2
  have ge : (Inf.bits s 16 ⟨(x.p + 7) / 8 * 8, x.o, x.e⟩).2.e = 0 → (x.p + 7) / 8 * 8 + 16 ≤ (Inf.bits s 16 ⟨(x.p + 7) / 8 * 8, x.o, x.e⟩).2.p ∧ (Inf.bits s 16 ⟨(x.p + 7) / 8 * 8, x.o, x.e⟩).2.p ≤ (x.p + 7) / 8 * 8 + 16 := fun h => (g1.2.2.2.1 h).2
  replace g1 := g1.1
  unfold Inf.stored
  simp only
  generalize Inf.bits s 16 ⟨(x.p + 7) / 8 * 8, x.o, x.e⟩ = a at *
  have a2 := Aft.bits (mx := mx) a1.ok 16 (by decide) 16 rfl
  have g2 := (bits_get (n := 16) (k := 16) (m := (Inf.bits s 16 a.2).1) (y := (Inf.bits s 16 a.2).2) rfl a1.ok (by decide) rfl).2.2.2.2.1
  generalize Inf.bits s 16 a.2 = b at *
  have a3 := (a0.trans a1).trans a2
  by_cases c1 : b.2.e = 0
  · rw [if_pos c1]
    by_cases c2 : Go.bits .xor .i64 a.1 b.1 = 65535
    · rw [if_pos c2]
      by_cases c3 : (b.2.o.length : Int) + a.1 ≤ mx
      · rw [if_pos c3]
        by_cases c4 : a.1 ≤ s.size - b.2.p / 8
        · rw [if_pos c4]
          refine a3.trans ⟨⟨by have := a2.ok.p0; show 0 ≤ b.2.p + 8 * a.1; omega, ?_, a2.ok.e⟩, by show b.2.p ≤ b.2.p + 8 * a.1; omega, fun _ => by show ((b.2.o ++ _).length : Int) ≤ mx; rw [List.length_append, cut_len]; omega, fun h => h, by show b.2.o.length ≤ (b.2.o ++ _).length; rw [List.length_append]; omega⟩
          have h1 := g2 c1; have h2 := ge h1.1; show b.2.p + 8 * a.1 ≤ 8 * (s.size : Int); have h3 := h1.2.1; have h4 := h1.2.2; omega
        · rw [if_neg c4]; exact a3.trans (Aft.fail a2.ok 2 (by decide))
      · rw [if_neg c3]; exact a3.trans (Aft.fail a2.ok 7 (by decide))
    · rw [if_neg c2]; exact a3.trans (Aft.fail a2.ok 3 (by decide))
  · rw [if_neg c1]; exact a3
theorem tak_zero {r : Int × Int × Int} (h : (tak x r).2.e ≠ 0) : (tak x r).1 = 0 := by
  unfold tak at h ⊢
  by_cases c : x.e = 0
  · rw [if_pos c] at h ⊢
    by_cases c2 : r.2.2 = 0
    · rw [if_pos c2] at h; exact absurd c h
    · rw [if_neg c2]
  · rw [if_neg c]
theorem Aft.block (hs : s.size ≤ 140737488351232) (h : Ok s x) : Aft s mx x (block s mx x).2 ∧ ((block s mx x).2.e = 0 → x.p + 1 ≤ (block s mx x).2.p) := by
  have a1 := Aft.bits (mx := mx) h 1 (by decide) 1 rfl
  have g1 := (bits_get (n := 1) (k := 1) (m := (Inf.bits s 1 x).1) (y := (Inf.bits s 1 x).2) rfl h (by decide) rfl).2.2.2.2.1
  unfold Inf.block
  simp only
  generalize Inf.bits s 1 x = a at *
  have a2 := Aft.bits (mx := mx) a1.ok 2 (by decide) 2 rfl
  have g2 := (bits_get (n := 2) (k := 2) (m := (Inf.bits s 2 a.2).1) (y := (Inf.bits s 2 a.2).2) rfl a1.ok (by decide) rfl).2.2.2.2.1
  have g0 : (Inf.bits s 2 a.2).2.e ≠ 0 → (Inf.bits s 2 a.2).1 = 0 := tak_zero
  generalize Inf.bits s 2 a.2 = b at *
  have a3 := a1.trans a2
  have hp : b.2.e = 0 → x.p + 1 ≤ b.2.p := fun e => by
    have h1 := g2 e
    have h2 := g1 h1.1
    have h3 := h2.2.1
    have h4 := a2.p
    omega
  have go : ∀ y, Aft s mx b.2 y → (b.2.e ≠ 0 → b.1 = 0) → (b.1 = 0 → y.e = 0 → b.2.e = 0) → Aft s mx x y ∧ (y.e = 0 → x.p + 1 ≤ y.p) := fun y k _ h1 => ⟨a3.trans k, fun e => by
    by_cases c : b.2.e = 0
    · exact Int.le_trans (hp c) k.p
    · exact absurd (h1 (g0 c) e) c⟩
  by_cases c0 : b.1 = 0
  · rw [if_pos c0]
    by_cases c1 : b.2.e = 0
    · rw [if_pos c1]; exact go _ (Aft.stored a2.ok) g0 (fun _ _ => c1)
    · rw [if_neg c1]; exact go _ (Aft.refl a2.ok) g0 (fun _ h => h)
  · rw [if_neg c0]
    by_cases c1 : b.1 = 1
    · rw [if_pos c1]; exact go _ (Aft.both hs _ _ a2.ok) g0 (fun h => absurd h c0)
    · rw [if_neg c1]
      by_cases c2 : b.1 = 2
      · rw [if_pos c2]
        have a4 := Aft.lengths (mx := mx) hs a2.ok
        exact go _ (a4.trans (Aft.both hs _ _ a4.ok)) g0 (fun h => absurd h c0)
      · rw [if_neg c2]; exact go _ (Aft.fail a2.ok 3 (by decide)) g0 (fun h => absurd h c0)
theorem Aft.blocks (hs : s.size ≤ 140737488351232) : ∀ (k : Nat) (x : St), Ok s x → Aft s mx x (blocks s mx k x) := by
  intro k
  induction k with
  | zero => intro x h; exact Aft.refl h
  | succ k ih =>
    intro x h
    have a1 := Aft.block (mx := mx) hs h
    unfold Inf.blocks
    split
    · exact a1.1
    · split
      · exact a1.1.trans (ih _ a1.1.ok)
      · exact a1.1
end
set_option maxRecDepth 100000 in
set_option maxHeartbeats 8000000 in
theorem block_calls (w0 : World) (g : Nat) (v : Value) (s : ByteArray) (mx : Int) (x : St) (w : World) (hs : s.size ≤ 17592186044416) (hmx : 0 ≤ mx ∧ mx ≤ 262144) (ho : (x.o.length : Int) ≤ mx) (hx : Ok s x) (h : ISt w0 g v s mx x w) :
    Calls Try.prog 72 #[.pointer (some ⟨g, 0, none⟩)] w (Post w0 g v s mx w (.bool (block s mx x).1) (block s mx x).2) := by
  have HH := Aside0.mk h
  have HF := Aside0.mk (Fro.refl w g v)
  have HSB : Aside0 (s.size ≤ 140737488351232) := ⟨by omega⟩
  clear h
  obtain ⟨a, x1, ha⟩ : ∃ a x1, bits s 1 x = (a, x1) := ⟨_, _, rfl⟩
  obtain ⟨b, x2, hb⟩ : ∃ b x2, bits s 2 x1 = (b, x2) := ⟨_, _, rfl⟩
  obtain ⟨hok1, ha0, ha1, hao, -, -⟩ := bits_get (n := 1) rfl hx (by decide) ha
  obtain ⟨hok2, hb0, hb1, hbo, -, -⟩ := bits_get (n := 2) rfl hok1 (by decide) hb
  have HO2 : Aside0 ((x2.o.length : Int) ≤ mx) := ⟨by rw [hbo, hao]; exact ho⟩
  have HO2n : Aside0 (x2.o.length ≤ 262144) := ⟨by have := HO2.out; omega⟩
  obtain ⟨R, hR⟩ : ∃ R, R = (block s mx x).2 := ⟨_, rfl⟩
  have hres : block s mx x = (decide (a = 1), if b = 0 then (if x2.e = 0 then stored s mx x2 else x2) else if b = 1 then both s mx plainA plainB x2 else if b = 2 then both s mx (lengths s x2).1 (lengths s x2).2.1 (lengths s x2).2.2 else fail x2 3) := by
    unfold block
    simp only [ha, hb]
  rw [hres] at hR
  rw [hres]
  simp only at hR ⊢
  rw [← hR]
  have HA := Aside0.mk ha
  have HB := Aside0.mk hb
  have HR := Aside0.mk hR
  have HP0 : Aside0 (x.p ≤ 9223372036854775807) := ⟨by have := hx.p1; omega⟩
  have HP1 : Aside0 (x1.p ≤ 9223372036854775807) := ⟨by have := hok1.p1; omega⟩
  have HOK2 := Aside0.mk hok2
  have HMX := Aside0.mk hmx
  have HS := Aside0.mk hs
  have hbeq : (a == 1) = decide (a = 1) := rfl
  clear ha hb hres hR hok1 hok2 hx hao hbo ho hmx hs
  go_enter Try.func72, Try.ntmps72
  go_upto_region 4 with (first
    | (go_at_call 94; (with_reducible refine (bits_calls w0 g v s mx x 1 _ HSB.out HP0.out HH.out).mono ?_); rw [HA.out]; rintro e w1 ⟨v1, rfl, hi, hf⟩; have HI1 := Aside0.mk hi; have HF1 := Aside0.mk (HF.out.trans hf); clear hi hf HF)
    | (go_at_call 94; (with_reducible refine (bits_calls w0 g v1 s mx x1 2 _ HSB.out HP1.out HI1.out).mono ?_); rw [HB.out]; rintro e w2 ⟨v2, rfl, hi, hf⟩; have HI2 := Aside0.mk hi; have HF2 := Aside0.mk (HF1.out.trans hf); clear hi hf HI1 HF1))
  have hc4 := HI2.out.c4
  by_cases c0 : b = 0
  · have d0 : (b == 0) = true := by rw [c0]; rfl
    have hR := HR.out
    rw [if_pos c0] at hR
    by_cases c1 : x2.e = 0
    · have d1 : (x2.e == 0) = true := by rw [c1]; rfl
      rw [if_pos c1] at hR
      have HR2 := Aside0.mk hR
      clear hR HR
      go_wp2_with (go_at_call 95; (with_reducible refine (stored_calls w0 g v2 s mx x2 _ HS.out HO2n.out HMX.out HOK2.out HI2.out).mono ?_); rw [← HR2.out]; rintro e w3 ⟨v3, rfl, hi, hf⟩; have HI3 := Aside0.mk hi; have HF3 := Aside0.mk (HF2.out.trans hf); clear hi hf)
      exact bodyPost_ret (v := .bool (decide (a = 1))) (by simp [results, Try.results72, go_sem]) rfl ⟨v3, rfl, HI3.out, HF3.out⟩
    · have d1 : (x2.e == 0) = false := beq_eq_false_iff_ne.2 c1
      rw [if_neg c1] at hR
      have HR2 := Aside0.mk hR
      clear hR HR
      go_wp2
      exact bodyPost_ret (v := .bool (decide (a = 1))) (by simp [results, Try.results72, go_sem]) rfl ⟨v2, rfl, by rw [HR2.out]; exact HI2.out, HF2.out⟩
  · have d0 : (b == 0) = false := beq_eq_false_iff_ne.2 c0
    have hR := HR.out
    rw [if_neg c0] at hR
    by_cases c1 : b = 1
    · have d1 : (b == 1) = true := by rw [c1]; rfl
      rw [if_pos c1] at hR
      obtain ⟨LA, hLA⟩ : ∃ LA, LA = plainA := ⟨_, rfl⟩
      obtain ⟨LB, hLB⟩ : ∃ LB, LB = plainB := ⟨_, rfl⟩
      rw [← hLA, ← hLB] at hR
      have HL := Aside0.mk (And.intro hLA hLB)
      have HR2 := Aside0.mk hR
      have HOT : Aside0 (((table LB (table LA x2)).o.length : Int) ≤ mx) := ⟨((Aft.table (mx := mx) HOK2.out LA).trans (Aft.table (table_ok HOK2.out LA) LB)).o HO2.out⟩
      have HOKT : Aside0 (Ok s (table LB (table LA x2))) := ⟨table_ok (table_ok HOK2.out LA) LB⟩
      clear hR HR hLA hLB
      go_upto_region 9 with (go_at_call 96; (with_reducible refine (plain_calls _).mono ?_); rw [← HL.out.1, ← HL.out.2]; rintro e w3 ⟨u0, u1, rfl, hr0, hr1, hb⟩; have HR0 := Aside0.mk hr0; have HR1 := Aside0.mk hr1; have HBW := Aside0.mk hb; clear hr0 hr1 hb)
      obtain ⟨A, cA, hu0⟩ := Kd.R_slice HR0.out
      obtain ⟨B, cB, hu1⟩ := Kd.R_slice HR1.out
      subst hu0
      subst hu1
      have hside : ∀ k, w2.heap.size ≤ k → k < w3.heap.size → w3.heap[k]? = w3.heap[k]? ∧ k ≠ g ∧ some k ≠ v2.ownBlock := fun k h1 _ => ⟨rfl, fun e => by have := HI2.out.glt; omega, fun e => by have := (HI2.out.own k e.symm).2; omega⟩
      have HFA : Aside0 (Foot w3 g v2 A LA) := ⟨foot_of HR0.out (Nat.le_refl _) hside⟩
      have HFB : Aside0 (Foot w3 g v2 B LB) := ⟨foot_of HR1.out (Nat.le_refl _) hside⟩
      have HI3 := Aside0.mk (HI2.out.below HBW.out)
      have HF3 := Aside0.mk (HF2.out.below HBW.out)
      clear hside
      go_wp2_with (first
        | (go_at_call 98; (with_reducible refine (table_calls w0 g v2 s mx x2 A cA LA _ HI3.out HFA.out.now).mono ?_); rintro e w4 ⟨ta, v4, rfl, ht, hi, hf⟩; have HI4 := Aside0.mk hi; have HF4 := Aside0.mk (HF3.out.trans hf); have HTA4 := Aside0.mk ht; have HFB4 := Aside0.mk (HFB.out.fro hf); clear hi hf ht)
        | (go_at_call 98; (with_reducible refine (table_calls w0 g v4 s mx (table LA x2) B cB LB _ HI4.out HFB4.out.now).mono ?_); rintro e w5 ⟨tb, v5, rfl, ht, hi, hf⟩; have HI5 := Aside0.mk hi; have HF5 := Aside0.mk (HF4.out.trans hf); have HTB5 := Aside0.mk ht; have HTA5 := Aside0.mk (HTA4.out.fro hf); clear hi hf ht)
        | (go_at_call 97; (with_reducible refine (codes_calls w0 g v5 s mx (table LB (table LA x2)) LA LB ta tb _ HS.out HMX.out HOT.out HOKT.out both_e HI5.out (HTA5.out.imp (fun h => (table_e (table_e h).1).1)) (HTB5.out.imp (fun h => (table_e h).1))).mono ?_); rintro e w6 ⟨v6, rfl, hi, hf⟩; have HI6 := Aside0.mk hi; have HF6 := Aside0.mk (HF5.out.trans hf); clear hi hf))
      exact bodyPost_ret (v := .bool (decide (a = 1))) (by simp [results, Try.results72, go_sem]) rfl ⟨v6, rfl, by rw [HR2.out, both_eq]; exact HI6.out, HF6.out⟩
    · have d1 : (b == 1) = false := beq_eq_false_iff_ne.2 c1
      rw [if_neg c1] at hR
      by_cases c2 : b = 2
      · have d2 : (b == 2) = true := by rw [c2]; rfl
        rw [if_pos c2] at hR
        obtain ⟨LA, LB, x3, hl⟩ : ∃ LA LB x3, lengths s x2 = (LA, LB, x3) := ⟨_, _, _, rfl⟩
        have hax := Aft.lengths (mx := mx) HSB.out HOK2.out
        rw [hl] at hR hax
        simp only at hR hax
        have HL := Aside0.mk hl
        have HR2 := Aside0.mk hR
        have HOT : Aside0 (((table LB (table LA x3)).o.length : Int) ≤ mx) := ⟨((hax.trans (Aft.table (mx := mx) hax.ok LA)).trans (Aft.table (table_ok hax.ok LA) LB)).o HO2.out⟩
        have HOKT : Aside0 (Ok s (table LB (table LA x3))) := ⟨table_ok (table_ok hax.ok LA) LB⟩
        clear hR HR hl hax
        go_upto_region 12 with (go_at_call 99; (with_reducible refine (lengths_calls w0 g v2 s mx x2 _ HS.out HOK2.out HI2.out).mono ?_); rw [HL.out]; rintro e w3 ⟨v3, A, B, cA, cB, rfl, hi, hf, hfa, hfb⟩; have HI3 := Aside0.mk hi; have HF3 := Aside0.mk (HF2.out.trans hf); have HFA := Aside0.mk hfa; have HFB := Aside0.mk hfb; clear hi hf hfa hfb)
        go_wp2_with (first
          | (go_at_call 98; (with_reducible refine (table_calls w0 g v3 s mx x3 A cA LA _ HI3.out HFA.out.now).mono ?_); rintro e w4 ⟨ta, v4, rfl, ht, hi, hf⟩; have HI4 := Aside0.mk hi; have HF4 := Aside0.mk (HF3.out.trans hf); have HTA4 := Aside0.mk ht; have HFB4 := Aside0.mk (HFB.out.fro hf); clear hi hf ht)
          | (go_at_call 98; (with_reducible refine (table_calls w0 g v4 s mx (table LA x3) B cB LB _ HI4.out HFB4.out.now).mono ?_); rintro e w5 ⟨tb, v5, rfl, ht, hi, hf⟩; have HI5 := Aside0.mk hi; have HF5 := Aside0.mk (HF4.out.trans hf); have HTB5 := Aside0.mk ht; have HTA5 := Aside0.mk (HTA4.out.fro hf); clear hi hf ht)
          | (go_at_call 97; (with_reducible refine (codes_calls w0 g v5 s mx (table LB (table LA x3)) LA LB ta tb _ HS.out HMX.out HOT.out HOKT.out both_e HI5.out (HTA5.out.imp (fun h => (table_e (table_e h).1).1)) (HTB5.out.imp (fun h => (table_e h).1))).mono ?_); rintro e w6 ⟨v6, rfl, hi, hf⟩; have HI6 := Aside0.mk hi; have HF6 := Aside0.mk (HF5.out.trans hf); clear hi hf))
        exact bodyPost_ret (v := .bool (decide (a = 1))) (by simp [results, Try.results72, go_sem]) rfl ⟨v6, rfl, by rw [HR2.out, both_eq]; exact HI6.out, HF6.out⟩
      · have d2 : (b == 2) = false := beq_eq_false_iff_ne.2 c2
        rw [if_neg c2] at hR
        have HR2 := Aside0.mk hR
        clear hR HR
        go_wp2_with (go_at_call 100; (with_reducible refine (fail_calls w0 g v2 s mx x2 3 _ HI2.out).mono ?_); rw [← HR2.out]; rintro e w3 ⟨v3, rfl, hi, hf⟩; have HI3 := Aside0.mk hi; have HF3 := Aside0.mk (HF2.out.trans hf); clear hi hf)
        exact bodyPost_ret (v := .bool (decide (a = 1))) (by simp [results, Try.results72, go_sem]) rfl ⟨v3, rfl, HI3.out, HF3.out⟩
end Go.Proofs.Ytpbhkdamkbopkaa.Inf
namespace Go.Proofs.Ytpbhkdamkbopkaa.Inf
set_option linter.unusedSimpArgs false
set_option linter.unusedVariables false
open Go.RowKit Go.Proofs.Ytpbhkdamkbopkaa.Ext Go.Proofs.Ytpbhkdamkbopkaa.RefP Go.Proofs.YtpbhkdamkbopkaaW.PrintWords Go.Proofs.YtpbhkdamkbopkaaW.PrintLast Go.Proofs.YtpbhkdamkbopkaaW.PrintMore
set_option maxRecDepth 100000 in
set_option maxHeartbeats 8000000 in
theorem raw_calls (s : ByteArray) (mx : Int) (w : World) (hs : s.size ≤ 17592186044416) :
    Calls Try.prog 44 #[.string s, .int .i64 mx] w fun e w' => e = .returned (.tuple #[.string (raw s mx).1, .int .i64 (raw s mx).2.1, .int .i64 (raw s mx).2.2]) ∧ Below w.heap.size w w' := by
  have HB0 := Aside0.mk (Below.refl w.heap.size w)
  by_cases c1 : mx < 0
  · have d1 : decide (mx < 0) = true := decide_eq_true c1
    have hres : raw s mx = (⟨#[]⟩, 0, 1) := by unfold raw; rw [if_pos (.inl c1)]
    rw [hres]
    go_enter Try.func44, Try.ntmps44
    go_wp2
    exact bodyPost_ret (v := .tuple #[.string ⟨#[]⟩, .int .i64 0, .int .i64 1]) (by simp [results, Try.results44, go_sem]) rfl ⟨rfl, HB0.out⟩
  have d1 : decide (mx < 0) = false := decide_eq_false c1
  by_cases c2 : mx > 262144
  · have d2 : decide (mx > 262144) = true := decide_eq_true c2
    have hres : raw s mx = (⟨#[]⟩, 0, 1) := by unfold raw; rw [if_pos (.inr c2)]
    rw [hres]
    go_enter Try.func44, Try.ntmps44
    go_wp2
    exact bodyPost_ret (v := .tuple #[.string ⟨#[]⟩, .int .i64 0, .int .i64 1]) (by simp [results, Try.results44, go_sem]) rfl ⟨rfl, HB0.out⟩
  have d2 : decide (mx > 262144) = false := decide_eq_false c2
  obtain ⟨X, hX⟩ : ∃ X, X = blocks s mx (8 * s.size + 2) ⟨0, [], 0⟩ := ⟨_, rfl⟩
  have hres : raw s mx = if X.e = 0 then (strOfNums X.o, (X.p + 7) / 8, 0) else (⟨#[]⟩, 0, X.e) := by unfold raw; rw [if_neg (fun h => h.elim c1 c2), hX]
  obtain ⟨r, hr0⟩ : ∃ r, r = raw s mx := ⟨_, rfl⟩
  rw [← hr0] at hres ⊢
  obtain ⟨r1, r2, r3⟩ := r
  simp only
  have HRES := Aside0.mk hres
  have HX := Aside0.mk hX
  clear hr0
  have HMX : Aside0 (0 ≤ mx ∧ mx ≤ 262144) := ⟨by omega⟩
  have HS := Aside0.mk hs
  have HSB : Aside0 (s.size ≤ 140737488351232) := ⟨by omega⟩
  have HI0 : Aside0 (ISt w w.heap.size (.slice none 0 0) s mx ⟨0, [], 0⟩ (w.alloc (.cells #[.string s, .int .i64 0, .slice none 0 0, .int .i64 mx, .int .i64 0] 113))) := ⟨⟨heap_alloc_new _ _, Kd.R_nil _ _ _ _ _, Nat.le_refl _, below_alloc (Below.refl _ _) _⟩⟩
  obtain ⟨W1, hW1⟩ : ∃ W1, W1 = w.alloc (.cells #[.string s, .int .i64 0, .slice none 0 0, .int .i64 mx, .int .i64 0] 113) := ⟨_, rfl⟩
  clear hX hres hs
  go_enter Try.func44, Try.ntmps44
  go_upto_region 3 with fail
  clear c1 c2 d1 d2
  go_wp2
  rw [← hW1] at HI0 ⊢
  have hpre : Aside0 (ISt w w.heap.size (.slice none 0 0) s mx ⟨0, [], 0⟩ W1) := HI0
  clear hW1 HI0
  obtain ⟨g, hg⟩ : ∃ g, g = w.heap.size := ⟨_, rfl⟩
  rw [← hg] at hpre ⊢
  have HG := Aside0.mk hg
  clear hg
  go_loopw [18] (fun v18 w' => ∃ (k : Nat) (y : St) (v1 : Value), Aside0 (blocks s mx k y = X) ∧ Aside0 (left s y ≤ k) ∧ Aside0 (Ok s y) ∧ Aside0 ((y.o.length : Int) ≤ mx) ∧ Aside0 (ISt w g v1 s mx y w') ∧ Aside0 (y.e = 0)) (fun v18 w' => imeas s g w')
  case atStart => exact ⟨8 * s.size + 2, ⟨0, [], 0⟩, .slice none 0 0, ⟨HX.out.symm⟩, ⟨by unfold left; show (8 * (s.size : Int) + 1 - 0).toNat + 1 ≤ _; omega⟩, ⟨⟨Int.le_refl _, by show (0 : Int) ≤ _; omega, .inl rfl⟩⟩, ⟨HMX.out.1⟩, hpre, ⟨rfl⟩⟩
  case round =>
    clear hpre HX
    obtain ⟨k, y, v1, HE, HK, HOK, HO, HI, HE0⟩ := hrel
    obtain ⟨t, z, hz⟩ : ∃ t z, block s mx y = (t, z) := ⟨_, _, rfl⟩
    have HZ := Aside0.mk hz
    obtain ⟨ha, hb⟩ := Aft.block (mx := mx) HSB.out HOK.out
    rw [hz] at ha hb
    have HA := Aside0.mk ha
    have HAP := Aside0.mk hb
    obtain ⟨k1, hk1⟩ : ∃ k1, k = k1 + 1 := ⟨k - 1, by have := HK.out; unfold left at this; omega⟩
    have hX2 : X = if t = true then z else if z.e = 0 then blocks s mx k1 z else z := by rw [← HE.out, hk1]; show (if (block s mx y).1 = true then _ else _) = _; rw [hz]
    have HX2 := Aside0.mk hX2
    clear hz ha hb hX2
    cases t
    · by_cases c1 : z.e = 0
      · have d1 : (z.e == 0) = true := by rw [c1]; rfl
        have hX3 := HX2.out
        rw [if_neg (by decide), if_pos c1] at hX3
        have HX3 := Aside0.mk hX3
        have HK1 : Aside0 (left s z ≤ k1) := ⟨by have h1 := HK.out; have h2 := HAP.out c1; have h3 := HOK.out.p1; simp only at h2; unfold left at *; omega⟩
        clear hX3
        go_wp2_with (go_at_call 72; (with_reducible refine (block_calls w g v1 s mx y _ HS.out HMX.out HO.out HOK.out HI.out).mono ?_); rw [HZ.out]; rintro e w3 ⟨v3, rfl, hi, hf⟩; have HI3 := Aside0.mk hi; have hc4 := hi.c4; clear hi hf)
        go_roundw
        case rel => exact ⟨k1, z, v3, ⟨HX3.out.symm⟩, HK1, ⟨HA.out.ok⟩, ⟨HA.out.o HO.out⟩, HI3, ⟨c1⟩⟩
        case measure => exact meas_less2 HI.out HI3.out HE0.out HA.out.p HAP.out HOK.out.p1
      · have d1 : (z.e == 0) = false := beq_eq_false_iff_ne.2 c1
        have d2 : (z.e != 0) = true := by simpa using c1
        have hX3 := HX2.out
        rw [if_neg (by decide), if_neg c1] at hX3
        have HX3 := Aside0.mk hX3
        clear hX3
        have hr := HRES.out
        rw [HX3.out, if_neg c1] at hr
        injection hr with hr1 hr2
        injection hr2 with hr2 hr3
        subst hr1
        subst hr2
        subst hr3
        go_upto_region 6 with (go_at_call 72; (with_reducible refine (block_calls w g v1 s mx y _ HS.out HMX.out HO.out HOK.out HI.out).mono ?_); rw [HZ.out]; rintro e w3 ⟨v3, rfl, hi, hf⟩; have HI3 := Aside0.mk hi; have hc4 := hi.c4; clear hi hf)
        go_quiet (fail)
        generalize hw9 : World.drewN _ _ = w9
        have HI9 : Aside0 (ISt w g v3 s mx z w9) := ⟨by rw [← hw9]; exact HI3.out.below (pw_below_drewN (Below.refl _ _) _)⟩
        clear hw9
        go_wp2
        exact bodyPost_ret (v := .tuple #[.string ⟨#[]⟩, .int .i64 0, .int .i64 z.e]) (by simp [results, Try.results44, go_sem]) rfl ⟨rfl, HI9.out.bl⟩
    · have hX3 := HX2.out
      rw [if_pos rfl] at hX3
      have HX3 := Aside0.mk hX3
      clear hX3
      have hr := HRES.out
      rw [HX3.out] at hr
      by_cases c1 : z.e = 0
      · have d2 : (z.e != 0) = false := by rw [c1]; rfl
        rw [if_pos c1] at hr
        injection hr with hr1 hr2
        injection hr2 with hr2 hr3
        subst hr1
        subst hr2
        subst hr3
        go_upto_region 7 with (go_at_call 72; (with_reducible refine (block_calls w g v1 s mx y _ HS.out HMX.out HO.out HOK.out HI.out).mono ?_); rw [HZ.out]; rintro e w3 ⟨v3, rfl, hi, hf⟩; have HI3 := Aside0.mk hi; have hc4 := hi.c4; clear hi hf)
        obtain ⟨A, c, hv3⟩ := Kd.R_slice HI3.out.row
        subst hv3
        have hc1 := HI3.out.c1
        have hc2 := HI3.out.c2
        have hzp := HA.out.ok.p0
        have hzq := HA.out.ok.p1
        have hss := HS.out
        have hw7 : wrap64 (z.p + 7) = z.p + 7 := wrap_in (by omega) (by omega)
        have hcv : ∀ n, (Go.convert 40 9 (.slice A z.o.length c)).run Try.prog (World.drewN w3 n) = Go.Result.ok (.string (strOfNums z.o)) (World.drewN w3 n) := fun n => Kd.C_string (P := Try.prog) Try.underlying40 Try.underlying5 Try.underlying9 (Kd.R_reads' (Kd.R_below HI3.out.row (pw_below_drewN (Below.refl _ _) n))).2.2
        have hdv : Int.tdiv (z.p + 7) 8 = (z.p + 7) / 8 := Int.tdiv_eq_ediv_of_nonneg (by omega)
        have hw8 : wrap64 ((z.p + 7) / 8) = (z.p + 7) / 8 := wrap_in (by omega) (by omega)
        have HDV := Aside0.mk hdv
        have HW8 := Aside0.mk hw8
        clear hss hdv hw8 hzp hzq
        go_quiet (fail)
        rw [HDV.out, HW8.out]
        generalize hw9 : World.drewN _ _ = w9
        have HI9 : Aside0 (ISt w g _ s mx z w9) := ⟨by rw [← hw9]; exact HI3.out.below (pw_below_drewN (Below.refl _ _) _)⟩
        clear hw9
        go_wp2
        exact bodyPost_ret (v := .tuple #[.string (strOfNums z.o), .int .i64 ((z.p + 7) / 8), .int .i64 0]) (by simp [results, Try.results44, go_sem]) rfl ⟨rfl, HI9.out.bl⟩
      · have d2 : (z.e != 0) = true := by simpa using c1
        rw [if_neg c1] at hr
        injection hr with hr1 hr2
        injection hr2 with hr2 hr3
        subst hr1
        subst hr2
        subst hr3
        go_upto_region 6 with (go_at_call 72; (with_reducible refine (block_calls w g v1 s mx y _ HS.out HMX.out HO.out HOK.out HI.out).mono ?_); rw [HZ.out]; rintro e w3 ⟨v3, rfl, hi, hf⟩; have HI3 := Aside0.mk hi; have hc4 := hi.c4; clear hi hf)
        go_quiet (fail)
        generalize hw9 : World.drewN _ _ = w9
        have HI9 : Aside0 (ISt w g v3 s mx z w9) := ⟨by rw [← hw9]; exact HI3.out.below (pw_below_drewN (Below.refl _ _) _)⟩
        clear hw9
        go_wp2
        exact bodyPost_ret (v := .tuple #[.string ⟨#[]⟩, .int .i64 0, .int .i64 z.e]) (by simp [results, Try.results44, go_sem]) rfl ⟨rfl, HI9.out.bl⟩
end Go.Proofs.Ytpbhkdamkbopkaa.Inf
namespace Go.Proofs.Ytpbhkdamkbopkaa.Wr2
open Go.RowKit Go.Proofs.Ytpbhkdamkbopkaa.Inf Go.Proofs.YtpbhkdamkbopkaaW.PrintWords Go.Proofs.YtpbhkdamkbopkaaW.PrintLast Go.Proofs.YtpbhkdamkbopkaaW.PrintMore
/-- inflate.Raw, in the form in which the other texts call it. -/
def inflate_Raw.f (a0 : ByteArray) (a1 : Int) : Option (ByteArray × Int × Int) := if a0.size ≤ 17592186044416 then some (raw a0 a1) else none
theorem inflate_Raw.calls (a0 : ByteArray) (a1 : Int) (r1 : ByteArray) (r2 : Int) (r3 : Int) (w : World) (h : inflate_Raw.f a0 a1 = some (r1, r2, r3)) :
    Calls Try.prog 44 #[.string a0, .int .i64 a1] w fun e w' => e = .returned (.tuple #[.string r1, .int .i64 r2, .int .i64 r3]) ∧ Below w.heap.size w w' := by
  unfold inflate_Raw.f at h
  by_cases h0 : a0.size ≤ 17592186044416
  · rw [if_pos h0] at h
    have e := Option.some.inj h
    have hh := raw_calls a0 a1 w h0
    rw [e] at hh
    exact hh
  · rw [if_neg h0] at h
    exact absurd h (by simp)
end Go.Proofs.Ytpbhkdamkbopkaa.Wr2
namespace Go.Proofs.Ytpbhkdamkbopkaa.Wr
set_option linter.unusedSimpArgs false
set_option linter.unusedVariables false
open Go.RowKit Go.Proofs.YtpbhkdamkbopkaaW.PrintWords Go.Proofs.YtpbhkdamkbopkaaW.PrintLast Go.Proofs.YtpbhkdamkbopkaaW.PrintMore
theorem w64 {n : Int} (h0 : -9223372036854775808 ≤ n) (h1 : n ≤ 9223372036854775807) : wrap64 n = n := by unfold wrap64; omega
/-- A bit more, m being laid down. -/
def put1 (o : List Int) (m : Nat) (b : Int) : List Int := if m % 8 = 0 then o ++ [b] else o.set (o.length - 1) (o.getD (o.length - 1) 0 + b * 2 ^ (m % 8))
/-- The bytes of bits: in the reverse of the bits' order, that a proof may go by the last one. -/
def pkr : List Int → List Int
  | [] => []
  | b :: t => put1 (pkr t) t.length b
/-- The bytes of bits. -/
def pk (B : List Int) : List Int := pkr B.reverse
theorem pk_snoc (B : List Int) (b : Int) : pk (B ++ [b]) = put1 (pk B) B.length b := by
  unfold pk
  rw [List.reverse_append]
  simp [pkr]
/-- Bits: 0 or 1. -/
def Bits (B : List Int) : Prop := ∀ b ∈ B, 0 ≤ b ∧ b ≤ 1
theorem Bits.append {B C : List Int} (h : Bits B) (k : Bits C) : Bits (B ++ C) := fun b hb => by
  rcases List.mem_append.1 hb with hb | hb
  · exact h b hb
  · exact k b hb
theorem pkr_len (B : List Int) : (pkr B).length = (B.length + 7) / 8 := by
  induction B with
  | nil => rfl
  | cons b t ih =>
    simp only [pkr, put1]
    split
    · rw [List.length_append, ih, List.length_cons, List.length_cons, List.length_nil]; omega
    · rw [List.length_set, ih, List.length_cons]; omega
theorem pk_len (B : List Int) : (pk B).length = (B.length + 7) / 8 := by rw [pk, pkr_len, List.length_reverse]
theorem pow_rng (m : Nat) (h : m ≤ 7) : (1 : Int) ≤ 2 ^ m ∧ (2 : Int) ^ m ≤ 128 := by
  match m, h with
  | 0, _ => decide
  | 1, _ => decide
  | 2, _ => decide
  | 3, _ => decide
  | 4, _ => decide
  | 5, _ => decide
  | 6, _ => decide
  | 7, _ => decide
/-- Each byte is one; the last one has no more than its bits. -/
theorem pkr_rng (B : List Int) (h : ∀ b ∈ B, 0 ≤ b ∧ b ≤ 1) : (∀ x ∈ pkr B, 0 ≤ x ∧ x ≤ 255) ∧ (B.length % 8 ≠ 0 → 0 ≤ (pkr B).getD ((pkr B).length - 1) 0 ∧ (pkr B).getD ((pkr B).length - 1) 0 < 2 ^ (B.length % 8)) := by
  induction B with
  | nil => exact ⟨fun x hx => absurd hx (by simp [pkr]), fun h => absurd rfl h⟩
  | cons b t ih =>
    obtain ⟨i0, i1⟩ := ih (fun x hx => h x (by simp [hx]))
    have hb := h b (by simp)
    have hl := pkr_len t
    simp only [pkr, put1]
    by_cases hm : t.length % 8 = 0
    · rw [if_pos hm]
      refine ⟨fun x hx => ?_, fun _ => ?_⟩
      · rcases List.mem_append.1 hx with hx | hx
        · exact i0 x hx
        · rw [List.mem_singleton.1 hx]; omega
      · have e : (pkr t ++ [b]).getD ((pkr t ++ [b]).length - 1) 0 = b := by
          rw [List.length_append, List.getD_eq_getElem?_getD]
          simp
        rw [e, List.length_cons, show (t.length + 1) % 8 = 1 by omega]
        omega
    · rw [if_neg hm]
      obtain ⟨j0, j1⟩ := i1 hm
      have hlen : (pkr t).length - 1 < (pkr t).length := by omega
      have hp := pow_rng (t.length % 8) (by omega)
      have hq : b * 2 ^ (t.length % 8) ≤ 2 ^ (t.length % 8) ∧ 0 ≤ b * 2 ^ (t.length % 8) := by
        rcases (show b = 0 ∨ b = 1 by omega) with rfl | rfl
        · rw [Int.zero_mul]; omega
        · rw [Int.one_mul]; omega
      generalize (pkr t).getD ((pkr t).length - 1) 0 = z at *
      refine ⟨fun x hx => ?_, fun hn => ?_⟩
      · rcases List.mem_or_eq_of_mem_set hx with hx | rfl
        · exact i0 x hx
        · omega
      · have e : ((pkr t).set ((pkr t).length - 1) (z + b * 2 ^ (t.length % 8))).getD (((pkr t).set ((pkr t).length - 1) (z + b * 2 ^ (t.length % 8))).length - 1) 0 = z + b * 2 ^ (t.length % 8) := by
          rw [List.length_set, List.getD_eq_getElem?_getD, List.getElem?_set, if_pos rfl, if_pos hlen]
          rfl
        rw [e, List.length_cons, show (t.length + 1) % 8 = t.length % 8 + 1 by rw [List.length_cons] at hn; omega, Int.pow_succ]
        omega
theorem pk_rng {B : List Int} (h : Bits B) : (∀ x ∈ pk B, 0 ≤ x ∧ x ≤ 255) ∧ (B.length % 8 ≠ 0 → 0 ≤ (pk B).getD ((pk B).length - 1) 0 ∧ (pk B).getD ((pk B).length - 1) 0 < 2 ^ (B.length % 8)) := by
  have := pkr_rng B.reverse (fun b hb => h b (by simpa using hb))
  rw [List.length_reverse] at this
  exact this
/-- How many bits of the last byte are free. -/
def fr (m : Nat) : Int := (8 - (m % 8 : Nat)) % 8
/-- Bit i of a number. -/
def bit (v : Int) (i : Nat) : Int := v / 2 ^ i % 2
theorem bit_rng (v : Int) (i : Nat) : 0 ≤ bit v i ∧ bit v i ≤ 1 := by unfold bit; omega
/-- A number's bits, the lowest first. -/
def nb (v : Int) (n : Nat) : List Int := (List.range n).map (bit v)
theorem nb_succ (v : Int) (n : Nat) : nb v (n + 1) = nb v n ++ [bit v n] := by unfold nb; rw [List.range_succ, List.map_append]; rfl
theorem nb_len (v : Int) (n : Nat) : (nb v n).length = n := by unfold nb; simp
theorem nb_bits (v : Int) (n : Nat) : Bits (nb v n) := fun b hb => by
  obtain ⟨i, _, rfl⟩ := List.mem_map.1 hb
  exact bit_rng v i
end Go.Proofs.Ytpbhkdamkbopkaa.Wr
namespace Go.Proofs.Ytpbhkdamkbopkaa.Wr
set_option linter.unusedSimpArgs false
set_option linter.unusedVariables false
open Go.RowKit Go.Proofs.YtpbhkdamkbopkaaW.PrintWords Go.Proofs.YtpbhkdamkbopkaaW.PrintLast Go.Proofs.YtpbhkdamkbopkaaW.PrintMore
theorem info5w : (Try.prog.info? 5).map (fun i => (i.zero, i.size, i.bytes)) = some (some (.int .u8 0), 1, 1) := by kernel_rfl
/-- A writer in memory. -/
structure WSt (w0 : World) (g : Nat) (v : Value) (o : List Int) (f : Int) (w : World) : Prop where
  blk : w.heap[g]? = some (.cells #[v, .int .i64 f] 103 (0, 0))
  row : Kd.R (Kd.int .u8) 5 w w0.heap.size (fun k => k ≠ g) v o
  hg : w0.heap.size ≤ g
  bl : Below w0.heap.size w0 w
/-- What else is in memory stays. -/
structure Fro (w : World) (g : Nat) (v : Value) (w' : World) (v' : Value) : Prop where
  keep : KeepBut w w' g v.ownBlock
  own : v'.ownBlock = v.ownBlock ∨ ∃ b, v'.ownBlock = some b ∧ w.heap.size ≤ b
theorem Fro.refl (w : World) (g : Nat) (v : Value) : Fro w g v w v := ⟨KeepBut.refl _ _ _, .inl rfl⟩
theorem Fro.trans {w w1 w2 : World} {g : Nat} {v v1 v2 : Value} (h : Fro w g v w1 v1) (k : Fro w1 g v1 w2 v2) : Fro w g v w2 v2 :=
  ⟨h.keep.trans k.keep h.own, by
    rcases k.own with e | ⟨b, e, hb⟩
    · rw [e]; exact h.own
    · exact .inr ⟨b, e, Nat.le_trans h.keep.1 hb⟩⟩
/-- The bytes with room for a bit more. -/
structure Mid (o1 : List Int) (p q : Nat) (C : List Int) (m : Nat) : Prop where
  len : o1.length = p + 1
  rng : 0 ≤ o1.getD p 0 ∧ o1.getD p 0 < 2 ^ q
  put : ∀ b, o1.set p (o1.getD p 0 + b * 2 ^ q) = put1 (pk C) m b
theorem mid_zero {C : List Int} {m : Nat} (h : m % 8 = 0) : Mid (pk C ++ [0]) (pk C).length 0 C m := by
  refine ⟨by simp, by simp, fun b => ?_⟩
  unfold put1
  rw [if_pos h]
  simp
theorem mid_pos {C : List Int} {m p : Nat} (hC : Bits C) (hm : m = C.length) (h : m % 8 ≠ 0) (hp : p + 1 = (pk C).length) : Mid (pk C) p (m % 8) C m := by
  have hr := (pk_rng hC).2 (by rw [← hm]; exact h)
  have e : (pk C).length - 1 = p := by omega
  rw [e, ← hm] at hr
  refine ⟨hp.symm, hr, fun b => ?_⟩
  unfold put1
  rw [if_neg h, e]
theorem or_all : ∀ q : Fin 8, ∀ z : Fin 128, z.val < 2 ^ q.val → Go.bits .or .u8 (z.val : Int) ((2 ^ q.val : Nat) : Int) = (z.val : Int) + ((2 ^ q.val : Nat) : Int) := by decide +kernel
theorem or_none : ∀ z : Fin 128, Go.bits .or .u8 (z.val : Int) 0 = (z.val : Int) := by decide +kernel
/-- What a bit more makes of the last byte. -/
theorem or_bit {v z : Int} {k q : Nat} (hv0 : 0 ≤ v) (hv1 : v ≤ 1000000) (hq : q ≤ 7) (hz0 : 0 ≤ z) (hz1 : z < 2 ^ q) :
    Go.bits .or .u8 z (wrap64 (Go.bits .and .i64 (v / 2 ^ k) 1 * 2 ^ q) % 256) = z + bit v k * 2 ^ q := by
  have hd0 : 0 ≤ v / 2 ^ k := Int.ediv_nonneg hv0 (Int.le_of_lt (Int.pow_pos (by decide)))
  have hd1 : v / 2 ^ k ≤ v := Int.ediv_le_self _ hv0
  have hm : Go.bits .and .i64 (v / 2 ^ k) 1 = bit v k := bits_mask .i64 40 (by decide) (fun n h₀ h₁ => by rw [IntKind.wrap_i64]; omega) 1 (by decide) _ hd0 (by omega)
  have hp := pow_rng q hq
  obtain ⟨zn, rfl⟩ := Int.eq_ofNat_of_zero_le hz0
  have hzn : zn < 128 := by omega
  rw [hm]
  have hb := bit_rng v k
  rcases (show bit v k = 0 ∨ bit v k = 1 by omega) with e | e
  · rw [e, Int.zero_mul, w64 (by decide) (by decide), Int.add_zero]
    exact or_none ⟨zn, hzn⟩
  · rw [e, Int.one_mul, w64 (by omega) (by omega), Int.emod_eq_of_lt (by omega) (by omega)]
    have hc : ((2 ^ q : Nat) : Int) = (2 : Int) ^ q := by norm_cast
    have := or_all ⟨q, by omega⟩ ⟨zn, hzn⟩ (by show zn < 2 ^ q; have : (zn : Int) < ((2 ^ q : Nat) : Int) := by rw [hc]; exact hz1
                                               omega)
    simp only at this
    rw [hc] at this
    exact this
theorem fr_next {m q : Nat} (h : q = m % 8) : (8 - (q : Int)) - 1 = fr (m + 1) := by unfold fr; omega
theorem row_form {w : World} {base : Nat} {ok : Nat → Prop} {v : Value} {xs : List Int} (h : Kd.R (Kd.int .u8) 5 w base ok v xs) (hn : 0 < xs.length) : ∃ go cap, v = .slice (some ⟨go, 0, none⟩) xs.length cap ∧ ok go ∧ base ≤ go := by
  obtain ⟨inner, ho⟩ := Kd.R_own h
  rcases ho.2 with ⟨_, h0⟩ | ⟨g, cap, cur, rfl, hb, _⟩
  · omega
  · exact ⟨g, cap, rfl, h.1 g rfl, hb⟩
set_option maxRecDepth 100000 in
set_option maxHeartbeats 1000000 in
theorem bits_calls (w0 : World) (g : Nat) (v0 : Value) (B : List Int) (v : Int) (n : Nat) (w : World) (h : WSt w0 g v0 (pk B) (fr B.length) w) (hB : Bits B) (hv0 : 0 ≤ v) (hv1 : v ≤ 1000000) (hn : n ≤ 16) (hl : B.length ≤ 1000000000) :
    Calls Try.prog 63 #[.pointer (some ⟨g, 0, none⟩), .int .i64 v, .int .i64 n] w fun e w' => ∃ v1, e = .returned (.tuple #[]) ∧ WSt w0 g v1 (pk (B ++ nb v n)) (fr (B ++ nb v n).length) w' ∧ Fro w g v0 w' v1 := by
  have HH := Aside0.mk h
  have HB := Aside0.mk hB
  clear h hB
  go_enter Try.func63, Try.ntmps63
  go_wp2
  go_loopw [8] (fun v8 w' => ∃ (k : Nat) (v1 : Value), k ≤ n ∧ v8 = .int .i64 k ∧ Aside0 (WSt w0 g v1 (pk (B ++ nb v k)) (fr (B ++ nb v k).length) w') ∧ Aside0 (Fro w g v0 w' v1)) (fun v8 _ => n - (intOf v8).toNat)
  case atStart => exact ⟨0, v0, Nat.zero_le _, rfl, ⟨by simpa [nb] using HH.out⟩, ⟨Fro.refl _ _ _⟩⟩
  case round =>
    clear HH
    obtain ⟨k, v1, hk, rfl, HW, HF⟩ := hrel
    by_cases hlt : k < n
    · have hdec : decide ((k : Int) < n) = true := decide_eq_true (by omega)
      obtain ⟨C, hC⟩ : ∃ C, C = B ++ nb v k := ⟨_, rfl⟩
      obtain ⟨m, hm⟩ : ∃ m, m = C.length := ⟨_, rfl⟩
      have hml : m = B.length + k := by rw [hm, hC, List.length_append, nb_len]
      have HC : Aside0 (Bits C) := ⟨by rw [hC]; exact HB.out.append (nb_bits _ _)⟩
      have HP : Aside0 (pk (B ++ nb v (k + 1)) = put1 (pk C) m (bit v k) ∧ (B ++ nb v (k + 1)).length = m + 1) := ⟨by rw [hC, nb_succ, ← List.append_assoc, pk_snoc, ← hC, hm]; exact ⟨rfl, by simp⟩⟩
      rw [← hC, ← hm] at HW
      have HM := Aside0.mk hm
      clear hC hm
      obtain ⟨q, hq⟩ : ∃ q, q = m % 8 := ⟨_, rfl⟩
      have hq7 : q ≤ 7 := by omega
      have HQ := Aside0.mk hq
      clear hq
      by_cases hz : q = 0
      focus
        have hf : fr m = 0 := by unfold fr; rw [← HQ.out, hz]; rfl
        rw [hf] at HW
        clear hf
        have hc0 : wr.cell? ⟨g, 0, none⟩ = some v1 := (blk_cell HW.out.blk 0).trans rfl
        have hc1 : wr.cell? ⟨g, 1, none⟩ = some (.int .i64 0) := (blk_cell HW.out.blk 1).trans rfl
        go_wp2_with ((with_reducible refine gate_builtin (b := .append) (xs := #[.tmp 20, .tmp 21]) rfl ?_); at_builtin; refine Kd.R_append (Kd.int .u8) (w0 := w0) w0.heap.size rfl (.tmp 20) (.tmp 21) 40 5 (.int .u8 0) 1 rfl Try.underlying40 info5w rfl (by decide) (by decide) v1 (pk C) 0 [.int .u8 0] (fun k => k ≠ g) (fun _ => False) rfl rfl ?aP (fun _ hk => hk.elim) ?aF ?aO ?aB ?aS ?aL ?_; (case aP => exact rfl); (case aF => exact fun k_ hk_ e_ => by have := blk_lt HW.out.blk; omega); (case aO => exact HW.out.row); (case aB => exact HW.out.bl); (case aS => exact below_size HW.out.bl); (case aL => rw [pk_len, ← HM.out]; omega); intro v5 w5 hr5 hb5 hg5 hn5; obtain ⟨go, cp, rfl, hgo, hgb⟩ := row_form hr5 (by simp); have HGO := Aside0.mk hgo; clear hgo; have HR5 := Aside0.mk hr5; have HB5 := Aside0.mk hb5; have HG5 := Aside0.mk hg5; have HN5 := Aside0.mk hn5; have BK5 := Aside0.mk (blk_grown HW.out.blk hg5 (Kd.R_ne HW.out.row HW.out.blk (by decide))); clear hr5 hb5 hg5 hn5; have hc5 : w5.cell? ⟨g, 0, none⟩ = some v1 := (blk_cell BK5.out 0).trans rfl; have hf5 := blk_frozen BK5.out 0; have hc6 : w5.cell? ⟨g, 1, none⟩ = some (.int .i64 0) := (blk_cell BK5.out 1).trans rfl; have hf6 := blk_frozen BK5.out 1)
        obtain ⟨p, hp⟩ : ∃ p, p = (pk C).length := ⟨_, rfl⟩
        have hpb : p ≤ 1000000000 := by have := pk_len C; rw [← HM.out] at this; omega
        have HM1 : Aside0 (Mid (pk C ++ [0]) p q C m) := ⟨by rw [hp, hz]; exact mid_zero (by rw [← HQ.out, hz])⟩
        have e1 : (pk C ++ [0]).length = p + 1 := by rw [hp]; simp
        rw [e1] at HR5 HN5
        rw [← hp] at ⊢
        have HW2 : Aside0 (WSt w0 g (.slice (some ⟨go, 0, none⟩) (p + 1) cp) (pk C ++ [0]) 8 ((w5.setCell ⟨g, 0, none⟩ (.slice (some ⟨go, 0, none⟩) (p + 1) cp)).setCell ⟨g, 1, none⟩ (.int .i64 8))) :=
          ⟨blk_put (blk_put BK5.out 0 _ rfl) 1 _ rfl, Kd.R_far (p := ⟨g, 1, none⟩) (Kd.R_far (p := ⟨g, 0, none⟩) HR5.out (fun _ hk => hk) _) (fun _ hk => hk) _, HW.out.hg, below_set (below_set HB5.out HW.out.hg) HW.out.hg⟩
        have HF2 : Aside0 (Fro w g v0 ((w5.setCell ⟨g, 0, none⟩ (.slice (some ⟨go, 0, none⟩) (p + 1) cp)).setCell ⟨g, 1, none⟩ (.int .i64 8)) (.slice (some ⟨go, 0, none⟩) (p + 1) cp)) := ⟨HF.out.trans ⟨((KeepBut.of_grown HG5.out g).set_ 0 _).set_ 1 _, HN5.out⟩⟩
        obtain ⟨w2, hw2⟩ : ∃ w2, w2 = ((w5.setCell ⟨g, 0, none⟩ (.slice (some ⟨go, 0, none⟩) (p + 1) cp)).setCell ⟨g, 1, none⟩ (.int .i64 8)) := ⟨_, rfl⟩
        rw [← hw2] at HW2 HF2 ⊢
        obtain ⟨f1, hf1⟩ : ∃ f1 : Int, f1 = 8 := ⟨_, rfl⟩
        rw [← hf1] at HW2
        replace hf1 : f1 = 8 - (q : Int) := by rw [hf1, hz]; rfl
        obtain ⟨o1, ho1⟩ : ∃ o1, o1 = pk C ++ [0] := ⟨_, rfl⟩
        rw [← ho1] at HW2 HM1
        clear hw2 ho1 e1 hp HR5 HN5 HB5 HG5 BK5 hc5 hf5 hc6 hf6 hc0 hc1 HW HF hz
      rotate_left
      focus
        have hm1 : 1 ≤ m := by have := HQ.out; omega
        obtain ⟨go, cp, rfl, hgo, hgb⟩ := row_form HW.out.row (by rw [pk_len, ← HM.out]; omega)
        have HGO := Aside0.mk hgo
        clear hgo
        obtain ⟨p, hp⟩ : ∃ p, p + 1 = (pk C).length := ⟨(pk C).length - 1, by have := pk_len C; rw [← HM.out] at this; omega⟩
        have hpb : p ≤ 1000000000 := by have := pk_len C; rw [← HM.out] at this; omega
        have HM1 : Aside0 (Mid (pk C) p q C m) := ⟨by rw [HQ.out]; exact mid_pos HC.out HM.out (by rw [← HQ.out]; exact hz) hp⟩
        rw [← hp] at HW HF
        obtain ⟨f1, hf1⟩ : ∃ f1 : Int, f1 = fr m := ⟨_, rfl⟩
        rw [← hf1] at HW
        replace hf1 : f1 = 8 - (q : Int) := by rw [hf1]; unfold fr; rw [← HQ.out]; omega
        have hb8 : 1 ≤ f1 ∧ f1 ≤ 8 := by omega
        have hb0 : (f1 == 0) = false := beq_eq_false_iff_ne.2 (by omega)
        have HF1 := Aside0.mk hf1
        clear hf1
        have hc1 : wr.cell? ⟨g, 1, none⟩ = some (.int .i64 f1) := (blk_cell HW.out.blk 1).trans rfl
        go_wp2_with fail
        have hf1 := HF1.out
        obtain ⟨w2, hw2⟩ : ∃ w2, w2 = wr := ⟨_, rfl⟩
        subst hw2
        obtain ⟨o1, ho1⟩ : ∃ o1, o1 = pk C := ⟨_, rfl⟩
        have HW2 := HW
        have HF2 := HF
        rw [← ho1] at HW2 HM1
        clear ho1 hp hc1 HW HF hz hm1 HF1 hb0 hb8
      all_goals
        have hb8 : 1 ≤ f1 ∧ f1 ≤ 8 := by omega
        obtain ⟨hb81, hb82⟩ := hb8
        have HF1 := Aside0.mk hf1
        clear hf1
        have hl1 : o1.length = p + 1 := HM1.out.len
        obtain ⟨z, hz⟩ : ∃ z, z = o1.getD p 0 := ⟨_, rfl⟩
        have hcz : w2.cell? ⟨go, p, none⟩ = some (.int .u8 z) ∧ w2.frozen? ⟨go, p, none⟩ = false := by
          have := Kd.R_celln (0 : Int) HW2.out.row (p : Int) (by omega) (by omega)
          rw [Int.toNat_natCast] at this
          rw [hz]
          exact this
        obtain ⟨hcz, hfz⟩ := hcz
        have HZ := Aside0.mk hz
        clear hz hl1
        obtain ⟨L, hL⟩ : ∃ L, L = p + 1 := ⟨_, rfl⟩
        rw [← hL] at HW2 HF2
        have hw1 : IntKind.i64.wrap ((L : Int) - 1) = (p : Int) := by rw [i64_w, hL]; unfold wrap64; omega
        have hs1 : IntKind.i64.wrap (8 - f1) = (q : Int) := by rw [i64_w, HF1.out]; unfold wrap64; omega
        have hp0 : (0 : Int) ≤ (p : Int) := Int.natCast_nonneg p
        have hp1 : (p : Int) < (L : Int) := by omega
        have hp2 : p < L := by omega
        have hq0 : (0 : Int) ≤ (q : Int) := Int.natCast_nonneg q
        have hk0 : (0 : Int) ≤ (k : Int) := Int.natCast_nonneg k
        have HL := Aside0.mk hL
        clear hL
        have hca : w2.cell? ⟨g, 0, none⟩ = some (.slice (some ⟨go, 0, none⟩) L cp) := (blk_cell HW2.out.blk 0).trans rfl
        have hcb : w2.cell? ⟨g, 1, none⟩ = some (.int .i64 f1) := (blk_cell HW2.out.blk 1).trans rfl
        have hne : ¬ go = g := HGO.out
        have hne' : ¬ g = go := fun e => HGO.out e.symm
        go_still_tail 25, (by kernel_rfl)
        change wpList _ _ _ _ _ w2.drew
        have HW3 : Aside0 (WSt w0 g (.slice (some ⟨go, 0, none⟩) L cp) o1 f1 w2.drew) := ⟨⟨HW2.out.blk, HW2.out.row, HW2.out.hg, below_drew1 HW2.out.bl⟩⟩
        have HF3 : Aside0 (Fro w g v0 w2.drew (.slice (some ⟨go, 0, none⟩) L cp)) := ⟨⟨HF2.out.keep, HF2.out.own⟩⟩
        replace hcz : w2.drew.cell? ⟨go, p, none⟩ = some (.int .u8 z) := hcz
        replace hfz : w2.drew.frozen? ⟨go, p, none⟩ = false := hfz
        clear hca hcb HW2 HF2
        generalize w2.drew = w3 at HW3 HF3 hcz hfz ⊢
        have hcb : w3.cell? ⟨g, 1, none⟩ = some (.int .i64 f1) := (blk_cell HW3.out.blk 1).trans rfl
        have hfb : w3.frozen? ⟨g, 1, none⟩ = false := blk_frozen HW3.out.blk 1
        go_wp2
        have hr := HM1.out.rng
        rw [← HZ.out] at hr
        have e1 := or_bit (k := k) hv0 hv1 hq7 hr.1 hr.2
        rw [e1]
        have hset : o1.set p (z + bit v k * 2 ^ q) = pk (B ++ nb v (k + 1)) := by rw [HP.out.1, ← HM1.out.put, HZ.out]
        have hput := Kd.R_putg HW3.out.row (p : Int) (z + bit v k * 2 ^ q)
        rw [Int.toNat_natCast, hset] at hput
        have hfn : f1 - 1 = fr (B ++ nb v (k + 1)).length := by rw [HP.out.2, HF1.out]; exact fr_next HQ.out
        rw [hfn]
        refine ⟨⟨k + 1, _, by omega, by go_num, ⟨⟨blk_put (blk_far HW3.out.blk hne' _) 1 _ rfl, Kd.R_far (p := ⟨g, 1, none⟩) hput.1 (fun _ hk => hk) _, HW3.out.hg, below_set (below_set HW3.out.bl hgb) HW3.out.hg⟩⟩, ⟨HF3.out.trans ⟨(KeepBut.of_grown hput.2 g).set_ 1 _, .inl rfl⟩⟩⟩, ?_⟩
        simp [intOf]
        omega
    · have hdec : decide ((k : Int) < n) = false := decide_eq_false (by omega)
      obtain rfl : k = n := by omega
      go_wp2
      exact bodyPost_end (v := .tuple #[]) (by simp [results, Try.results63, go_sem]) rfl ⟨v1, rfl, HW.out, HF.out⟩
end Go.Proofs.Ytpbhkdamkbopkaa.Wr
namespace Go.Proofs.Ytpbhkdamkbopkaa.Wr
set_option linter.unusedSimpArgs false
set_option linter.unusedVariables false
open Go.RowKit Go.Proofs.YtpbhkdamkbopkaaW.PrintWords Go.Proofs.YtpbhkdamkbopkaaW.PrintLast Go.Proofs.YtpbhkdamkbopkaaW.PrintMore
/-- A code's bits, the highest first. -/
def cb (v : Int) (n : Nat) : List Int := (List.range n).map fun j => bit v (n - 1 - j)
theorem cb_len (v : Int) (n : Nat) : (cb v n).length = n := by unfold cb; simp
theorem cb_bits (v : Int) (n : Nat) : Bits (cb v n) := fun b hb => by
  obtain ⟨i, _, rfl⟩ := List.mem_map.1 hb
  exact bit_rng v _
theorem cb_take (v : Int) {n i : Nat} (h : i + 1 ≤ n) : (cb v n).take (n - i) = (cb v n).take (n - (i + 1)) ++ [bit v i] := by
  have hl := cb_len v n
  rw [show n - i = n - (i + 1) + 1 by omega, List.take_succ_eq_append_getElem (by omega)]
  congr 2
  unfold cb
  simp
  congr 1
  omega
theorem Bits.take {B : List Int} (h : Bits B) (k : Nat) : Bits (B.take k) := fun b hb => h b (List.mem_of_mem_take hb)
theorem bits_one (w0 : World) (g : Nat) (v0 : Value) (B : List Int) (b : Int) (w : World) (h : WSt w0 g v0 (pk B) (fr B.length) w) (hB : Bits B) (hb : 0 ≤ b ∧ b ≤ 1) (hl : B.length ≤ 1000000000) :
    Calls Try.prog 63 #[.pointer (some ⟨g, 0, none⟩), .int .i64 b, .int .i64 1] w fun e w' => ∃ v1, e = .returned (.tuple #[]) ∧ WSt w0 g v1 (pk (B ++ [b])) (fr (B ++ [b]).length) w' ∧ Fro w g v0 w' v1 := by
  have := bits_calls w0 g v0 B b 1 w h hB hb.1 (by omega) (by decide) hl
  have e : nb b 1 = [b] := by
    unfold nb bit
    simp
    omega
  rw [e] at this
  exact this
set_option maxHeartbeats 1000000 in
theorem code_calls (w0 : World) (g : Nat) (v0 : Value) (B : List Int) (v : Int) (n : Nat) (w : World) (h : WSt w0 g v0 (pk B) (fr B.length) w) (hB : Bits B) (hv0 : 0 ≤ v) (hv1 : v ≤ 1000000) (hn : n ≤ 16) (hl : B.length ≤ 1000000000 - 16) :
    Calls Try.prog 90 #[.pointer (some ⟨g, 0, none⟩), .int .i64 v, .int .i64 n] w fun e w' => ∃ v1, e = .returned (.tuple #[]) ∧ WSt w0 g v1 (pk (B ++ cb v n)) (fr (B ++ cb v n).length) w' ∧ Fro w g v0 w' v1 := by
  have HH := Aside0.mk h
  have HB := Aside0.mk hB
  clear h hB
  go_enter Try.func90, Try.ntmps90
  go_wp2
  go_loopw [6] (fun v6 w' => ∃ (r : Nat) (v1 : Value), r ≤ n ∧ v6 = .int .i64 ((r : Int) - 1) ∧ Aside0 (WSt w0 g v1 (pk (B ++ (cb v n).take (n - r))) (fr (B ++ (cb v n).take (n - r)).length) w') ∧ Aside0 (Fro w g v0 w' v1)) (fun v6 _ => (intOf v6 + 1).toNat)
  case atStart => exact ⟨n, v0, Nat.le_refl _, rfl, ⟨by simpa using HH.out⟩, ⟨Fro.refl _ _ _⟩⟩
  case round =>
    clear HH
    obtain ⟨r, v1, hr, rfl, HW, HF⟩ := hrel
    cases r with
    | zero =>
      rw [show (((0 : Nat) : Int) - 1) = -1 from rfl]
      go_wp2
      have hx := HW.out
      rw [Nat.sub_zero, List.take_of_length_le (by rw [cb_len]; exact Nat.le_refl _)] at hx
      exact bodyPost_end (v := .tuple #[]) (by simp [results, Try.results90, go_sem]) rfl ⟨v1, rfl, hx, HF.out⟩
    | succ i =>
      rw [show (((i + 1 : Nat) : Int) - 1) = (i : Int) by omega]
      have hd0 : 0 ≤ v / 2 ^ i := Int.ediv_nonneg hv0 (Int.le_of_lt (Int.pow_pos (by decide)))
      have hd1 : v / 2 ^ i ≤ v := Int.ediv_le_self _ hv0
      have hm : Go.bits .and .i64 (v / 2 ^ i) 1 = bit v i := bits_mask .i64 40 (by decide) (fun n h₀ h₁ => by rw [IntKind.wrap_i64]; omega) 1 (by decide) _ hd0 (by omega)
      have hk0 : (0 : Int) ≤ (i : Int) := Int.natCast_nonneg i
      clear hd0 hd1
      obtain ⟨C, hC⟩ : ∃ C, C = B ++ (cb v n).take (n - (i + 1)) := ⟨_, rfl⟩
      have HC : Aside0 (Bits C) := ⟨by rw [hC]; exact HB.out.append ((cb_bits _ _).take _)⟩
      have HN : Aside0 (B ++ (cb v n).take (n - i) = C ++ [bit v i]) := ⟨by rw [cb_take v (by omega), hC, List.append_assoc]⟩
      have hcl : C.length ≤ 1000000000 := by
        rw [hC, List.length_append, List.length_take, cb_len]; omega
      rw [← hC] at HW
      clear hC
      go_wp2_with (go_at_call 63; refine (bits_one w0 g v1 C (bit v i) _ HW.out HC.out (bit_rng v i) hcl).mono ?_; rintro e w' ⟨v2, rfl, hw2, hf2⟩; have HW2 := Aside0.mk hw2; have HF2 := Aside0.mk hf2; clear hw2 hf2)
      go_roundw
      case rel => exact ⟨i, v2, by omega, rfl, ⟨by rw [HN.out]; exact HW2.out⟩, ⟨HF.out.trans HF2.out⟩⟩
      case measure => simp [intOf]
/-- A symbol's bits, by the fixed code. -/
def sc (s : Int) : List Int := if s < 144 then cb (48 + s) 8 else if s < 256 then cb (400 + s - 144) 9 else if s < 280 then cb (s - 256) 7 else cb (192 + s - 280) 8
theorem sc_bits (s : Int) : Bits (sc s) := by unfold sc; (repeat' split) <;> exact cb_bits _ _
theorem sc_len (s : Int) : (sc s).length ≤ 9 := by unfold sc; (repeat' split) <;> rw [cb_len] <;> decide
theorem symbol_calls (w0 : World) (g : Nat) (v0 : Value) (B : List Int) (s : Int) (w : World) (h : WSt w0 g v0 (pk B) (fr B.length) w) (hB : Bits B) (hs0 : 0 ≤ s) (hs1 : s ≤ 300) (hl : B.length ≤ 1000000000 - 16) :
    Calls Try.prog 64 #[.pointer (some ⟨g, 0, none⟩), .int .i64 s] w fun e w' => ∃ v1, e = .returned (.tuple #[]) ∧ WSt w0 g v1 (pk (B ++ sc s)) (fr (B ++ sc s).length) w' ∧ Fro w g v0 w' v1 := by
  have HH := Aside0.mk h
  have HB := Aside0.mk hB
  clear h hB
  by_cases c1 : s < 144
  · have d1 : decide (s < 144) = true := decide_eq_true c1
    have HE : Aside0 (sc s = cb (48 + s) 8) := ⟨by unfold sc; rw [if_pos c1]⟩
    go_enter Try.func64, Try.ntmps64
    go_wp2_with (go_at_call 90; refine (code_calls w0 g v0 B (48 + s) 8 _ HH.out HB.out (by omega) (by omega) (by decide) hl).mono ?_; rintro e w' ⟨v2, rfl, hw2, hf2⟩; have HW2 := Aside0.mk hw2; have HF2 := Aside0.mk hf2; clear hw2 hf2)
    exact bodyPost_end (v := .tuple #[]) (by simp [results, Try.results64, go_sem]) rfl ⟨v2, rfl, by rw [HE.out]; exact HW2.out, HF2.out⟩
  have d1 : decide (s < 144) = false := decide_eq_false c1
  by_cases c2 : s < 256
  · have d2 : decide (s < 256) = true := decide_eq_true c2
    have HE : Aside0 (sc s = cb (400 + s - 144) 9) := ⟨by unfold sc; rw [if_neg c1, if_pos c2]⟩
    go_enter Try.func64, Try.ntmps64
    go_wp2_with (go_at_call 90; refine (code_calls w0 g v0 B (400 + s - 144) 9 _ HH.out HB.out (by omega) (by omega) (by decide) hl).mono ?_; rintro e w' ⟨v2, rfl, hw2, hf2⟩; have HW2 := Aside0.mk hw2; have HF2 := Aside0.mk hf2; clear hw2 hf2)
    exact bodyPost_end (v := .tuple #[]) (by simp [results, Try.results64, go_sem]) rfl ⟨v2, rfl, by rw [HE.out]; exact HW2.out, HF2.out⟩
  have d2 : decide (s < 256) = false := decide_eq_false c2
  by_cases c3 : s < 280
  · have d3 : decide (s < 280) = true := decide_eq_true c3
    have HE : Aside0 (sc s = cb (s - 256) 7) := ⟨by unfold sc; rw [if_neg c1, if_neg c2, if_pos c3]⟩
    go_enter Try.func64, Try.ntmps64
    go_wp2_with (go_at_call 90; refine (code_calls w0 g v0 B (s - 256) 7 _ HH.out HB.out (by omega) (by omega) (by decide) hl).mono ?_; rintro e w' ⟨v2, rfl, hw2, hf2⟩; have HW2 := Aside0.mk hw2; have HF2 := Aside0.mk hf2; clear hw2 hf2)
    exact bodyPost_end (v := .tuple #[]) (by simp [results, Try.results64, go_sem]) rfl ⟨v2, rfl, by rw [HE.out]; exact HW2.out, HF2.out⟩
  have d3 : decide (s < 280) = false := decide_eq_false c3
  have HE : Aside0 (sc s = cb (192 + s - 280) 8) := ⟨by unfold sc; rw [if_neg c1, if_neg c2, if_neg c3]⟩
  go_enter Try.func64, Try.ntmps64
  go_wp2_with (go_at_call 90; refine (code_calls w0 g v0 B (192 + s - 280) 8 _ HH.out HB.out (by omega) (by omega) (by decide) hl).mono ?_; rintro e w' ⟨v2, rfl, hw2, hf2⟩; have HW2 := Aside0.mk hw2; have HF2 := Aside0.mk hf2; clear hw2 hf2)
  exact bodyPost_end (v := .tuple #[]) (by simp [results, Try.results64, go_sem]) rfl ⟨v2, rfl, by rw [HE.out]; exact HW2.out, HF2.out⟩
end Go.Proofs.Ytpbhkdamkbopkaa.Wr
namespace Go.Proofs.Ytpbhkdamkbopkaa.Wr
set_option linter.unusedSimpArgs false
set_option linter.unusedVariables false
open Go.RowKit Go.Proofs.YtpbhkdamkbopkaaW.PrintWords Go.Proofs.YtpbhkdamkbopkaaW.PrintLast Go.Proofs.YtpbhkdamkbopkaaW.PrintMore
theorem raw0_bits : pk ((([] ++ [1]) ++ nb 1 2) ++ sc 256) = [3, 0] := by decide +kernel
theorem WSt.below {w0 : World} {g : Nat} {v : Value} {o : List Int} {f : Int} {w w' : World} (h : WSt w0 g v o f w) (hb : Below w.heap.size w w') : WSt w0 g v o f w' :=
  ⟨blk_below h.blk hb, Kd.R_below h.row hb, h.hg, below_step h.bl hb⟩
theorem bits_two (w0 : World) (g : Nat) (v0 : Value) (B : List Int) (v : Int) (w : World) (h : WSt w0 g v0 (pk B) (fr B.length) w) (hB : Bits B) (hv0 : 0 ≤ v) (hv1 : v ≤ 1000000) (hl : B.length ≤ 1000000000) :
    Calls Try.prog 63 #[.pointer (some ⟨g, 0, none⟩), .int .i64 v, .int .i64 2] w fun e w' => ∃ v1, e = .returned (.tuple #[]) ∧ WSt w0 g v1 (pk (B ++ nb v 2)) (fr (B ++ nb v 2).length) w' ∧ Fro w g v0 w' v1 :=
  bits_calls w0 g v0 B v 2 w h hB hv0 hv1 (by decide) hl
set_option maxRecDepth 100000 in
set_option maxHeartbeats 1000000 in
theorem raw0_calls (w : World) : Calls Try.prog 39 #[.string ⟨#[]⟩] w fun e w' => e = .returned (.tuple #[.string (strOfNums [3, 0]), .int .i64 0]) ∧ Below w.heap.size w w' := by
  have E0 : Aside0 (Bits []) := ⟨fun b hb => absurd hb (by simp)⟩
  have E1 : Aside0 (Bits ([] ++ [1])) := ⟨fun b hb => by simp at hb; omega⟩
  have E2 : Aside0 ((0 : Int) ≤ 1 ∧ (1 : Int) ≤ 1) := ⟨by decide⟩
  have E3 : Aside0 (([] : List Int).length ≤ 1000000000) := ⟨by decide⟩
  have E4 : Aside0 ((0 : Int) ≤ 1) := ⟨by decide⟩
  have E5 : Aside0 ((1 : Int) ≤ 1000000) := ⟨by decide⟩
  have E6 : Aside0 ((([] : List Int) ++ [1]).length ≤ 1000000000) := ⟨by decide⟩
  have hmm := @run_makeMap Try.prog
  go_enter Try.func39, Try.ntmps39
  go_upto_region 8 with (first
    | ((with_reducible refine gate_dst (N := 17) rfl ?_); refine box_event ?hg (N := 17) ?hd (cs := #[.slice none 0 0, .int .i64 0]) (t := 103) ?hr ?_; (case hd => rfl); (case hg => rfl); (case hr => first | (go_simp; done) | (go_simp; rfl)); intro g hg w1 hx hb; have H0 : Aside0 (WSt w g (.slice none 0 0) (pk []) (fr ([] : List Int).length) w1) := ⟨⟨hx, Kd.R_nil _ _ _ _ _, Nat.le_of_eq hg.symm, hb⟩⟩; clear hx hb hg)
    | (go_at_call 63; (with_reducible refine (bits_one w g _ [] 1 _ H0.out E0.out E2.out E3.out).mono ?_); rintro e w' ⟨v2, rfl, hw2, hf2⟩; have H1 := Aside0.mk hw2; clear hw2 hf2)
    | (go_at_call 63; (with_reducible refine (bits_two w g _ ([] ++ [1]) 1 _ H1.out E1.out E4.out E5.out E6.out).mono ?_); rintro e w' ⟨v3, rfl, hw2, hf2⟩; have H2 := Aside0.mk hw2; clear hw2 hf2))
  have H3 : Aside0 (WSt w g v3 _ _ _) := ⟨H2.out.below (below_alloc (Below.refl _ _) (.map #[] 0))⟩
  generalize World.alloc _ (.map #[] 0) = w4 at H3 ⊢
  go_wp2
  go_loopw [6] (fun v6 w' => v6 = .int .i64 0 ∧ Aside0 (WSt w g v3 (pk (([] ++ [1]) ++ nb 1 2)) (fr (([] ++ [1]) ++ nb 1 2).length) w')) (fun v6 _ => 0)
  case atStart => exact ⟨rfl, H3⟩
  case round =>
    obtain ⟨rfl, H4⟩ := hrel
    have E7 : Aside0 (Bits (([] ++ [1]) ++ nb 1 2)) := ⟨E1.out.append (nb_bits _ _)⟩
    have E8 : Aside0 ((0 : Int) ≤ 256) := ⟨by decide⟩
    have E9 : Aside0 ((256 : Int) ≤ 300) := ⟨by decide⟩
    have E10 : Aside0 ((([] ++ [1]) ++ nb 1 2).length ≤ 1000000000 - 16) := ⟨by decide⟩
    go_wp2_with (go_at_call 64; (with_reducible refine (symbol_calls w g _ (([] ++ [1]) ++ nb 1 2) 256 _ H4.out E7.out E8.out E9.out E10.out).mono ?_); rintro e w' ⟨v5, rfl, hw2, hf2⟩; rw [raw0_bits] at hw2; have H5 := Aside0.mk hw2; clear hw2 hf2; obtain ⟨A5, c5, e5⟩ := Kd.R_slice H5.out.row; subst e5; have hc5 : w'.cell? ⟨g, 0, none⟩ = some (.slice A5 2 c5) := (blk_cell H5.out.blk 0).trans rfl; have hcv := Kd.C_string (P := Try.prog) (A := A5) (n := 2) (c := c5) (xs := [3, 0]) Try.underlying40 Try.underlying5 Try.underlying9 (Kd.R_reads' H5.out.row).2.2)
    go_ret2
    exact ⟨rfl, H5.out.bl⟩
end Go.Proofs.Ytpbhkdamkbopkaa.Wr
namespace Go.Proofs.Ytpbhkdamkbopkaa.Wr0
open Go.RowKit Go.Proofs.Ytpbhkdamkbopkaa.Wr Go.Proofs.YtpbhkdamkbopkaaW.PrintWords Go.Proofs.YtpbhkdamkbopkaaW.PrintLast Go.Proofs.YtpbhkdamkbopkaaW.PrintMore
def deflate_Raw.f (a0 : ByteArray) : Option (ByteArray × Int) := if a0.size = 0 then some (strOfNums [3, 0], 0) else none
theorem deflate_Raw.calls (a0 : ByteArray) (r1 : ByteArray) (r2 : Int) (w : World) (h : deflate_Raw.f a0 = some (r1, r2)) :
    Calls Try.prog 39 #[.string a0] w fun e w' => e = .returned (.tuple #[.string r1, .int .i64 r2]) ∧ Below w.heap.size w w' := by
  unfold deflate_Raw.f at h
  by_cases h0 : a0.size = 0
  · rw [if_pos h0] at h
    simp only [Option.some.injEq, Prod.mk.injEq] at h
    obtain ⟨rfl, rfl⟩ := h
    obtain ⟨d⟩ := a0
    have e : d = #[] := Array.eq_empty_of_size_eq_zero h0
    subst e
    exact raw0_calls w
  · rw [if_neg h0] at h; cases h
end Go.Proofs.Ytpbhkdamkbopkaa.Wr0
namespace Go.Proofs.Ytpbhkdamkbopkaa.GRuns
open Go.RowKit Go.Proofs.YtpbhkdamkbopkaaW.PrintWords Go.Proofs.YtpbhkdamkbopkaaW.PrintLast Go.Proofs.YtpbhkdamkbopkaaW.PrintMore Go.Proofs.Ytpbhkdamkbopkaa.Wr0
attribute [local go_sem] max2_int min2_int max_two min_two max_three min_three max_four min_four
set_option linter.unusedVariables false
set_option linter.unusedSimpArgs false
def errW : Option Int → Value
  | none => .nilIface
  | some c => .iface 0 (.int .i64 c)
theorem errW_none : errW none = .nilIface := rfl
theorem errW_some (c : Int) : errW (some c) = .iface 0 (.int .i64 c) := rfl
theorem info3 : (Try.prog.info? 3).map (fun i => (i.zero, i.size, i.bytes)) = some (some (.int .i64 0), 1, 8) := by kernel_rfl
end Go.Proofs.Ytpbhkdamkbopkaa.GRuns
namespace Go.Proofs.Ytpbhkdamkbopkaa.GRuns
open Go.RowKit Go.Proofs.YtpbhkdamkbopkaaW.PrintWords Go.Proofs.YtpbhkdamkbopkaaW.PrintLast Go.Proofs.YtpbhkdamkbopkaaW.PrintMore Go.Proofs.Ytpbhkdamkbopkaa.Wr0
attribute [local go_sem] max2_int min2_int max_two min_two max_three min_three max_four min_four
set_option linter.unusedVariables false
set_option linter.unusedSimpArgs false
theorem eqA97 (d : Nat) (w : World) (x0 y0 : Int) (x1 y1 : Int) (x2 y2 : Int) :
    (Op.equalIn (d + 2) 97 (.agg #[.int .u8 x0, .int .u8 x1, .int .u8 x2]) (.agg #[.int .u8 y0, .int .u8 y1, .int .u8 y2])).run Try.prog w = .ok (x0 == y0 && (x1 == y1 && (x2 == y2))) w := by
  obtain ⟨i5, hi⟩ : ∃ i, Try.prog.info? 5 = some i := Option.isSome_iff_exists.mp (by kernel_rfl)
  have hz : Try.prog.cellsOf 5 = 1 := by kernel_rfl
  rw [run_equalIn_array w (d + 1) (n := 3) (e := 5) _ _ (by kernel_rfl) hi]
  have e1 : ∀ (a b : Int), (Op.equalIn (d + 1) 5 (.int .u8 a) (.int .u8 b)).run Try.prog w = .ok (a == b) w := fun a b => run_equalIn_int w d 5 .u8 .u8 a b (by kernel_rfl)
  have hp : ∀ (a0 a1 a2 : Int), (part 5 #[.int .u8 a0, .int .u8 a1, .int .u8 a2] 0).run Try.prog w = .ok (.int .u8 a0) w ∧ (part 5 #[.int .u8 a0, .int .u8 a1, .int .u8 a2] 1).run Try.prog w = .ok (.int .u8 a1) w ∧ (part 5 #[.int .u8 a0, .int .u8 a1, .int .u8 a2] 2).run Try.prog w = .ok (.int .u8 a2) w := by
    intro a0 a1 a2
    refine ⟨?_, ?_, ?_⟩ <;> go_simp
  simp only [hz, show List.range 3 = [0, 1, 2] from rfl, Op.eqItems, Sem.run_bind, Nat.zero_mul, Nat.one_mul, Nat.mul_one, (hp x0 x1 x2).1, (hp x0 x1 x2).2.1, (hp x0 x1 x2).2.2, (hp y0 y1 y2).1, (hp y0 y1 y2).2.1, (hp y0 y1 y2).2.2, Result.andThen_ok, e1]
  cases h0 : (x0 == y0) <;> cases h1 : (x1 == y1) <;> cases h2 : (x2 == y2) <;> simp [h0, h1, h2, Result.andThen_ok, (hp x0 x1 x2).2.1, (hp x0 x1 x2).2.2, (hp y0 y1 y2).2.1, (hp y0 y1 y2).2.2, e1]
end Go.Proofs.Ytpbhkdamkbopkaa.GRuns
namespace Go.Proofs.Ytpbhkdamkbopkaa.Sq
set_option linter.unusedSimpArgs false
set_option linter.unusedVariables false
open Go.RowKit Go.Proofs.YtpbhkdamkbopkaaW.PrintWords Go.Proofs.YtpbhkdamkbopkaaW.PrintLast Go.Proofs.YtpbhkdamkbopkaaW.PrintMore
section
variable {w w1 w2 W0 : World} {g g2 : Nat} {o : Obj} {t : TypeId} {cs cs' : Array Value}
theorem bb (h : Aside0 (w.heap[g]? = some o)) (hb : Below w1.heap.size w1 w2)
    (e : w.heap[g]? = some o → w1.heap[g]? = some o := by intro h_; repeat (first | with_reducible exact h_ | with_reducible refine blk_drewN ?_ _ | with_reducible refine blk_drew ?_ | with_reducible refine blk_alloc ?_ _ | refine blk_far ?_ (Aside0.out (by assumption)) _ | exact h_)) : Aside0 (w2.heap[g]? = some o) := ⟨blk_below (e h.out) hb⟩
/-- A block of cells of which something holds. -/
def Pt (w : World) (g : Nat) (t : TypeId) (k : Array Value → Prop) : Prop := ∃ cs, w.heap[g]? = some (.cells cs t (0, 0)) ∧ k cs
variable {k : Array Value → Prop}
theorem Pt.drewN (h : Pt w g t k) (n : Nat) : Pt (w.drewN n) g t k := h
theorem Pt.drew (h : Pt w g t k) : Pt w.drew g t k := h
theorem Pt.alloc (h : Pt w g t k) (o : Obj) : Pt (w.alloc o) g t k := by obtain ⟨c, h1, h2⟩ := h; exact ⟨c, blk_alloc h1 o, h2⟩
theorem Pt.far (h : Pt w g t k) {p : Addr} (hp : g ≠ p.block) (u : Value) : Pt (w.setCell p u) g t k := by obtain ⟨c, h1, h2⟩ := h; exact ⟨c, blk_far h1 hp u, h2⟩
theorem Pt.put {i : Nat} {u : Value} (h : Pt w g t (fun c => k (c.setIfInBounds i u))) : Pt (w.setCell ⟨g, i, none⟩ u) g t k := by obtain ⟨c, h1, h2⟩ := h; exact ⟨_, blk_put h1 i u rfl, h2⟩
theorem Pt.end_ (h : Pt w g t (fun c => c = cs')) : w.heap[g]? = some (.cells cs' t (0, 0)) := by obtain ⟨c, h1, rfl⟩ := h; exact h1
theorem bp (cs' : Array Value) (h : Aside0 (w.heap[g]? = some (.cells cs t (0, 0)))) (hb : Below w1.heap.size w1 w2)
    (e : w.heap[g]? = some (.cells cs t (0, 0)) → w1.heap[g]? = some (.cells cs' t (0, 0)) := by intro h_; refine Pt.end_ ?_; (repeat (first | with_reducible refine Pt.drewN ?_ _ | with_reducible refine Pt.drew ?_ | with_reducible refine Pt.alloc ?_ _ | with_reducible refine Pt.put ?_ | refine Pt.far ?_ (Aside0.out (by assumption)) _)); exact ⟨_, h_, rfl⟩) : Aside0 (w2.heap[g]? = some (.cells cs' t (0, 0))) := ⟨blk_below (e h.out) hb⟩
theorem bq (h : Aside0 (w.heap[g]? = some (.cells cs t (0, 0))))
    (e : w.heap[g]? = some (.cells cs t (0, 0)) → w1.heap[g]? = some (.cells cs' t (0, 0)) := by intro h_; refine Pt.end_ ?_; (repeat (first | with_reducible refine Pt.drewN ?_ _ | with_reducible refine Pt.drew ?_ | with_reducible refine Pt.alloc ?_ _ | with_reducible refine Pt.put ?_ | refine Pt.far ?_ (Aside0.out (by assumption)) _)); exact ⟨_, h_, rfl⟩) : w1.heap[g]? = some (.cells cs' t (0, 0)) := e h.out
theorem hs (h : Aside0 (Below W0.heap.size W0 w)) (hb : Below w1.heap.size w1 w2)
    (e : Below W0.heap.size W0 w → Below W0.heap.size W0 w1 := by intro h_; repeat (first | with_reducible exact h_ | with_reducible apply below_alloc | with_reducible apply pw_below_drewN | with_reducible apply below_drew1 | refine below_set ?_ (Aside0.out (by assumption)) | exact h_)) : Aside0 (Below W0.heap.size W0 w2) := ⟨below_step (e h.out) hb⟩
theorem hn (h : Aside0 (Below W0.heap.size W0 w))
    (e : Below W0.heap.size W0 w → Below W0.heap.size W0 w1 := by intro h_; repeat (first | with_reducible exact h_ | with_reducible apply below_alloc | with_reducible apply pw_below_drewN | with_reducible apply below_drew1 | refine below_set ?_ (Aside0.out (by assumption)) | exact h_)) : Below W0.heap.size W0 w1 := e h.out
theorem gs (h : Aside0 (Below W0.heap.size W0 w)) (hg : g = w1.heap.size)
    (e : Below W0.heap.size W0 w → Below W0.heap.size W0 w1 := by intro h_; repeat (first | with_reducible exact h_ | with_reducible apply below_alloc | with_reducible apply pw_below_drewN | with_reducible apply below_drew1 | refine below_set ?_ (Aside0.out (by assumption)) | exact h_)) : Aside0 (W0.heap.size ≤ g) := ⟨by rw [hg]; exact below_size (e h.out)⟩
theorem sz_drewN {a : Nat} (h : a ≤ w.heap.size) (n : Nat) : a ≤ (w.drewN n).heap.size := h
theorem sz_drew {a : Nat} (h : a ≤ w.heap.size) : a ≤ w.drew.heap.size := h
theorem sz_alloc {a : Nat} (h : a ≤ w.heap.size) (o : Obj) : a ≤ (w.alloc o).heap.size := Nat.le_trans h (by show _ ≤ (w.heap.push o).size; simp)
theorem sz_set {a : Nat} (h : a ≤ w.heap.size) (p : Addr) (u : Value) : a ≤ (w.setCell p u).heap.size := by simpa [World.setCell] using h
theorem nl (h : Aside0 (w.heap[g]? = some o)) (hg : g2 = w1.heap.size) (e : w.heap.size ≤ w1.heap.size := by repeat (first | with_reducible exact Nat.le_refl _ | with_reducible refine sz_drewN ?_ _ | with_reducible refine sz_drew ?_ | with_reducible refine sz_alloc ?_ _ | with_reducible refine sz_set ?_ _ _)) : Aside0 (g ≠ g2) := ⟨by have := blk_lt h.out; omega⟩
theorem ng (h : Aside0 (w.heap[g]? = some o)) (hg : g2 = w1.heap.size) (e : w.heap.size ≤ w1.heap.size := by repeat (first | with_reducible exact Nat.le_refl _ | with_reducible refine sz_drewN ?_ _ | with_reducible refine sz_drew ?_ | with_reducible refine sz_alloc ?_ _ | with_reducible refine sz_set ?_ _ _)) : Aside0 (g2 ≠ g) := ⟨by have := blk_lt h.out; omega⟩
theorem rk {α : Type} {d : Kd α} {e : TypeId} {base : Nat} {ok : Nat → Prop} {v : Value} {xs : List α} (h : Aside0 (d.R e w base ok v xs)) (hb : Below w1.heap.size w1 w2)
    (e1 : d.R e w base ok v xs → d.R e w1 base ok v xs := by intro h_; (with_reducible repeat (first | apply Kd.R_alloc | apply Kd.R_drewN | apply Kd.R_drew)); exact h_) : Aside0 (d.R e w2 base ok v xs) := ⟨Kd.R_below (e1 h.out) hb⟩
end
section
variable {w : World} {g : Nat} {t : TypeId} {a b c d : Value}
theorem cc2 (h : Aside0 (w.heap[g]? = some (.cells #[a, b] t (0, 0)))) : w.cell? ⟨g, 0, none⟩ = some a ∧ w.cell? ⟨g, 1, none⟩ = some b := ⟨(blk_cell h.out 0).trans rfl, (blk_cell h.out 1).trans rfl⟩
theorem cc3 (h : Aside0 (w.heap[g]? = some (.cells #[a, b, c] t (0, 0)))) : w.cell? ⟨g, 0, none⟩ = some a ∧ w.cell? ⟨g, 1, none⟩ = some b ∧ w.cell? ⟨g, 2, none⟩ = some c := ⟨(blk_cell h.out 0).trans rfl, (blk_cell h.out 1).trans rfl, (blk_cell h.out 2).trans rfl⟩
theorem cc4 (h : Aside0 (w.heap[g]? = some (.cells #[a, b, c, d] t (0, 0)))) : w.cell? ⟨g, 0, none⟩ = some a ∧ w.cell? ⟨g, 1, none⟩ = some b ∧ w.cell? ⟨g, 2, none⟩ = some c ∧ w.cell? ⟨g, 3, none⟩ = some d := ⟨(blk_cell h.out 0).trans rfl, (blk_cell h.out 1).trans rfl, (blk_cell h.out 2).trans rfl, (blk_cell h.out 3).trans rfl⟩
theorem ff2 {cs : Array Value} (h : Aside0 (w.heap[g]? = some (.cells cs t (0, 0)))) : w.frozen? ⟨g, 0, none⟩ = false ∧ w.frozen? ⟨g, 1, none⟩ = false := ⟨blk_frozen h.out 0, blk_frozen h.out 1⟩
theorem ff3 {cs : Array Value} (h : Aside0 (w.heap[g]? = some (.cells cs t (0, 0)))) : w.frozen? ⟨g, 0, none⟩ = false ∧ w.frozen? ⟨g, 1, none⟩ = false ∧ w.frozen? ⟨g, 2, none⟩ = false := ⟨blk_frozen h.out 0, blk_frozen h.out 1, blk_frozen h.out 2⟩
theorem ff4 {cs : Array Value} (h : Aside0 (w.heap[g]? = some (.cells cs t (0, 0)))) : w.frozen? ⟨g, 0, none⟩ = false ∧ w.frozen? ⟨g, 1, none⟩ = false ∧ w.frozen? ⟨g, 2, none⟩ = false ∧ w.frozen? ⟨g, 3, none⟩ = false := ⟨blk_frozen h.out 0, blk_frozen h.out 1, blk_frozen h.out 2, blk_frozen h.out 3⟩
end
section
variable {P : Program} {ops : Array Oper} {rest : List Oper} {o : Oper} {a : Act} {Q : Exit → Act → World → Prop}
theorem boxQ {W : World} (N : Tmp) (cs : Array Value) (t : TypeId)
    (h : ∀ g, g = W.heap.size → ∀ w1, w1.heap[g]? = some (.cells cs t (0, 0)) → Below W.heap.size W w1 → wpList P ops Q rest (a.put o.dst (.pointer (some ⟨g, 0, none⟩))) w1)
    (hd : o.dst = some N := by rfl) (hgd : o.guard = none := by rfl)
    (hrun : (execOp a.eval o).run P W = .ok (.value (.pointer (some ⟨W.heap.size, 0, none⟩))) (W.alloc (.cells cs t (0, 0))) := by first | (go_simp; done) | (go_simp; rfl)) : wpList P ops Q (o :: rest) a W := box_event hgd hd hrun h
theorem goesQ {w : World} (N : Option Tmp) {f : FuncId} {fn : Func} (hf : P.funcs[f]? = some fn) {az : Array Operand} {ts : Array TypeId} (args : Array Value)
    (h : Calls P f args w fun e w' => ∃ v, e = .returned v ∧ wpList P ops Q rest (a.put N v) w')
    (hd : o.dst = N := by rfl) (hg : o.guard = none := by rfl) (hop : o.op = .call { callee := .value (.func f), args := az, argTypes := ts } := by rfl)
    (hname : (fn.name == "runtime.NumGoroutine") = false := by kernel_rfl) (hb : fn.body.isSome = true := by rfl)
    (hargs : az.map a.eval = args := by (try simp only [List.map_toArray, List.map_cons, List.map_nil]); first | done | rfl | (simp only [List.length_drop, List.length_take]; rfl)) : wpList P ops Q (o :: rest) a w :=
  goesL_ N hd hg hf hname hb args hop hargs h
end
section
variable {P : Program} {ops : Array Oper} {Q : Exit → Act → World → Prop} {md : Region.Mode} {S : World → Prop} {ds : List Nat}
theorem pureQ (i : Nat) (N : Option Tmp) {oi : Oper} {v : Value} {fuel : Nat} {l : Array Bool} {a : Act} {w : World} (l' : Array Bool) (hc : anyB md ops l l' i = true) {a' : Act} (h : wpAnyLast P md ops Q S ds fuel l' a' w)
    (hi : ops[i]? = some oi := by rfl) (hN : oi.dst = N := by rfl) (hQ : ∀ c a w, Q (.panic c) (a.put oi.dst v) w → Q (.panic c) a w := by exact fun _ _ _ h => h)
    (hy : Yields P ops oi v a := by exact Or.inl ⟨by rfl, by intro w'; go_simp; with_reducible rfl⟩) (ha : a.put N v = a' := by simp only [Act.put, List.setIfInBounds_toArray, List.set_cons_zero, List.set_cons_succ, i64_w, i32_w]; rfl) : wpAnyLast P md ops Q S ds (fuel + 1) l a w :=
  pure_ l' hi hN hc hQ hy ha h
theorem pureU (i : Nat) (N : Option Tmp) {oi : Oper} {fuel : Nat} {l : Array Bool} {a : Act} {w : World} (l' : Array Bool) (hc : anyB md ops l l' i = true) {a' : Act} (h : wpAnyLast P md ops Q S ds fuel l' a' w)
    (hi : ops[i]? = some oi := by rfl) (hN : oi.dst = N := by rfl) (hQ : ∀ c a w, Q (.panic c) (a.put oi.dst undef) w → Q (.panic c) a w := by exact fun _ _ _ h => h)
    (hy : Yields P ops oi undef a := by exact Or.inr ⟨by rfl, rfl⟩) (ha : a.put N undef = a' := by simp only [Act.put, List.setIfInBounds_toArray, List.set_cons_zero, List.set_cons_succ, i64_w, i32_w]; rfl) : wpAnyLast P md ops Q S ds (fuel + 1) l a w :=
  pure_ l' hi hN hc hQ hy ha h
end
/-- So many are done, so many not. -/
def tk (n m : Nat) : Array Bool := (List.replicate n true ++ List.replicate m false).toArray
end Go.Proofs.Ytpbhkdamkbopkaa.Sq
namespace Go.Proofs.Ytpbhkdamkbopkaa.GRuns
open Go.Proofs.Ytpbhkdamkbopkaa.Sq
open Go.RowKit Go.Proofs.YtpbhkdamkbopkaaW.PrintWords Go.Proofs.YtpbhkdamkbopkaaW.PrintLast Go.Proofs.YtpbhkdamkbopkaaW.PrintMore Go.Proofs.Ytpbhkdamkbopkaa.Wr0
attribute [local go_sem] max2_int min2_int max_two min_two max_three min_three max_four min_four
set_option linter.unusedVariables false
set_option linter.unusedSimpArgs false
def deflate_at.f (a0 : ByteArray) (a1 : Int) : Option (Int × Int × Int × Bool) := if a1 < 0 then (some (0, 0, 0, false)) else (if a1 > (wrap64 ((a0.size : Int) - 3)) then (some (0, 0, 0, false)) else (if 0 ≤ a1 then (if a1 < (a0.size : Int) then (if 0 ≤ (wrap64 (a1 + 1)) then (if (wrap64 (a1 + 1)) < (a0.size : Int) then (if 0 ≤ (wrap64 (a1 + 2)) then (if (wrap64 (a1 + 2)) < (a0.size : Int) then (some (bt a0 a1, bt a0 (wrap64 (a1 + 1)), bt a0 (wrap64 (a1 + 2)), true)) else (none)) else (none)) else (none)) else (none)) else (none)) else (none)))
def deflate_at.T3 : Bool × List (List Nat × List Nat) := (true, [([], []), ([], []), ([0, 1], [0, 1]), ([], []), ([], []), ([4], [4]), ([3, 5], [3, 5]), ([], []), ([], []), ([8], [8]), ([7, 9], [7, 9]), ([2, 6, 10], [2, 6, 10]), ([11, 0, 1, 2, 3, 4, 5, 6, 7, 8, 9, 10, 11], [11]), ([12, 0, 1, 2, 3, 4, 5, 6, 7, 8, 9, 10, 11, 12], [])])
def deflate_at.B3 : List Nat := [0, 0, 3, 0, 0, 16, 56, 0, 0, 256, 896, 2047, 4095, 8191]
theorem deflate_at.tab3 : rtab .any (opsOf Try.f61 3) = deflate_at.T3 := by kernel_rfl
theorem deflate_at.bits3 : waitsOk deflate_at.T3.2 deflate_at.B3 = true := by kernel_rfl
set_option maxHeartbeats 8000000 in
set_option maxRecDepth 100000 in
theorem deflate_at.calls (a0 : ByteArray) (a1 : Int) (r1 : Int) (r2 : Int) (r3 : Int) (r4 : Bool) (w : World) (h : deflate_at.f a0 a1 = some (r1, r2, r3, r4)) :
    Calls Try.prog 61 #[.string a0, .int .i64 a1] w fun e w' => e = .returned (.tuple #[.agg #[.int .u8 r1, .int .u8 r2, .int .u8 r3], .bool r4]) ∧ Below w.heap.size w w' := by
  have hu97 := Try.underlying97
  have HB := Aside0.mk (Below.refl w.heap.size w)
  have H : (if a1 < 0 then (some (0, 0, 0, false)) else (if a1 > (wrap64 ((a0.size : Int) - 3)) then (some (0, 0, 0, false)) else (if 0 ≤ a1 then (if a1 < (a0.size : Int) then (if 0 ≤ (wrap64 (a1 + 1)) then (if (wrap64 (a1 + 1)) < (a0.size : Int) then (if 0 ≤ (wrap64 (a1 + 2)) then (if (wrap64 (a1 + 2)) < (a0.size : Int) then (some (bt a0 a1, bt a0 (wrap64 (a1 + 1)), bt a0 (wrap64 (a1 + 2)), true)) else (none)) else (none)) else (none)) else (none)) else (none)) else (none)))) = some (r1, r2, r3, r4) := h
  clear h
  by_cases c3 : a1 < 0
  · rw [if_pos c3] at H
    have c3b0 : decide (a1 < 0) = true := decide_eq_true c3
    clear c3
    simp only [Option.some.injEq, Prod.mk.injEq] at H
    obtain ⟨rfl, rfl, rfl, rfl⟩ := H
    go_enter Try.func61, Try.ntmps61
    go_wp2_with (first | ((with_reducible refine gate_dst (N := 4) rfl ?_); (try (refine gate_guard (by rfl) ?_; dsimp only)); refine boxQ 4 #[.int .u8 0, .int .u8 0, .int .u8 0] 97 ?_; intro gb101 hg w4 hbox hb; have n0_ := hs HB hb; have n1_ := Aside0.mk (hbox); have n2_ := gs HB hg; have n3_ := gs HB hg; clear HB; have HB := n0_; have BK101 := n1_; have GW101 := n2_; have GE101 := n3_; clear n0_ n1_ n2_ n3_; clear hb hbox hg; obtain ⟨hcz5_0, hcz5_1, hcz5_2⟩ := cc3 BK101; obtain ⟨hfz5_0, hfz5_1, hfz5_2⟩ := ff3 BK101))
    refine bodyPost_ret (results_ct rfl _ _ gb101 97 #[.int .u8 0, .int .u8 0, .int .u8 0] (0, 0) _ rfl (bq BK101) Try.underlying97 rfl (by kernel_rfl)) rfl ?_
    exact ⟨by first | rfl | (simp [errW_none, errW_some] <;> rfl) | (simp [*, errW_none, errW_some] <;> rfl), hn HB⟩
  · rw [if_neg c3] at H
    have c3b0 : decide (a1 < 0) = false := decide_eq_false c3
    clear c3
    by_cases c6 : a1 > (wrap64 ((a0.size : Int) - 3))
    · rw [if_pos c6] at H
      have c6b0 : decide ((wrap64 ((a0.size : Int) - 3)) < a1) = true := decide_eq_true c6
      clear c6
      simp only [Option.some.injEq, Prod.mk.injEq] at H
      obtain ⟨rfl, rfl, rfl, rfl⟩ := H
      go_enter Try.func61, Try.ntmps61
      go_wp2_with (first | ((with_reducible refine gate_dst (N := 4) rfl ?_); (try (refine gate_guard (by rfl) ?_; dsimp only)); refine boxQ 4 #[.int .u8 0, .int .u8 0, .int .u8 0] 97 ?_; intro gb101 hg w7 hbox hb; have n0_ := hs HB hb; have n1_ := Aside0.mk (hbox); have n2_ := gs HB hg; have n3_ := gs HB hg; clear HB; have HB := n0_; have BK101 := n1_; have GW101 := n2_; have GE101 := n3_; clear n0_ n1_ n2_ n3_; clear hb hbox hg; obtain ⟨hcz8_0, hcz8_1, hcz8_2⟩ := cc3 BK101; obtain ⟨hfz8_0, hfz8_1, hfz8_2⟩ := ff3 BK101))
      refine bodyPost_ret (results_ct rfl _ _ gb101 97 #[.int .u8 0, .int .u8 0, .int .u8 0] (0, 0) _ rfl (bq BK101) Try.underlying97 rfl (by kernel_rfl)) rfl ?_
      exact ⟨by first | rfl | (simp [errW_none, errW_some] <;> rfl) | (simp [*, errW_none, errW_some] <;> rfl), hn HB⟩
    · rw [if_neg c6] at H
      have c6b0 : decide ((wrap64 ((a0.size : Int) - 3)) < a1) = false := decide_eq_false c6
      clear c6
      by_cases c9 : 0 ≤ a1
      · rw [if_pos c9] at H
        have c9b0 : decide (0 ≤ a1) = true := decide_eq_true c9
        clear c9
        by_cases c10 : a1 < (a0.size : Int)
        · rw [if_pos c10] at H
          have c10b0 : decide (a1 < (a0.size : Int)) = true := decide_eq_true c10
          clear c10
          obtain ⟨ji12, hji12⟩ : ∃ j_ : Int, (wrap64 (a1 + 1)) = j_ := ⟨_, rfl⟩
          replace H : (if 0 ≤ (ji12) then (if (ji12) < (a0.size : Int) then (if 0 ≤ (wrap64 (a1 + 2)) then (if (wrap64 (a1 + 2)) < (a0.size : Int) then (some (bt a0 a1, bt a0 (ji12), bt a0 (wrap64 (a1 + 2)), true)) else (none)) else (none)) else (none)) else (none)) = some (r1, r2, r3, r4) := by first | (rw [hji12] at H; exact H) | (simp only [hji12] at H ⊢; exact H)
          have hji12w : (IntKind.i64.wrap (a1 + 1)) = ji12 := (i64_w _).trans hji12
          by_cases c13 : 0 ≤ (ji12)
          · rw [if_pos c13] at H
            have c13b0 : decide (0 ≤ (ji12)) = true := decide_eq_true c13
            clear c13
            by_cases c14 : (ji12) < (a0.size : Int)
            · rw [if_pos c14] at H
              have c14b0 : decide ((ji12) < (a0.size : Int)) = true := decide_eq_true c14
              clear c14
              obtain ⟨ji16, hji16⟩ : ∃ j_ : Int, (wrap64 (a1 + 2)) = j_ := ⟨_, rfl⟩
              replace H : (if 0 ≤ (ji16) then (if (ji16) < (a0.size : Int) then (some (bt a0 a1, bt a0 (ji12), bt a0 (ji16), true)) else (none)) else (none)) = some (r1, r2, r3, r4) := by first | (rw [hji16] at H; exact H) | (simp only [hji16] at H ⊢; exact H)
              have hji16w : (IntKind.i64.wrap (a1 + 2)) = ji16 := (i64_w _).trans hji16
              by_cases c17 : 0 ≤ (ji16)
              · rw [if_pos c17] at H
                have c17b0 : decide (0 ≤ (ji16)) = true := decide_eq_true c17
                clear c17
                by_cases c18 : (ji16) < (a0.size : Int)
                · rw [if_pos c18] at H
                  have c18b0 : decide ((ji16) < (a0.size : Int)) = true := decide_eq_true c18
                  clear c18
                  simp only [Option.some.injEq, Prod.mk.injEq] at H
                  obtain ⟨rfl, rfl, rfl, rfl⟩ := H
                  go_enter Try.func61, Try.ntmps61
                  try go_wp2_with (first | ((with_reducible refine gate_dst (N := 4) rfl ?_); (try (refine gate_guard (by rfl) ?_; dsimp only)); refine boxQ 4 #[.int .u8 0, .int .u8 0, .int .u8 0] 97 ?_; intro gb101 hg w20 hbox hb; have n0_ := hs HB hb; have n1_ := Aside0.mk (hbox); have n2_ := gs HB hg; have n3_ := gs HB hg; clear HB; have HB := n0_; have BK101 := n1_; have GW101 := n2_; have GE101 := n3_; clear n0_ n1_ n2_ n3_; clear hb hbox hg))
                  have n0_ := Aside0.mk (blk_drew BK101.out)
                  have n1_ := Aside0.mk (below_drew1 HB.out)
                  clear BK101
                  clear HB
                  have BK101 := n0_
                  have HB := n1_
                  clear n0_ n1_
                  have p11 : 0 ≤ (a1 : Int) := of_decide_eq_true (by first | (with_reducible assumption) | assumption)
                  have q11 : a1 < (a0.size : Int) := of_decide_eq_true (by first | (with_reducible assumption) | assumption)
                  have hx11 := bt_at a0 a1
                  replace p11 := eq_true p11
                  replace q11 := eq_true q11
                  have p15 : 0 ≤ ((ji12) : Int) := of_decide_eq_true (by first | (with_reducible assumption) | assumption)
                  have q15 : (ji12) < (a0.size : Int) := of_decide_eq_true (by first | (with_reducible assumption) | assumption)
                  have hx15 := bt_at a0 (ji12)
                  replace p15 := eq_true p15
                  replace q15 := eq_true q15
                  have p19 : 0 ≤ ((ji16) : Int) := of_decide_eq_true (by first | (with_reducible assumption) | assumption)
                  have q19 : (ji16) < (a0.size : Int) := of_decide_eq_true (by first | (with_reducible assumption) | assumption)
                  have hx19 := bt_at a0 (ji16)
                  replace p19 := eq_true p19
                  replace q19 := eq_true q19
                  refine start_ (n := 14) (S := fun w' => True) (ds := []) #[false, false, false, false, false, false, false, false, false, false, false, false, false, false] (by kernel_rfl) rfl rfl trivial (fun hHeld => ?_); refine with_tabW deflate_at.tab3 deflate_at.bits3 (fun HT_ HW_ => ?_)
                  generalize w20.drew = w21 at BK101 HB hHeld ⊢
                  refine pureQ 0 (some 16) (tk 1 13) (any_of HT_.out (by kernel_rfl)) ?_
                  refine pureQ 1 (some 17) (tk 2 12) (any_of HT_.out (by kernel_rfl)) ?_
                  refine pureQ 3 (some 19) #[true, true, false, true, false, false, false, false, false, false, false, false, false, false] (any_of HT_.out (by kernel_rfl)) ?_
                  refine pureQ 4 (some 20) #[true, true, false, true, true, false, false, false, false, false, false, false, false, false] (any_of HT_.out (by kernel_rfl)) ?_
                  refine pureQ 5 (some 21) #[true, true, false, true, true, true, false, false, false, false, false, false, false, false] (any_of HT_.out (by kernel_rfl)) ?_
                  refine pureQ 7 (some 23) #[true, true, false, true, true, true, false, true, false, false, false, false, false, false] (any_of HT_.out (by kernel_rfl)) ?_
                  refine pureQ 8 (some 24) #[true, true, false, true, true, true, false, true, true, false, false, false, false, false] (any_of HT_.out (by kernel_rfl)) ?_
                  refine pureQ 9 (some 25) #[true, true, false, true, true, true, false, true, true, true, false, false, false, false] (any_of HT_.out (by kernel_rfl)) ?_
                  refine take_ (i := 2) (N := some 18) (v := ?_) (a' := ?_) #[true, true, true, true, true, true, false, true, true, true, false, false, false, false] rfl rfl (take_ofW HT_.out HW_.out (by kernel_rfl)) (fun _ _ _ h => h) (Or.inl ⟨by rfl, ?_⟩) hHeld ?_ ?_
                  rotate_left
                  · intro w' _
                    go_simp
                    with_reducible rfl
                  rotate_left
                  · simp only [Act.put, List.setIfInBounds_toArray, List.set_cons_zero, List.set_cons_succ, i64_w, i32_w]
                    rfl
                  refine take_ (i := 6) (N := some 22) (v := ?_) (a' := ?_) (tk 10 4) rfl rfl (take_ofW HT_.out HW_.out (by kernel_rfl)) (fun _ _ _ h => h) (Or.inl ⟨by rfl, ?_⟩) hHeld ?_ ?_
                  rotate_left
                  · intro w' _
                    go_simp
                    with_reducible rfl
                  rotate_left
                  · simp only [Act.put, List.setIfInBounds_toArray, List.set_cons_zero, List.set_cons_succ, i64_w, i32_w]
                    rfl
                  refine take_ (i := 10) (N := some 26) (v := ?_) (a' := ?_) (tk 11 3) rfl rfl (take_ofW HT_.out HW_.out (by kernel_rfl)) (fun _ _ _ h => h) (Or.inl ⟨by rfl, ?_⟩) hHeld ?_ ?_
                  rotate_left
                  · intro w' _
                    go_simp
                    with_reducible rfl
                  rotate_left
                  · simp only [Act.put, List.setIfInBounds_toArray, List.set_cons_zero, List.set_cons_succ, i64_w, i32_w]
                    rfl
                  refine pureQ 11 (some 27) (tk 12 2) (any_of HT_.out (by kernel_rfl)) ?_
                  refine one_ (i := 12) (N := none) (tk 13 1) rfl rfl (one_of HT_.out (by kernel_rfl)) (by decide) (fun K hK => ?_)
                  have hs22 : w21.cell? ⟨gb101, 0, none⟩ = some (.int .u8 0) := (blk_cell BK101.out 0).trans rfl
                  have hfs22 := blk_frozen BK101.out 0
                  have hs23 : w21.cell? ⟨gb101, 1, none⟩ = some (.int .u8 0) := (blk_cell BK101.out 1).trans rfl
                  have hfs23 := blk_frozen BK101.out 1
                  have hs24 : w21.cell? ⟨gb101, 2, none⟩ = some (.int .u8 0) := (blk_cell BK101.out 2).trans rfl
                  have hfs24 := blk_frozen BK101.out 2
                  refine skip_ (w1 := ?_) (by rfl) rfl ?_ ?_
                  rotate_left
                  · go_simp
                    rfl
                  refine hK.out _ _ trivial (fun hHeld => ?_)
                  clear hK K
                  refine pureQ 13 (some 5) (tk 14 0) (any_of HT_.out (by kernel_rfl)) ?_
                  refine done_ (done_of HT_.out (by kernel_rfl)) ?_
                  try go_wp2
                  refine bodyPost_ret (results_ct rfl _ _ gb101 97 #[.int .u8 (bt a0 a1), .int .u8 (bt a0 (ji12)), .int .u8 (bt a0 (ji16))] (0, 0) _ rfl (bq BK101) Try.underlying97 rfl (by kernel_rfl)) rfl ?_
                  exact ⟨by first | rfl | (simp [errW_none, errW_some] <;> rfl) | (simp only [← hji12, ← hji16]; first | rfl | (simp [errW_none, errW_some] <;> rfl)) | (simp [*, errW_none, errW_some] <;> rfl), hn HB⟩
                · rw [if_neg c18] at H
                  exact absurd H (by simp)
              · rw [if_neg c17] at H
                exact absurd H (by simp)
            · rw [if_neg c14] at H
              exact absurd H (by simp)
          · rw [if_neg c13] at H
            exact absurd H (by simp)
        · rw [if_neg c10] at H
          exact absurd H (by simp)
      · rw [if_neg c9] at H
        exact absurd H (by simp)
def deflate_alike.l0 : Nat → ByteArray → Int → Int → Int → Option (Int)
  | 0, _, _, _, _ => none
  | k + 1, x0, x1, x2, x7 => if x7 < 258 then (if (wrap64 (x1 + x7)) < (x0.size : Int) then (if 0 ≤ (wrap64 (x1 + x7)) then (if 0 ≤ (wrap64 (x2 + x7)) then (if (wrap64 (x2 + x7)) < (x0.size : Int) then (if (bt x0 (wrap64 (x1 + x7))) = (bt x0 (wrap64 (x2 + x7))) then (deflate_alike.l0 k x0 x1 x2 (wrap64 (x7 + 1))) else (some x7)) else (none)) else (none)) else (none)) else (some x7)) else (some x7)
def deflate_alike.f (k : Nat) (a0 : ByteArray) (a1 : Int) (a2 : Int) : Option (Int) := deflate_alike.l0 k a0 a1 a2 0
set_option maxHeartbeats 8000000 in
set_option maxRecDepth 100000 in
theorem deflate_alike.calls (k : Nat) (a0 : ByteArray) (a1 : Int) (a2 : Int) (r : Int) (w : World) (h : deflate_alike.f k a0 a1 a2 = some r) :
    Calls Try.prog 89 #[.string a0, .int .i64 a1, .int .i64 a2] w fun e w' => e = .returned (.int .i64 r) ∧ Drawn0 w w' := by
  have H : (deflate_alike.l0 k a0 a1 a2 0) = some r := h
  clear h
  have H' := Aside0.mk H
  clear H
  go_enter Try.func89, Try.ntmps89
  go_wp2
  repeat (go_quiet (fail); try go_wp2)
  go_loopg [7] k (fun kq v7 w' => ∃ (x7_1 : Int), v7 = .int .i64 x7_1 ∧ Aside0 (deflate_alike.l0 kq a0 a1 a2 x7_1 = some r) ∧ Aside0 (kq ≤ k) ∧ Drawn0 w w')
  case atStart => exact ⟨(0), (by first | rfl | (simp; done) | (simp [*]; done)), H', ⟨Nat.le_refl _⟩, by repeat (first | exact Drawn0.refl _ | apply Drawn0.step)⟩
  case round =>
    clear H'
    try clear p2
    obtain ⟨x7_1, rfl, HA, HK1, ⟨m1, rfl⟩⟩ := hrel
    cases gk with
    | zero => exact absurd HA.out (by simp [deflate_alike.l0])
    | succ k1 =>
      have H := HA.out
      clear HA
      simp only [deflate_alike.l0] at H
      by_cases c4 : x7_1 < 258
      · rw [if_pos c4] at H
        have c4b0 : decide (x7_1 < 258) = true := decide_eq_true c4
        clear c4
        by_cases c5 : (wrap64 (a1 + x7_1)) < (a0.size : Int)
        · rw [if_pos c5] at H
          have c5b0 : decide ((wrap64 (a1 + x7_1)) < (a0.size : Int)) = true := decide_eq_true c5
          clear c5
          obtain ⟨ji6, hji6⟩ : ∃ j_ : Int, (wrap64 (a1 + x7_1)) = j_ := ⟨_, rfl⟩
          replace H : (if 0 ≤ (ji6) then (if 0 ≤ (wrap64 (a2 + x7_1)) then (if (wrap64 (a2 + x7_1)) < (a0.size : Int) then (if (bt a0 (ji6)) = (bt a0 (wrap64 (a2 + x7_1))) then (deflate_alike.l0 k1 a0 a1 a2 (wrap64 (x7_1 + 1))) else (some x7_1)) else (none)) else (none)) else (none)) = some r := by first | (rw [hji6] at H; exact H) | (simp only [hji6] at H ⊢; exact H)
          (try rw [hji6] at c5b0)
          have hji6w : (IntKind.i64.wrap (a1 + x7_1)) = ji6 := (i64_w _).trans hji6
          by_cases c7 : 0 ≤ (ji6)
          · rw [if_pos c7] at H
            have c7b0 : decide (0 ≤ (ji6)) = true := decide_eq_true c7
            clear c7
            obtain ⟨ji9, hji9⟩ : ∃ j_ : Int, (wrap64 (a2 + x7_1)) = j_ := ⟨_, rfl⟩
            replace H : (if 0 ≤ (ji9) then (if (ji9) < (a0.size : Int) then (if (bt a0 (ji6)) = (bt a0 (ji9)) then (deflate_alike.l0 k1 a0 a1 a2 (wrap64 (x7_1 + 1))) else (some x7_1)) else (none)) else (none)) = some r := by first | (rw [hji9] at H; exact H) | (simp only [hji9] at H ⊢; exact H)
            have hji9w : (IntKind.i64.wrap (a2 + x7_1)) = ji9 := (i64_w _).trans hji9
            by_cases c10 : 0 ≤ (ji9)
            · rw [if_pos c10] at H
              have c10b0 : decide (0 ≤ (ji9)) = true := decide_eq_true c10
              clear c10
              by_cases c11 : (ji9) < (a0.size : Int)
              · rw [if_pos c11] at H
                have c11b0 : decide ((ji9) < (a0.size : Int)) = true := decide_eq_true c11
                clear c11
                by_cases c13 : (bt a0 (ji6)) = (bt a0 (ji9))
                · rw [if_pos c13] at H
                  have c13b0 : ((bt a0 (ji6)) == (bt a0 (ji9))) = true := beq_iff_eq.mpr c13
                  have c13b1 : ((bt a0 (ji6)) != (bt a0 (ji9))) = false := bne_eq_false_iff_eq.mpr c13
                  clear c13
                  have H' := Aside0.mk H
                  clear H
                  have p8 : 0 ≤ ((ji6) : Int) := of_decide_eq_true (by first | (with_reducible assumption) | assumption)
                  have q8 : (ji6) < (a0.size : Int) := of_decide_eq_true (by first | (with_reducible assumption) | assumption)
                  have hx8 := bt_at a0 (ji6)
                  replace p8 := eq_true p8
                  replace q8 := eq_true q8
                  have p12 : 0 ≤ ((ji9) : Int) := of_decide_eq_true (by first | (with_reducible assumption) | assumption)
                  have q12 : (ji9) < (a0.size : Int) := of_decide_eq_true (by first | (with_reducible assumption) | assumption)
                  have hx12 := bt_at a0 (ji9)
                  replace p12 := eq_true p12
                  replace q12 := eq_true q12
                  go_wp2
                  repeat (go_quiet (fail); try go_wp2)
                  go_roundg k1
                  case measure => have := HK1.out; omega
                  case rel => exact ⟨(wrap64 (x7_1 + 1)), (by first | rfl | (simp; done) | (simp [*]; done)), H', ⟨by have := HK1.out; omega⟩, by repeat (first | exact Drawn0.refl _ | apply Drawn0.step)⟩
                · rw [if_neg c13] at H
                  have c13b0 : ((bt a0 (ji6)) == (bt a0 (ji9))) = false := beq_eq_false_iff_ne.mpr c13
                  have c13b1 : ((bt a0 (ji6)) != (bt a0 (ji9))) = true := bne_iff_ne.mpr c13
                  obtain rfl := Option.some.inj H
                  have p8 : 0 ≤ ((ji6) : Int) := of_decide_eq_true (by first | (with_reducible assumption) | assumption)
                  have q8 : (ji6) < (a0.size : Int) := of_decide_eq_true (by first | (with_reducible assumption) | assumption)
                  have hx8 := bt_at a0 (ji6)
                  replace p8 := eq_true p8
                  replace q8 := eq_true q8
                  have p12 : 0 ≤ ((ji9) : Int) := of_decide_eq_true (by first | (with_reducible assumption) | assumption)
                  have q12 : (ji9) < (a0.size : Int) := of_decide_eq_true (by first | (with_reducible assumption) | assumption)
                  have hx12 := bt_at a0 (ji9)
                  replace p12 := eq_true p12
                  replace q12 := eq_true q12
                  go_wp2
                  repeat (go_quiet (fail); try go_wp2)
                  go_ret
                  exact ⟨by first | rfl | (simp; done) | (simp only [← hji6, ← hji9] <;> (first | rfl | simp)) | (simp [*]; done), by repeat (first | exact Drawn0.refl _ | apply Drawn0.step)⟩
              · rw [if_neg c11] at H
                exact absurd H (by simp)
            · rw [if_neg c10] at H
              exact absurd H (by simp)
          · rw [if_neg c7] at H
            exact absurd H (by simp)
        · rw [if_neg c5] at H
          have c5b0 : decide ((wrap64 (a1 + x7_1)) < (a0.size : Int)) = false := decide_eq_false c5
          clear c5
          obtain rfl := Option.some.inj H
          go_wp2
          repeat (go_quiet (fail); try go_wp2)
          go_ret
          exact ⟨by first | rfl | (simp; done) | (simp [*]; done), by repeat (first | exact Drawn0.refl _ | apply Drawn0.step)⟩
      · rw [if_neg c4] at H
        have c4b0 : decide (x7_1 < 258) = false := decide_eq_false c4
        clear c4
        obtain rfl := Option.some.inj H
        go_wp2
        repeat (go_quiet (fail); try go_wp2)
        go_ret
        exact ⟨by first | rfl | (simp; done) | (simp [*]; done), by repeat (first | exact Drawn0.refl _ | apply Drawn0.step)⟩
mutual
def deflate_best.l0 : Nat → ByteArray → Int → List Int → Int → Int → Int → Option (Int × Int)
  | 0, _, _, _, _, _, _ => none
  | k + 1, x0, x1, x2, x8, x9, x10 => if x10 ≥ 0 then (if 0 ≤ x10 then (if x10 < (x2.length : Int) then (deflate_best.j1 k x0 x1 x2 x8 x9 x10 (decide ((wrap64 (x1 - (rd x2 x10))) ≤ 32768))) else (none)) else (none)) else (deflate_best.j1 k x0 x1 x2 x8 x9 x10 false)
def deflate_best.j1 : Nat → ByteArray → Int → List Int → Int → Int → Int → Bool → Option (Int × Int)
  | 0, _, _, _, _, _, _, _ => none
  | k + 1, x0, x1, x2, x8, x9, x10, x25 => if x25 = true then (if 0 ≤ x10 then (if x10 < (x2.length : Int) then ((deflate_alike.f k x0 x1 (rd x2 x10)).bind fun t104 => (if t104 > x8 then (if t104 = 258 then (if t104 < 3 then (some (0, 0)) else (some (t104, wrap64 (x1 - (rd x2 x10))))) else (if (wrap64 (x1 + t104)) = (x0.size : Int) then (if t104 < 3 then (some (0, 0)) else (some (t104, wrap64 (x1 - (rd x2 x10))))) else (deflate_best.l0 k x0 x1 x2 t104 (wrap64 (x1 - (rd x2 x10))) (wrap64 (x10 - 1))))) else (if x8 = 258 then (if x8 < 3 then (some (0, 0)) else (some (x8, x9))) else (if (wrap64 (x1 + x8)) = (x0.size : Int) then (if x8 < 3 then (some (0, 0)) else (some (x8, x9))) else (deflate_best.l0 k x0 x1 x2 x8 x9 (wrap64 (x10 - 1))))))) else (none)) else (none)) else (if x8 < 3 then (some (0, 0)) else (some (x8, x9)))
end
def deflate_best.f (k : Nat) (a0 : ByteArray) (a1 : Int) (l2 : List Int) : Option (Int × Int) := deflate_best.l0 k a0 a1 l2 0 0 (wrap64 ((l2.length : Int) - 1))
set_option maxHeartbeats 8000000 in
set_option maxRecDepth 100000 in
theorem deflate_best.calls (k : Nat) (a0 : ByteArray) (a1 : Int) (A2 : Option Addr) (c2 : Nat) (l2 : List Int) (r1 : Int) (r2 : Int) (w : World) (hr2 : Kd.C (Kd.int .i64) w A2 l2.length l2) (hc2 : l2.length ≤ c2) (h : deflate_best.f k a0 a1 l2 = some (r1, r2)) :
    Calls Try.prog 62 #[.string a0, .int .i64 a1, .slice A2 l2.length c2] w fun e w' => e = .returned (.tuple #[.int .i64 r1, .int .i64 r2]) ∧ Drawn0 w w' := by
  have HR2 := Aside0.mk hr2
  have HC2 := Aside0.mk hc2
  clear hr2 hc2
  have H : (deflate_best.l0 k a0 a1 l2 0 0 (wrap64 ((l2.length : Int) - 1))) = some (r1, r2) := h
  clear h
  have H' := Aside0.mk H
  clear H
  go_enter Try.func62, Try.ntmps62
  go_wp2
  repeat (go_quiet (fail); try go_wp2)
  go_loopg [8, 9, 10] k (fun kq v8 v9 v10 w' => ∃ (x8_1 : Int) (x9_1 : Int) (x10_1 : Int), v8 = .int .i64 x8_1 ∧ v9 = .int .i64 x9_1 ∧ v10 = .int .i64 x10_1 ∧ Aside0 (deflate_best.l0 kq a0 a1 l2 x8_1 x9_1 x10_1 = some (r1, r2)) ∧ Aside0 (kq ≤ k) ∧ Drawn0 w w')
  case atStart => exact ⟨(0), (0), (wrap64 ((l2.length : Int) - 1)), (by first | rfl | (simp; done) | (simp [*]; done)), (by first | rfl | (simp; done) | (simp [*]; done)), (by first | rfl | (simp; done) | (simp [*]; done)), H', ⟨Nat.le_refl _⟩, by repeat (first | exact Drawn0.refl _ | apply Drawn0.step)⟩
  case round =>
    clear H'
    try clear c2
    try clear p2
    obtain ⟨x8_1, x9_1, x10_1, rfl, rfl, rfl, HA, HK1, ⟨m1, rfl⟩⟩ := hrel
    cases gk with
    | zero => exact absurd HA.out (by simp [deflate_best.l0])
    | succ k1 =>
      have H := HA.out
      clear HA
      simp only [deflate_best.l0] at H
      have HC4 := Aside0.mk H
      clear H
      go_upto_region 3 with (fail)
      repeat (go_quiet (fail); go_upto_region 3 with (fail))
      go_cut [25] (fun v25 wc => ∃ (kq : Nat) (x25_3 : Bool), v25 = .bool x25_3 ∧ Aside0 (deflate_best.j1 kq a0 a1 l2 x8_1 x9_1 x10_1 x25_3 = some (r1, r2)) ∧ Aside0 (kq ≤ k1) ∧ Drawn0 w wc)
      case first =>
        have H := HC4.out
        clear HC4
        by_cases c5 : x10_1 ≥ 0
        · rw [if_pos c5] at H
          have c5b0 : decide (0 ≤ x10_1) = true := decide_eq_true c5
          clear c5
          (first | rw [c5b0] | (simp only [i64_w, i32_w]; rw [c5b0]) | skip)
          by_cases c6 : 0 ≤ x10_1
          · rw [if_pos c6] at H
            have c6b0 : decide (0 ≤ x10_1) = true := decide_eq_true c6
            clear c6
            by_cases c7 : x10_1 < (l2.length : Int)
            · rw [if_pos c7] at H
              have c7b0 : decide (x10_1 < (l2.length : Int)) = true := decide_eq_true c7
              clear c7
              have H' := Aside0.mk H
              clear H
              have p102 : 0 ≤ (x10_1 : Int) := of_decide_eq_true (by first | (with_reducible assumption) | assumption)
              have q102 : x10_1 < (l2.length : Int) := of_decide_eq_true (by first | (with_reducible assumption) | assumption)
              obtain ⟨ad102, e102, hx102_0⟩ := Kd.at_int HR2.out x10_1 p102 q102
              cases e102
              replace p102 := eq_true p102
              replace q102 := eq_true q102
              go_wp2
              repeat (go_quiet (fail); try go_wp2)
              go_meet
              case rel => exact ⟨_, (decide ((wrap64 (a1 - (rd l2 x10_1))) ≤ 32768)), (by first | rfl | (simp; done) | (simp [*]; done)), H', ⟨by have := HK1.out; first | omega | exact Nat.le_refl _⟩, by repeat (first | exact Drawn0.refl _ | apply Drawn0.step)⟩
            · rw [if_neg c7] at H
              exact absurd H (by simp)
          · rw [if_neg c6] at H
            exact absurd H (by simp)
        · rw [if_neg c5] at H
          have c5b0 : decide (0 ≤ x10_1) = false := decide_eq_false c5
          clear c5
          (first | rw [c5b0] | (simp only [i64_w, i32_w]; rw [c5b0]) | skip)
          have H' := Aside0.mk H
          clear H
          go_wp2
          repeat (go_quiet (fail); try go_wp2)
          go_meet
          case rel => exact ⟨_, (false), (by first | rfl | (simp; done) | (simp [*]; done)), H', ⟨by have := HK1.out; first | omega | exact Nat.le_refl _⟩, by repeat (first | exact Drawn0.refl _ | apply Drawn0.step)⟩
      case rest =>
        clear HC4
        try clear p1
        try clear q1
        try clear hx1
        try clear c2
        try clear p2
        try clear c5
        try clear c5b0
        try clear c6
        try clear c6b0
        try clear p6
        try clear c7
        try clear c7b0
        try clear hx102_0
        try clear p102
        try clear p2
        try clear q102
        obtain ⟨kq, x25_3, rfl, HA, HJ3, ⟨mc3, rfl⟩⟩ := hcut
        cases kq with
        | zero => exact absurd HA.out (by simp [deflate_best.j1])
        | succ kj3 =>
          have H := HA.out
          clear HA
          simp only [deflate_best.j1] at H
          by_cases c8 : x25_3 = true
          · subst c8
            have H1 : (if 0 ≤ x10_1 then (if x10_1 < (l2.length : Int) then ((deflate_alike.f kj3 a0 a1 (rd l2 x10_1)).bind fun t104 => (if t104 > x8_1 then (if t104 = 258 then (if t104 < 3 then (some (0, 0)) else (some (t104, wrap64 (a1 - (rd l2 x10_1))))) else (if (wrap64 (a1 + t104)) = (a0.size : Int) then (if t104 < 3 then (some (0, 0)) else (some (t104, wrap64 (a1 - (rd l2 x10_1))))) else (deflate_best.l0 kj3 a0 a1 l2 t104 (wrap64 (a1 - (rd l2 x10_1))) (wrap64 (x10_1 - 1))))) else (if x8_1 = 258 then (if x8_1 < 3 then (some (0, 0)) else (some (x8_1, x9_1))) else (if (wrap64 (a1 + x8_1)) = (a0.size : Int) then (if x8_1 < 3 then (some (0, 0)) else (some (x8_1, x9_1))) else (deflate_best.l0 kj3 a0 a1 l2 x8_1 x9_1 (wrap64 (x10_1 - 1))))))) else (none)) else (none)) = some (r1, r2) := by rw [if_pos rfl] at H; exact H
            clear H
            have H := H1
            clear H1
            by_cases c9 : 0 ≤ x10_1
            · rw [if_pos c9] at H
              have c9b0 : decide (0 ≤ x10_1) = true := decide_eq_true c9
              clear c9
              by_cases c10 : x10_1 < (l2.length : Int)
              · rw [if_pos c10] at H
                have c10b0 : decide (x10_1 < (l2.length : Int)) = true := decide_eq_true c10
                clear c10
                replace H := Option.bind_eq_some_iff.mp H
                obtain ⟨t104, A110, H⟩ := H
                replace H : (if t104 > x8_1 then (if t104 = 258 then (if t104 < 3 then (some (0, 0)) else (some (t104, wrap64 (a1 - (rd l2 x10_1))))) else (if (wrap64 (a1 + t104)) = (a0.size : Int) then (if t104 < 3 then (some (0, 0)) else (some (t104, wrap64 (a1 - (rd l2 x10_1))))) else (deflate_best.l0 kj3 a0 a1 l2 t104 (wrap64 (a1 - (rd l2 x10_1))) (wrap64 (x10_1 - 1))))) else (if x8_1 = 258 then (if x8_1 < 3 then (some (0, 0)) else (some (x8_1, x9_1))) else (if (wrap64 (a1 + x8_1)) = (a0.size : Int) then (if x8_1 < 3 then (some (0, 0)) else (some (x8_1, x9_1))) else (deflate_best.l0 kj3 a0 a1 l2 x8_1 x9_1 (wrap64 (x10_1 - 1)))))) = some (r1, r2) := H
                have A11 := Aside0.mk A110
                clear A110
                by_cases c12 : t104 > x8_1
                · rw [if_pos c12] at H
                  have c12b0 : decide (x8_1 < t104) = true := decide_eq_true c12
                  clear c12
                  by_cases c13 : t104 = 258
                  · rw [if_pos c13] at H
                    have c13b0 : (t104 == 258) = true := beq_iff_eq.mpr c13
                    have c13b1 : (t104 != 258) = false := bne_eq_false_iff_eq.mpr c13
                    clear c13
                    by_cases c14 : t104 < 3
                    · rw [if_pos c14] at H
                      have c14b0 : decide (t104 < 3) = true := decide_eq_true c14
                      clear c14
                      simp only [Option.some.injEq, Prod.mk.injEq] at H
                      obtain ⟨rfl, rfl⟩ := H
                      have p103 : 0 ≤ (x10_1 : Int) := of_decide_eq_true (by first | (with_reducible assumption) | assumption)
                      have q103 : x10_1 < (l2.length : Int) := of_decide_eq_true (by first | (with_reducible assumption) | assumption)
                      obtain ⟨ad103, e103, hx103_0⟩ := Kd.at_int HR2.out x10_1 p103 q103
                      cases e103
                      replace p103 := eq_true p103
                      replace q103 := eq_true q103
                      go_wp2_with (first | (go_at_call 89; (with_reducible refine (deflate_alike.calls kj3 a0 a1 (rd l2 x10_1) t104 _ A11.out).mono ?_); rintro e w' ⟨rfl, ⟨nd, rfl⟩⟩; (try first | exact ⟨rfl, _, World.drewN_drewN _ _ _⟩ | exact ⟨rfl, _, Eq.trans (World.drewN_drewN _ _ _) (congrArg (World.drewN _) (Nat.add_assoc _ _ _))⟩); have p105 : 0 ≤ (x10_1 : Int) := of_decide_eq_true (by first | (with_reducible assumption) | assumption); have q105 : x10_1 < (l2.length : Int) := of_decide_eq_true (by first | (with_reducible assumption) | assumption); obtain ⟨ad105, e105, hx105_0⟩ := Kd.at_int HR2.out x10_1 p105 q105; obtain rfl : ad103 = ad105 := (by injection e105); replace p105 := eq_true p105; replace q105 := eq_true q105))
                      repeat (go_quiet (first | (go_at_call 89; (with_reducible refine (deflate_alike.calls kj3 a0 a1 (rd l2 x10_1) t104 _ A11.out).mono ?_); rintro e w' ⟨rfl, ⟨nd, rfl⟩⟩; (try first | exact ⟨rfl, _, World.drewN_drewN _ _ _⟩ | exact ⟨rfl, _, Eq.trans (World.drewN_drewN _ _ _) (congrArg (World.drewN _) (Nat.add_assoc _ _ _))⟩); have p105 : 0 ≤ (x10_1 : Int) := of_decide_eq_true (by first | (with_reducible assumption) | assumption); have q105 : x10_1 < (l2.length : Int) := of_decide_eq_true (by first | (with_reducible assumption) | assumption); obtain ⟨ad105, e105, hx105_0⟩ := Kd.at_int HR2.out x10_1 p105 q105; obtain rfl : ad103 = ad105 := (by injection e105); replace p105 := eq_true p105; replace q105 := eq_true q105)); try go_wp2_with (first | (go_at_call 89; (with_reducible refine (deflate_alike.calls kj3 a0 a1 (rd l2 x10_1) t104 _ A11.out).mono ?_); rintro e w' ⟨rfl, ⟨nd, rfl⟩⟩; (try first | exact ⟨rfl, _, World.drewN_drewN _ _ _⟩ | exact ⟨rfl, _, Eq.trans (World.drewN_drewN _ _ _) (congrArg (World.drewN _) (Nat.add_assoc _ _ _))⟩); have p105 : 0 ≤ (x10_1 : Int) := of_decide_eq_true (by first | (with_reducible assumption) | assumption); have q105 : x10_1 < (l2.length : Int) := of_decide_eq_true (by first | (with_reducible assumption) | assumption); obtain ⟨ad105, e105, hx105_0⟩ := Kd.at_int HR2.out x10_1 p105 q105; obtain rfl : ad103 = ad105 := (by injection e105); replace p105 := eq_true p105; replace q105 := eq_true q105)))
                      go_ret2
                      exact ⟨by first | rfl | (simp; done) | (simp [*]; done), by repeat (first | exact Drawn0.refl _ | apply Drawn0.step)⟩
                    · rw [if_neg c14] at H
                      have c14b0 : decide (t104 < 3) = false := decide_eq_false c14
                      clear c14
                      simp only [Option.some.injEq, Prod.mk.injEq] at H
                      obtain ⟨rfl, rfl⟩ := H
                      have p103 : 0 ≤ (x10_1 : Int) := of_decide_eq_true (by first | (with_reducible assumption) | assumption)
                      have q103 : x10_1 < (l2.length : Int) := of_decide_eq_true (by first | (with_reducible assumption) | assumption)
                      obtain ⟨ad103, e103, hx103_0⟩ := Kd.at_int HR2.out x10_1 p103 q103
                      cases e103
                      replace p103 := eq_true p103
                      replace q103 := eq_true q103
                      go_wp2_with (first | (go_at_call 89; (with_reducible refine (deflate_alike.calls kj3 a0 a1 (rd l2 x10_1) t104 _ A11.out).mono ?_); rintro e w' ⟨rfl, ⟨nd, rfl⟩⟩; (try first | exact ⟨rfl, _, World.drewN_drewN _ _ _⟩ | exact ⟨rfl, _, Eq.trans (World.drewN_drewN _ _ _) (congrArg (World.drewN _) (Nat.add_assoc _ _ _))⟩); have p105 : 0 ≤ (x10_1 : Int) := of_decide_eq_true (by first | (with_reducible assumption) | assumption); have q105 : x10_1 < (l2.length : Int) := of_decide_eq_true (by first | (with_reducible assumption) | assumption); obtain ⟨ad105, e105, hx105_0⟩ := Kd.at_int HR2.out x10_1 p105 q105; obtain rfl : ad103 = ad105 := (by injection e105); replace p105 := eq_true p105; replace q105 := eq_true q105))
                      repeat (go_quiet (first | (go_at_call 89; (with_reducible refine (deflate_alike.calls kj3 a0 a1 (rd l2 x10_1) t104 _ A11.out).mono ?_); rintro e w' ⟨rfl, ⟨nd, rfl⟩⟩; (try first | exact ⟨rfl, _, World.drewN_drewN _ _ _⟩ | exact ⟨rfl, _, Eq.trans (World.drewN_drewN _ _ _) (congrArg (World.drewN _) (Nat.add_assoc _ _ _))⟩); have p105 : 0 ≤ (x10_1 : Int) := of_decide_eq_true (by first | (with_reducible assumption) | assumption); have q105 : x10_1 < (l2.length : Int) := of_decide_eq_true (by first | (with_reducible assumption) | assumption); obtain ⟨ad105, e105, hx105_0⟩ := Kd.at_int HR2.out x10_1 p105 q105; obtain rfl : ad103 = ad105 := (by injection e105); replace p105 := eq_true p105; replace q105 := eq_true q105)); try go_wp2_with (first | (go_at_call 89; (with_reducible refine (deflate_alike.calls kj3 a0 a1 (rd l2 x10_1) t104 _ A11.out).mono ?_); rintro e w' ⟨rfl, ⟨nd, rfl⟩⟩; (try first | exact ⟨rfl, _, World.drewN_drewN _ _ _⟩ | exact ⟨rfl, _, Eq.trans (World.drewN_drewN _ _ _) (congrArg (World.drewN _) (Nat.add_assoc _ _ _))⟩); have p105 : 0 ≤ (x10_1 : Int) := of_decide_eq_true (by first | (with_reducible assumption) | assumption); have q105 : x10_1 < (l2.length : Int) := of_decide_eq_true (by first | (with_reducible assumption) | assumption); obtain ⟨ad105, e105, hx105_0⟩ := Kd.at_int HR2.out x10_1 p105 q105; obtain rfl : ad103 = ad105 := (by injection e105); replace p105 := eq_true p105; replace q105 := eq_true q105)))
                      go_ret2
                      exact ⟨by first | rfl | (simp; done) | (simp [*]; done), by repeat (first | exact Drawn0.refl _ | apply Drawn0.step)⟩
                  · rw [if_neg c13] at H
                    have c13b0 : (t104 == 258) = false := beq_eq_false_iff_ne.mpr c13
                    have c13b1 : (t104 != 258) = true := bne_iff_ne.mpr c13
                    by_cases c15 : (wrap64 (a1 + t104)) = (a0.size : Int)
                    · rw [if_pos c15] at H
                      have c15b0 : ((wrap64 (a1 + t104)) == (a0.size : Int)) = true := beq_iff_eq.mpr c15
                      have c15b1 : ((wrap64 (a1 + t104)) != (a0.size : Int)) = false := bne_eq_false_iff_eq.mpr c15
                      clear c15
                      by_cases c16 : t104 < 3
                      · rw [if_pos c16] at H
                        have c16b0 : decide (t104 < 3) = true := decide_eq_true c16
                        clear c16
                        simp only [Option.some.injEq, Prod.mk.injEq] at H
                        obtain ⟨rfl, rfl⟩ := H
                        have p103 : 0 ≤ (x10_1 : Int) := of_decide_eq_true (by first | (with_reducible assumption) | assumption)
                        have q103 : x10_1 < (l2.length : Int) := of_decide_eq_true (by first | (with_reducible assumption) | assumption)
                        obtain ⟨ad103, e103, hx103_0⟩ := Kd.at_int HR2.out x10_1 p103 q103
                        cases e103
                        replace p103 := eq_true p103
                        replace q103 := eq_true q103
                        go_wp2_with (first | (go_at_call 89; (with_reducible refine (deflate_alike.calls kj3 a0 a1 (rd l2 x10_1) t104 _ A11.out).mono ?_); rintro e w' ⟨rfl, ⟨nd, rfl⟩⟩; (try first | exact ⟨rfl, _, World.drewN_drewN _ _ _⟩ | exact ⟨rfl, _, Eq.trans (World.drewN_drewN _ _ _) (congrArg (World.drewN _) (Nat.add_assoc _ _ _))⟩); have p105 : 0 ≤ (x10_1 : Int) := of_decide_eq_true (by first | (with_reducible assumption) | assumption); have q105 : x10_1 < (l2.length : Int) := of_decide_eq_true (by first | (with_reducible assumption) | assumption); obtain ⟨ad105, e105, hx105_0⟩ := Kd.at_int HR2.out x10_1 p105 q105; obtain rfl : ad103 = ad105 := (by injection e105); replace p105 := eq_true p105; replace q105 := eq_true q105))
                        repeat (go_quiet (first | (go_at_call 89; (with_reducible refine (deflate_alike.calls kj3 a0 a1 (rd l2 x10_1) t104 _ A11.out).mono ?_); rintro e w' ⟨rfl, ⟨nd, rfl⟩⟩; (try first | exact ⟨rfl, _, World.drewN_drewN _ _ _⟩ | exact ⟨rfl, _, Eq.trans (World.drewN_drewN _ _ _) (congrArg (World.drewN _) (Nat.add_assoc _ _ _))⟩); have p105 : 0 ≤ (x10_1 : Int) := of_decide_eq_true (by first | (with_reducible assumption) | assumption); have q105 : x10_1 < (l2.length : Int) := of_decide_eq_true (by first | (with_reducible assumption) | assumption); obtain ⟨ad105, e105, hx105_0⟩ := Kd.at_int HR2.out x10_1 p105 q105; obtain rfl : ad103 = ad105 := (by injection e105); replace p105 := eq_true p105; replace q105 := eq_true q105)); try go_wp2_with (first | (go_at_call 89; (with_reducible refine (deflate_alike.calls kj3 a0 a1 (rd l2 x10_1) t104 _ A11.out).mono ?_); rintro e w' ⟨rfl, ⟨nd, rfl⟩⟩; (try first | exact ⟨rfl, _, World.drewN_drewN _ _ _⟩ | exact ⟨rfl, _, Eq.trans (World.drewN_drewN _ _ _) (congrArg (World.drewN _) (Nat.add_assoc _ _ _))⟩); have p105 : 0 ≤ (x10_1 : Int) := of_decide_eq_true (by first | (with_reducible assumption) | assumption); have q105 : x10_1 < (l2.length : Int) := of_decide_eq_true (by first | (with_reducible assumption) | assumption); obtain ⟨ad105, e105, hx105_0⟩ := Kd.at_int HR2.out x10_1 p105 q105; obtain rfl : ad103 = ad105 := (by injection e105); replace p105 := eq_true p105; replace q105 := eq_true q105)))
                        go_ret2
                        exact ⟨by first | rfl | (simp; done) | (simp [*]; done), by repeat (first | exact Drawn0.refl _ | apply Drawn0.step)⟩
                      · rw [if_neg c16] at H
                        have c16b0 : decide (t104 < 3) = false := decide_eq_false c16
                        clear c16
                        simp only [Option.some.injEq, Prod.mk.injEq] at H
                        obtain ⟨rfl, rfl⟩ := H
                        have p103 : 0 ≤ (x10_1 : Int) := of_decide_eq_true (by first | (with_reducible assumption) | assumption)
                        have q103 : x10_1 < (l2.length : Int) := of_decide_eq_true (by first | (with_reducible assumption) | assumption)
                        obtain ⟨ad103, e103, hx103_0⟩ := Kd.at_int HR2.out x10_1 p103 q103
                        cases e103
                        replace p103 := eq_true p103
                        replace q103 := eq_true q103
                        go_wp2_with (first | (go_at_call 89; (with_reducible refine (deflate_alike.calls kj3 a0 a1 (rd l2 x10_1) t104 _ A11.out).mono ?_); rintro e w' ⟨rfl, ⟨nd, rfl⟩⟩; (try first | exact ⟨rfl, _, World.drewN_drewN _ _ _⟩ | exact ⟨rfl, _, Eq.trans (World.drewN_drewN _ _ _) (congrArg (World.drewN _) (Nat.add_assoc _ _ _))⟩); have p105 : 0 ≤ (x10_1 : Int) := of_decide_eq_true (by first | (with_reducible assumption) | assumption); have q105 : x10_1 < (l2.length : Int) := of_decide_eq_true (by first | (with_reducible assumption) | assumption); obtain ⟨ad105, e105, hx105_0⟩ := Kd.at_int HR2.out x10_1 p105 q105; obtain rfl : ad103 = ad105 := (by injection e105); replace p105 := eq_true p105; replace q105 := eq_true q105))
                        repeat (go_quiet (first | (go_at_call 89; (with_reducible refine (deflate_alike.calls kj3 a0 a1 (rd l2 x10_1) t104 _ A11.out).mono ?_); rintro e w' ⟨rfl, ⟨nd, rfl⟩⟩; (try first | exact ⟨rfl, _, World.drewN_drewN _ _ _⟩ | exact ⟨rfl, _, Eq.trans (World.drewN_drewN _ _ _) (congrArg (World.drewN _) (Nat.add_assoc _ _ _))⟩); have p105 : 0 ≤ (x10_1 : Int) := of_decide_eq_true (by first | (with_reducible assumption) | assumption); have q105 : x10_1 < (l2.length : Int) := of_decide_eq_true (by first | (with_reducible assumption) | assumption); obtain ⟨ad105, e105, hx105_0⟩ := Kd.at_int HR2.out x10_1 p105 q105; obtain rfl : ad103 = ad105 := (by injection e105); replace p105 := eq_true p105; replace q105 := eq_true q105)); try go_wp2_with (first | (go_at_call 89; (with_reducible refine (deflate_alike.calls kj3 a0 a1 (rd l2 x10_1) t104 _ A11.out).mono ?_); rintro e w' ⟨rfl, ⟨nd, rfl⟩⟩; (try first | exact ⟨rfl, _, World.drewN_drewN _ _ _⟩ | exact ⟨rfl, _, Eq.trans (World.drewN_drewN _ _ _) (congrArg (World.drewN _) (Nat.add_assoc _ _ _))⟩); have p105 : 0 ≤ (x10_1 : Int) := of_decide_eq_true (by first | (with_reducible assumption) | assumption); have q105 : x10_1 < (l2.length : Int) := of_decide_eq_true (by first | (with_reducible assumption) | assumption); obtain ⟨ad105, e105, hx105_0⟩ := Kd.at_int HR2.out x10_1 p105 q105; obtain rfl : ad103 = ad105 := (by injection e105); replace p105 := eq_true p105; replace q105 := eq_true q105)))
                        go_ret2
                        exact ⟨by first | rfl | (simp; done) | (simp [*]; done), by repeat (first | exact Drawn0.refl _ | apply Drawn0.step)⟩
                    · rw [if_neg c15] at H
                      have c15b0 : ((wrap64 (a1 + t104)) == (a0.size : Int)) = false := beq_eq_false_iff_ne.mpr c15
                      have c15b1 : ((wrap64 (a1 + t104)) != (a0.size : Int)) = true := bne_iff_ne.mpr c15
                      have H' := Aside0.mk H
                      clear H
                      have p103 : 0 ≤ (x10_1 : Int) := of_decide_eq_true (by first | (with_reducible assumption) | assumption)
                      have q103 : x10_1 < (l2.length : Int) := of_decide_eq_true (by first | (with_reducible assumption) | assumption)
                      obtain ⟨ad103, e103, hx103_0⟩ := Kd.at_int HR2.out x10_1 p103 q103
                      cases e103
                      replace p103 := eq_true p103
                      replace q103 := eq_true q103
                      go_wp2_with (first | (go_at_call 89; (with_reducible refine (deflate_alike.calls kj3 a0 a1 (rd l2 x10_1) t104 _ A11.out).mono ?_); rintro e w' ⟨rfl, ⟨nd, rfl⟩⟩; (try first | exact ⟨rfl, _, World.drewN_drewN _ _ _⟩ | exact ⟨rfl, _, Eq.trans (World.drewN_drewN _ _ _) (congrArg (World.drewN _) (Nat.add_assoc _ _ _))⟩); have p105 : 0 ≤ (x10_1 : Int) := of_decide_eq_true (by first | (with_reducible assumption) | assumption); have q105 : x10_1 < (l2.length : Int) := of_decide_eq_true (by first | (with_reducible assumption) | assumption); obtain ⟨ad105, e105, hx105_0⟩ := Kd.at_int HR2.out x10_1 p105 q105; obtain rfl : ad103 = ad105 := (by injection e105); replace p105 := eq_true p105; replace q105 := eq_true q105))
                      repeat (go_quiet (first | (go_at_call 89; (with_reducible refine (deflate_alike.calls kj3 a0 a1 (rd l2 x10_1) t104 _ A11.out).mono ?_); rintro e w' ⟨rfl, ⟨nd, rfl⟩⟩; (try first | exact ⟨rfl, _, World.drewN_drewN _ _ _⟩ | exact ⟨rfl, _, Eq.trans (World.drewN_drewN _ _ _) (congrArg (World.drewN _) (Nat.add_assoc _ _ _))⟩); have p105 : 0 ≤ (x10_1 : Int) := of_decide_eq_true (by first | (with_reducible assumption) | assumption); have q105 : x10_1 < (l2.length : Int) := of_decide_eq_true (by first | (with_reducible assumption) | assumption); obtain ⟨ad105, e105, hx105_0⟩ := Kd.at_int HR2.out x10_1 p105 q105; obtain rfl : ad103 = ad105 := (by injection e105); replace p105 := eq_true p105; replace q105 := eq_true q105)); try go_wp2_with (first | (go_at_call 89; (with_reducible refine (deflate_alike.calls kj3 a0 a1 (rd l2 x10_1) t104 _ A11.out).mono ?_); rintro e w' ⟨rfl, ⟨nd, rfl⟩⟩; (try first | exact ⟨rfl, _, World.drewN_drewN _ _ _⟩ | exact ⟨rfl, _, Eq.trans (World.drewN_drewN _ _ _) (congrArg (World.drewN _) (Nat.add_assoc _ _ _))⟩); have p105 : 0 ≤ (x10_1 : Int) := of_decide_eq_true (by first | (with_reducible assumption) | assumption); have q105 : x10_1 < (l2.length : Int) := of_decide_eq_true (by first | (with_reducible assumption) | assumption); obtain ⟨ad105, e105, hx105_0⟩ := Kd.at_int HR2.out x10_1 p105 q105; obtain rfl : ad103 = ad105 := (by injection e105); replace p105 := eq_true p105; replace q105 := eq_true q105)))
                      go_roundg kj3
                      case measure => have := HK1.out; have := HJ3.out; omega
                      case rel => exact ⟨(t104), (wrap64 (a1 - (rd l2 x10_1))), (wrap64 (x10_1 - 1)), (by first | rfl | (simp; done) | (simp [*]; done)), (by first | rfl | (simp; done) | (simp [*]; done)), (by first | rfl | (simp; done) | (simp [*]; done)), H', ⟨by have := HK1.out; have := HJ3.out; omega⟩, by repeat (first | exact Drawn0.refl _ | apply Drawn0.step)⟩
                · rw [if_neg c12] at H
                  have c12b0 : decide (x8_1 < t104) = false := decide_eq_false c12
                  clear c12
                  by_cases c17 : x8_1 = 258
                  · rw [if_pos c17] at H
                    have c17b0 : (x8_1 == 258) = true := beq_iff_eq.mpr c17
                    have c17b1 : (x8_1 != 258) = false := bne_eq_false_iff_eq.mpr c17
                    clear c17
                    by_cases c18 : x8_1 < 3
                    · rw [if_pos c18] at H
                      have c18b0 : decide (x8_1 < 3) = true := decide_eq_true c18
                      clear c18
                      simp only [Option.some.injEq, Prod.mk.injEq] at H
                      obtain ⟨rfl, rfl⟩ := H
                      have p103 : 0 ≤ (x10_1 : Int) := of_decide_eq_true (by first | (with_reducible assumption) | assumption)
                      have q103 : x10_1 < (l2.length : Int) := of_decide_eq_true (by first | (with_reducible assumption) | assumption)
                      obtain ⟨ad103, e103, hx103_0⟩ := Kd.at_int HR2.out x10_1 p103 q103
                      cases e103
                      replace p103 := eq_true p103
                      replace q103 := eq_true q103
                      go_wp2_with (first | (go_at_call 89; (with_reducible refine (deflate_alike.calls kj3 a0 a1 (rd l2 x10_1) t104 _ A11.out).mono ?_); rintro e w' ⟨rfl, ⟨nd, rfl⟩⟩; (try first | exact ⟨rfl, _, World.drewN_drewN _ _ _⟩ | exact ⟨rfl, _, Eq.trans (World.drewN_drewN _ _ _) (congrArg (World.drewN _) (Nat.add_assoc _ _ _))⟩)))
                      repeat (go_quiet (first | (go_at_call 89; (with_reducible refine (deflate_alike.calls kj3 a0 a1 (rd l2 x10_1) t104 _ A11.out).mono ?_); rintro e w' ⟨rfl, ⟨nd, rfl⟩⟩; (try first | exact ⟨rfl, _, World.drewN_drewN _ _ _⟩ | exact ⟨rfl, _, Eq.trans (World.drewN_drewN _ _ _) (congrArg (World.drewN _) (Nat.add_assoc _ _ _))⟩))); try go_wp2_with (first | (go_at_call 89; (with_reducible refine (deflate_alike.calls kj3 a0 a1 (rd l2 x10_1) t104 _ A11.out).mono ?_); rintro e w' ⟨rfl, ⟨nd, rfl⟩⟩; (try first | exact ⟨rfl, _, World.drewN_drewN _ _ _⟩ | exact ⟨rfl, _, Eq.trans (World.drewN_drewN _ _ _) (congrArg (World.drewN _) (Nat.add_assoc _ _ _))⟩))))
                      go_ret2
                      exact ⟨by first | rfl | (simp; done) | (simp [*]; done), by repeat (first | exact Drawn0.refl _ | apply Drawn0.step)⟩
                    · rw [if_neg c18] at H
                      have c18b0 : decide (x8_1 < 3) = false := decide_eq_false c18
                      clear c18
                      simp only [Option.some.injEq, Prod.mk.injEq] at H
                      obtain ⟨rfl, rfl⟩ := H
                      have p103 : 0 ≤ (x10_1 : Int) := of_decide_eq_true (by first | (with_reducible assumption) | assumption)
                      have q103 : x10_1 < (l2.length : Int) := of_decide_eq_true (by first | (with_reducible assumption) | assumption)
                      obtain ⟨ad103, e103, hx103_0⟩ := Kd.at_int HR2.out x10_1 p103 q103
                      cases e103
                      replace p103 := eq_true p103
                      replace q103 := eq_true q103
                      go_wp2_with (first | (go_at_call 89; (with_reducible refine (deflate_alike.calls kj3 a0 a1 (rd l2 x10_1) t104 _ A11.out).mono ?_); rintro e w' ⟨rfl, ⟨nd, rfl⟩⟩; (try first | exact ⟨rfl, _, World.drewN_drewN _ _ _⟩ | exact ⟨rfl, _, Eq.trans (World.drewN_drewN _ _ _) (congrArg (World.drewN _) (Nat.add_assoc _ _ _))⟩)))
                      repeat (go_quiet (first | (go_at_call 89; (with_reducible refine (deflate_alike.calls kj3 a0 a1 (rd l2 x10_1) t104 _ A11.out).mono ?_); rintro e w' ⟨rfl, ⟨nd, rfl⟩⟩; (try first | exact ⟨rfl, _, World.drewN_drewN _ _ _⟩ | exact ⟨rfl, _, Eq.trans (World.drewN_drewN _ _ _) (congrArg (World.drewN _) (Nat.add_assoc _ _ _))⟩))); try go_wp2_with (first | (go_at_call 89; (with_reducible refine (deflate_alike.calls kj3 a0 a1 (rd l2 x10_1) t104 _ A11.out).mono ?_); rintro e w' ⟨rfl, ⟨nd, rfl⟩⟩; (try first | exact ⟨rfl, _, World.drewN_drewN _ _ _⟩ | exact ⟨rfl, _, Eq.trans (World.drewN_drewN _ _ _) (congrArg (World.drewN _) (Nat.add_assoc _ _ _))⟩))))
                      go_ret2
                      exact ⟨by first | rfl | (simp; done) | (simp [*]; done), by repeat (first | exact Drawn0.refl _ | apply Drawn0.step)⟩
                  · rw [if_neg c17] at H
                    have c17b0 : (x8_1 == 258) = false := beq_eq_false_iff_ne.mpr c17
                    have c17b1 : (x8_1 != 258) = true := bne_iff_ne.mpr c17
                    by_cases c19 : (wrap64 (a1 + x8_1)) = (a0.size : Int)
                    · rw [if_pos c19] at H
                      have c19b0 : ((wrap64 (a1 + x8_1)) == (a0.size : Int)) = true := beq_iff_eq.mpr c19
                      have c19b1 : ((wrap64 (a1 + x8_1)) != (a0.size : Int)) = false := bne_eq_false_iff_eq.mpr c19
                      clear c19
                      by_cases c20 : x8_1 < 3
                      · rw [if_pos c20] at H
                        have c20b0 : decide (x8_1 < 3) = true := decide_eq_true c20
                        clear c20
                        simp only [Option.some.injEq, Prod.mk.injEq] at H
                        obtain ⟨rfl, rfl⟩ := H
                        have p103 : 0 ≤ (x10_1 : Int) := of_decide_eq_true (by first | (with_reducible assumption) | assumption)
                        have q103 : x10_1 < (l2.length : Int) := of_decide_eq_true (by first | (with_reducible assumption) | assumption)
                        obtain ⟨ad103, e103, hx103_0⟩ := Kd.at_int HR2.out x10_1 p103 q103
                        cases e103
                        replace p103 := eq_true p103
                        replace q103 := eq_true q103
                        go_wp2_with (first | (go_at_call 89; (with_reducible refine (deflate_alike.calls kj3 a0 a1 (rd l2 x10_1) t104 _ A11.out).mono ?_); rintro e w' ⟨rfl, ⟨nd, rfl⟩⟩; (try first | exact ⟨rfl, _, World.drewN_drewN _ _ _⟩ | exact ⟨rfl, _, Eq.trans (World.drewN_drewN _ _ _) (congrArg (World.drewN _) (Nat.add_assoc _ _ _))⟩)))
                        repeat (go_quiet (first | (go_at_call 89; (with_reducible refine (deflate_alike.calls kj3 a0 a1 (rd l2 x10_1) t104 _ A11.out).mono ?_); rintro e w' ⟨rfl, ⟨nd, rfl⟩⟩; (try first | exact ⟨rfl, _, World.drewN_drewN _ _ _⟩ | exact ⟨rfl, _, Eq.trans (World.drewN_drewN _ _ _) (congrArg (World.drewN _) (Nat.add_assoc _ _ _))⟩))); try go_wp2_with (first | (go_at_call 89; (with_reducible refine (deflate_alike.calls kj3 a0 a1 (rd l2 x10_1) t104 _ A11.out).mono ?_); rintro e w' ⟨rfl, ⟨nd, rfl⟩⟩; (try first | exact ⟨rfl, _, World.drewN_drewN _ _ _⟩ | exact ⟨rfl, _, Eq.trans (World.drewN_drewN _ _ _) (congrArg (World.drewN _) (Nat.add_assoc _ _ _))⟩))))
                        go_ret2
                        exact ⟨by first | rfl | (simp; done) | (simp [*]; done), by repeat (first | exact Drawn0.refl _ | apply Drawn0.step)⟩
                      · rw [if_neg c20] at H
                        have c20b0 : decide (x8_1 < 3) = false := decide_eq_false c20
                        clear c20
                        simp only [Option.some.injEq, Prod.mk.injEq] at H
                        obtain ⟨rfl, rfl⟩ := H
                        have p103 : 0 ≤ (x10_1 : Int) := of_decide_eq_true (by first | (with_reducible assumption) | assumption)
                        have q103 : x10_1 < (l2.length : Int) := of_decide_eq_true (by first | (with_reducible assumption) | assumption)
                        obtain ⟨ad103, e103, hx103_0⟩ := Kd.at_int HR2.out x10_1 p103 q103
                        cases e103
                        replace p103 := eq_true p103
                        replace q103 := eq_true q103
                        go_wp2_with (first | (go_at_call 89; (with_reducible refine (deflate_alike.calls kj3 a0 a1 (rd l2 x10_1) t104 _ A11.out).mono ?_); rintro e w' ⟨rfl, ⟨nd, rfl⟩⟩; (try first | exact ⟨rfl, _, World.drewN_drewN _ _ _⟩ | exact ⟨rfl, _, Eq.trans (World.drewN_drewN _ _ _) (congrArg (World.drewN _) (Nat.add_assoc _ _ _))⟩)))
                        repeat (go_quiet (first | (go_at_call 89; (with_reducible refine (deflate_alike.calls kj3 a0 a1 (rd l2 x10_1) t104 _ A11.out).mono ?_); rintro e w' ⟨rfl, ⟨nd, rfl⟩⟩; (try first | exact ⟨rfl, _, World.drewN_drewN _ _ _⟩ | exact ⟨rfl, _, Eq.trans (World.drewN_drewN _ _ _) (congrArg (World.drewN _) (Nat.add_assoc _ _ _))⟩))); try go_wp2_with (first | (go_at_call 89; (with_reducible refine (deflate_alike.calls kj3 a0 a1 (rd l2 x10_1) t104 _ A11.out).mono ?_); rintro e w' ⟨rfl, ⟨nd, rfl⟩⟩; (try first | exact ⟨rfl, _, World.drewN_drewN _ _ _⟩ | exact ⟨rfl, _, Eq.trans (World.drewN_drewN _ _ _) (congrArg (World.drewN _) (Nat.add_assoc _ _ _))⟩))))
                        go_ret2
                        exact ⟨by first | rfl | (simp; done) | (simp [*]; done), by repeat (first | exact Drawn0.refl _ | apply Drawn0.step)⟩
                    · rw [if_neg c19] at H
                      have c19b0 : ((wrap64 (a1 + x8_1)) == (a0.size : Int)) = false := beq_eq_false_iff_ne.mpr c19
                      have c19b1 : ((wrap64 (a1 + x8_1)) != (a0.size : Int)) = true := bne_iff_ne.mpr c19
                      have H' := Aside0.mk H
                      clear H
                      have p103 : 0 ≤ (x10_1 : Int) := of_decide_eq_true (by first | (with_reducible assumption) | assumption)
                      have q103 : x10_1 < (l2.length : Int) := of_decide_eq_true (by first | (with_reducible assumption) | assumption)
                      obtain ⟨ad103, e103, hx103_0⟩ := Kd.at_int HR2.out x10_1 p103 q103
                      cases e103
                      replace p103 := eq_true p103
                      replace q103 := eq_true q103
                      go_wp2_with (first | (go_at_call 89; (with_reducible refine (deflate_alike.calls kj3 a0 a1 (rd l2 x10_1) t104 _ A11.out).mono ?_); rintro e w' ⟨rfl, ⟨nd, rfl⟩⟩; (try first | exact ⟨rfl, _, World.drewN_drewN _ _ _⟩ | exact ⟨rfl, _, Eq.trans (World.drewN_drewN _ _ _) (congrArg (World.drewN _) (Nat.add_assoc _ _ _))⟩)))
                      repeat (go_quiet (first | (go_at_call 89; (with_reducible refine (deflate_alike.calls kj3 a0 a1 (rd l2 x10_1) t104 _ A11.out).mono ?_); rintro e w' ⟨rfl, ⟨nd, rfl⟩⟩; (try first | exact ⟨rfl, _, World.drewN_drewN _ _ _⟩ | exact ⟨rfl, _, Eq.trans (World.drewN_drewN _ _ _) (congrArg (World.drewN _) (Nat.add_assoc _ _ _))⟩))); try go_wp2_with (first | (go_at_call 89; (with_reducible refine (deflate_alike.calls kj3 a0 a1 (rd l2 x10_1) t104 _ A11.out).mono ?_); rintro e w' ⟨rfl, ⟨nd, rfl⟩⟩; (try first | exact ⟨rfl, _, World.drewN_drewN _ _ _⟩ | exact ⟨rfl, _, Eq.trans (World.drewN_drewN _ _ _) (congrArg (World.drewN _) (Nat.add_assoc _ _ _))⟩))))
                      go_roundg kj3
                      case measure => have := HK1.out; have := HJ3.out; omega
                      case rel => exact ⟨(x8_1), (x9_1), (wrap64 (x10_1 - 1)), (by first | rfl | (simp; done) | (simp [*]; done)), (by first | rfl | (simp; done) | (simp [*]; done)), (by first | rfl | (simp; done) | (simp [*]; done)), H', ⟨by have := HK1.out; have := HJ3.out; omega⟩, by repeat (first | exact Drawn0.refl _ | apply Drawn0.step)⟩
              · rw [if_neg c10] at H
                exact absurd H (by simp)
            · rw [if_neg c9] at H
              exact absurd H (by simp)
          · replace c8 := Bool.eq_false_iff.mpr c8
            subst c8
            have H1 : (if x8_1 < 3 then (some (0, 0)) else (some (x8_1, x9_1))) = some (r1, r2) := by rw [if_neg (show ¬ (false = true) by decide)] at H; exact H
            clear H
            have H := H1
            clear H1
            by_cases c21 : x8_1 < 3
            · rw [if_pos c21] at H
              have c21b0 : decide (x8_1 < 3) = true := decide_eq_true c21
              clear c21
              simp only [Option.some.injEq, Prod.mk.injEq] at H
              obtain ⟨rfl, rfl⟩ := H
              go_wp2
              repeat (go_quiet (fail); try go_wp2)
              go_ret2
              exact ⟨by first | rfl | (simp; done) | (simp [*]; done), by repeat (first | exact Drawn0.refl _ | apply Drawn0.step)⟩
            · rw [if_neg c21] at H
              have c21b0 : decide (x8_1 < 3) = false := decide_eq_false c21
              clear c21
              simp only [Option.some.injEq, Prod.mk.injEq] at H
              obtain ⟨rfl, rfl⟩ := H
              go_wp2
              repeat (go_quiet (fail); try go_wp2)
              go_ret2
              exact ⟨by first | rfl | (simp; done) | (simp [*]; done), by repeat (first | exact Drawn0.refl _ | apply Drawn0.step)⟩
end Go.Proofs.Ytpbhkdamkbopkaa.GRuns
namespace Go.Proofs.Ytpbhkdamkbopkaa.GRuns
open Go.RowKit Go.Proofs.YtpbhkdamkbopkaaW.PrintWords Go.Proofs.YtpbhkdamkbopkaaW.PrintLast Go.Proofs.YtpbhkdamkbopkaaW.PrintMore Go.Proofs.Ytpbhkdamkbopkaa.Wr0
attribute [local go_sem] max2_int min2_int max_two min_two max_three min_three max_four min_four
set_option linter.unusedVariables false
set_option linter.unusedSimpArgs false
attribute [local go_sem high] eqA97
def deflate_lengthOf.f (a0 : Int) : Option (Int × Int) := if (wrap64 (a0 - 257)) < 8 then (some (wrap64 ((wrap64 (a0 - 257)) + 3), 0)) else (if 0 ≤ (wrap64 ((wrap64 (Int.tdiv (wrap64 (a0 - 257)) 4)) - 1)) then (some (wrap64 ((shl .i64 (wrap64 (4 + (Int.tmod (wrap64 (a0 - 257)) 4))) (wrap64 ((wrap64 (Int.tdiv (wrap64 (a0 - 257)) 4)) - 1))) + 3), wrap64 ((wrap64 (Int.tdiv (wrap64 (a0 - 257)) 4)) - 1))) else (none))
set_option maxHeartbeats 8000000 in
set_option maxRecDepth 100000 in
theorem deflate_lengthOf.calls (a0 : Int) (r1 : Int) (r2 : Int) (w : World) (h : deflate_lengthOf.f a0 = some (r1, r2)) :
    Calls Try.prog 91 #[.int .i64 a0] w fun e w' => e = .returned (.tuple #[.int .i64 r1, .int .i64 r2]) ∧ Drawn0 w w' := by
  have H : (if (wrap64 (a0 - 257)) < 8 then (some (wrap64 ((wrap64 (a0 - 257)) + 3), 0)) else (if 0 ≤ (wrap64 ((wrap64 (Int.tdiv (wrap64 (a0 - 257)) 4)) - 1)) then (some (wrap64 ((shl .i64 (wrap64 (4 + (Int.tmod (wrap64 (a0 - 257)) 4))) (wrap64 ((wrap64 (Int.tdiv (wrap64 (a0 - 257)) 4)) - 1))) + 3), wrap64 ((wrap64 (Int.tdiv (wrap64 (a0 - 257)) 4)) - 1))) else (none))) = some (r1, r2) := h
  clear h
  by_cases c2 : (wrap64 (a0 - 257)) < 8
  · rw [if_pos c2] at H
    have c2b0 : decide ((wrap64 (a0 - 257)) < 8) = true := decide_eq_true c2
    clear c2
    simp only [Option.some.injEq, Prod.mk.injEq] at H
    obtain ⟨rfl, rfl⟩ := H
    go_enter Try.func91, Try.ntmps91
    go_wp2
    go_ret2
    exact ⟨by first | rfl | (simp; done) | (simp [*]; done), by repeat (first | exact Drawn0.refl _ | apply Drawn0.step)⟩
  · rw [if_neg c2] at H
    have c2b0 : decide ((wrap64 (a0 - 257)) < 8) = false := decide_eq_false c2
    clear c2
    obtain ⟨ji3, hji3⟩ : ∃ j_ : Int, (wrap64 ((wrap64 (Int.tdiv (wrap64 (a0 - 257)) 4)) - 1)) = j_ := ⟨_, rfl⟩
    replace H : (if 0 ≤ (ji3) then (some (wrap64 ((shl .i64 (wrap64 (4 + (Int.tmod (wrap64 (a0 - 257)) 4))) (ji3)) + 3), ji3)) else (none)) = some (r1, r2) := by first | (rw [hji3] at H; exact H) | (simp only [hji3] at H ⊢; exact H)
    have hji3w : (IntKind.i64.wrap ((wrap64 (Int.tdiv (wrap64 (a0 - 257)) 4)) - 1)) = ji3 := (i64_w _).trans hji3
    by_cases c4 : 0 ≤ (ji3)
    · rw [if_pos c4] at H
      have c4b0 := eq_true c4
      have c4b1 : decide (0 ≤ (ji3)) = true := decide_eq_true c4
      clear c4
      obtain ⟨ji5, hji5⟩ : ∃ j_ : Int, (shl .i64 (wrap64 (4 + (Int.tmod (wrap64 (a0 - 257)) 4))) (ji3)) = j_ := ⟨_, rfl⟩
      replace H : (some (wrap64 ((ji5) + 3), ji3)) = some (r1, r2) := by first | (rw [hji5] at H; exact H) | (simp only [hji5] at H ⊢; exact H)
      have hji5_ : (IntKind.i64.wrap ((wrap64 (4 + (Int.tmod (wrap64 (a0 - 257)) 4))) * 2 ^ min (ji3).toNat 64)) = ji5 := hji5
      have hji5z : (ji3) ≤ 64 → (IntKind.i64.wrap ((wrap64 (4 + (Int.tmod (wrap64 (a0 - 257)) 4))) * 2 ^ (ji3).toNat)) = ji5 := shl_small hji5
      have hji5y : (wrap64 ((wrap64 (4 + (Int.tmod (wrap64 (a0 - 257)) 4))) * 2 ^ min (ji3).toNat 64)) = ji5 := (i64_w _).symm.trans hji5_
      have hji5x : (ji3) ≤ 64 → (wrap64 ((wrap64 (4 + (Int.tmod (wrap64 (a0 - 257)) 4))) * 2 ^ (ji3).toNat)) = ji5 := fun h_ => (i64_w _).symm.trans (hji5z h_)
      simp only [Option.some.injEq, Prod.mk.injEq] at H
      obtain ⟨rfl, rfl⟩ := H
      go_enter Try.func91, Try.ntmps91
      go_wp2
      go_ret2
      exact ⟨by first | rfl | (simp; done) | (simp only [← hji3, ← hji5] <;> (first | rfl | simp)) | (simp [*]; done), by repeat (first | exact Drawn0.refl _ | apply Drawn0.step)⟩
    · rw [if_neg c4] at H
      exact absurd H (by simp)
def deflate_distanceOf.f (a0 : Int) : Option (Int × Int) := if a0 < 4 then (some (wrap64 (a0 + 1), 0)) else (if 0 ≤ (wrap64 ((wrap64 (Int.tdiv a0 2)) - 1)) then (some (wrap64 ((shl .i64 (wrap64 (2 + (Int.tmod a0 2))) (wrap64 ((wrap64 (Int.tdiv a0 2)) - 1))) + 1), wrap64 ((wrap64 (Int.tdiv a0 2)) - 1))) else (none))
set_option maxHeartbeats 8000000 in
set_option maxRecDepth 100000 in
theorem deflate_distanceOf.calls (a0 : Int) (r1 : Int) (r2 : Int) (w : World) (h : deflate_distanceOf.f a0 = some (r1, r2)) :
    Calls Try.prog 92 #[.int .i64 a0] w fun e w' => e = .returned (.tuple #[.int .i64 r1, .int .i64 r2]) ∧ Drawn0 w w' := by
  have H : (if a0 < 4 then (some (wrap64 (a0 + 1), 0)) else (if 0 ≤ (wrap64 ((wrap64 (Int.tdiv a0 2)) - 1)) then (some (wrap64 ((shl .i64 (wrap64 (2 + (Int.tmod a0 2))) (wrap64 ((wrap64 (Int.tdiv a0 2)) - 1))) + 1), wrap64 ((wrap64 (Int.tdiv a0 2)) - 1))) else (none))) = some (r1, r2) := h
  clear h
  by_cases c2 : a0 < 4
  · rw [if_pos c2] at H
    have c2b0 : decide (a0 < 4) = true := decide_eq_true c2
    clear c2
    simp only [Option.some.injEq, Prod.mk.injEq] at H
    obtain ⟨rfl, rfl⟩ := H
    go_enter Try.func92, Try.ntmps92
    go_wp2
    go_ret2
    exact ⟨by first | rfl | (simp; done) | (simp [*]; done), by repeat (first | exact Drawn0.refl _ | apply Drawn0.step)⟩
  · rw [if_neg c2] at H
    have c2b0 : decide (a0 < 4) = false := decide_eq_false c2
    clear c2
    obtain ⟨ji3, hji3⟩ : ∃ j_ : Int, (wrap64 ((wrap64 (Int.tdiv a0 2)) - 1)) = j_ := ⟨_, rfl⟩
    replace H : (if 0 ≤ (ji3) then (some (wrap64 ((shl .i64 (wrap64 (2 + (Int.tmod a0 2))) (ji3)) + 1), ji3)) else (none)) = some (r1, r2) := by first | (rw [hji3] at H; exact H) | (simp only [hji3] at H ⊢; exact H)
    have hji3w : (IntKind.i64.wrap ((wrap64 (Int.tdiv a0 2)) - 1)) = ji3 := (i64_w _).trans hji3
    by_cases c4 : 0 ≤ (ji3)
    · rw [if_pos c4] at H
      have c4b0 := eq_true c4
      have c4b1 : decide (0 ≤ (ji3)) = true := decide_eq_true c4
      clear c4
      obtain ⟨ji5, hji5⟩ : ∃ j_ : Int, (shl .i64 (wrap64 (2 + (Int.tmod a0 2))) (ji3)) = j_ := ⟨_, rfl⟩
      replace H : (some (wrap64 ((ji5) + 1), ji3)) = some (r1, r2) := by first | (rw [hji5] at H; exact H) | (simp only [hji5] at H ⊢; exact H)
      have hji5_ : (IntKind.i64.wrap ((wrap64 (2 + (Int.tmod a0 2))) * 2 ^ min (ji3).toNat 64)) = ji5 := hji5
      have hji5z : (ji3) ≤ 64 → (IntKind.i64.wrap ((wrap64 (2 + (Int.tmod a0 2))) * 2 ^ (ji3).toNat)) = ji5 := shl_small hji5
      have hji5y : (wrap64 ((wrap64 (2 + (Int.tmod a0 2))) * 2 ^ min (ji3).toNat 64)) = ji5 := (i64_w _).symm.trans hji5_
      have hji5x : (ji3) ≤ 64 → (wrap64 ((wrap64 (2 + (Int.tmod a0 2))) * 2 ^ (ji3).toNat)) = ji5 := fun h_ => (i64_w _).symm.trans (hji5z h_)
      simp only [Option.some.injEq, Prod.mk.injEq] at H
      obtain ⟨rfl, rfl⟩ := H
      go_enter Try.func92, Try.ntmps92
      go_wp2
      go_ret2
      exact ⟨by first | rfl | (simp; done) | (simp only [← hji3, ← hji5] <;> (first | rfl | simp)) | (simp [*]; done), by repeat (first | exact Drawn0.refl _ | apply Drawn0.step)⟩
    · rw [if_neg c4] at H
      exact absurd H (by simp)
end Go.Proofs.Ytpbhkdamkbopkaa.GRuns
namespace Go.Proofs.Ytpbhkdamkbopkaa.Wr
set_option linter.unusedSimpArgs false
set_option linter.unusedVariables false
open Go.RowKit Go.Proofs.YtpbhkdamkbopkaaW.PrintWords Go.Proofs.YtpbhkdamkbopkaaW.PrintLast Go.Proofs.YtpbhkdamkbopkaaW.PrintMore
open Go.Proofs.Ytpbhkdamkbopkaa.GRuns (deflate_lengthOf.f deflate_lengthOf.calls deflate_distanceOf.f deflate_distanceOf.calls)
/-- The least length and the bits of a length symbol, by its number behind 257. -/
def lof (k : Nat) : Int × Int := (deflate_lengthOf.f (257 + (k : Int))).getD (0, 0)
/-- The same of a distance symbol. -/
def dof (k : Nat) : Int × Int := (deflate_distanceOf.f (k : Int)).getD (0, 0)
theorem lof_all : ∀ k : Nat, k < 28 → deflate_lengthOf.f (257 + (k : Int)) = some (lof k) ∧ 3 ≤ (lof k).1 ∧ (lof k).1 ≤ 258 ∧ 0 ≤ (lof k).2 ∧ (lof k).2 ≤ 5 := by decide +kernel
theorem dof_all : ∀ k : Nat, k < 30 → deflate_distanceOf.f (k : Int) = some (dof k) ∧ 1 ≤ (dof k).1 ∧ (dof k).1 ≤ 32768 ∧ 0 ≤ (dof k).2 ∧ (dof k).2 ≤ 13 := by decide +kernel
/-- The last symbol, among the first k, whose least length is no more than n. -/
def lf (n : Int) : Nat → Int × Int × Int
  | 0 => (257, 3, 0)
  | k + 1 => if (lof k).1 ≤ n then (257 + (k : Int), lof k) else lf n k
def df (n : Int) : Nat → Int × Int × Int
  | 0 => (0, 1, 0)
  | k + 1 => if (dof k).1 ≤ n then ((k : Int), dof k) else df n k
theorem lf_rng {n : Int} (hn : 3 ≤ n) : ∀ k, k ≤ 28 → 257 ≤ (lf n k).1 ∧ (lf n k).1 ≤ 284 ∧ (lf n k).2.1 ≤ n ∧ 3 ≤ (lf n k).2.1 ∧ 0 ≤ (lf n k).2.2 ∧ (lf n k).2.2 ≤ 5 := by
  intro k
  induction k with
  | zero => intro _; simp only [lf, df]; omega
  | succ k ih =>
    intro hk
    obtain ⟨_, h1, h2, h3, h4⟩ := lof_all k (by omega)
    unfold lf
    split
    · simp only
      omega
    · exact ih (by omega)
theorem df_rng {n : Int} (hn : 1 ≤ n) : ∀ k, k ≤ 30 → 0 ≤ (df n k).1 ∧ (df n k).1 ≤ 29 ∧ (df n k).2.1 ≤ n ∧ 1 ≤ (df n k).2.1 ∧ 0 ≤ (df n k).2.2 ∧ (df n k).2.2 ≤ 13 := by
  intro k
  induction k with
  | zero => intro _; simp only [lf, df]; omega
  | succ k ih =>
    intro hk
    obtain ⟨_, h1, h2, h3, h4⟩ := dof_all k (by omega)
    unfold df
    split
    · simp only
      omega
    · exact ih (by omega)
/-- The symbol of a length. -/
def lsym (n : Int) : Int × Int × Int := if n = 258 then (285, 258, 0) else lf n 28
def dsym (n : Int) : Int × Int × Int := df n 30
theorem lsym_rng {n : Int} (hn : 3 ≤ n) : 257 ≤ (lsym n).1 ∧ (lsym n).1 ≤ 285 ∧ (lsym n).2.1 ≤ n ∧ 3 ≤ (lsym n).2.1 ∧ 0 ≤ (lsym n).2.2 ∧ (lsym n).2.2 ≤ 5 := by
  unfold lsym
  split
  · simp only; omega
  · have := lf_rng hn 28 (Nat.le_refl _); omega
/-- A run's bits. -/
def rc (n far : Int) : List Int := sc (lsym n).1 ++ nb (n - (lsym n).2.1) (lsym n).2.2.toNat ++ cb (dsym far).1 5 ++ nb (far - (dsym far).2.1) (dsym far).2.2.toNat
theorem rc_bits (n far : Int) : Bits (rc n far) := (((sc_bits _).append (nb_bits _ _)).append (cb_bits _ _)).append (nb_bits _ _)
theorem Fro.draw {w w1 w2 : World} {g : Nat} {v v1 : Value} (h : Fro w g v w1 v1) (hd : Drawn0 w1 w2) : Fro w g v w2 v1 := by
  obtain ⟨n, rfl⟩ := hd.out
  exact ⟨keep_drewN h.keep n, h.own⟩
theorem bits_zero (w0 : World) (g : Nat) (v0 : Value) (B : List Int) (v : Int) (w : World) (h : WSt w0 g v0 (pk B) (fr B.length) w) (hB : Bits B) (hv0 : 0 ≤ v) (hv1 : v ≤ 1000000) (hl : B.length ≤ 1000000000) :
    Calls Try.prog 63 #[.pointer (some ⟨g, 0, none⟩), .int .i64 v, .int .i64 0] w fun e w' => ∃ v1, e = .returned (.tuple #[]) ∧ WSt w0 g v1 (pk (B ++ nb v 0)) (fr (B ++ nb v 0).length) w' ∧ Fro w g v0 w' v1 :=
  bits_calls w0 g v0 B v 0 w h hB hv0 hv1 (by decide) hl
theorem code_five (w0 : World) (g : Nat) (v0 : Value) (B : List Int) (v : Int) (w : World) (h : WSt w0 g v0 (pk B) (fr B.length) w) (hB : Bits B) (hv0 : 0 ≤ v) (hv1 : v ≤ 1000000) (hl : B.length ≤ 1000000000 - 16) :
    Calls Try.prog 90 #[.pointer (some ⟨g, 0, none⟩), .int .i64 v, .int .i64 5] w fun e w' => ∃ v1, e = .returned (.tuple #[]) ∧ WSt w0 g v1 (pk (B ++ cb v 5)) (fr (B ++ cb v 5).length) w' ∧ Fro w g v0 w' v1 :=
  code_calls w0 g v0 B v 5 w h hB hv0 hv1 (by decide) hl
set_option maxRecDepth 100000 in
set_option maxHeartbeats 2000000 in
theorem run_calls (w0 : World) (g : Nat) (v0 : Value) (B : List Int) (n far : Int) (w : World) (h : WSt w0 g v0 (pk B) (fr B.length) w) (hB : Bits B) (hn0 : 3 ≤ n) (hn1 : n ≤ 258) (hf0 : 1 ≤ far) (hf1 : far ≤ 32768) (hl : B.length ≤ 1000000000 - 100) :
    Calls Try.prog 65 #[.pointer (some ⟨g, 0, none⟩), .int .i64 n, .int .i64 far] w fun e w' => ∃ v1, e = .returned (.tuple #[]) ∧ WSt w0 g v1 (pk (B ++ rc n far)) (fr (B ++ rc n far).length) w' ∧ Fro w g v0 w' v1 := by
  have HH := Aside0.mk h
  have HB := Aside0.mk hB
  clear h hB
  go_enter Try.func65, Try.ntmps65
  go_wp2
  go_loopw [6, 7, 8, 9] (fun v6 v7 v8 v9 w' => ∃ (k : Nat) (s b m : Int), k ≤ 28 ∧ v6 = .int .i64 s ∧ v7 = .int .i64 b ∧ v8 = .int .i64 m ∧ v9 = .int .i64 (257 + (k : Int)) ∧ Aside0 (lf n k = (s, b, m)) ∧ Aside0 (WSt w0 g v0 (pk B) (fr B.length) w') ∧ Aside0 (Fro w g v0 w' v0)) (fun _ _ _ v9 _ => 28 - (intOf v9 - 257).toNat)
  case atStart => exact ⟨0, 257, 3, 0, Nat.zero_le _, rfl, rfl, rfl, rfl, ⟨rfl⟩, HH, ⟨Fro.refl _ _ _⟩⟩
  case round =>
    clear HH
    obtain ⟨k, s, b, m, hk, rfl, rfl, rfl, rfl, HL, HW, HF⟩ := hrel
    by_cases hlt : k < 28
    · have hdec : decide (257 + (k : Int) < 285) = true := decide_eq_true (by omega)
      obtain ⟨he, h1, h2, h3, h4⟩ := lof_all k hlt
      obtain ⟨p, hp⟩ : ∃ p, p = lof k := ⟨_, rfl⟩
      obtain ⟨b1, m1⟩ := p
      rw [← hp] at he h1 h2 h3 h4
      have HP := Aside0.mk hp
      have HE := Aside0.mk he
      clear hp he
      by_cases c : b1 ≤ n
      · have hc : decide (b1 ≤ n) = true := decide_eq_true c
        have HL2 : Aside0 (lf n (k + 1) = (257 + (k : Int), b1, m1)) := ⟨by show (if (lof k).1 ≤ n then (257 + (k : Int), lof k) else lf n k) = _; rw [← HP.out, if_pos c]⟩
        go_wp2_with (go_at_call 91; (with_reducible refine (deflate_lengthOf.calls (257 + (k : Int)) b1 m1 _ HE.out).mono ?_); rintro e w' ⟨rfl, hd⟩; have HD := Aside0.mk hd; clear hd)
        go_roundw
        case rel => exact ⟨k + 1, _, _, _, by omega, rfl, rfl, rfl, by go_num, HL2, ⟨HW.out.below HD.out.below⟩, ⟨HF.out.draw HD.out⟩⟩
        case measure => simp [intOf]; omega
      · have hc : decide (b1 ≤ n) = false := decide_eq_false c
        have HL2 : Aside0 (lf n (k + 1) = (s, b, m)) := ⟨by show (if (lof k).1 ≤ n then (257 + (k : Int), lof k) else lf n k) = _; rw [← HP.out, if_neg c]; exact HL.out⟩
        go_wp2_with (go_at_call 91; (with_reducible refine (deflate_lengthOf.calls (257 + (k : Int)) b1 m1 _ HE.out).mono ?_); rintro e w' ⟨rfl, hd⟩; have HD := Aside0.mk hd; clear hd)
        go_roundw
        case rel => exact ⟨k + 1, _, _, _, by omega, rfl, rfl, rfl, by go_num, HL2, ⟨HW.out.below HD.out.below⟩, ⟨HF.out.draw HD.out⟩⟩
        case measure => simp [intOf]; omega
    · have hdec : decide (257 + (k : Int) < 285) = false := decide_eq_false (by omega)
      obtain rfl : k = 28 := by omega
      have HN1 : Aside0 (B.length ≤ 1000000000 - 16) := ⟨by omega⟩
      obtain ⟨r1, r2, r3, r4, r5, r6⟩ := lsym_rng hn0
      by_cases c : n = 258
      focus
        have hc : (n == 258) = true := by rw [c]; rfl
        have HS : Aside0 (lsym n = (285, 258, 0)) := ⟨by unfold lsym; rw [if_pos c]⟩
        have N0 : Aside0 ((0 : Int) ≤ 285) := ⟨by decide⟩
        have N1 : Aside0 ((285 : Int) ≤ 300) := ⟨by decide⟩
        have N2 : Aside0 ((0 : Int) ≤ 0) := ⟨by decide⟩
        have N3 : Aside0 ((0 : Int) ≤ 1000000) := ⟨by decide⟩
        have N4 : Aside0 (Bits (B ++ sc 285)) := ⟨HB.out.append (sc_bits _)⟩
        have N5 : Aside0 ((B ++ sc 285).length ≤ 1000000000) := ⟨by have := sc_len 285; rw [List.length_append]; omega⟩
        clear HL
        go_wp2_with (first
          | (go_at_call 64; (with_reducible refine (symbol_calls w0 g _ B 285 _ HW.out HB.out N0.out N1.out HN1.out).mono ?_); rintro e w' ⟨v2, rfl, hw2, hf2⟩; have HW2 := Aside0.mk hw2; have HF2 := Aside0.mk (HF.out.trans hf2); clear hw2 hf2)
          | (go_at_call 63; (with_reducible refine (bits_zero w0 g _ (B ++ sc 285) 0 _ HW2.out N4.out N2.out N3.out N5.out).mono ?_); rintro e w' ⟨v3, rfl, hw2, hf2⟩; have HW3 := Aside0.mk hw2; have HF3 := Aside0.mk (HF2.out.trans hf2); clear hw2 hf2))
        obtain ⟨C, hC⟩ : ∃ C, C = (B ++ sc 285) ++ nb 0 0 := ⟨_, rfl⟩
        have HC : Aside0 (C = B ++ (sc (lsym n).1 ++ nb (n - (lsym n).2.1) (lsym n).2.2.toNat)) := ⟨by rw [hC, HS.out, List.append_assoc, c]; rfl⟩
        rw [← hC] at HW3
        clear hC HS N0 N1 N2 N3 N4 N5 hc c HW HF HW2 HF2
      rotate_left
      focus
        have hc : (n == 258) = false := beq_eq_false_iff_ne.2 c
        have HS : Aside0 (lsym n = (s, b, m)) := ⟨by unfold lsym; rw [if_neg c]; exact HL.out⟩
        rw [HS.out] at r1 r2 r3 r4 r5 r6
        simp only at r1 r2 r3 r4 r5 r6
        obtain ⟨mm, rfl⟩ : ∃ mm : Nat, m = (mm : Int) := ⟨m.toNat, by omega⟩
        have N0 : Aside0 (0 ≤ s) := ⟨by omega⟩
        have N1 : Aside0 (s ≤ 300) := ⟨by omega⟩
        have N2 : Aside0 (0 ≤ n - b) := ⟨by omega⟩
        have N3 : Aside0 (n - b ≤ 1000000) := ⟨by omega⟩
        have N4 : Aside0 (Bits (B ++ sc s)) := ⟨HB.out.append (sc_bits _)⟩
        have N5 : Aside0 ((B ++ sc s).length ≤ 1000000000) := ⟨by have := sc_len s; rw [List.length_append]; omega⟩
        have N6 : Aside0 (mm ≤ 16) := ⟨by omega⟩
        clear HL
        go_wp2_with (first
          | (go_at_call 64; (with_reducible refine (symbol_calls w0 g _ B s _ HW.out HB.out N0.out N1.out HN1.out).mono ?_); rintro e w' ⟨v2, rfl, hw2, hf2⟩; have HW2 := Aside0.mk hw2; have HF2 := Aside0.mk (HF.out.trans hf2); clear hw2 hf2)
          | (go_at_call 63; (with_reducible refine (bits_calls w0 g _ (B ++ sc s) (n - b) mm _ HW2.out N4.out N2.out N3.out N6.out N5.out).mono ?_); rintro e w' ⟨v3, rfl, hw2, hf2⟩; have HW3 := Aside0.mk hw2; have HF3 := Aside0.mk (HF2.out.trans hf2); clear hw2 hf2))
        obtain ⟨C, hC⟩ : ∃ C, C = (B ++ sc s) ++ nb (n - b) mm := ⟨_, rfl⟩
        have HC : Aside0 (C = B ++ (sc (lsym n).1 ++ nb (n - (lsym n).2.1) (lsym n).2.2.toNat)) := ⟨by rw [hC, HS.out, List.append_assoc]; rfl⟩
        rw [← hC] at HW3
        clear hC HS N0 N1 N2 N3 N4 N5 hc c HW HF HW2 HF2
      all_goals
        have HCB : Aside0 (Bits C ∧ C.length ≤ 1000000000 - 60) := ⟨by
          rw [HC.out]
          refine ⟨HB.out.append ((sc_bits _).append (nb_bits _ _)), ?_⟩
          have h1 := sc_len (lsym n).1
          have h2 := (lsym_rng hn0).2.2.2.2.2
          rw [List.length_append, List.length_append, nb_len]
          omega⟩
        go_loopw [6, 7, 8, 41] (fun v6 v7 v8 v9 w' => ∃ (k : Nat) (s b m : Int), k ≤ 30 ∧ v6 = .int .i64 s ∧ v7 = .int .i64 b ∧ v8 = .int .i64 m ∧ v9 = .int .i64 (k : Int) ∧ Aside0 (df far k = (s, b, m)) ∧ Aside0 (WSt w0 g v3 (pk C) (fr C.length) w') ∧ Aside0 (Fro w g v0 w' v3)) (fun _ _ _ v9 _ => 30 - (intOf v9).toNat)
        case atStart => exact ⟨0, 0, 1, 0, Nat.zero_le _, rfl, rfl, rfl, rfl, ⟨rfl⟩, HW3, HF3⟩
        case round =>
          clear HW3 HF3
          obtain ⟨k, s, b, m, hk, rfl, rfl, rfl, rfl, HL, HW, HF⟩ := hrel
          by_cases hlt2 : k < 30
          · have hdec2 : decide ((k : Int) < 30) = true := decide_eq_true (by omega)
            obtain ⟨he, h1, h2, h3, h4⟩ := dof_all k hlt2
            obtain ⟨p, hp⟩ : ∃ p, p = dof k := ⟨_, rfl⟩
            obtain ⟨b1, m1⟩ := p
            rw [← hp] at he h1 h2 h3 h4
            have HP := Aside0.mk hp
            have HE := Aside0.mk he
            clear hp he
            by_cases c : b1 ≤ far
            · have hc : decide (b1 ≤ far) = true := decide_eq_true c
              have HL2 : Aside0 (df far (k + 1) = ((k : Int), b1, m1)) := ⟨by show (if (dof k).1 ≤ far then ((k : Int), dof k) else df far k) = _; rw [← HP.out, if_pos c]⟩
              go_wp2_with (go_at_call 92; (with_reducible refine (deflate_distanceOf.calls (k : Int) b1 m1 _ HE.out).mono ?_); rintro e w' ⟨rfl, hd⟩; have HD := Aside0.mk hd; clear hd)
              go_roundw
              case rel => exact ⟨k + 1, _, _, _, by omega, rfl, rfl, rfl, by go_num, HL2, ⟨HW.out.below HD.out.below⟩, ⟨HF.out.draw HD.out⟩⟩
              case measure => simp [intOf]; omega
            · have hc : decide (b1 ≤ far) = false := decide_eq_false c
              have HL2 : Aside0 (df far (k + 1) = (s, b, m)) := ⟨by show (if (dof k).1 ≤ far then ((k : Int), dof k) else df far k) = _; rw [← HP.out, if_neg c]; exact HL.out⟩
              go_wp2_with (go_at_call 92; (with_reducible refine (deflate_distanceOf.calls (k : Int) b1 m1 _ HE.out).mono ?_); rintro e w' ⟨rfl, hd⟩; have HD := Aside0.mk hd; clear hd)
              go_roundw
              case rel => exact ⟨k + 1, _, _, _, by omega, rfl, rfl, rfl, by go_num, HL2, ⟨HW.out.below HD.out.below⟩, ⟨HF.out.draw HD.out⟩⟩
              case measure => simp [intOf]; omega
          · have hdec2 : decide ((k : Int) < 30) = false := decide_eq_false (by omega)
            obtain rfl : k = 30 := by omega
            obtain ⟨q1, q2, q3, q4, q5, q6⟩ := df_rng hf0 30 (Nat.le_refl _)
            rw [HL.out] at q1 q2 q3 q4 q5 q6
            simp only at q1 q2 q3 q4 q5 q6
            obtain ⟨mm, rfl⟩ : ∃ mm : Nat, m = (mm : Int) := ⟨m.toNat, by omega⟩
            have N1 : Aside0 (s ≤ 1000000) := ⟨by omega⟩
            have N2 : Aside0 (0 ≤ far - b) := ⟨by omega⟩
            have N3 : Aside0 (far - b ≤ 1000000) := ⟨by omega⟩
            have N4 : Aside0 (Bits (C ++ cb s 5)) := ⟨HCB.out.1.append (cb_bits _ _)⟩
            have N5 : Aside0 ((C ++ cb s 5).length ≤ 1000000000) := ⟨by have := HCB.out.2; rw [List.length_append, cb_len]; omega⟩
            have N6 : Aside0 (mm ≤ 16) := ⟨by omega⟩
            have N7 : Aside0 (C.length ≤ 1000000000 - 16) := ⟨by have := HCB.out.2; omega⟩
            have HF4 : Aside0 (B ++ rc n far = (C ++ cb s 5) ++ nb (far - b) mm) := ⟨by rw [HC.out]; unfold rc dsym; rw [HL.out]; simp only [List.append_assoc]; rfl⟩
            go_wp2_with (first
              | (go_at_call 90; (with_reducible refine (code_five w0 g _ C s _ HW.out HCB.out.1 q1 N1.out N7.out).mono ?_); rintro e w' ⟨v4, rfl, hw2, hf2⟩; have HW2 := Aside0.mk hw2; have HF2 := Aside0.mk (HF.out.trans hf2); clear hw2 hf2)
              | (go_at_call 63; (with_reducible refine (bits_calls w0 g _ (C ++ cb s 5) (far - b) mm _ HW2.out N4.out N2.out N3.out N6.out N5.out).mono ?_); rintro e w' ⟨v5, rfl, hw2, hf2⟩; have HW3 := Aside0.mk hw2; have HF3 := Aside0.mk (HF2.out.trans hf2); clear hw2 hf2))
            exact bodyPost_end (v := .tuple #[]) (by simp [results, Try.results65, go_sem]) rfl ⟨v5, rfl, by rw [HF4.out]; exact HW3.out, HF3.out⟩
end Go.Proofs.Ytpbhkdamkbopkaa.Wr
namespace Go.Proofs.Ytpbhkdamkbopkaa.Wr
set_option linter.unusedSimpArgs false
set_option linter.unusedVariables false
open Go.RowKit Go.Maps Go.WideElems Go.MapKept
open Go.ChangeMaps (setBlock heap_setBlock_same heap_setBlock_other putKey)
theorem laidOut97 : laidOutB Try.prog = true := by kernel_rfl
theorem key97 : Try.prog.keyTypeAt 2 97 = true := by kernel_rfl
theorem law97 : Go.WideMaps.KeyLaw Try.prog 97 := deep_law_laid laidOut97 (m := 2) (by omega) (by decide +kernel) key97 (by kernel_rfl)
theorem keyed97 : Keyed Try.prog 97 := Keyed.of_law law97
theorem zero22 (w : World) : (zeroValue 22).run Try.prog w = .ok (.slice none 0 0) w := by kernel_rfl
/-- Three bytes as a key. -/
def tk (a b c : Int) : Value := .agg #[.int .u8 a, .int .u8 b, .int .u8 c]
theorem keytype97 : Try.prog.keyType 97 = true := by kernel_rfl
theorem types_pos : ∃ n, Try.prog.types.size + 1 = n + 2 := ⟨Try.prog.types.size - 1, by have : 1 ≤ Try.prog.types.size := of_decide_eq_true (by kernel_rfl); omega⟩
theorem cells5 : Try.prog.cellsOf 5 = 1 := by kernel_rfl
theorem cells97 : Try.prog.cellsOf 97 = 3 := by kernel_rfl
theorem key_some {a b c : Int} (ha : 0 ≤ a ∧ a ≤ 255) (hb : 0 ≤ b ∧ b ≤ 255) (hc : 0 ≤ c ∧ c ≤ 255) : ∃ kl, keyOf Try.prog 97 (tk a b c) = some kl := by
  have hf : Value.formed Try.prog 97 (tk a b c) = true := by
    unfold tk
    simp [Value.formed, Try.underlying97, cells5, cells97]
  have wa : (Lit.int .u8 a).wf = true := by show (decide _ && decide _) = true; simp [IntKind.min, IntKind.max, IntKind.signed, IntKind.bits]; omega
  have wb : (Lit.int .u8 b).wf = true := by show (decide _ && decide _) = true; simp [IntKind.min, IntKind.max, IntKind.signed, IntKind.bits]; omega
  have wc : (Lit.int .u8 c).wf = true := by show (decide _ && decide _) = true; simp [IntKind.min, IntKind.max, IntKind.signed, IntKind.bits]; omega
  obtain ⟨n, hn⟩ := types_pos
  unfold keyOf
  rw [Try.underlying97, hn]
  simp only [keytype97, hf, Bool.and_self, if_true]
  have e : Try.prog.keyLits (n + 2) 97 (tk a b c).cells.toList = some [.int .u8 a, .int .u8 b, .int .u8 c] := by
    have k5 : ∀ x, (Lit.int .u8 x).wf = true → Try.prog.keyLits (n + 1) 5 [Value.int .u8 x] = some [.int .u8 x] := fun x hx => by
      unfold Program.keyLits
      rw [Try.underlying5]
      simp [hx]
    unfold Program.keyLits
    rw [Try.underlying97]
    simp [tk, Value.cells, cells97, cells5, show List.range 3 = [0, 1, 2] from rfl, k5 a wa, k5 b wb, k5 c wc]
  rw [e]
  exact ⟨_, rfl⟩
/-- The key's reading. -/
noncomputable def tl (a b c : Int) : Lit := (keyOf Try.prog 97 (tk a b c)).getD (.bool false)
theorem tl_key {a b c : Int} (ha : 0 ≤ a ∧ a ≤ 255) (hb : 0 ≤ b ∧ b ≤ 255) (hc : 0 ≤ c ∧ c ≤ 255) : keyOf Try.prog 97 (tk a b c) = some (tl a b c) := by
  obtain ⟨kl, h⟩ := key_some ha hb hc
  unfold tl
  rw [h]
  rfl
attribute [irreducible] tl
theorem tl_inj {a b c a' b' c' : Int} (ha : 0 ≤ a ∧ a ≤ 255) (hb : 0 ≤ b ∧ b ≤ 255) (hc : 0 ≤ c ∧ c ≤ 255) (ha' : 0 ≤ a' ∧ a' ≤ 255) (hb' : 0 ≤ b' ∧ b' ≤ 255) (hc' : 0 ≤ c' ∧ c' ≤ 255) (h : tl a b c = tl a' b' c') : a = a' ∧ b = b' ∧ c = c' := by
  have h1 := tl_key ha hb hc
  have h2 := tl_key ha' hb' hc'
  rw [← h] at h2
  have := law97.inj h1 h2
  simp [tk] at this
  exact this
theorem tl_lit {a b c : Int} (ha : 0 ≤ a ∧ a ≤ 255) (hb : 0 ≤ b ∧ b ≤ 255) (hc : 0 ≤ c ∧ c ≤ 255) : WideAt.IsKeyLit (tl a b c) := by
  obtain ⟨l, hl⟩ : ∃ l, l = tl a b c := ⟨_, rfl⟩
  have h : keyOf Try.prog 97 (tk a b c) = some l := by rw [hl]; exact tl_key ha hb hc
  rw [← hl]
  exact keyed97.key h
theorem put_here {D : DataW Unit} (hD : Maps.IsMap D) {a b c : Int} (ha : 0 ≤ a ∧ a ≤ 255) (hb : 0 ≤ b ∧ b ≤ 255) (hc : 0 ≤ c ∧ c ≤ 255) (d : DataW Unit) : (D.put (tl a b c) d).atKey (tl a b c) .nil = d := by
  obtain ⟨l, hl⟩ : ∃ l, l = tl a b c := ⟨_, rfl⟩
  have h : WideAt.IsKeyLit l := by rw [hl]; exact tl_lit ha hb hc
  rw [← hl]
  exact atKey_put_same hD h d .nil
theorem put_there {D : DataW Unit} {a b c a' b' c' : Int} (ha : 0 ≤ a ∧ a ≤ 255) (hb : 0 ≤ b ∧ b ≤ 255) (hc : 0 ≤ c ∧ c ≤ 255) (ha' : 0 ≤ a' ∧ a' ≤ 255) (hb' : 0 ≤ b' ∧ b' ≤ 255) (hc' : 0 ≤ c' ∧ c' ≤ 255) (d : DataW Unit) (hne : ¬ (a = a' ∧ b = b' ∧ c = c')) : (D.put (tl a' b' c') d).atKey (tl a b c) .nil = D.atKey (tl a b c) .nil := by
  have h : tl a b c ≠ tl a' b' c' := fun e => hne (tl_inj ha hb hc ha' hb' hc' e)
  generalize tl a b c = l at *
  generalize tl a' b' c' = l' at *
  exact atKey_put_other h d .nil
theorem one_key : ∀ {l : List MapEntry}, (l.map (·.key)).Nodup → ∀ {x y : MapEntry}, x ∈ l → y ∈ l → x.key = y.key → x = y
  | [], _, _, _, hx, _, _ => by cases hx
  | z :: l, hn, x, y, hx, hy, h => by
    rw [List.map_cons, List.nodup_cons] at hn
    rcases List.mem_cons.1 hx with hx1 | hx1
    · rcases List.mem_cons.1 hy with hy1 | hy1
      · rw [hx1, hy1]
      · exact absurd (List.mem_map.2 ⟨y, hy1, by rw [← h, hx1]⟩) hn.1
    · rcases List.mem_cons.1 hy with hy1 | hy1
      · exact absurd (List.mem_map.2 ⟨x, hx1, by rw [h, hy1]⟩) hn.1
      · exact one_key hn.2 hx1 hy1 h
section
variable {H : Type} {P : Program} {k : TypeId} {w w' : World} {base : Nat} {e : TypeId} {q : IntKind} {b n : Nat} {D : DataW H} {v : Value} {zs : List Int}
/-- What is owned hangs on its own block alone. -/
theorem own_same (h : w.ownsInts base e q v zs) (hs : ∀ g, v.ownBlock = some g → w'.heap[g]? = w.heap[g]?) : w'.ownsInts base e q v zs := by
  obtain ⟨⟨h1, h2⟩, h3⟩ := h
  refine ⟨⟨h1, ?_⟩, h3⟩
  rcases h2 with h2 | ⟨g, cap, cur, rfl, hb, hh, h4⟩
  · exact .inl h2
  · exact .inr ⟨g, cap, cur, rfl, hb, (hs g rfl).trans hh, h4⟩
theorem owns_same (h : w.ownsGroups P k base e q b n D) (hb : w'.heap[b]? = w.heap[b]?) (hs : ∀ es clock, w.heap[b]? = some (.map es clock) → ∀ x ∈ es.toList, ∀ g, x.val.ownBlock = some g → w'.heap[g]? = w.heap[g]?) : w'.ownsGroups P k base e q b n D := by
  obtain ⟨es, clock, hh, F, hn, rfl, hbb, hlen, hap⟩ := h
  have hst : ∀ x ∈ es.toList, ∀ z, rowElem (H := H) w base e q x.val = some z → rowElem w' base e q x.val = some z := fun x hx z hz => by
    obtain ⟨zs, ho, rfl⟩ := rowElem_inv hz
    exact rowElem_mk (own_same ho (hs es clock hh x hx))
  obtain ⟨F1, hmap, _⟩ := F.stay hst
  refine ⟨es, clock, hb.trans hh, F1, hn, by rw [hmap], hbb, fun x hx zs ho => ?_, hap⟩
  obtain ⟨y, hy⟩ := F.reads x hx
  obtain ⟨z, hz, _⟩ := rd_val hy
  obtain ⟨zs0, ho0, _⟩ := rowElem_inv hz
  rw [ho.unique (own_same ho0 (hs es clock hh x hx))]
  exact hlen x hx zs0 ho0
theorem shuns_same {No : Nat → Prop} (h : w.Shuns b No) (hb : w'.heap[b]? = w.heap[b]?) : w'.Shuns b No := fun es clock hh => h es clock (hb.symm.trans hh)
/-- An entry for a key, and the store of what it is to hold. -/
theorem groups_entry {t E : TypeId} {key : Value} {kl : Lit} (K : Go.WideMaps.KeyLaw P k) (ht : P.underlying t = some (.map k E)) (hz : ∀ u : World, (zeroValue E).run P u = .ok (.slice none 0 0) u) (h : w.ownsGroups P k base e q b n D) (hn : n < maxLen) (hkey : keyOf P k key = some kl) :
    ∃ v st zs w1, (Instr.mapEntry t (.map (some b)) key).run P w = .ok (.tuple #[v, goInt st]) w1 ∧ w.grownBy w1 (some b) ∧ D.atKey kl .nil = rowDatum q v zs ∧ w1.ownsInts base e q v zs ∧ zs.length ≤ n ∧ (∀ No : Nat → Prop, w.Shuns b No → ∀ g, v.ownBlock = some g → ¬ No g) ∧
      ∀ (w2 : World) (v' : Value) (zs' : List Int), w1.grownBy w2 v.ownBlock → w2.ownsInts base e q v' zs' → zs'.length ≤ n + 1 → (v'.ownBlock = v.ownBlock ∨ ∃ g, v'.ownBlock = some g ∧ w.heap.size ≤ g) →
        ∃ w3, (Instr.entryStore t (.map (some b)) (goInt st) v').run P w2 = .ok () w3 ∧ w3.ownsGroups P k base e q b (n + 1) (D.put kl (rowDatum q v' zs')) ∧ w2.grownBy w3 (some b) ∧ ∀ No : Nat → Prop, w.Shuns b No → (∀ g, v'.ownBlock = some g → ¬ No g) → w3.Shuns b No := by
  obtain ⟨es, clock, hb, F, hs, rfl, hbb, hlen, hap⟩ := h
  have KK := Keyed.of_law K
  have hblt : b < w.heap.size := (Array.getElem?_eq_some_iff.1 hb).1
  obtain ⟨v, st, es1, clock1, hrun, hv, hback⟩ := entry_then_store K ht hz hb F hkey
  have hg1 : w.grownBy (setBlock w b (.map es1 clock1)) (some b) := ⟨rfl, rfl, rfl, by simp [setBlock], fun i _ hi => heap_setBlock_other hb _ (fun e1 => hi (by rw [e1]))⟩
  have owned : ∀ x ∈ es.toList, ∃ zs, w.ownsInts base e q x.val zs := fun x hx => by
    obtain ⟨y, hy⟩ := F.reads x hx
    obtain ⟨z, hz, _⟩ := rd_val hy
    obtain ⟨zs, ho, _⟩ := rowElem_inv hz
    exact ⟨zs, ho⟩
  have own_ne : ∀ {W : World} {u : Value} {ys : List Int}, W.ownsInts base e q u ys → ∀ g, u.ownBlock = some g → g ≠ b := fun ho g hg e1 => by
    have := (ho.1.lt g hg).1
    omega
  -- what the entry holds
  have hat : ∃ zs, (DataW.map ((es.toList.map (rg P k (rowElem (H := H) w base e q))).foldr DataW.insert [])).atKey kl .nil = rowDatum q v zs ∧ w.ownsInts base e q v zs ∧ zs.length ≤ n ∧ (v = .slice none 0 0 ∧ (∀ x ∈ es.toList, x.key ≠ key) ∨ ∃ e0 ∈ es.toList, e0.key = key ∧ v = e0.val) := by
    rcases Maps.fit_look false KK ht (hz w) hb F hkey with ⟨_, hno, hat⟩ | ⟨e0, y, hm0, h3, _, hR, hat, _⟩
    · rcases hv with ⟨e0, hm0, h3, _⟩ | ⟨_, rfl⟩
      · exact absurd h3 (hno e0 hm0)
      · exact ⟨[], hat _, World.ownsInts_nil _ _ _ _, Nat.zero_le _, .inl ⟨rfl, hno⟩⟩
    · rcases hv with ⟨e1, hm1, h4, rfl⟩ | ⟨hno, _⟩
      · obtain ⟨zs, ho, rfl⟩ := rowElem_inv hR
        have he : e1.val = e0.val := by rw [one_key F.stamped.2.2 hm1 hm0 (h4.trans h3.symm)]
        rw [he]
        exact ⟨zs, hat _, ho, hlen e0 hm0 zs ho, .inr ⟨e0, hm0, h3, rfl⟩⟩
      · exact absurd h3 (hno e0 hm0)
  obtain ⟨zs, hat, hov, hzl, hvv⟩ := hat
  refine ⟨v, st, zs, _, hrun, hg1, hat, own_same hov (fun g hg => heap_setBlock_other hb _ (own_ne hov g hg)), hzl, fun No hsh g hg => ?_, ?_⟩
  · rcases hvv with ⟨rfl, _⟩ | ⟨e0, hm0, _, rfl⟩
    · cases hg
    · exact hsh es clock hb e0 hm0 g hg
  · intro w2 v' zs' hg hown' hl' hloc
    have hvb : some b ≠ v.ownBlock := fun e1 => own_ne hov b e1.symm rfl
    have hb2 : w2.heap[b]? = some (.map es1 clock1) := (hg.block b (by simpa [setBlock] using hblt) hvb).trans (heap_setBlock_same hb _)
    have sep : ∀ x ∈ es.toList, x.key ≠ key → ∀ g, x.val.ownBlock = some g → v.ownBlock ≠ some g := by
      intro x hx hne g hgx e1
      rcases hvv with ⟨rfl, _⟩ | ⟨e0, hm0, h3, rfl⟩
      · cases e1
      · rcases hap x hx e0 hm0 (by rw [h3]; exact hne) with h | h
        · rw [h] at hgx; cases hgx
        · exact h (hgx.trans e1.symm)
    have far : ∀ x ∈ es.toList, x.key ≠ key → ∀ g, x.val.ownBlock = some g → w2.heap[g]? = w.heap[g]? := by
      intro x hx hne g hgx
      obtain ⟨ys, ho⟩ := owned x hx
      have h1 := (ho.1.lt g hgx).2
      exact (hg.block g (by simpa [setBlock] using h1) (fun e1 => sep x hx hne g hgx e1.symm)).trans (heap_setBlock_other hb _ (own_ne ho g hgx))
    obtain ⟨es', clock', hstore, hmu⟩ := hback w2 v' hb2
    have hs1 : ∀ x ∈ es.toList, x.key ≠ key → ∀ z, rowElem (H := H) w base e q x.val = some z → rowElem w2 base e q x.val = some z := by
      intro x hx hne z hz
      obtain ⟨zs0, ho, rfl⟩ := rowElem_inv hz
      exact rowElem_mk (own_same ho (far x hx hne))
    obtain ⟨es2, clock2, hmu2, F', hput, _, _, hwho⟩ := Maps.fit_store (R' := rowElem (H := H) w2 base e q) KK ht hb F (Nat.lt_of_le_of_lt hs hn) hs1 hkey (rowElem_mk hown')
    obtain ⟨rfl, rfl⟩ : es' = es2 ∧ clock' = clock2 := by
      rw [hmu] at hmu2
      have e1 : setBlock w b (.map es' clock') = setBlock w b (.map es2 clock2) := by simpa using hmu2
      have e2 := heap_setBlock_same hb (.map es' clock')
      rw [e1, heap_setBlock_same hb (.map es2 clock2)] at e2
      simp at e2
      exact ⟨e2.1.symm, e2.2.symm⟩
    have hg2 : w2.grownBy (setBlock w2 b (.map es' clock')) (some b) := ⟨rfl, rfl, rfl, by simp [setBlock], fun i _ hi => heap_setBlock_other hb2 _ (fun e1 => hi (by rw [e1]))⟩
    have up : ∀ {u : Value} {ys : List Int}, w2.ownsInts base e q u ys → (setBlock w2 b (.map es' clock')).ownsInts base e q u ys := fun ho => own_same ho (fun g hgu => heap_setBlock_other hb2 _ (own_ne ho g hgu))
    have hs2 : ∀ x ∈ es'.toList, ∀ z, rowElem (H := H) w2 base e q x.val = some z → rowElem (setBlock w2 b (.map es' clock')) base e q x.val = some z := by
      intro x _ z hz
      obtain ⟨ys, ho, rfl⟩ := rowElem_inv hz
      exact rowElem_mk (up ho)
    obtain ⟨F2, hmap2, _⟩ := F'.stay hs2
    have old_new : ∀ x ∈ es.toList, x.key ≠ key → x.val.ownBlock = none ∨ x.val.ownBlock ≠ v'.ownBlock := by
      intro x hx hne
      cases hx' : x.val.ownBlock with
      | none => exact .inl rfl
      | some gx =>
        obtain ⟨ys, ho⟩ := owned x hx
        have h1 := (ho.1.lt gx hx').2
        refine .inr (fun e1 => ?_)
        rcases hloc with h | ⟨g, h, h2⟩
        · rw [h] at e1
          exact sep x hx hne gx hx' e1.symm
        · rw [h] at e1
          cases e1
          omega
    refine ⟨_, hstore, ⟨es', clock', heap_setBlock_same hb2 _, F2, ?_, ?_, hbb, ?_, ?_⟩, hg2, ?_⟩
    · have e1 : es'.size = ((es'.toList.map (rg P k (rowElem (H := H) w2 base e q))).foldr DataW.insert []).length := by rw [DataW.length_sorted]; simp
      rw [e1, hput]
      unfold putKey
      rw [DataW.length_insert]
      have e2 := List.length_filter_le (ChangeMaps.notKey kl) ((es.toList.map (rg P k (rowElem (H := H) w base e q))).foldr DataW.insert [])
      rw [DataW.length_sorted] at e2
      simp at e2
      omega
    · rw [hmap2, DataW.put_eq, hput]
    · intro x hx ys ho
      have back : w2.ownsInts base e q x.val ys := by
        obtain ⟨y, hy⟩ := F'.reads x hx
        obtain ⟨z, hz, _⟩ := rd_val hy
        obtain ⟨ys', ho', _⟩ := rowElem_inv hz
        rw [ho.unique (up ho')]
        exact ho'
      rcases hwho x hx with ⟨hx0, hne⟩ | ⟨_, hval⟩
      · obtain ⟨ys0, ho0⟩ := owned x hx0
        have := hlen x hx0 ys0 ho0
        rw [back.unique (own_same ho0 (far x hx0 hne))]
        omega
      · rw [hval] at back
        rw [back.unique hown']
        exact hl'
    · intro x hx y hy hne
      rcases hwho x hx with ⟨hx0, hxk⟩ | ⟨hxk, hxv⟩ <;> rcases hwho y hy with ⟨hy0, hyk⟩ | ⟨hyk, hyv⟩
      · exact hap x hx0 y hy0 hne
      · rw [hyv]
        exact old_new x hx0 hxk
      · rw [hxv]
        cases hv' : v'.ownBlock with
        | none => exact Or.inl rfl
        | some g =>
          refine Or.inr (fun e1 => ?_)
          rcases old_new y hy0 hyk with h | h
          · rw [h] at e1
            cases e1
          · exact h (by rw [hv', e1])
      · exact absurd (hxk.trans hyk.symm) hne
    · intro No hsh hno es3 clock3 hb3 x hx g hgx
      rw [heap_setBlock_same hb2] at hb3
      simp at hb3
      obtain ⟨rfl, rfl⟩ := hb3
      rcases hwho x hx with ⟨hx0, _⟩ | ⟨_, hval⟩
      · exact hsh es clock hb x hx0 g hgx
      · exact hno g (hval ▸ hgx)
end
end Go.Proofs.Ytpbhkdamkbopkaa.Wr
namespace Go.Proofs.Ytpbhkdamkbopkaa.Rn
set_option linter.unusedSimpArgs false
set_option linter.unusedVariables false
open Go.RowKit Go.Proofs.Ytpbhkdamkbopkaa.GRuns Go.Proofs.YtpbhkdamkbopkaaW.PrintWords Go.Proofs.YtpbhkdamkbopkaaW.PrintLast Go.Proofs.YtpbhkdamkbopkaaW.PrintMore
theorem w64 {n : Int} (h0 : -9223372036854775808 ≤ n) (h1 : n ≤ 9223372036854775807) : wrap64 n = n := by unfold wrap64; omega
/-- So many bytes at i stand at j, too, n being known. -/
def ml (s : ByteArray) (i j : Nat) : Nat → Nat → Nat
  | 0, n => n
  | e + 1, n => if n < 258 ∧ i + n < s.size ∧ bt s ((i + n : Nat) : Int) = bt s ((j + n : Nat) : Int) then ml s i j e (n + 1) else n
def mlen (s : ByteArray) (i j : Nat) : Nat := ml s i j 258 0
theorem ml_spec (s : ByteArray) (i j : Nat) : ∀ (e n : Nat), n + e = 258 → (∀ t, t < n → bt s ((i + t : Nat) : Int) = bt s ((j + t : Nat) : Int)) → i + n ≤ s.size →
    n ≤ ml s i j e n ∧ ml s i j e n ≤ 258 ∧ i + ml s i j e n ≤ s.size ∧ (∀ t, t < ml s i j e n → bt s ((i + t : Nat) : Int) = bt s ((j + t : Nat) : Int)) ∧
      (ml s i j e n = 258 ∨ i + ml s i j e n = s.size ∨ bt s ((i + ml s i j e n : Nat) : Int) ≠ bt s ((j + ml s i j e n : Nat) : Int)) := by
  intro e
  induction e with
  | zero => intro n hn h hi; simp only [ml]; exact ⟨Nat.le_refl _, by omega, hi, h, .inl (by omega)⟩
  | succ e ih =>
    intro n hn h hi
    simp only [ml]
    by_cases c : n < 258 ∧ i + n < s.size ∧ bt s ((i + n : Nat) : Int) = bt s ((j + n : Nat) : Int)
    · rw [if_pos c]
      obtain ⟨a, b, c', d, f⟩ := ih (n + 1) (by omega) (fun t ht => by
        rcases Nat.lt_or_ge t n with h' | h'
        · exact h t h'
        · obtain rfl : t = n := by omega
          exact c.2.2) (by omega)
      exact ⟨by omega, b, c', d, f⟩
    · rw [if_neg c]
      refine ⟨Nat.le_refl _, by omega, hi, h, ?_⟩
      by_cases c2 : i + n < s.size
      · exact .inr (.inr (fun h3 => c ⟨by omega, c2, h3⟩))
      · exact .inr (.inl (by omega))
theorem mlen_spec {s : ByteArray} {i j : Nat} (hi : i ≤ s.size) : mlen s i j ≤ 258 ∧ i + mlen s i j ≤ s.size ∧ (∀ t, t < mlen s i j → bt s ((i + t : Nat) : Int) = bt s ((j + t : Nat) : Int)) ∧
    (mlen s i j = 258 ∨ i + mlen s i j = s.size ∨ bt s ((i + mlen s i j : Nat) : Int) ≠ bt s ((j + mlen s i j : Nat) : Int)) := by
  obtain ⟨_, a, b, c, d⟩ := ml_spec s i j 258 0 rfl (fun t ht => absurd ht (Nat.not_lt_zero _)) (by omega)
  exact ⟨a, b, c, d⟩
attribute [irreducible] mlen
/-- The best of the distances below D: the longest, the nearest. -/
def best (s : ByteArray) (i : Nat) : Nat → Nat × Nat
  | 0 => (0, 0)
  | D + 1 => if mlen s i (i - (D + 1)) > (best s i D).1 then (mlen s i (i - (D + 1)), D + 1) else best s i D
def fin (p : Nat × Nat) : Nat × Nat := if p.1 < 3 then (0, 0) else p
/-- The run of a place. -/
def run (s : ByteArray) (i : Nat) : Nat × Nat := fin (best s i (min i 32768))
theorem best_spec (s : ByteArray) (i : Nat) : ∀ D, (∀ d, 1 ≤ d → d ≤ D → mlen s i (i - d) ≤ (best s i D).1) ∧ ((best s i D).1 = 0 ∧ (best s i D).2 = 0 ∨ 1 ≤ (best s i D).2 ∧ (best s i D).2 ≤ D ∧ mlen s i (i - (best s i D).2) = (best s i D).1 ∧ 0 < (best s i D).1 ∧ ∀ d, 1 ≤ d → d < (best s i D).2 → mlen s i (i - d) < (best s i D).1) := by
  intro D
  induction D with
  | zero => exact ⟨fun d h0 h1 => absurd h1 (by omega), .inl ⟨rfl, rfl⟩⟩
  | succ D ih =>
    obtain ⟨h0, h1⟩ := ih
    simp only [best]
    by_cases c : mlen s i (i - (D + 1)) > (best s i D).1
    · rw [if_pos c]
      refine ⟨fun d d0 d1 => ?_, .inr ⟨by simp, by simp, rfl, by simp only; omega, fun d d0 d1 => ?_⟩⟩
      · rcases Nat.lt_or_ge d (D + 1) with h | h
        · have := h0 d d0 (by omega); simp only; omega
        · obtain rfl : d = D + 1 := by omega
          exact Nat.le_refl _
      · have := h0 d d0 (by simp only at d1; omega)
        simp only; omega
    · rw [if_neg c]
      refine ⟨fun d d0 d1 => ?_, ?_⟩
      · rcases Nat.lt_or_ge d (D + 1) with h | h
        · exact h0 d d0 (by omega)
        · obtain rfl : d = D + 1 := by omega
          omega
      · rcases h1 with h1 | ⟨a, b, c', d, e⟩
        · exact .inl h1
        · exact .inr ⟨a, by omega, c', d, e⟩
theorem run_none {s : ByteArray} {i : Nat} (h : ∀ d, 1 ≤ d → d ≤ min i 32768 → mlen s i (i - d) < 3) : run s i = (0, 0) := by
  obtain ⟨b0, b1⟩ := best_spec s i (min i 32768)
  unfold run
  generalize best s i (min i 32768) = p at *
  unfold fin
  rcases b1 with ⟨z, _⟩ | ⟨a, b, c, d, e⟩
  · rw [if_pos (by omega)]
  · rw [if_pos (by have := h p.2 a b; omega)]
end Go.Proofs.Ytpbhkdamkbopkaa.Rn
namespace Go.Proofs.Ytpbhkdamkbopkaa.Rn
set_option linter.unusedSimpArgs false
set_option linter.unusedVariables false
open Go.RowKit Go.Proofs.Ytpbhkdamkbopkaa.GRuns Go.Proofs.YtpbhkdamkbopkaaW.PrintWords Go.Proofs.YtpbhkdamkbopkaaW.PrintLast Go.Proofs.YtpbhkdamkbopkaaW.PrintMore
theorem alike_loop (s : ByteArray) (hs : s.size ≤ 140737488351232) (i j : Nat) (hj : j ≤ i) : ∀ (e n : Nat), n + e = 258 → i + n ≤ s.size → ∀ k, e + 1 ≤ k → deflate_alike.l0 k s (i : Int) (j : Int) (n : Int) = some ((ml s i j e n : Nat) : Int) := by
  intro e
  induction e with
  | zero =>
    intro n hn hi k hk
    obtain ⟨k, rfl⟩ := Nat.exists_eq_add_of_le' hk
    obtain rfl : n = 258 := by omega
    rw [show k + (0 + 1) = k + 1 from rfl, deflate_alike.l0, if_neg (by omega)]
    rfl
  | succ e ih =>
    intro n hn hi k hk
    obtain ⟨k, rfl⟩ := Nat.exists_eq_add_of_le' hk
    have e1 : wrap64 ((i : Int) + (n : Int)) = ((i + n : Nat) : Int) := by rw [w64 (by omega) (by omega)]; omega
    have e2 : wrap64 ((j : Int) + (n : Int)) = ((j + n : Nat) : Int) := by rw [w64 (by omega) (by omega)]; omega
    have e3 : wrap64 ((n : Int) + 1) = ((n + 1 : Nat) : Int) := by rw [w64 (by omega) (by omega)]; omega
    rw [show k + (e + 1 + 1) = (k + e + 1) + 1 from rfl, deflate_alike.l0, e1, e2, e3, if_pos (by omega)]
    simp only [ml]
    by_cases c : i + n < s.size
    · rw [if_pos (by omega), if_pos (by omega), if_pos (by omega), if_pos (by omega)]
      by_cases c2 : bt s ((i + n : Nat) : Int) = bt s ((j + n : Nat) : Int)
      · rw [if_pos c2, if_pos ⟨by omega, c, c2⟩]
        exact ih (n + 1) (by omega) (by omega) (k + e + 1) (by omega)
      · rw [if_neg c2, if_neg (fun h => c2 h.2.2)]
    · rw [if_neg (by omega), if_neg (fun h => c h.2.1)]
theorem alike_f (s : ByteArray) (hs : s.size ≤ 140737488351232) (i j : Nat) (hj : j ≤ i) (hi : i ≤ s.size) (k : Nat) (hk : 259 ≤ k) : deflate_alike.f k s (i : Int) (j : Int) = some ((mlen s i j : Nat) : Int) := by
  have h := alike_loop s hs i j hj 258 0 rfl (by omega) k hk
  unfold mlen
  exact h
/-- Three bytes alike. -/
def tri (s : ByteArray) (i j : Nat) : Prop := bt s (i : Int) = bt s (j : Int) ∧ bt s ((i + 1 : Nat) : Int) = bt s ((j + 1 : Nat) : Int) ∧ bt s ((i + 2 : Nat) : Int) = bt s ((j + 2 : Nat) : Int)
instance (s : ByteArray) (i j : Nat) : Decidable (tri s i j) := by unfold tri; infer_instance
theorem tri_iff {s : ByteArray} {i j : Nat} (hi : i + 3 ≤ s.size) : tri s i j ↔ 3 ≤ mlen s i j := by
  obtain ⟨a, b, c, d⟩ := mlen_spec (s := s) (i := i) (j := j) (by omega)
  constructor
  · intro ⟨h0, h1, h2⟩
    rcases Nat.lt_or_ge (mlen s i j) 3 with h | h
    · exfalso
      rcases d with d | d | d
      · omega
      · omega
      · generalize mlen s i j = m at *
        have : m = 0 ∨ m = 1 ∨ m = 2 := by omega
        rcases this with rfl | rfl | rfl
        · exact d h0
        · exact d h1
        · exact d h2
    · exact h
  · intro h
    exact ⟨c 0 (by omega), c 1 (by omega), c 2 (by omega)⟩
/-- The places from a on with three bytes as at i, n of them looked at. -/
def pl (s : ByteArray) (i a : Nat) : Nat → List Int
  | 0 => []
  | n + 1 => if tri s i (a + n) then pl s i a n ++ [((a + n : Nat) : Int)] else pl s i a n
theorem pl_len (s : ByteArray) (i a : Nat) : ∀ n, (pl s i a n).length ≤ n := by
  intro n
  induction n with
  | zero => exact Nat.le_refl _
  | succ n ih =>
    simp only [pl]
    split
    · simp; omega
    · omega
theorem fin_stay (s : ByteArray) (i D : Nat) (h : mlen s i (i - (D + 1)) < 3) : fin (best s i (D + 1)) = fin (best s i D) := by
  simp only [best]
  split
  · unfold fin
    rw [if_pos (by simp only; omega), if_pos (by omega)]
  · rfl
/-- A best of the length that none is above stays. -/
theorem best_stay (s : ByteArray) (i D : Nat) (h : ∀ d, mlen s i (i - d) ≤ (best s i D).1) : ∀ n, best s i (D + n) = best s i D := by
  intro n
  induction n with
  | zero => rfl
  | succ n ih =>
    rw [show D + (n + 1) = (D + n) + 1 from rfl]
    simp only [best]
    rw [if_neg (by rw [ih]; have := h (D + n + 1); omega), ih]
/-- As integers. -/
def ip (p : Nat × Nat) : Int × Int := (((p.1 : Nat) : Int), ((p.2 : Nat) : Int))
theorem fin_int (p : Nat × Nat) : (if (((fin p).1 : Nat) : Int) < 3 then some ((0 : Int), (0 : Int)) else some ((((fin p).1 : Nat) : Int), (((fin p).2 : Nat) : Int))) = some (ip (fin p)) := by
  unfold fin
  split <;> rename_i c
  · simp [ip]
  · rw [if_neg (by omega)]; rfl
theorem rd_mid (L Q : List Int) (x : Int) : rd (L ++ [x] ++ Q) (L.length : Int) = x := by
  simp [rd, List.getD_eq_getElem?_getD]
/-- What stops the loop is the run. -/
theorem stay_of {s : ByteArray} {i D n : Nat} (hi : i + 3 ≤ s.size) (hn : min i 32768 = D + n) (h : (fin (best s i D)).1 = 258 ∨ i + (fin (best s i D)).1 = s.size) : run s i = fin (best s i D) ∧ ¬ (fin (best s i D)).1 < 3 := by
  have h3 : ¬ (best s i D).1 < 3 := by
    intro h4
    unfold fin at h
    rw [if_pos h4] at h
    simp only at h
    omega
  have e4 : fin (best s i D) = best s i D := by unfold fin; rw [if_neg h3]
  rw [e4] at h ⊢
  refine ⟨?_, h3⟩
  have h5 := best_stay s i D (fun d => by
    obtain ⟨v0, v1, _, _⟩ := mlen_spec (s := s) (i := i) (j := i - d) (by omega)
    omega) n
  unfold run
  rw [hn, h5, e4]
/-- The end of a turn. -/
theorem turn_ite (i m f z : Nat) (r : Nat × Nat) (c : Option (Int × Int)) (hm : m ≤ 258) (hz : i + m ≤ z) (hz' : z ≤ 140737488351232) (stay : m = 258 ∨ i + m = z → r = (m, f) ∧ ¬ m < 3) (hc : c = some (ip r)) :
    (if ((m : Nat) : Int) = 258 then (if ((m : Nat) : Int) < 3 then some (0, 0) else some (((m : Nat) : Int), ((f : Nat) : Int))) else if wrap64 (((i : Nat) : Int) + ((m : Nat) : Int)) = ((z : Nat) : Int) then (if ((m : Nat) : Int) < 3 then some (0, 0) else some (((m : Nat) : Int), ((f : Nat) : Int))) else c) = some (ip r) := by
  rw [w64 (by omega) (by omega)]
  by_cases c1 : m = 258
  · have h := stay (.inl c1)
    rw [if_pos (by omega), if_neg (by omega), h.1]; rfl
  · rw [if_neg (by omega)]
    by_cases c2 : i + m = z
    · have h := stay (.inr c2)
      rw [if_pos (by omega), if_neg (by omega), h.1]; rfl
    · rw [if_neg (by omega)]; exact hc
/-- The best with a distance more, where three bytes are alike. -/
theorem best_more {s : ByteArray} {i D : Nat} (hm : 3 ≤ mlen s i (i - (D + 1))) : fin (best s i (D + 1)) = if mlen s i (i - (D + 1)) > (fin (best s i D)).1 then (mlen s i (i - (D + 1)), D + 1) else fin (best s i D) := by
  simp only [best]
  generalize mlen s i (i - (D + 1)) = m at *
  generalize best s i D = p
  have e0 : fin (m, D + 1) = (m, D + 1) := by unfold fin; rw [if_neg (by simp only; omega)]
  by_cases h : p.1 < 3
  · have e1 : fin p = (0, 0) := by unfold fin; rw [if_pos h]
    rw [e1, if_pos (show m > p.1 by omega), e0, if_pos (by simp only; omega)]
  · have e1 : fin p = p := by unfold fin; rw [if_neg h]
    rw [e1]
    by_cases g : m > p.1
    · rw [if_pos g, e0]
    · rw [if_neg g, e1]
/-- A turn of the loop over the places: nothing but numbers. -/
theorem turn_all (i m f m' f' z : Nat) (r : Nat × Nat) (c c' : Option (Int × Int)) (hm : m ≤ 258) (hz : i + m ≤ z) (hm' : m' ≤ m ∨ m' ≤ 258 ∧ i + m' ≤ z) (hz' : z ≤ 140737488351232)
    (stay : (if m > m' then (m, f) else (m', f')).1 = 258 ∨ i + (if m > m' then (m, f) else (m', f')).1 = z → r = (if m > m' then (m, f) else (m', f')) ∧ ¬ (if m > m' then (m, f) else (m', f')).1 < 3) (hc : m > m' → c = some (ip r)) (hc' : ¬ m > m' → c' = some (ip r)) :
    (if ((m : Nat) : Int) > ((m' : Nat) : Int) then (if ((m : Nat) : Int) = 258 then (if ((m : Nat) : Int) < 3 then some (0, 0) else some (((m : Nat) : Int), ((f : Nat) : Int))) else if wrap64 (((i : Nat) : Int) + ((m : Nat) : Int)) = ((z : Nat) : Int) then (if ((m : Nat) : Int) < 3 then some (0, 0) else some (((m : Nat) : Int), ((f : Nat) : Int))) else c) else (if ((m' : Nat) : Int) = 258 then (if ((m' : Nat) : Int) < 3 then some (0, 0) else some (((m' : Nat) : Int), ((f' : Nat) : Int))) else if wrap64 (((i : Nat) : Int) + ((m' : Nat) : Int)) = ((z : Nat) : Int) then (if ((m' : Nat) : Int) < 3 then some (0, 0) else some (((m' : Nat) : Int), ((f' : Nat) : Int))) else c')) = some (ip r) := by
  by_cases g : m > m'
  · rw [if_pos (by omega)]
    simp only [if_pos g] at stay
    exact turn_ite i m f z r c hm hz hz' stay (hc g)
  · rw [if_neg (by omega)]
    simp only [if_neg g] at stay
    exact turn_ite i m' f' z r c' (by omega) (by omega) hz' stay (hc' g)
theorem at_ok (s : ByteArray) (hs : s.size ≤ 140737488351232) (p : Nat) (hp : p + 3 ≤ s.size) : deflate_at.f s (p : Int) = some (bt s (p : Int), bt s ((p + 1 : Nat) : Int), bt s ((p + 2 : Nat) : Int), true) := by
  have e1 : wrap64 ((p : Int) + 1) = ((p + 1 : Nat) : Int) := by rw [w64 (by omega) (by omega)]; omega
  have e2 : wrap64 ((p : Int) + 2) = ((p + 2 : Nat) : Int) := by rw [w64 (by omega) (by omega)]; omega
  have e3 : wrap64 ((s.size : Int) - 3) = ((s.size - 3 : Nat) : Int) := by rw [w64 (by omega) (by omega)]; omega
  unfold deflate_at.f
  rw [e1, e2, e3]
  clear e1 e2 e3
  rw [if_neg (by omega), if_neg (by omega), if_pos (by omega), if_pos (by omega), if_pos (by omega), if_pos (by omega), if_pos (by omega), if_pos (by omega)]
theorem at_no (s : ByteArray) (hs : s.size ≤ 140737488351232) (p : Int) (hp : p < 0 ∨ p + 3 > s.size) : deflate_at.f s p = some (0, 0, 0, false) := by
  have e3 : wrap64 ((s.size : Int) - 3) = (s.size : Int) - 3 := w64 (by omega) (by omega)
  unfold deflate_at.f
  rw [e3]
  by_cases c : p < 0
  · rw [if_pos c]
  · rw [if_neg c, if_pos (by omega)]
end Go.Proofs.Ytpbhkdamkbopkaa.Rn
