/- What a block leaves of a reader: plain facts. -/
import Derived.Test.YtpbhkdamkbopkaaExtI9
import Derived.Test.YtpbhkdamkbopkaaExtI10
namespace Go.Proofs.Ytpbhkdamkbopkaa.Inf
set_option linter.unusedSimpArgs false
set_option linter.unusedVariables false
open Go.RowKit Go.Proofs.Ytpbhkdamkbopkaa.Ext Go.Proofs.Ytpbhkdamkbopkaa.RefP Go.Proofs.YtpbhkdamkbopkaaW.PrintWords Go.Proofs.YtpbhkdamkbopkaaW.PrintLast Go.Proofs.YtpbhkdamkbopkaaW.PrintMore

/-- A state behind another: its place further, not too many bytes. -/
structure Aft (s : ByteArray) (mx : Int) (x y : St) : Prop where
  ok : Ok s y
  p : x.p ≤ y.p
  o : (x.o.length : Int) ≤ mx → (y.o.length : Int) ≤ mx
  e : y.e = 0 → x.e = 0
  l : x.o.length ≤ y.o.length
section
variable {s : ByteArray} {mx : Int} {x y z : St}
theorem Aft.refl (h : Ok s x) : Aft s mx x x := ⟨h, Int.le_refl _, fun h => h, fun h => h, Nat.le_refl _⟩
theorem Aft.trans (h : Aft s mx x y) (k : Aft s mx y z) : Aft s mx x z := ⟨k.ok, Int.le_trans h.p k.p, fun c => k.o (h.o c), fun c => h.e (k.e c), Nat.le_trans h.l k.l⟩
theorem fail_p (x : St) (e : Int) : (fail x e).p = x.p := by unfold fail; split <;> rfl
theorem fail_o (x : St) (e : Int) : (fail x e).o = x.o := by unfold fail; split <;> rfl
theorem fail_e {x : St} {e : Int} (h : (fail x e).e = 0) : x.e = 0 ∧ e = 0 := by
  unfold fail at h
  by_cases c : x.e = 0
  · rw [if_pos c] at h; exact ⟨c, h⟩
  · rw [if_neg c] at h; exact absurd h c
theorem Aft.fail (h : Ok s x) (e : Int) (he : e = 0 ∨ e = 1 ∨ e = 2 ∨ e = 3 ∨ e = 4 ∨ e = 7) : Aft s mx x (fail x e) := ⟨fail_ok h he, by rw [fail_p]; exact Int.le_refl _, by rw [fail_o]; exact fun h => h, fun h => (fail_e h).1, by rw [fail_o]; exact Nat.le_refl _⟩
theorem Aft.table (h : Ok s x) (l : List Int) : Aft s mx x (table l x) := ⟨table_ok h l, by unfold Inf.table; rw [fail_p]; exact Int.le_refl _, by unfold Inf.table; rw [fail_o]; exact fun h => h, fun h => (fail_e h).1, by unfold Inf.table; rw [fail_o]; exact Nat.le_refl _⟩
theorem table_e {l : List Int} {x : St} (h : (table l x).e = 0) : x.e = 0 ∧ errOf l = 0 := fail_e h
theorem Aft.bits (h : Ok s x) (n : Nat) (hn : n ≤ 16) (k : Int) (hk : k = n) : Aft s mx x (bits s k x).2 := by
  have g := bits_get (n := n) (k := k) (m := (Inf.bits s k x).1) (y := (Inf.bits s k x).2) hk h hn rfl
  have p := bits_p (s := s) n h hn
  rw [← hk] at p
  exact ⟨g.1, p, by rw [g.2.2.2.1]; exact fun h => h, fun h => (g.2.2.2.2.1 h).1, by rw [g.2.2.2.1]; exact Nat.le_refl _⟩
theorem Aft.next (hs : s.size ≤ 140737488351232) (h : Ok s x) (l : List Int) (he : x.e = 0 → errOf l = 0) : Aft s mx x (next l s x).2 := by
  have g := next_get (m := (Inf.next l s x).1) (y := (Inf.next l s x).2) hs h he rfl
  exact ⟨g.1, next_p hs h he, by rw [g.2.2.2.1]; exact fun h => h, fun h => (g.2.2.2.2.1 h).1, by rw [g.2.2.2.1]; exact Nat.le_refl _⟩
theorem again_len' (o : List Int) (d n : Nat) : (again o d n).length = o.length + n := again_len o d n
theorem Aft.copy (h : Ok s x) (n d : Int) (hn : 0 ≤ n) : Aft s mx x (copy mx x n d) := by
  unfold Inf.copy
  by_cases c1 : d ≤ x.o.length
  · rw [if_pos c1]
    by_cases c2 : (x.o.length : Int) + n ≤ mx
    · rw [if_pos c2]
      exact ⟨⟨h.p0, h.p1, h.e⟩, Int.le_refl _, fun _ => by show ((again x.o d.toNat n.toNat).length : Int) ≤ mx; rw [again_len]; omega, fun h => h, by show x.o.length ≤ (again x.o d.toNat n.toNat).length; rw [again_len]; omega⟩
    · rw [if_neg c2]; exact Aft.fail h 7 (by decide)
  · rw [if_neg c1]; exact Aft.fail h 3 (by decide)
theorem Aft.far (hs : s.size ≤ 140737488351232) (h : Ok s x) (lb : List Int) (hb : errOf lb = 0) (y : Int) (h0 : 257 ≤ y) (h1 : y < 286) : Aft s mx x (far s mx lb x y) := by
  unfold Inf.far
  obtain ⟨q, hq⟩ : ∃ q : Nat, (y - 257).toNat = q := ⟨_, rfl⟩
  have hqr := len_rng q (by omega)
  obtain ⟨k, hk⟩ : ∃ k : Nat, lenM.getD q 0 = (k : Int) := ⟨(lenM.getD q 0).toNat, by omega⟩
  simp only [hq, hk]
  have a1 := Aft.bits (mx := mx) h k (by omega) k rfl
  have a2 := Aft.next (mx := mx) hs a1.ok lb (fun _ => hb)
  have g2 := next_get (m := (Inf.next lb s (Inf.bits s k x).2).1) (y := (Inf.next lb s (Inf.bits s k x).2).2) hs a1.ok (fun _ => hb) rfl
  have gm := (bits_get (n := k) (k := k) (m := (Inf.bits s k x).1) (y := (Inf.bits s k x).2) rfl h (by omega) rfl).2.1
  generalize Inf.bits s k x = m at *
  generalize Inf.next lb s m.2 = d at *
  by_cases c : d.2.e = 0 ∧ d.1 ≥ 30
  · rw [if_pos c]
    have a3 := Aft.fail (mx := mx) a2.ok 3 (by decide)
    have : (Inf.fail d.2 3).e = 3 := by unfold Inf.fail; rw [if_pos c.1]
    rw [if_neg (by rw [this]; decide)]
    exact (a1.trans a2).trans a3
  · rw [if_neg c]
    by_cases ce : d.2.e = 0
    · rw [if_pos ce]
      have h30 : d.1 < 30 := by
        rcases Decidable.em (d.1 < 30) with h | h
        · exact h
        · exact absurd ⟨ce, Int.not_lt.1 h⟩ c
      have hdr := dis_rng d.1.toNat (by have := g2.2.1; omega)
      obtain ⟨k2, hk2⟩ : ∃ k2 : Nat, disM.getD d.1.toNat 0 = (k2 : Int) := ⟨(disM.getD d.1.toNat 0).toNat, by omega⟩
      rw [hk2]
      have a3 := Aft.bits (mx := mx) a2.ok k2 (by omega) k2 rfl
      generalize Inf.bits s k2 d.2 = e at *
      by_cases c3 : e.2.e = 0
      · rw [if_pos c3]
        exact ((a1.trans a2).trans a3).trans (Aft.copy a3.ok _ _ (by omega))
      · rw [if_neg c3]; exact (a1.trans a2).trans a3
    · rw [if_neg ce]; exact a1.trans a2
theorem Aft.one (hs : s.size ≤ 140737488351232) (h : Ok s x) (la lb : List Int) (he : x.e = 0) (ha : errOf la = 0) (hb : errOf lb = 0) : Aft s mx x (one s mx la lb x).2 ∧ ((one s mx la lb x).1 = false → (one s mx la lb x).2.e = 0 → x.p + 1 ≤ (one s mx la lb x).2.p) ∧ ((x.o.length : Int) ≤ mx → ((one s mx la lb x).2.o.length : Int) ≤ mx) := by
  have a1 := Aft.next (mx := mx) hs h la (fun _ => ha)
  have g1 := next_get (m := (Inf.next la s x).1) (y := (Inf.next la s x).2) hs h (fun _ => ha) rfl
  unfold Inf.one
  simp only
  generalize Inf.next la s x = a at *
  by_cases c1 : a.2.e ≠ 0 ∨ a.1 = 256
  · rw [if_pos c1]; exact ⟨a1, fun h => Bool.noConfusion h, a1.o⟩
  · rw [if_neg c1]
    have c10 : a.2.e = 0 := Decidable.byContradiction fun h => c1 (.inl h)
    have hp1 := (g1.2.2.2.2.1 c10).2.1
    by_cases c2 : a.1 < 256
    · rw [if_pos c2]
      by_cases c3 : (a.2.o.length : Int) = mx
      · rw [if_pos c3]
        have := a1.trans (Aft.fail (mx := mx) a1.ok 7 (by decide))
        exact ⟨this, fun h => Bool.noConfusion h, this.o⟩
      · rw [if_neg c3]
        have hl : (x.o.length : Int) ≤ mx → ((a.2.o ++ [a.1 % 256]).length : Int) ≤ mx := fun h => by have := a1.o h; rw [List.length_append]; simp only [List.length_cons, List.length_nil]; omega
        exact ⟨⟨⟨a1.ok.p0, a1.ok.p1, a1.ok.e⟩, a1.p, hl, fun _ => he, by show x.o.length ≤ (a.2.o ++ [a.1 % 256]).length; rw [List.length_append]; have := a1.l; omega⟩, fun _ _ => hp1, hl⟩
    · rw [if_neg c2]
      by_cases c3 : a.1 ≥ 286
      · rw [if_pos c3]
        have := a1.trans (Aft.fail (mx := mx) a1.ok 3 (by decide))
        exact ⟨this, fun h => Bool.noConfusion h, this.o⟩
      · rw [if_neg c3]
        have a2 := Aft.far (mx := mx) hs a1.ok lb hb a.1 (by have h : ¬ a.1 = 256 := fun h => c1 (.inr h); omega) (by omega)
        exact ⟨a1.trans a2, fun _ _ => Int.le_trans hp1 a2.p, (a1.trans a2).o⟩
theorem Aft.codes (hs : s.size ≤ 140737488351232) (la lb : List Int) : ∀ (k : Nat) (x : St), Ok s x → (x.e = 0 → errOf la = 0 ∧ errOf lb = 0) → Aft s mx x (codes s mx la lb k x) := by
  intro k
  induction k with
  | zero => intro x h _; exact Aft.refl h
  | succ k ih =>
    intro x h he
    unfold Inf.codes
    by_cases c : x.e = 0
    · rw [if_pos c]
      have a1 := (Aft.one (mx := mx) hs h la lb c (he c).1 (he c).2).1
      by_cases c2 : (Inf.one s mx la lb x).1 = true
      · rw [if_pos c2]; exact a1
      · rw [if_neg c2]; exact a1.trans (ih _ a1.ok (fun _ => he c))
    · rw [if_neg c]; exact Aft.refl h
theorem both_e {la lb : List Int} {x : St} (h : (table lb (table la x)).e = 0) : errOf la = 0 ∧ errOf lb = 0 := ⟨(table_e (table_e h).1).2, (table_e h).2⟩
theorem Aft.both (hs : s.size ≤ 140737488351232) (la lb : List Int) (h : Ok s x) : Aft s mx x (both s mx la lb x) :=
  (((Aft.table h la).trans (Aft.table (table_ok h la) lb))).trans (Aft.codes hs la lb _ _ (table_ok (table_ok h la) lb) both_e)
theorem both_eq (la lb : List Int) (x : St) : both s mx la lb x = codes s mx la lb (left s (table lb (table la x))) (table lb (table la x)) := by
  have e : left s (table lb (table la x)) = left s x := by unfold left Inf.table; rw [fail_p, fail_p]
  rw [e]; rfl
theorem lengthen_o (l : List Int) (y : Int) (h : Ok s x) : (lengthen s l y x).2.o = x.o := by
  have b2 := bits_get (n := 2) (k := 2) (m := (bits s 2 x).1) (y := (bits s 2 x).2) rfl h (by decide) rfl
  have b3 := bits_get (n := 3) (k := 3) (m := (bits s 3 x).1) (y := (bits s 3 x).2) rfl h (by decide) rfl
  have b7 := bits_get (n := 7) (k := 7) (m := (bits s 7 x).1) (y := (bits s 7 x).2) rfl h (by decide) rfl
  unfold lengthen
  by_cases c0 : x.e = 0
  · rw [if_pos c0]
    by_cases c16 : y = 16
    · rw [if_pos c16]
      by_cases cl : l.length = 0
      · rw [if_pos cl]; exact fail_o _ _
      · rw [if_neg cl]; exact b2.2.2.2.1
    · rw [if_neg c16]
      by_cases c17 : y = 17
      · rw [if_pos c17]; exact b3.2.2.2.1
      · rw [if_neg c17]
        by_cases c18 : y = 18
        · rw [if_pos c18]; exact b7.2.2.2.1
        · rw [if_neg c18]
  · rw [if_neg c0]
theorem lengthen_e {l : List Int} {y : Int} (h : (lengthen s l y x).2.e = 0) : x.e = 0 := by
  by_cases c : x.e = 0
  · exact c
  · rw [lengthen_same c] at h; exact h
theorem Aft.many (hs : s.size ≤ 140737488351232) (own : List Int) (all : Int) : ∀ (k : Nat) (l : List Int) (x : St), Ok s x → (x.e = 0 → errOf own = 0) → Aft s mx x (many s own all k l x).2 := by
  intro k
  induction k with
  | zero => intro l x h _; exact Aft.refl h
  | succ k ih =>
    intro l x h he
    unfold Inf.many
    by_cases c : (l.length : Int) < all
    · rw [if_pos c]
      by_cases c2 : x.e = 0
      · rw [if_pos c2]
        have a1 := Aft.next (mx := mx) hs h own he
        have l1 := lengthen_spec (l := l) (y := (Inf.next own s x).1) a1.ok
        have l2 := lengthen_o l (Inf.next own s x).1 a1.ok
        have a2 : Aft s mx _ (lengthen s l (Inf.next own s x).1 (Inf.next own s x).2).2 := ⟨l1.1, l1.2.1, by rw [l2]; exact fun h => h, lengthen_e, by rw [l2]; exact Nat.le_refl _⟩
        exact (a1.trans a2).trans (ih _ _ a2.ok (fun _ => he c2))
      · rw [if_neg c2]; exact Aft.refl h
    · rw [if_neg c]; exact Aft.refl h
theorem Aft.owns : ∀ (t : List Nat) (own : List Int) (x : St), Ok s x → Aft s mx x (owns s t own x).2 := by
  intro t
  induction t with
  | nil => intro own x h; exact Aft.refl h
  | cons a t ih =>
    intro own x h
    have a1 := Aft.bits (mx := mx) h 3 (by decide) 3 rfl
    exact a1.trans (ih _ _ a1.ok)
theorem Aft.lengths (hs : s.size ≤ 140737488351232) (h : Ok s x) : Aft s mx x (lengths s x).2.2 := by
  unfold Inf.lengths
  have a1 := Aft.bits (mx := mx) h 5 (by decide) 5 rfl
  generalize Inf.bits s 5 x = a at *
  have a2 := Aft.bits (mx := mx) a1.ok 5 (by decide) 5 rfl
  simp only
  generalize Inf.bits s 5 a.2 = b at *
  have a3 := Aft.bits (mx := mx) a2.ok 4 (by decide) 4 rfl
  generalize Inf.bits s 4 b.2 = c at *
  have a4 : Aft s mx c.2 (if c.2.e = 0 ∧ (a.1 + 257 > 286 ∨ b.1 + 1 > 30) then Inf.fail c.2 3 else c.2) := by
    split
    · exact Aft.fail a3.ok 3 (by decide)
    · exact Aft.refl a3.ok
  generalize (if c.2.e = 0 ∧ (a.1 + 257 > 286 ∨ b.1 + 1 > 30) then Inf.fail c.2 3 else c.2) = x1 at *
  have a5 := Aft.owns (mx := mx) (order.take (c.1 + 4).toNat) (List.replicate 19 0) x1 a4.ok
  generalize Inf.owns s (order.take (c.1 + 4).toNat) (List.replicate 19 0) x1 = w at *
  have a6 := Aft.table (mx := mx) a5.ok w.1
  have a7 := Aft.many (mx := mx) hs w.1 (a.1 + 257 + (b.1 + 1)) (left s (Inf.table w.1 w.2)) [] _ a6.ok (fun h => (table_e h).2)
  generalize Inf.many s w.1 (a.1 + 257 + (b.1 + 1)) (left s (Inf.table w.1 w.2)) [] (Inf.table w.1 w.2) = z at *
  have a8 := (((((a1.trans a2).trans a3).trans a4).trans a5).trans a6).trans a7
  by_cases c1 : z.2.e = 0
  · rw [if_pos c1]
    by_cases c2 : (z.1.length : Int) > a.1 + 257 + (b.1 + 1) ∨ z.1.getD 256 0 = 0
    · rw [if_pos c2]; exact a8.trans (Aft.fail a7.ok 3 (by decide))
    · rw [if_neg c2]; exact a8
  · rw [if_neg c1]; exact a8
theorem many_o (hs : s.size ≤ 140737488351232) (own : List Int) (all : Int) : ∀ (k : Nat) (l : List Int) (x : St), Ok s x → (x.e = 0 → errOf own = 0) → (many s own all k l x).2.o = x.o := by
  intro k
  induction k with
  | zero => intro l x h _; rfl
  | succ k ih =>
    intro l x h he
    unfold Inf.many
    by_cases c : (l.length : Int) < all
    · rw [if_pos c]
      by_cases c2 : x.e = 0
      · rw [if_pos c2]
        have a1 := Aft.next (mx := 0) hs h own he
        have g1 := next_get (m := (Inf.next own s x).1) (y := (Inf.next own s x).2) hs h he rfl
        have l1 := lengthen_spec (l := l) (y := (Inf.next own s x).1) a1.ok
        have l2 := lengthen_o l (Inf.next own s x).1 a1.ok
        rw [ih _ _ l1.1 (fun _ => he c2), l2, g1.2.2.2.1]
      · rw [if_neg c2]
    · rw [if_neg c]
theorem lengths_o (hs : s.size ≤ 140737488351232) (h : Ok s x) : (lengths s x).2.2.o = x.o := by
  unfold Inf.lengths
  have a1 := bits_get (n := 5) (k := 5) (m := (Inf.bits s 5 x).1) (y := (Inf.bits s 5 x).2) rfl h (by decide) rfl
  generalize Inf.bits s 5 x = a at *
  have a2 := bits_get (n := 5) (k := 5) (m := (Inf.bits s 5 a.2).1) (y := (Inf.bits s 5 a.2).2) rfl a1.1 (by decide) rfl
  simp only
  generalize Inf.bits s 5 a.2 = b at *
  have a3 := bits_get (n := 4) (k := 4) (m := (Inf.bits s 4 b.2).1) (y := (Inf.bits s 4 b.2).2) rfl a2.1 (by decide) rfl
  generalize Inf.bits s 4 b.2 = c at *
  have a4 : Ok s (if c.2.e = 0 ∧ (a.1 + 257 > 286 ∨ b.1 + 1 > 30) then Inf.fail c.2 3 else c.2) ∧ (if c.2.e = 0 ∧ (a.1 + 257 > 286 ∨ b.1 + 1 > 30) then Inf.fail c.2 3 else c.2).o = c.2.o := by
    split
    · exact ⟨fail_ok a3.1 (by decide), fail_o _ _⟩
    · exact ⟨a3.1, rfl⟩
  generalize (if c.2.e = 0 ∧ (a.1 + 257 > 286 ∨ b.1 + 1 > 30) then Inf.fail c.2 3 else c.2) = x1 at *
  have a5 := owns_ok s (order.take (c.1 + 4).toNat) (List.replicate 19 0) x1 a4.1
  generalize Inf.owns s (order.take (c.1 + 4).toNat) (List.replicate 19 0) x1 = w at *
  have a7 := many_o hs w.1 (a.1 + 257 + (b.1 + 1)) (left s (Inf.table w.1 w.2)) [] _ (table_ok a5.1 w.1) (fun h => (table_e h).2)
  generalize Inf.many s w.1 (a.1 + 257 + (b.1 + 1)) (left s (Inf.table w.1 w.2)) [] (Inf.table w.1 w.2) = z at *
  have hz : z.2.o = x.o := by rw [a7]; unfold Inf.table; rw [fail_o, a5.2, a4.2, a3.2.2.2.1, a2.2.2.2.1, a1.2.2.2.1]
  split
  · split
    · exact (fail_o _ _).trans hz
    · exact hz
  · exact hz
theorem cut_len (s : ByteArray) (a n : Nat) : (cut s a n).length = n := by unfold cut; simp
theorem Aft.stored (h : Ok s x) : Aft s mx x (stored s mx x) := by
  have h' : Ok s ⟨(x.p + 7) / 8 * 8, x.o, x.e⟩ := ⟨by have := h.p0; show 0 ≤ (x.p + 7) / 8 * 8; omega, by have := h.p1; show (x.p + 7) / 8 * 8 ≤ _; omega, h.e⟩
  have a0 : Aft s mx x ⟨(x.p + 7) / 8 * 8, x.o, x.e⟩ := ⟨h', by show x.p ≤ (x.p + 7) / 8 * 8; omega, fun h => h, fun h => h, Nat.le_refl _⟩
  have a1 := Aft.bits (mx := mx) h' 16 (by decide) 16 rfl
  have g1 := (bits_get (n := 16) (k := 16) (m := (Inf.bits s 16 ⟨(x.p + 7) / 8 * 8, x.o, x.e⟩).1) (y := (Inf.bits s 16 ⟨(x.p + 7) / 8 * 8, x.o, x.e⟩).2) rfl h' (by decide) rfl).2
  have ge : (Inf.bits s 16 ⟨(x.p + 7) / 8 * 8, x.o, x.e⟩).2.e = 0 → (x.p + 7) / 8 * 8 + 16 ≤ (Inf.bits s 16 ⟨(x.p + 7) / 8 * 8, x.o, x.e⟩).2.p ∧ (Inf.bits s 16 ⟨(x.p + 7) / 8 * 8, x.o, x.e⟩).2.p ≤ (x.p + 7) / 8 * 8 + 16 := fun h => (g1.2.2.2.1 h).2
  replace g1 := g1.1
  unfold Inf.stored
  simp only
  generalize Inf.bits s 16 ⟨(x.p + 7) / 8 * 8, x.o, x.e⟩ = a at *
  have a2 := Aft.bits (mx := mx) a1.ok 16 (by decide) 16 rfl
  have g2 := (bits_get (n := 16) (k := 16) (m := (Inf.bits s 16 a.2).1) (y := (Inf.bits s 16 a.2).2) rfl a1.ok (by decide) rfl).2.2.2.2.1
  generalize Inf.bits s 16 a.2 = b at *
  have a3 := (a0.trans a1).trans a2
  by_cases c1 : b.2.e = 0
  · rw [if_pos c1]
    by_cases c2 : Go.bits .xor .i64 a.1 b.1 = 65535
    · rw [if_pos c2]
      by_cases c3 : (b.2.o.length : Int) + a.1 ≤ mx
      · rw [if_pos c3]
        by_cases c4 : a.1 ≤ s.size - b.2.p / 8
        · rw [if_pos c4]
          refine a3.trans ⟨⟨by have := a2.ok.p0; show 0 ≤ b.2.p + 8 * a.1; omega, ?_, a2.ok.e⟩, by show b.2.p ≤ b.2.p + 8 * a.1; omega, fun _ => by show ((b.2.o ++ _).length : Int) ≤ mx; rw [List.length_append, cut_len]; omega, fun h => h, by show b.2.o.length ≤ (b.2.o ++ _).length; rw [List.length_append]; omega⟩
          have h1 := g2 c1; have h2 := ge h1.1; show b.2.p + 8 * a.1 ≤ 8 * (s.size : Int); have h3 := h1.2.1; have h4 := h1.2.2; omega
        · rw [if_neg c4]; exact a3.trans (Aft.fail a2.ok 2 (by decide))
      · rw [if_neg c3]; exact a3.trans (Aft.fail a2.ok 7 (by decide))
    · rw [if_neg c2]; exact a3.trans (Aft.fail a2.ok 3 (by decide))
  · rw [if_neg c1]; exact a3
theorem tak_zero {r : Int × Int × Int} (h : (tak x r).2.e ≠ 0) : (tak x r).1 = 0 := by
  unfold tak at h ⊢
  by_cases c : x.e = 0
  · rw [if_pos c] at h ⊢
    by_cases c2 : r.2.2 = 0
    · rw [if_pos c2] at h; exact absurd c h
    · rw [if_neg c2]
  · rw [if_neg c]
theorem Aft.block (hs : s.size ≤ 140737488351232) (h : Ok s x) : Aft s mx x (block s mx x).2 ∧ ((block s mx x).2.e = 0 → x.p + 1 ≤ (block s mx x).2.p) := by
  have a1 := Aft.bits (mx := mx) h 1 (by decide) 1 rfl
  have g1 := (bits_get (n := 1) (k := 1) (m := (Inf.bits s 1 x).1) (y := (Inf.bits s 1 x).2) rfl h (by decide) rfl).2.2.2.2.1
  unfold Inf.block
  simp only
  generalize Inf.bits s 1 x = a at *
  have a2 := Aft.bits (mx := mx) a1.ok 2 (by decide) 2 rfl
  have g2 := (bits_get (n := 2) (k := 2) (m := (Inf.bits s 2 a.2).1) (y := (Inf.bits s 2 a.2).2) rfl a1.ok (by decide) rfl).2.2.2.2.1
  have g0 : (Inf.bits s 2 a.2).2.e ≠ 0 → (Inf.bits s 2 a.2).1 = 0 := tak_zero
  generalize Inf.bits s 2 a.2 = b at *
  have a3 := a1.trans a2
  have hp : b.2.e = 0 → x.p + 1 ≤ b.2.p := fun e => by
    have h1 := g2 e
    have h2 := g1 h1.1
    have h3 := h2.2.1
    have h4 := a2.p
    omega
  have go : ∀ y, Aft s mx b.2 y → (b.2.e ≠ 0 → b.1 = 0) → (b.1 = 0 → y.e = 0 → b.2.e = 0) → Aft s mx x y ∧ (y.e = 0 → x.p + 1 ≤ y.p) := fun y k _ h1 => ⟨a3.trans k, fun e => by
    by_cases c : b.2.e = 0
    · exact Int.le_trans (hp c) k.p
    · exact absurd (h1 (g0 c) e) c⟩
  by_cases c0 : b.1 = 0
  · rw [if_pos c0]
    by_cases c1 : b.2.e = 0
    · rw [if_pos c1]; exact go _ (Aft.stored a2.ok) g0 (fun _ _ => c1)
    · rw [if_neg c1]; exact go _ (Aft.refl a2.ok) g0 (fun _ h => h)
  · rw [if_neg c0]
    by_cases c1 : b.1 = 1
    · rw [if_pos c1]; exact go _ (Aft.both hs _ _ a2.ok) g0 (fun h => absurd h c0)
    · rw [if_neg c1]
      by_cases c2 : b.1 = 2
      · rw [if_pos c2]
        have a4 := Aft.lengths (mx := mx) hs a2.ok
        exact go _ (a4.trans (Aft.both hs _ _ a4.ok)) g0 (fun h => absurd h c0)
      · rw [if_neg c2]; exact go _ (Aft.fail a2.ok 3 (by decide)) g0 (fun h => absurd h c0)
theorem Aft.blocks (hs : s.size ≤ 140737488351232) : ∀ (k : Nat) (x : St), Ok s x → Aft s mx x (blocks s mx k x) := by
  intro k
  induction k with
  | zero => intro x h; exact Aft.refl h
  | succ k ih =>
    intro x h
    have a1 := Aft.block (mx := mx) hs h
    unfold Inf.blocks
    split
    · exact a1.1
    · split
      · exact a1.1.trans (ih _ a1.1.ok)
      · exact a1.1
end

set_option maxRecDepth 100000 in
set_option maxHeartbeats 8000000 in
theorem block_calls (w0 : World) (g : Nat) (v : Value) (s : ByteArray) (mx : Int) (x : St) (w : World) (hs : s.size ≤ 17592186044416) (hmx : 0 ≤ mx ∧ mx ≤ 262144) (ho : (x.o.length : Int) ≤ mx) (hx : Ok s x) (h : ISt w0 g v s mx x w) :
    Calls Try.prog 72 #[.pointer (some ⟨g, 0, none⟩)] w (Post w0 g v s mx w (.bool (block s mx x).1) (block s mx x).2) := by
  have HH := Aside0.mk h
  have HF := Aside0.mk (Fro.refl w g v)
  have HSB : Aside0 (s.size ≤ 140737488351232) := ⟨by omega⟩
  clear h
  obtain ⟨a, x1, ha⟩ : ∃ a x1, bits s 1 x = (a, x1) := ⟨_, _, rfl⟩
  obtain ⟨b, x2, hb⟩ : ∃ b x2, bits s 2 x1 = (b, x2) := ⟨_, _, rfl⟩
  obtain ⟨hok1, ha0, ha1, hao, -, -⟩ := bits_get (n := 1) rfl hx (by decide) ha
  obtain ⟨hok2, hb0, hb1, hbo, -, -⟩ := bits_get (n := 2) rfl hok1 (by decide) hb
  have HO2 : Aside0 ((x2.o.length : Int) ≤ mx) := ⟨by rw [hbo, hao]; exact ho⟩
  have HO2n : Aside0 (x2.o.length ≤ 262144) := ⟨by have := HO2.out; omega⟩
  obtain ⟨R, hR⟩ : ∃ R, R = (block s mx x).2 := ⟨_, rfl⟩
  have hres : block s mx x = (decide (a = 1), if b = 0 then (if x2.e = 0 then stored s mx x2 else x2) else if b = 1 then both s mx plainA plainB x2 else if b = 2 then both s mx (lengths s x2).1 (lengths s x2).2.1 (lengths s x2).2.2 else fail x2 3) := by
    unfold block
    simp only [ha, hb]
  rw [hres] at hR
  rw [hres]
  simp only at hR ⊢
  rw [← hR]
  have HA := Aside0.mk ha
  have HB := Aside0.mk hb
  have HR := Aside0.mk hR
  have HP0 : Aside0 (x.p ≤ 9223372036854775807) := ⟨by have := hx.p1; omega⟩
  have HP1 : Aside0 (x1.p ≤ 9223372036854775807) := ⟨by have := hok1.p1; omega⟩
  have HOK2 := Aside0.mk hok2
  have HMX := Aside0.mk hmx
  have HS := Aside0.mk hs
  have hbeq : (a == 1) = decide (a = 1) := rfl
  clear ha hb hres hR hok1 hok2 hx hao hbo ho hmx hs
  go_enter Try.func72, Try.ntmps72
  go_upto_region 4 with (first
    | (go_at_call 94; (with_reducible refine (bits_calls w0 g v s mx x 1 _ HSB.out HP0.out HH.out).mono ?_); rw [HA.out]; rintro e w1 ⟨v1, rfl, hi, hf⟩; have HI1 := Aside0.mk hi; have HF1 := Aside0.mk (HF.out.trans hf); clear hi hf HF)
    | (go_at_call 94; (with_reducible refine (bits_calls w0 g v1 s mx x1 2 _ HSB.out HP1.out HI1.out).mono ?_); rw [HB.out]; rintro e w2 ⟨v2, rfl, hi, hf⟩; have HI2 := Aside0.mk hi; have HF2 := Aside0.mk (HF1.out.trans hf); clear hi hf HI1 HF1))
  have hc4 := HI2.out.c4
  by_cases c0 : b = 0
  · have d0 : (b == 0) = true := by rw [c0]; rfl
    have hR := HR.out
    rw [if_pos c0] at hR
    by_cases c1 : x2.e = 0
    · have d1 : (x2.e == 0) = true := by rw [c1]; rfl
      rw [if_pos c1] at hR
      have HR2 := Aside0.mk hR
      clear hR HR
      go_wp2_with (go_at_call 95; (with_reducible refine (stored_calls w0 g v2 s mx x2 _ HS.out HO2n.out HMX.out HOK2.out HI2.out).mono ?_); rw [← HR2.out]; rintro e w3 ⟨v3, rfl, hi, hf⟩; have HI3 := Aside0.mk hi; have HF3 := Aside0.mk (HF2.out.trans hf); clear hi hf)
      exact bodyPost_ret (v := .bool (decide (a = 1))) (by simp [results, Try.results72, go_sem]) rfl ⟨v3, rfl, HI3.out, HF3.out⟩
    · have d1 : (x2.e == 0) = false := beq_eq_false_iff_ne.2 c1
      rw [if_neg c1] at hR
      have HR2 := Aside0.mk hR
      clear hR HR
      go_wp2
      exact bodyPost_ret (v := .bool (decide (a = 1))) (by simp [results, Try.results72, go_sem]) rfl ⟨v2, rfl, by rw [HR2.out]; exact HI2.out, HF2.out⟩
  · have d0 : (b == 0) = false := beq_eq_false_iff_ne.2 c0
    have hR := HR.out
    rw [if_neg c0] at hR
    by_cases c1 : b = 1
    · have d1 : (b == 1) = true := by rw [c1]; rfl
      rw [if_pos c1] at hR
      obtain ⟨LA, hLA⟩ : ∃ LA, LA = plainA := ⟨_, rfl⟩
      obtain ⟨LB, hLB⟩ : ∃ LB, LB = plainB := ⟨_, rfl⟩
      rw [← hLA, ← hLB] at hR
      have HL := Aside0.mk (And.intro hLA hLB)
      have HR2 := Aside0.mk hR
      have HOT : Aside0 (((table LB (table LA x2)).o.length : Int) ≤ mx) := ⟨((Aft.table (mx := mx) HOK2.out LA).trans (Aft.table (table_ok HOK2.out LA) LB)).o HO2.out⟩
      have HOKT : Aside0 (Ok s (table LB (table LA x2))) := ⟨table_ok (table_ok HOK2.out LA) LB⟩
      clear hR HR hLA hLB
      go_upto_region 9 with (go_at_call 96; (with_reducible refine (plain_calls _).mono ?_); rw [← HL.out.1, ← HL.out.2]; rintro e w3 ⟨u0, u1, rfl, hr0, hr1, hb⟩; have HR0 := Aside0.mk hr0; have HR1 := Aside0.mk hr1; have HBW := Aside0.mk hb; clear hr0 hr1 hb)
      obtain ⟨A, cA, hu0⟩ := Kd.R_slice HR0.out
      obtain ⟨B, cB, hu1⟩ := Kd.R_slice HR1.out
      subst hu0
      subst hu1
      have hside : ∀ k, w2.heap.size ≤ k → k < w3.heap.size → w3.heap[k]? = w3.heap[k]? ∧ k ≠ g ∧ some k ≠ v2.ownBlock := fun k h1 _ => ⟨rfl, fun e => by have := HI2.out.glt; omega, fun e => by have := (HI2.out.own k e.symm).2; omega⟩
      have HFA : Aside0 (Foot w3 g v2 A LA) := ⟨foot_of HR0.out (Nat.le_refl _) hside⟩
      have HFB : Aside0 (Foot w3 g v2 B LB) := ⟨foot_of HR1.out (Nat.le_refl _) hside⟩
      have HI3 := Aside0.mk (HI2.out.below HBW.out)
      have HF3 := Aside0.mk (HF2.out.below HBW.out)
      clear hside
      go_wp2_with (first
        | (go_at_call 98; (with_reducible refine (table_calls w0 g v2 s mx x2 A cA LA _ HI3.out HFA.out.now).mono ?_); rintro e w4 ⟨ta, v4, rfl, ht, hi, hf⟩; have HI4 := Aside0.mk hi; have HF4 := Aside0.mk (HF3.out.trans hf); have HTA4 := Aside0.mk ht; have HFB4 := Aside0.mk (HFB.out.fro hf); clear hi hf ht)
        | (go_at_call 98; (with_reducible refine (table_calls w0 g v4 s mx (table LA x2) B cB LB _ HI4.out HFB4.out.now).mono ?_); rintro e w5 ⟨tb, v5, rfl, ht, hi, hf⟩; have HI5 := Aside0.mk hi; have HF5 := Aside0.mk (HF4.out.trans hf); have HTB5 := Aside0.mk ht; have HTA5 := Aside0.mk (HTA4.out.fro hf); clear hi hf ht)
        | (go_at_call 97; (with_reducible refine (codes_calls w0 g v5 s mx (table LB (table LA x2)) LA LB ta tb _ HS.out HMX.out HOT.out HOKT.out both_e HI5.out (HTA5.out.imp (fun h => (table_e (table_e h).1).1)) (HTB5.out.imp (fun h => (table_e h).1))).mono ?_); rintro e w6 ⟨v6, rfl, hi, hf⟩; have HI6 := Aside0.mk hi; have HF6 := Aside0.mk (HF5.out.trans hf); clear hi hf))
      exact bodyPost_ret (v := .bool (decide (a = 1))) (by simp [results, Try.results72, go_sem]) rfl ⟨v6, rfl, by rw [HR2.out, both_eq]; exact HI6.out, HF6.out⟩
    · have d1 : (b == 1) = false := beq_eq_false_iff_ne.2 c1
      rw [if_neg c1] at hR
      by_cases c2 : b = 2
      · have d2 : (b == 2) = true := by rw [c2]; rfl
        rw [if_pos c2] at hR
        obtain ⟨LA, LB, x3, hl⟩ : ∃ LA LB x3, lengths s x2 = (LA, LB, x3) := ⟨_, _, _, rfl⟩
        have hax := Aft.lengths (mx := mx) HSB.out HOK2.out
        rw [hl] at hR hax
        simp only at hR hax
        have HL := Aside0.mk hl
        have HR2 := Aside0.mk hR
        have HOT : Aside0 (((table LB (table LA x3)).o.length : Int) ≤ mx) := ⟨((hax.trans (Aft.table (mx := mx) hax.ok LA)).trans (Aft.table (table_ok hax.ok LA) LB)).o HO2.out⟩
        have HOKT : Aside0 (Ok s (table LB (table LA x3))) := ⟨table_ok (table_ok hax.ok LA) LB⟩
        clear hR HR hl hax
        go_upto_region 12 with (go_at_call 99; (with_reducible refine (lengths_calls w0 g v2 s mx x2 _ HS.out HOK2.out HI2.out).mono ?_); rw [HL.out]; rintro e w3 ⟨v3, A, B, cA, cB, rfl, hi, hf, hfa, hfb⟩; have HI3 := Aside0.mk hi; have HF3 := Aside0.mk (HF2.out.trans hf); have HFA := Aside0.mk hfa; have HFB := Aside0.mk hfb; clear hi hf hfa hfb)
        go_wp2_with (first
          | (go_at_call 98; (with_reducible refine (table_calls w0 g v3 s mx x3 A cA LA _ HI3.out HFA.out.now).mono ?_); rintro e w4 ⟨ta, v4, rfl, ht, hi, hf⟩; have HI4 := Aside0.mk hi; have HF4 := Aside0.mk (HF3.out.trans hf); have HTA4 := Aside0.mk ht; have HFB4 := Aside0.mk (HFB.out.fro hf); clear hi hf ht)
          | (go_at_call 98; (with_reducible refine (table_calls w0 g v4 s mx (table LA x3) B cB LB _ HI4.out HFB4.out.now).mono ?_); rintro e w5 ⟨tb, v5, rfl, ht, hi, hf⟩; have HI5 := Aside0.mk hi; have HF5 := Aside0.mk (HF4.out.trans hf); have HTB5 := Aside0.mk ht; have HTA5 := Aside0.mk (HTA4.out.fro hf); clear hi hf ht)
          | (go_at_call 97; (with_reducible refine (codes_calls w0 g v5 s mx (table LB (table LA x3)) LA LB ta tb _ HS.out HMX.out HOT.out HOKT.out both_e HI5.out (HTA5.out.imp (fun h => (table_e (table_e h).1).1)) (HTB5.out.imp (fun h => (table_e h).1))).mono ?_); rintro e w6 ⟨v6, rfl, hi, hf⟩; have HI6 := Aside0.mk hi; have HF6 := Aside0.mk (HF5.out.trans hf); clear hi hf))
        exact bodyPost_ret (v := .bool (decide (a = 1))) (by simp [results, Try.results72, go_sem]) rfl ⟨v6, rfl, by rw [HR2.out, both_eq]; exact HI6.out, HF6.out⟩
      · have d2 : (b == 2) = false := beq_eq_false_iff_ne.2 c2
        rw [if_neg c2] at hR
        have HR2 := Aside0.mk hR
        clear hR HR
        go_wp2_with (go_at_call 100; (with_reducible refine (fail_calls w0 g v2 s mx x2 3 _ HI2.out).mono ?_); rw [← HR2.out]; rintro e w3 ⟨v3, rfl, hi, hf⟩; have HI3 := Aside0.mk hi; have HF3 := Aside0.mk (HF2.out.trans hf); clear hi hf)
        exact bodyPost_ret (v := .bool (decide (a = 1))) (by simp [results, Try.results72, go_sem]) rfl ⟨v3, rfl, HI3.out, HF3.out⟩
end Go.Proofs.Ytpbhkdamkbopkaa.Inf
