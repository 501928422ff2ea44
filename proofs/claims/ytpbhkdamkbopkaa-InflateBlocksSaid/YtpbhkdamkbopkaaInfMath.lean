/- What numbers and symbols that are read say of the place behind them. -/
import Derived.Test.YtpbhkdamkbopkaaInfDef
namespace Go.Proofs.Ytpbhkdamkbopkaa.Inf
set_option linter.unusedSimpArgs false
set_option linter.unusedVariables false
open Go.RowKit Go.Proofs.Ytpbhkdamkbopkaa.Ext Go.Proofs.Ytpbhkdamkbopkaa.RefP Go.Proofs.Ytpbhkdamkbopkaa.Stage Go.Proofs.YtpbhkdamkbopkaaW.PrintWords Go.Proofs.YtpbhkdamkbopkaaW.PrintLast Go.Proofs.YtpbhkdamkbopkaaW.PrintMore

/-- What an answer says: a symbol and a place further on, or an error. -/
def Good (s : ByteArray) (p : Int) (lo hi : Int) (r : Int × Int × Int) : Prop := r.2.2 = 0 ∧ 0 ≤ r.1 ∧ r.1 < hi ∧ p + lo ≤ r.2.1 ∧ r.2.1 ≤ p + 16 ∧ r.2.1 ≤ 8 * s.size ∨ r = (0, 0, 2) ∨ r = (0, 0, 4)
theorem stage_good (l : List Int) (hl : l.length ≤ 320) (s : ByteArray) (hs : s.size ≤ 140737488351232) (pos : Int) (h0 : 0 ≤ pos) (hp : pos ≤ 4611686018427387904) (d : Nat) : ∀ n : Nat, n + d = 15 → firstC l n ≤ Vn s pos n → (n = 0 ∨ pos + n ≤ 8 * s.size) →
    ∃ r, stageOf l s pos n = some r ∧ Good s pos 1 l.length r := by
  induction d with
  | zero =>
    intro n hn hV hb
    obtain rfl : n = 15 := by omega
    unfold stageOf
    by_cases c : Vn s pos 15 < Gn l 15
    · rw [if_pos c]
      obtain ⟨i, e, hi, _⟩ := symbol_is l 15 (by decide) (by decide) _ hV c
      refine ⟨_, rfl, .inl ⟨rfl, ?_, ?_, ?_, ?_, ?_⟩⟩
      · rw [e]; omega
      · rw [e]; omega
      · show pos + 1 ≤ pos + ((15 : Nat) : Int); omega
      · show pos + ((15 : Nat) : Int) ≤ pos + 16; omega
      · show pos + ((15 : Nat) : Int) ≤ 8 * s.size; omega
    · rw [if_neg c, if_pos (show Sn l 15 = (syms l).length from rfl)]
      exact ⟨_, rfl, .inr (.inr rfl)⟩
  | succ d ih =>
    intro n hn hV hb
    by_cases c : Vn s pos n < Gn l n
    · have hn1 : 1 ≤ n := by
        rcases Nat.eq_zero_or_pos n with h | h
        · subst h; rw [Gn_zero] at c; exact absurd c (by show ¬ (0 : Int) < 0; decide)
        · exact h
      unfold stageOf
      rw [if_pos c]
      obtain ⟨i, e, hi, _⟩ := symbol_is l n hn1 (by omega) _ hV c
      refine ⟨_, rfl, .inl ⟨rfl, ?_, ?_, ?_, ?_, ?_⟩⟩
      · rw [e]; omega
      · rw [e]; omega
      · show pos + 1 ≤ pos + (n : Int); omega
      · show pos + (n : Int) ≤ pos + 16; omega
      · show pos + (n : Int) ≤ 8 * s.size; omega
    · by_cases c2 : Sn l n = (syms l).length
      · unfold stageOf
        rw [if_neg c, if_pos c2]
        exact ⟨_, rfl, .inr (.inr rfl)⟩
      · rw [stage_step l hl s hs pos h0 hp n (by omega) (by omega) c2]
        by_cases c3 : pos + n < 8 * s.size
        · rw [if_pos c3]
          refine ih (n + 1) (by omega) ?_ (.inr (by omega))
          have hV1 : Vn s pos (n + 1) = 2 * Vn s pos n + bitN s (pos + n) := rfl
          have hbr := bitN_rng s (pos + n)
          rw [firstC_succ, hV1]
          omega
        · rw [if_neg c3]
          exact ⟨_, rfl, .inr (.inl rfl)⟩
theorem next_some (l : List Int) (he : errOf l = 0) (s : ByteArray) (hs : s.size ≤ 140737488351232) (pos : Int) (h0 : 0 ≤ pos) (hp : pos ≤ 4611686018427387904) :
    nextOf (newCs l) (newSs l) s pos = some (nextL l s pos) ∧ Good s pos 1 l.length (nextL l s pos) := by
  obtain ⟨hl, _, _⟩ := errOf_ok l he
  obtain ⟨r, h1, h2⟩ := stage_good l hl s hs pos h0 hp 15 0 rfl (by show (0 : Int) ≤ 0; decide) (.inl rfl)
  have e : nextOf (newCs l) (newSs l) s pos = some r ∨ (nextOf (newCs l) (newSs l) s pos = some (0, 0, 4)) := by
    rw [nextOf_good l he s pos h0]
    by_cases ht : (syms l).length = 0
    · rw [if_pos ht]; exact .inr rfl
    · rw [if_neg ht]
      refine .inl ?_
      rw [← h1]
      have e0 : Sn l 0 = 0 := rfl
      have eV : ¬ Vn s pos 0 < Gn l 0 := by rw [Gn_zero]; exact Int.lt_irrefl 0
      unfold stageOf
      rw [if_neg eV, e0, Gn_zero, if_neg (by omega), show pos + ((0 : Nat) : Int) = pos by omega]
      rfl
  unfold nextL
  rcases e with e | e
  · rw [e]; exact ⟨rfl, h2⟩
  · rw [e]; exact ⟨rfl, .inr (.inr rfl)⟩
theorem bits_some (s : ByteArray) (pos : Int) (n : Nat) (h0 : 0 ≤ pos) (hn : n ≤ 16) : Good s pos n (2 ^ n) (bitsOf s pos n) := by
  unfold bitsOf
  rw [if_neg (by omega)]
  by_cases h : pos + n ≤ 8 * s.size
  · rw [if_pos h, Int.toNat_natCast]
    have := Bn_rng s pos n
    exact .inl ⟨rfl, this.1, this.2, Int.le_refl _, by show pos + (n : Int) ≤ pos + 16; omega, h⟩
  · rw [if_neg h]
    exact .inr (.inl rfl)
/-- A state whose place is one. -/
structure Ok (s : ByteArray) (x : St) : Prop where
  p0 : 0 ≤ x.p
  p1 : x.p ≤ 8 * s.size
  e : x.e = 0 ∨ x.e = 1 ∨ x.e = 2 ∨ x.e = 3 ∨ x.e = 4 ∨ x.e = 7
theorem fail_ok {s : ByteArray} {x : St} (h : Ok s x) {e : Int} (he : e = 0 ∨ e = 1 ∨ e = 2 ∨ e = 3 ∨ e = 4 ∨ e = 7) : Ok s (fail x e) := by
  unfold fail
  split
  · exact ⟨h.p0, h.p1, he⟩
  · exact h
theorem tak_ok {s : ByteArray} {x : St} {lo hi : Int} {r : Int × Int × Int} (hlo : 0 ≤ lo) (h : Ok s x) (hg : Good s x.p lo hi r) : Ok s (tak x r).2 := by
  unfold tak
  by_cases c : x.e = 0
  · rw [if_pos c]
    rcases hg with ⟨h1, h2, h3, h4, h5, h6⟩ | rfl | rfl
    · rw [if_pos h1]
      exact ⟨by have := h.p0; show 0 ≤ r.2.1; omega, h6, h.e⟩
    · exact ⟨h.p0, h.p1, .inr (.inr (.inl rfl))⟩
    · exact ⟨h.p0, h.p1, .inr (.inr (.inr (.inr (.inl rfl))))⟩
  · rw [if_neg c]; exact h
/-- A number or a symbol that is taken is in its range; the place goes on. -/
theorem tak_get {s : ByteArray} {x : St} {lo hi : Int} {r : Int × Int × Int} (hhi : 0 < hi) (hg : Good s x.p lo hi r) : 0 ≤ (tak x r).1 ∧ (tak x r).1 < hi ∧ (tak x r).2.o = x.o ∧ ((tak x r).2.e = 0 → x.e = 0 ∧ x.p + lo ≤ (tak x r).2.p ∧ (tak x r).2.p ≤ x.p + 16) ∧ (x.e ≠ 0 → (tak x r).2 = x) := by
  unfold tak
  by_cases c : x.e = 0
  · rw [if_pos c]
    rcases hg with ⟨h1, h2, h3, h4, h5, h6⟩ | rfl | rfl
    · rw [if_pos h1]
      exact ⟨h2, h3, rfl, fun _ => ⟨c, h4, h5⟩, fun h => absurd c h⟩
    · exact ⟨Int.le_refl _, hhi, rfl, fun h => absurd h (by show ¬ (2 : Int) = 0; decide), fun h => absurd c h⟩
    · exact ⟨Int.le_refl _, hhi, rfl, fun h => absurd h (by show ¬ (4 : Int) = 0; decide), fun h => absurd c h⟩
  · rw [if_neg c]
    exact ⟨Int.le_refl _, hhi, rfl, fun h => absurd h c, fun _ => rfl⟩
theorem errOf_rng (l : List Int) : errOf l = 0 ∨ errOf l = 1 ∨ errOf l = 4 := by
  unfold errOf
  (repeat' split) <;> first | exact .inl rfl | exact .inr (.inl rfl) | exact .inr (.inr rfl)
theorem table_ok {s : ByteArray} {x : St} (h : Ok s x) (l : List Int) : Ok s (table l x) := fail_ok h (by rcases errOf_rng l with e | e | e <;> rw [e] <;> decide)
end Go.Proofs.Ytpbhkdamkbopkaa.Inf
