/- What a reader reads of bytes that begin alike, with another room. -/
import Derived.Test.YtpbhkdamkbopkaaExtI12
namespace Go.Proofs.Ytpbhkdamkbopkaa.Inf
set_option linter.unusedSimpArgs false
set_option linter.unusedVariables false
open Go.RowKit Go.Proofs.Ytpbhkdamkbopkaa.Ext Go.Proofs.Ytpbhkdamkbopkaa.RefP Go.Proofs.Ytpbhkdamkbopkaa.Stage Go.Proofs.YtpbhkdamkbopkaaW.PrintWords Go.Proofs.YtpbhkdamkbopkaaW.PrintLast Go.Proofs.YtpbhkdamkbopkaaW.PrintMore

/-- Bytes that are the same as far as N. -/
structure Agr (s t : ByteArray) (N : Nat) : Prop where
  ns : N ≤ s.size
  nt : N ≤ t.size
  b : ∀ j : Int, 0 ≤ j → j < N → bt t j = bt s j
  hs : s.size ≤ 140737488351232
  ht : t.size ≤ 140737488351232
section
variable {s t : ByteArray} {N : Nat} {mx mz : Int} {x y z : St}
theorem Agr.bit (A : Agr s t N) (i : Int) (h0 : 0 ≤ i) (h1 : i < 8 * N) : bitN t i = bitN s i := by
  unfold bitN; rw [A.b (i / 8) (by omega) (by omega)]
theorem Agr.bn (A : Agr s t N) (pos : Int) (h0 : 0 ≤ pos) : ∀ n : Nat, pos + n ≤ 8 * N → Bn t pos n = Bn s pos n := by
  intro n
  induction n with
  | zero => intro _; rfl
  | succ n ih =>
    intro h
    show Bn t pos n + 2 ^ n * bitN t (pos + n) = Bn s pos n + 2 ^ n * bitN s (pos + n)
    rw [ih (by omega), A.bit (pos + n) (by omega) (by omega)]
theorem Agr.vn (A : Agr s t N) (pos : Int) (h0 : 0 ≤ pos) : ∀ n : Nat, pos + n ≤ 8 * N → Vn t pos n = Vn s pos n := by
  intro n
  induction n with
  | zero => intro _; rfl
  | succ n ih =>
    intro h
    show 2 * Vn t pos n + bitN t (pos + n) = 2 * Vn s pos n + bitN s (pos + n)
    rw [ih (by omega), A.bit (pos + n) (by omega) (by omega)]
theorem tak_sim {r r' : Int × Int × Int} (he : (tak x r).2.e = 0) (h : r.2.2 = 0 → (tak x r).2.p = r.2.1 → r' = r) : tak x r' = tak x r := by
  by_cases c : x.e = 0
  · by_cases c2 : r.2.2 = 0
    · have e : (tak x r).2.p = r.2.1 := by unfold tak; rw [if_pos c, if_pos c2]
      rw [h c2 e]
    · exfalso; unfold tak at he; rw [if_pos c, if_neg c2] at he; exact c2 he
  · exfalso; unfold tak at he; rw [if_neg c] at he; exact c he
theorem bits_sim (A : Agr s t N) (h0 : 0 ≤ x.p) (k : Int) (he : (bits s k x).2.e = 0) (hp : (bits s k x).2.p ≤ 8 * N) : bits t k x = bits s k x := by
  refine tak_sim he (fun h1 h2 => ?_)
  have hp2 : (bitsOf s x.p k).2.1 ≤ 8 * N := by rw [← h2]; exact hp
  unfold bitsOf at h1 hp2 ⊢
  by_cases c : x.p < 0 ∨ k < 0 ∨ 16 < k
  · rw [if_pos c] at h1; exact absurd h1 (by decide)
  · rw [if_neg c] at h1 hp2 ⊢
    rw [if_neg c]
    by_cases c2 : x.p + k ≤ 8 * s.size
    · rw [if_pos c2] at hp2 ⊢
      have := A.nt
      simp only at hp2
      rw [if_pos (by omega), A.bn x.p h0 k.toNat (by omega)]
    · rw [if_neg c2] at h1; exact absurd h1 (by decide)
theorem stage_lo (l : List Int) (hl : l.length ≤ 320) (hs : s.size ≤ 140737488351232) (pos : Int) (h0 : 0 ≤ pos) (hp : pos ≤ 4611686018427387904) (r : Int × Int × Int) (d : Nat) : ∀ n : Nat, n + d = 15 → stageOf l s pos n = some r → r.2.2 = 0 → pos + n ≤ r.2.1 := by
  induction d with
  | zero =>
    intro n hn h hr
    obtain rfl : n = 15 := by omega
    unfold stageOf at h
    by_cases c : Vn s pos 15 < Gn l 15
    · rw [if_pos c] at h; cases h; exact Int.le_refl _
    · rw [if_neg c, if_pos (show Sn l 15 = (syms l).length from rfl)] at h
      cases h; exact absurd hr (by decide)
  | succ d ih =>
    intro n hn h hr
    by_cases c : Vn s pos n < Gn l n
    · unfold stageOf at h
      rw [if_pos c] at h; cases h; exact Int.le_refl _
    · by_cases c2 : Sn l n = (syms l).length
      · unfold stageOf at h
        rw [if_neg c, if_pos c2] at h
        cases h; exact absurd hr (by decide)
      · rw [stage_step l hl s hs pos h0 hp n (by omega) (by omega) c2] at h
        by_cases c3 : pos + n < 8 * s.size
        · rw [if_pos c3] at h
          have := ih (n + 1) (by omega) h hr
          omega
        · rw [if_neg c3] at h; cases h; exact absurd hr (by decide)
theorem stage_sim (A : Agr s t N) (l : List Int) (hl : l.length ≤ 320) (pos : Int) (h0 : 0 ≤ pos) (hp : pos ≤ 4611686018427387904) (r : Int × Int × Int) (hr : r.2.2 = 0) (hN : r.2.1 ≤ 8 * N) (d : Nat) : ∀ n : Nat, n + d = 15 → Vn t pos n = Vn s pos n → stageOf l s pos n = some r → stageOf l t pos n = some r := by
  induction d with
  | zero =>
    intro n hn hV h
    obtain rfl : n = 15 := by omega
    unfold stageOf at h ⊢
    rw [hV]
    by_cases c : Vn s pos 15 < Gn l 15
    · rw [if_pos c] at h ⊢; exact h
    · rw [if_neg c, if_pos (show Sn l 15 = (syms l).length from rfl)] at h
      cases h; exact absurd hr (by decide)
  | succ d ih =>
    intro n hn hV h
    by_cases c : Vn s pos n < Gn l n
    · unfold stageOf at h ⊢
      rw [hV]
      rw [if_pos c] at h ⊢; exact h
    · by_cases c2 : Sn l n = (syms l).length
      · unfold stageOf at h
        rw [if_neg c, if_pos c2] at h
        cases h; exact absurd hr (by decide)
      · rw [stage_step l hl s A.hs pos h0 hp n (by omega) (by omega) c2] at h
        by_cases c3 : pos + n < 8 * s.size
        · rw [if_pos c3] at h
          have hlo := stage_lo l hl A.hs pos h0 hp r d (n + 1) (by omega) h hr
          have := A.nt
          rw [stage_step l hl t A.ht pos h0 hp n (by omega) (by rw [hV]; omega) c2, if_pos (by omega)]
          refine ih (n + 1) (by omega) ?_ h
          exact A.vn pos h0 (n + 1) (by omega)
        · rw [if_neg c3] at h; cases h; exact absurd hr (by decide)
theorem next_stage (l : List Int) (he : errOf l = 0) (s : ByteArray) (pos : Int) (h0 : 0 ≤ pos) (ht : (syms l).length ≠ 0) : nextOf (newCs l) (newSs l) s pos = stageOf l s pos 0 := by
  rw [nextOf_good l he s pos h0, if_neg ht]
  have e0 : Sn l 0 = 0 := rfl
  have eV : ¬ Vn s pos 0 < Gn l 0 := by rw [Gn_zero]; exact Int.lt_irrefl 0
  unfold stageOf
  rw [if_neg eV, e0, Gn_zero, if_neg (by omega), show pos + ((0 : Nat) : Int) = pos by omega]
  rfl
theorem next_sim (A : Agr s t N) (h : Ok s x) (l : List Int) (hl : x.e = 0 → errOf l = 0) (he : (next l s x).2.e = 0) (hp : (next l s x).2.p ≤ 8 * N) : next l t x = next l s x := by
  have c : x.e = 0 := (Aft.next (mx := 0) A.hs h l hl).e he
  have hp1 : x.p ≤ 4611686018427387904 := by have := h.p1; have := A.hs; omega
  refine tak_sim he (fun h1 h2 => ?_)
  have hp2 : (nextL l s x.p).2.1 ≤ 8 * N := by rw [← h2]; exact hp
  have n1 := (next_some l (hl c) s A.hs x.p h.p0 hp1).1
  have n2 := (next_some l (hl c) t A.ht x.p h.p0 hp1).1
  by_cases ht : (syms l).length = 0
  · rw [nextOf_good l (hl c) s x.p h.p0, if_pos ht] at n1
    have e := Option.some.inj n1
    rw [← e] at h1; exact absurd h1 (by decide)
  · rw [next_stage l (hl c) s x.p h.p0 ht] at n1
    rw [next_stage l (hl c) t x.p h.p0 ht] at n2
    have := stage_sim A l (errOf_ok l (hl c)).1 x.p h.p0 hp1 _ h1 hp2 15 0 rfl rfl n1
    rw [this] at n2
    exact (Option.some.inj n2).symm
theorem lengthen_sim (A : Agr s t N) (h : Ok s x) (l : List Int) (n : Int) (he : (lengthen s l n x).2.e = 0) (hp : (lengthen s l n x).2.p ≤ 8 * N) : lengthen t l n x = lengthen s l n x := by
  have c0 := lengthen_e he
  unfold lengthen at he hp ⊢
  rw [if_pos c0] at he hp
  rw [if_pos c0, if_pos c0]
  by_cases c16 : n = 16
  · rw [if_pos c16] at he hp
    rw [if_pos c16, if_pos c16]
    by_cases cl : l.length = 0
    · rw [if_pos cl, if_pos cl]
    · rw [if_neg cl] at he hp
      rw [if_neg cl, if_neg cl, bits_sim A h.p0 2 he hp]
  · rw [if_neg c16] at he hp
    rw [if_neg c16, if_neg c16]
    by_cases c17 : n = 17
    · rw [if_pos c17] at he hp
      rw [if_pos c17, if_pos c17, bits_sim A h.p0 3 he hp]
    · rw [if_neg c17] at he hp
      rw [if_neg c17, if_neg c17]
      by_cases c18 : n = 18
      · rw [if_pos c18] at he hp
        rw [if_pos c18, if_pos c18, bits_sim A h.p0 7 he hp]
      · rw [if_neg c18, if_neg c18]
theorem owns_sim (A : Agr s t N) : ∀ (q : List Nat) (own : List Int) (x : St), Ok s x → (owns s q own x).2.e = 0 → (owns s q own x).2.p ≤ 8 * N → owns t q own x = owns s q own x := by
  intro q
  induction q with
  | nil => intro own x h _ _; rfl
  | cons a q ih =>
    intro own x h he hp
    have a1 := Aft.bits (mx := 0) h 3 (by decide) 3 rfl
    have a2 := Aft.owns (mx := 0) q (own.set a (bits s 3 x).1) (bits s 3 x).2 a1.ok
    have e1 : bits t 3 x = bits s 3 x := bits_sim A h.p0 3 (a2.e he) (Int.le_trans a2.p hp)
    show owns t q (own.set a (bits t 3 x).1) (bits t 3 x).2 = owns s q (own.set a (bits s 3 x).1) (bits s 3 x).2
    rw [e1]
    exact ih _ _ a1.ok he hp
theorem many_sim (A : Agr s t N) (own : List Int) (all : Int) : ∀ (k : Nat) (l : List Int) (x : St), Ok s x → (x.e = 0 → errOf own = 0) → left s x ≤ k → (many s own all k l x).2.e = 0 → (many s own all k l x).2.p ≤ 8 * N → ∀ k', left t x ≤ k' → many t own all k' l x = many s own all k l x := by
  intro k
  induction k with
  | zero => intro l x h ho hk; exact absurd hk (by unfold left; omega)
  | succ k ih =>
    intro l x h ho hk he hp k' hk'
    obtain ⟨k1, rfl⟩ : ∃ k1, k' = k1 + 1 := ⟨k' - 1, by unfold left at hk'; omega⟩
    unfold many at he hp ⊢
    by_cases c : (l.length : Int) < all
    · rw [if_pos c] at he hp
      rw [if_pos c, if_pos c]
      by_cases c2 : x.e = 0
      · rw [if_pos c2] at he hp
        rw [if_pos c2, if_pos c2]
        have a1 := Aft.next (mx := 0) A.hs h own ho
        have g1 := next_get (m := (next own s x).1) (y := (next own s x).2) A.hs h ho rfl
        have l1 := lengthen_spec (l := l) (y := (next own s x).1) a1.ok
        have hok2 : ((lengthen s l (next own s x).1 (next own s x).2).2).e = 0 → errOf own = 0 := fun _ => ho c2
        have a3 := Aft.many (mx := 0) A.hs own all k (lengthen s l (next own s x).1 (next own s x).2).1 (lengthen s l (next own s x).1 (next own s x).2).2 l1.1 hok2
        have e2 := a3.e he
        have p2 := Int.le_trans a3.p hp
        have e1 := lengthen_e e2
        have p1 := Int.le_trans l1.2.1 p2
        have hn := next_sim A h own ho e1 p1
        have hg := g1.2.2.2.2.1 e1
        rw [hn, lengthen_sim A a1.ok l _ e2 p2]
        have q1 := l1.2.1
        have q2 := hg.2.1
        have q3 := h.p1
        refine ih _ _ l1.1 hok2 ?_ he hp k1 ?_
        · unfold left at hk ⊢; omega
        · unfold left at hk' ⊢; have := A.nt; omega
      · rw [if_neg c2, if_neg c2]
    · rw [if_neg c, if_neg c]
theorem lengths_sim (A : Agr s t N) (h : Ok s x) (he : (lengths s x).2.2.e = 0) (hp : (lengths s x).2.2.p ≤ 8 * N) : lengths t x = lengths s x := by
  have a1 := Aft.bits (mx := 0) h 5 (by decide) 5 rfl
  have s1 := bits_sim A h.p0 5
  unfold lengths at he hp ⊢
  simp only at he hp ⊢
  obtain ⟨a, ha⟩ : ∃ a, a = bits s 5 x := ⟨_, rfl⟩
  rw [← ha] at he hp a1 s1 ⊢
  have a2 := Aft.bits (mx := 0) a1.ok 5 (by decide) 5 rfl
  have s2 := bits_sim A a1.ok.p0 5
  obtain ⟨b, hb⟩ : ∃ b, b = bits s 5 a.2 := ⟨_, rfl⟩
  rw [← hb] at he hp a2 s2 ⊢
  have a3 := Aft.bits (mx := 0) a2.ok 4 (by decide) 4 rfl
  have s3 := bits_sim A a2.ok.p0 4
  obtain ⟨c, hc⟩ : ∃ c, c = bits s 4 b.2 := ⟨_, rfl⟩
  rw [← hc] at he hp a3 s3 ⊢
  obtain ⟨x1, hx1⟩ : ∃ x1, x1 = (if c.2.e = 0 ∧ (a.1 + 257 > 286 ∨ b.1 + 1 > 30) then fail c.2 3 else c.2) := ⟨_, rfl⟩
  rw [← hx1] at he hp ⊢
  have a4 : Aft s 0 c.2 x1 := by
    rw [hx1]; split
    · exact Aft.fail a3.ok 3 (by decide)
    · exact Aft.refl a3.ok
  have a5 := Aft.owns (mx := 0) (order.take (c.1 + 4).toNat) (List.replicate 19 0) x1 a4.ok
  have s5 := owns_sim A (order.take (c.1 + 4).toNat) (List.replicate 19 0) x1 a4.ok
  obtain ⟨w, hw⟩ : ∃ w, w = owns s (order.take (c.1 + 4).toNat) (List.replicate 19 0) x1 := ⟨_, rfl⟩
  rw [← hw] at he hp a5 s5 ⊢
  have a6 := Aft.table (mx := 0) a5.ok w.1
  have a7 := Aft.many (mx := 0) A.hs w.1 (a.1 + 257 + (b.1 + 1)) (left s (table w.1 w.2)) [] _ a6.ok (fun h => (table_e h).2)
  have s7 := many_sim A w.1 (a.1 + 257 + (b.1 + 1)) (left s (table w.1 w.2)) [] _ a6.ok (fun h => (table_e h).2) (Nat.le_refl _)
  obtain ⟨z, hz⟩ : ∃ z, z = many s w.1 (a.1 + 257 + (b.1 + 1)) (left s (table w.1 w.2)) [] (table w.1 w.2) := ⟨_, rfl⟩
  rw [← hz] at he hp a7 s7 ⊢
  have hzz : z.2.e = 0 ∧ z.2.p ≤ 8 * N := by
    by_cases c1 : z.2.e = 0
    · rw [if_pos c1] at he hp
      by_cases c2 : (z.1.length : Int) > a.1 + 257 + (b.1 + 1) ∨ z.1.getD 256 0 = 0
      · rw [if_pos c2] at he; exact absurd (fail_e he).2 (by decide)
      · rw [if_neg c2] at hp; exact ⟨c1, hp⟩
    · rw [if_neg c1] at he; exact absurd he c1
  have e6 := a7.e hzz.1
  have p6 := Int.le_trans a7.p hzz.2
  have e5 := a6.e e6
  have p5 := Int.le_trans a6.p p6
  have e4 := a5.e e5
  have p4 := Int.le_trans a5.p p5
  have e3 := a4.e e4
  have p3 := Int.le_trans a4.p p4
  have e2 := a3.e e3
  have p2 := Int.le_trans a3.p p3
  have e1 := a2.e e2
  have p1 := Int.le_trans a2.p p2
  rw [s1 e1 p1, s2 e2 p2, s3 e3 p3, ← hx1, s5 e5 p5, s7 hzz.1 hzz.2 _ (Nat.le_refl _)]
/-- With the room mz: the same, or there is none. -/
def Same (mz : Int) (y y' : St) : Prop := ((y.o.length : Int) ≤ mz → y' = y) ∧ (mz < (y.o.length : Int) → y'.e = 7)
theorem Same.of_eq {y' : St} (h : y' = y) (ho : (y.o.length : Int) ≤ mz) : Same mz y y' := ⟨fun _ => h, fun h => by omega⟩
theorem copy_same {n d : Int} (he : (copy mx x n d).e = 0) (hn : 0 ≤ n) (hx : x.e = 0) (ho : (x.o.length : Int) ≤ mz) : Same mz (copy mx x n d) (copy mz x n d) := by
  unfold copy at he ⊢
  by_cases c1 : d ≤ x.o.length
  · rw [if_pos c1] at he
    rw [if_pos c1, if_pos c1]
    by_cases c2 : (x.o.length : Int) + n ≤ mx
    · rw [if_pos c2]
      have hl : ((again x.o d.toNat n.toNat).length : Int) = x.o.length + n := by rw [again_len]; omega
      by_cases c3 : (x.o.length : Int) + n ≤ mz
      · rw [if_pos c3]; exact ⟨fun _ => rfl, fun h => by simp only at h; omega⟩
      · rw [if_neg c3]; refine ⟨fun h => by simp only at h; omega, fun _ => ?_⟩
        unfold fail; rw [if_pos hx]
    · rw [if_neg c2] at he; exact absurd (fail_e he).2 (by decide)
  · rw [if_neg c1] at he; exact absurd (fail_e he).2 (by decide)
theorem far_same (A : Agr s t N) (h : Ok s x) (lb : List Int) (hb : errOf lb = 0) (n : Int) (h0 : 257 ≤ n) (h1 : n < 286) (he : (far s mx lb x n).e = 0) (hp : (far s mx lb x n).p ≤ 8 * N) (ho : (x.o.length : Int) ≤ mz) : Same mz (far s mx lb x n) (far t mz lb x n) := by
  obtain ⟨q, hq⟩ : ∃ q : Nat, (n - 257).toNat = q := ⟨_, rfl⟩
  have hqr := len_rng q (by omega)
  obtain ⟨k, hk⟩ : ∃ k : Nat, lenM.getD q 0 = (k : Int) := ⟨(lenM.getD q 0).toNat, by omega⟩
  unfold far at he hp ⊢
  simp only [hq, hk] at he hp ⊢
  have a1 := Aft.bits (mx := mx) h k (by omega) k rfl
  have g1 := bits_get (n := k) (k := k) (m := (bits s k x).1) (y := (bits s k x).2) rfl h (by omega) rfl
  have s1 := bits_sim A h.p0 (k : Int)
  obtain ⟨m, hm⟩ : ∃ m, m = bits s k x := ⟨_, rfl⟩
  rw [← hm] at he hp a1 g1 s1 ⊢
  have a2 := Aft.next (mx := mx) A.hs a1.ok lb (fun _ => hb)
  have g2 := next_get (m := (next lb s m.2).1) (y := (next lb s m.2).2) A.hs a1.ok (fun _ => hb) rfl
  have s2 := next_sim A a1.ok lb (fun _ => hb)
  obtain ⟨d, hd⟩ : ∃ d, d = next lb s m.2 := ⟨_, rfl⟩
  rw [← hd] at he hp a2 g2 s2 ⊢
  by_cases c : d.2.e = 0 ∧ d.1 ≥ 30
  · rw [if_pos c] at he
    have e3 : (fail d.2 3).e = 3 := by unfold fail; rw [if_pos c.1]
    rw [if_neg (by rw [e3]; decide), e3] at he
    exact absurd he (by decide)
  · rw [if_neg c] at he hp ⊢
    by_cases ce : d.2.e = 0
    · rw [if_pos ce] at he hp ⊢
      have h30 : d.1 < 30 := by
        rcases Decidable.em (d.1 < 30) with h | h
        · exact h
        · exact absurd ⟨ce, Int.not_lt.1 h⟩ c
      have hdr := dis_rng d.1.toNat (by have := g2.2.1; omega)
      obtain ⟨k2, hk2⟩ : ∃ k2 : Nat, disM.getD d.1.toNat 0 = (k2 : Int) := ⟨(disM.getD d.1.toNat 0).toNat, by omega⟩
      rw [hk2] at he hp ⊢
      have a3 := Aft.bits (mx := mx) a2.ok k2 (by omega) k2 rfl
      have g3 := bits_get (n := k2) (k := k2) (m := (bits s k2 d.2).1) (y := (bits s k2 d.2).2) rfl a2.ok (by omega) rfl
      have s3 := bits_sim A a2.ok.p0 (k2 : Int)
      obtain ⟨e, hE⟩ : ∃ e, e = bits s k2 d.2 := ⟨_, rfl⟩
      rw [← hE] at he hp a3 g3 s3 ⊢
      by_cases c3 : e.2.e = 0
      · rw [if_pos c3] at he hp ⊢
        have a4 := Aft.copy (mx := mx) a3.ok (lenB.getD q 0 + m.1) (disB.getD d.1.toNat 0 + e.1) (by have := g1.2.1; omega)
        have p3 := Int.le_trans a4.p hp
        have e2 := a3.e c3
        have p2 := Int.le_trans a3.p p3
        have e1 := a2.e e2
        have p1 := Int.le_trans a2.p p2
        rw [s1 e1 p1, s2 e2 p2, if_neg c, if_pos e2, hk2, s3 c3 p3, if_pos c3]
        have ho3 : e.2.o = x.o := by rw [g3.2.2.2.1, g2.2.2.2.1, g1.2.2.2.1]
        exact copy_same he (by have := g1.2.1; omega) c3 (by rw [ho3]; exact ho)
      · rw [if_neg c3] at he; exact absurd he c3
    · rw [if_neg ce] at he; exact absurd he ce
theorem one_same (A : Agr s t N) (h : Ok s x) (la lb : List Int) (hx : x.e = 0) (ha : errOf la = 0) (hb : errOf lb = 0) (he : (one s mx la lb x).2.e = 0) (hp : (one s mx la lb x).2.p ≤ 8 * N) (ho : (x.o.length : Int) ≤ mz) :
    (((one s mx la lb x).2.o.length : Int) ≤ mz → one t mz la lb x = one s mx la lb x) ∧ (mz < ((one s mx la lb x).2.o.length : Int) → (one t mz la lb x).2.e = 7) := by
  have a1 := Aft.next (mx := mx) A.hs h la (fun _ => ha)
  have g1 := next_get (m := (next la s x).1) (y := (next la s x).2) A.hs h (fun _ => ha) rfl
  have s1 := next_sim A h la (fun _ => ha)
  unfold one at he hp ⊢
  simp only at he hp ⊢
  obtain ⟨a, hA⟩ : ∃ a, a = next la s x := ⟨_, rfl⟩
  rw [← hA] at he hp a1 g1 s1 ⊢
  have hoa : a.2.o = x.o := g1.2.2.2.1
  by_cases c1 : a.2.e ≠ 0 ∨ a.1 = 256
  · rw [if_pos c1] at he hp ⊢
    rw [s1 he hp, if_pos c1]
    exact ⟨fun _ => rfl, fun h => by simp only [hoa] at h; omega⟩
  · rw [if_neg c1] at he hp ⊢
    have c10 : a.2.e = 0 := Decidable.byContradiction fun h => c1 (.inl h)
    by_cases c2 : a.1 < 256
    · rw [if_pos c2] at he hp ⊢
      by_cases c3 : (a.2.o.length : Int) = mx
      · rw [if_pos c3] at he; exact absurd (fail_e he).2 (by decide)
      · rw [if_neg c3] at he hp ⊢
        rw [s1 c10 hp, if_neg c1, if_pos c2]
        by_cases c4 : (a.2.o.length : Int) = mz
        · rw [if_pos c4]
          refine ⟨fun h => ?_, fun _ => by unfold fail; rw [if_pos c10]⟩
          simp only [List.length_append, List.length_cons, List.length_nil] at h; omega
        · rw [if_neg c4]
          refine ⟨fun _ => rfl, fun h => ?_⟩
          simp only [List.length_append, List.length_cons, List.length_nil, hoa] at h c4
          omega
    · rw [if_neg c2] at he hp ⊢
      by_cases c3 : a.1 ≥ 286
      · rw [if_pos c3] at he; exact absurd (fail_e he).2 (by decide)
      · rw [if_neg c3] at he hp ⊢
        have hn0 : 257 ≤ a.1 := by have h : ¬ a.1 = 256 := fun h => c1 (.inr h); omega
        have a2 := Aft.far (mx := mx) A.hs a1.ok lb hb a.1 hn0 (by omega)
        have f := far_same (mz := mz) A a1.ok lb hb a.1 hn0 (by omega) he hp (by rw [hoa]; exact ho)
        rw [s1 c10 (Int.le_trans a2.p hp), if_neg c1, if_neg c2, if_neg c3]
        exact ⟨fun h => by rw [f.1 h], fun h => f.2 h⟩
theorem codes_same (A : Agr s t N) (la lb : List Int) : ∀ (k : Nat) (x : St), Ok s x → (x.e = 0 → errOf la = 0 ∧ errOf lb = 0) → left s x ≤ k → (codes s mx la lb k x).e = 0 → (codes s mx la lb k x).p ≤ 8 * N → (x.o.length : Int) ≤ mz → ∀ k', left t x ≤ k' → Same mz (codes s mx la lb k x) (codes t mz la lb k' x) := by
  intro k
  induction k with
  | zero => intro x h _ hk; exact absurd hk (by unfold left; omega)
  | succ k ih =>
    intro x h hl hk he hp ho k' hk'
    obtain ⟨k1, rfl⟩ : ∃ k1, k' = k1 + 1 := ⟨k' - 1, by unfold left at hk'; omega⟩
    unfold codes at he hp ⊢
    by_cases c : x.e = 0
    · rw [if_pos c] at he hp ⊢
      rw [if_pos c]
      have a1 := Aft.one (mx := mx) A.hs h la lb c (hl c).1 (hl c).2
      by_cases c2 : (one s mx la lb x).1 = true
      · rw [if_pos c2] at he hp ⊢
        have f := one_same (mz := mz) A h la lb c (hl c).1 (hl c).2 he hp ho
        refine ⟨fun h => ?_, fun h => ?_⟩
        · rw [f.1 h, if_pos c2]
        · have e7 := f.2 h
          by_cases c3 : (one t mz la lb x).1 = true
          · rw [if_pos c3]; exact e7
          · rw [if_neg c3, codes_stop _ _ _ _ _ _ (by rw [e7]; decide)]; exact e7
      · rw [if_neg c2] at he hp ⊢
        have a2 := Aft.codes (mx := mx) A.hs la lb k (one s mx la lb x).2 a1.1.ok (fun _ => hl c)
        have e1 := a2.e he
        have p1 := Int.le_trans a2.p hp
        have f := one_same (mz := mz) A h la lb c (hl c).1 (hl c).2 e1 p1 ho
        have hpp := a1.2.1 (by simpa using c2) e1
        have q3 := h.p1
        by_cases c4 : ((one s mx la lb x).2.o.length : Int) ≤ mz
        · rw [f.1 c4, if_neg c2]
          refine ih _ a1.1.ok (fun _ => hl c) ?_ he hp c4 k1 ?_
          · unfold left at hk ⊢; omega
          · unfold left at hk' ⊢; have := A.nt; omega
        · have e7 := f.2 (by omega)
          have hl2 := a2.l
          refine ⟨fun h => by omega, fun _ => ?_⟩
          by_cases c3 : (one t mz la lb x).1 = true
          · rw [if_pos c3]; exact e7
          · rw [if_neg c3, codes_stop _ _ _ _ _ _ (by rw [e7]; decide)]; exact e7
    · rw [if_neg c] at he; exact absurd he c
theorem both_same (A : Agr s t N) (la lb : List Int) (h : Ok s x) (he : (both s mx la lb x).e = 0) (hp : (both s mx la lb x).p ≤ 8 * N) (ho : (x.o.length : Int) ≤ mz) : Same mz (both s mx la lb x) (both t mz la lb x) := by
  rw [both_eq] at he hp
  rw [both_eq, both_eq]
  have o1 : (table lb (table la x)).o = x.o := by unfold table; rw [fail_o, fail_o]
  exact codes_same A la lb _ _ (table_ok (table_ok h la) lb) both_e (Nat.le_refl _) he hp (by rw [o1]; exact ho) _ (Nat.le_refl _)
theorem cut_sim (A : Agr s t N) (a n : Nat) (h : a + n ≤ N) : cut t a n = cut s a n := by
  unfold cut
  refine List.map_congr_left fun i hi => ?_
  rw [List.mem_range] at hi
  exact A.b _ (by omega) (by omega)
theorem stored_same (A : Agr s t N) (h : Ok s x) (he : (stored s mx x).e = 0) (hp : (stored s mx x).p ≤ 8 * N) (ho : (x.o.length : Int) ≤ mz) : Same mz (stored s mx x) (stored t mz x) := by
  have h' : Ok s ⟨(x.p + 7) / 8 * 8, x.o, x.e⟩ := ⟨by have := h.p0; show 0 ≤ (x.p + 7) / 8 * 8; omega, by have := h.p1; show (x.p + 7) / 8 * 8 ≤ _; omega, h.e⟩
  have a1 := Aft.bits (mx := mx) h' 16 (by decide) 16 rfl
  have g1 := bits_get (n := 16) (k := 16) (m := (bits s 16 ⟨(x.p + 7) / 8 * 8, x.o, x.e⟩).1) (y := (bits s 16 ⟨(x.p + 7) / 8 * 8, x.o, x.e⟩).2) rfl h' (by decide) rfl
  have s1 := bits_sim A h'.p0 16
  unfold stored at he hp ⊢
  simp only at he hp ⊢
  obtain ⟨a, ha⟩ : ∃ a, a = bits s 16 ⟨(x.p + 7) / 8 * 8, x.o, x.e⟩ := ⟨_, rfl⟩
  rw [← ha] at he hp a1 g1 s1 ⊢
  have a2 := Aft.bits (mx := mx) a1.ok 16 (by decide) 16 rfl
  have g2 := bits_get (n := 16) (k := 16) (m := (bits s 16 a.2).1) (y := (bits s 16 a.2).2) rfl a1.ok (by decide) rfl
  have s2 := bits_sim A a1.ok.p0 16
  obtain ⟨b, hb⟩ : ∃ b, b = bits s 16 a.2 := ⟨_, rfl⟩
  rw [← hb] at he hp a2 g2 s2 ⊢
  have hbo : b.2.o = x.o := by rw [g2.2.2.2.1, g1.2.2.2.1]
  by_cases c1 : b.2.e = 0
  · rw [if_pos c1] at he hp ⊢
    by_cases c2 : Go.bits .xor .i64 a.1 b.1 = 65535
    · rw [if_pos c2] at he hp ⊢
      by_cases c3 : (b.2.o.length : Int) + a.1 ≤ mx
      · rw [if_pos c3] at he hp ⊢
        by_cases c4 : a.1 ≤ s.size - b.2.p / 8
        · rw [if_pos c4] at he hp ⊢
          simp only at hp
          have q0 := g1.2.1
          have e1 := a2.e c1
          have p2 : b.2.p ≤ 8 * N := by omega
          have hbp := a2.ok.p0
          rw [s1 e1 (Int.le_trans a2.p p2), s2 c1 p2, if_pos c1, if_pos c2]
          have hnt := A.nt
          by_cases c5 : (b.2.o.length : Int) + a.1 ≤ mz
          · rw [if_pos c5, if_pos (by omega), cut_sim A _ _ (by omega)]
            exact ⟨fun _ => rfl, fun h => by simp only [List.length_append, cut_len] at h; omega⟩
          · rw [if_neg c5]
            exact ⟨fun h => by simp only [List.length_append, cut_len] at h; omega, fun _ => by unfold fail; rw [if_pos c1]⟩
        · rw [if_neg c4] at he; exact absurd (fail_e he).2 (by decide)
      · rw [if_neg c3] at he; exact absurd (fail_e he).2 (by decide)
    · rw [if_neg c2] at he; exact absurd (fail_e he).2 (by decide)
  · rw [if_neg c1] at he; exact absurd he c1
theorem block_same (A : Agr s t N) (h : Ok s x) (he : (block s mx x).2.e = 0) (hp : (block s mx x).2.p ≤ 8 * N) (ho : (x.o.length : Int) ≤ mz) :
    (block t mz x).1 = (block s mx x).1 ∧ Same mz (block s mx x).2 (block t mz x).2 := by
  have a1 := Aft.bits (mx := mx) h 1 (by decide) 1 rfl
  have g1 := bits_get (n := 1) (k := 1) (m := (bits s 1 x).1) (y := (bits s 1 x).2) rfl h (by decide) rfl
  have s1 := bits_sim A h.p0 1
  unfold block at he hp ⊢
  simp only at he hp ⊢
  obtain ⟨a, ha⟩ : ∃ a, a = bits s 1 x := ⟨_, rfl⟩
  rw [← ha] at he hp a1 g1 s1 ⊢
  have a2 := Aft.bits (mx := mx) a1.ok 2 (by decide) 2 rfl
  have g2 := bits_get (n := 2) (k := 2) (m := (bits s 2 a.2).1) (y := (bits s 2 a.2).2) rfl a1.ok (by decide) rfl
  have g0 : (bits s 2 a.2).2.e ≠ 0 → (bits s 2 a.2).1 = 0 := tak_zero
  have s2 := bits_sim A a1.ok.p0 2
  obtain ⟨b, hb⟩ : ∃ b, b = bits s 2 a.2 := ⟨_, rfl⟩
  rw [← hb] at he hp a2 g2 g0 s2 ⊢
  have hbo : (b.2.o.length : Int) ≤ mz := by rw [g2.2.2.2.1, g1.2.2.2.1]; exact ho
  have go : ∀ y : St, Aft s mx b.2 y → y.e = 0 → y.p ≤ 8 * N → bits t 1 x = a ∧ bits t 2 a.2 = b := fun y k e p => by
    have e2 := k.e e
    have p2 := Int.le_trans k.p p
    exact ⟨s1 (a2.e e2) (Int.le_trans a2.p p2), s2 e2 p2⟩
  by_cases c0 : b.1 = 0
  · rw [if_pos c0] at he hp ⊢
    by_cases c1 : b.2.e = 0
    · rw [if_pos c1] at he hp ⊢
      obtain ⟨e1, e2⟩ := go _ (Aft.stored a2.ok) he hp
      rw [e1, e2, if_pos c0, if_pos c1]
      exact ⟨rfl, stored_same A a2.ok he hp hbo⟩
    · rw [if_neg c1] at he; exact absurd he c1
  · rw [if_neg c0] at he hp ⊢
    by_cases c1 : b.1 = 1
    · rw [if_pos c1] at he hp ⊢
      obtain ⟨e1, e2⟩ := go _ (Aft.both A.hs _ _ a2.ok) he hp
      rw [e1, e2, if_neg c0, if_pos c1]
      exact ⟨rfl, both_same A _ _ a2.ok he hp hbo⟩
    · rw [if_neg c1] at he hp ⊢
      by_cases c2 : b.1 = 2
      · rw [if_pos c2] at he hp ⊢
        have a4 := Aft.lengths (mx := mx) A.hs a2.ok
        have a5 := Aft.both (mx := mx) A.hs (lengths s b.2).1 (lengths s b.2).2.1 a4.ok
        obtain ⟨e1, e2⟩ := go _ (a4.trans a5) he hp
        have a6 : (lengths s b.2).2.2.o = b.2.o := lengths_o A.hs a2.ok
        rw [e1, e2, if_neg c0, if_neg c1, if_pos c2, lengths_sim A a2.ok (a5.e he) (Int.le_trans a5.p hp)]
        exact ⟨rfl, both_same A _ _ a4.ok he hp (by rw [a6]; exact hbo)⟩
      · rw [if_neg c2] at he; exact absurd (fail_e he).2 (by decide)
theorem blocks_same (A : Agr s t N) : ∀ (k : Nat) (x : St), Ok s x → x.e = 0 → left s x ≤ k → (blocks s mx k x).e = 0 → (blocks s mx k x).p ≤ 8 * N → (x.o.length : Int) ≤ mz → ∀ k', left t x ≤ k' → Same mz (blocks s mx k x) (blocks t mz k' x) := by
  intro k
  induction k with
  | zero => intro x h _ hk; exact absurd hk (by unfold left; omega)
  | succ k ih =>
    intro x h hx hk he hp ho k' hk'
    obtain ⟨k1, rfl⟩ : ∃ k1, k' = k1 + 1 := ⟨k' - 1, by unfold left at hk'; omega⟩
    have a1 := Aft.block (mx := mx) A.hs h
    unfold blocks at he hp ⊢
    by_cases c : (block s mx x).1 = true
    · rw [if_pos c] at he hp ⊢
      obtain ⟨f1, f2⟩ := block_same (mz := mz) A h he hp ho
      rw [f1, if_pos c]
      exact f2
    · rw [if_neg c] at he hp ⊢
      by_cases c2 : (block s mx x).2.e = 0
      · rw [if_pos c2] at he hp ⊢
        have a2 := Aft.blocks (mx := mx) A.hs k (block s mx x).2 a1.1.ok
        obtain ⟨f1, f2⟩ := block_same (mz := mz) A h c2 (Int.le_trans a2.p hp) ho
        rw [f1, if_neg c]
        have hpp := a1.2 c2
        have q3 := h.p1
        have p2 := Int.le_trans a2.p hp
        by_cases c4 : ((block s mx x).2.o.length : Int) ≤ mz
        · rw [f2.1 c4, if_pos c2]
          refine ih _ a1.1.ok c2 ?_ he hp c4 k1 ?_
          · unfold left at hk ⊢; omega
          · unfold left at hk' ⊢; have := A.nt; omega
        · have e7 := f2.2 (by omega)
          have hl2 := a2.l
          refine ⟨fun h => by omega, fun _ => ?_⟩
          rw [if_neg (by rw [e7]; decide)]
          exact e7
      · rw [if_neg c2] at he; exact absurd he c2
end
end Go.Proofs.Ytpbhkdamkbopkaa.Inf
