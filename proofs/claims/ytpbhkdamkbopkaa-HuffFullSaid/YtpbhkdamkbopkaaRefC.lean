/- The symbol that the reference reads is the one that the program reads. -/
import Derived.Test.YtpbhkdamkbopkaaRefB
set_option linter.unusedSimpArgs false
set_option linter.unusedVariables false
namespace Go.Proofs.Ytpbhkdamkbopkaa.RefA
open Go.RowKit Go.Proofs.Ytpbhkdamkbopkaa.Ext Go.Proofs.Ytpbhkdamkbopkaa.GHuff Go.Proofs.YtpbhkdamkbopkaaW.PrintWords Go.Proofs.YtpbhkdamkbopkaaW.PrintLast Go.Proofs.YtpbhkdamkbopkaaW.PrintMore

/-- A longer code than n bits begins so. -/
def Begins (l : List Int) (n : Nat) (v : Int) (i : Nat) : Prop := (n : Int) < l.getD i 0 ∧ codeAt l i / 2 ^ ((l.getD i 0).toNat - n) = v
/-- Where the codes are full, bits that begin with no code of up to n bits begin a longer one. -/
theorem full_begins (l : List Int) (hf : Gn l 15 = 32768) (n : Nat) (hn : n ≤ 15) (v : Int) (h0 : Gn l n ≤ v) (h1 : v < 2 ^ n) : ∃ i : Nat, i < l.length ∧ Begins l n v i := by
  -- the least length at which the codes reach beyond v
  have key : ∀ m, n ≤ m → m ≤ 15 → (∃ i : Nat, i < l.length ∧ Begins l n v i) ∨ Gn l m ≤ v * 2 ^ (m - n) := by
    intro m
    induction m with
    | zero => intro a b; obtain rfl : n = 0 := (by omega); right; simpa using h0
    | succ m ih =>
      intro a b
      by_cases e : n = m + 1
      · subst e; right; simpa using h0
      · rcases ih (by omega) (by omega) with h | h
        · exact .inl h
        · by_cases hlt : v * 2 ^ (m + 1 - n) < Gn l (m + 1)
          · left
            have e2 : v * 2 ^ (m + 1 - n) = 2 * (v * 2 ^ (m - n)) := by
              rw [show m + 1 - n = (m - n) + 1 by omega, Int.pow_succ, ← Int.mul_assoc, Int.mul_comm _ 2]
            have hge : firstC l (m + 1) ≤ v * 2 ^ (m + 1 - n) := by rw [firstC_succ, e2]; omega
            obtain ⟨i, _, hi, hli, hc⟩ := symbol_is l (m + 1) (by omega) (by omega) _ hge hlt
            refine ⟨i, hi, ?_, ?_⟩
            · rw [hli]; omega
            · rw [hli, Int.toNat_natCast, hc, Int.mul_ediv_cancel _ (Int.ne_of_gt (Int.pow_pos (by decide)))]
          · right; omega
  rcases key 15 hn (Nat.le_refl _) with h | h
  · exact h
  · exfalso
    rw [hf] at h
    have h3 : (2 : Int) ^ n * 2 ^ (15 - n) = 32768 := by rw [← Int.pow_add, show n + (15 - n) = 15 by omega]; decide
    have h4 : (0 : Int) < 2 ^ (15 - n) := Int.pow_pos (by decide)
    have h5 : v * 2 ^ (15 - n) < 2 ^ n * 2 ^ (15 - n) := Int.mul_lt_mul_of_pos_right h1 h4
    omega
theorem begins_more (l : List Int) (hok : okL l = true) (n : Nat) (v : Int) (i : Nat) (hi : i < l.length) (h : Begins l n v i) : Sn l n ≠ Sn l 15 := by
  obtain ⟨m, em, hm⟩ := ok_at l hok i hi
  have h1 := h.1
  rw [em] at h1
  have h2 := symbol_at l i m (by omega) (by omega) hi em
  have h3 : 0 < cz l m := by have := h2.1; have := h2.2.1; unfold Gn at *; omega
  obtain ⟨q, rfl⟩ : ∃ q, m = q + 1 := ⟨m - 1, by omega⟩
  have h4 := Sn_succ l q (by omega)
  have h5 := Sn_mono l n q (by omega) (by omega)
  have h6 := Sn_mono l (q + 1) 15 hm (Nat.le_refl _)
  omega
/-- By lengths that may be: is there a longer code that begins so, if no code of up to n bits does? -/
theorem begins_iff (l : List Int) (hok : okL l = true) (hb : badSum l = false) (n : Nat) (hn : n ≤ 15) (v : Int) (h0 : Gn l n ≤ v) (hv0 : 0 ≤ v) (h1 : v < 2 ^ n) : (∃ i : Nat, i < l.length ∧ Begins l n v i) ↔ Sn l n ≠ Sn l 15 := by
  constructor
  · rintro ⟨i, hi, h⟩
    exact begins_more l hok n v i hi h
  · intro hs
    rcases good_sum l hb with hf | ⟨h2, _⟩ | ⟨h2, h3, _⟩
    · exact full_begins l hf n hn v h0 h1
    · exfalso
      have h4 := Sn_mono l n 15 hn (Nat.le_refl _)
      have h5 : 0 ≤ Sn l n := Int.natCast_nonneg _
      omega
    · by_cases hn0 : n = 0
      · subst hn0
        have hv : v = 0 := by simp at h1; omega
        have hs1 := Gn_succ l 0
        rw [Gn_zero, h3] at hs1
        have hf1 : firstC l 1 = 0 := by rw [firstC_succ, Gn_zero]; rfl
        obtain ⟨i, _, hi, hli, hc⟩ := symbol_is l 1 (by decide) (by decide) 0 (by rw [hf1]; decide) (by rw [hs1]; decide)
        refine ⟨i, hi, ?_, ?_⟩
        · rw [hli]; decide
        · rw [hc, hv]; simp
      · exfalso
        have h4 := Sn_mono l 1 n (by omega) hn
        have h5 : Sn l 1 = Sn l 0 + cz l 1 := Sn_succ l 0 (by decide)
        have h6 : Sn l 0 = 0 := rfl
        have h7 := Sn_mono l n 15 hn (Nat.le_refl _)
        omega
theorem codesOf_rng (l : List Int) (hl : l.length ≤ 320) (hok : okL l = true) (i : Nat) (hi : i < l.length) : 0 ≤ codeAt l i ∧ codeAt l i ≤ 41943360 := by
  obtain ⟨m, em, hm⟩ := ok_at l hok i hi
  have h1 := firstC_le l hl m (by omega)
  have h2 := idxN_length l m i
  unfold codeAt
  rw [rank_n l i m em, em, Int.toNat_natCast]
  omega
/-- The reference's way from a symbol's own length: its code is halved down to n bits. -/
theorem refnext_l2 (l : List Int) (hl : l.length ≤ 320) (s : ByteArray) (pos : Int) (cs : List Int) (v : Int) (n : Nat) (b : Bool) (i : Nat) (hi : i < l.length) (m : Nat) (hm : l.getD i 0 = m) (hm15 : m ≤ 15) (r : Int × Int × Int) (d : Nat) : ∀ (j : Nat) (c : Int), j + d = m → 0 ≤ c → c ≤ 41943360 →
    (if c / 2 ^ d = v then (if m = n then r = ((i : Int), wrap64 (pos + n), 0) else Ev (fun k => celluloidref04_Next.l1 k l s pos cs v n true ((i + 1 : Nat) : Int)) r) else Ev (fun k => celluloidref04_Next.l1 k l s pos cs v n b ((i + 1 : Nat) : Int)) r) →
    Ev (fun k => celluloidref04_Next.l2 k l s pos cs v n b i c j) r := by
  have hri : rd l i = m := by rw [rd_nat]; exact hm
  have hi1 : (i : Int) < l.length := by omega
  have e1 : Aside0 (wrap64 ((i : Int) + 1) = ((i + 1 : Nat) : Int)) := ⟨by rw [wrap_in (by omega) (by omega)]; rfl⟩
  induction d with
  | zero =>
    intro j c hj hc0 hc1 h
    obtain rfl : j = m := by omega
    rw [Int.pow_zero, Int.ediv_one] at h
    by_cases hcv : c = v
    · rw [if_pos hcv] at h
      by_cases hmn : j = n
      · rw [if_pos hmn] at h
        refine Ev.step (f := fun _ => some r) (fun k => ?_) (Ev.now _)
        simp only [celluloidref04_Next.l2]
        rw [if_pos (Int.natCast_nonneg _), if_pos hi1, hri, if_neg (Int.lt_irrefl _), if_pos hcv, if_pos (by exact_mod_cast hmn), h]
      · rw [if_neg hmn] at h
        refine Ev.step (fun k => ?_) h
        simp only [celluloidref04_Next.l2]
        rw [if_pos (Int.natCast_nonneg _), if_pos hi1, hri, if_neg (Int.lt_irrefl _), if_pos hcv, if_neg (by exact_mod_cast hmn), e1.out]
    · rw [if_neg hcv] at h
      refine Ev.step (fun k => ?_) h
      simp only [celluloidref04_Next.l2]
      rw [if_pos (Int.natCast_nonneg _), if_pos hi1, hri, if_neg (Int.lt_irrefl _), if_neg hcv, e1.out]
  | succ d ih =>
    intro j c hj hc0 hc1 h
    have e : c / 2 ^ (d + 1) = c / 2 / 2 ^ d := by rw [Int.pow_succ, Int.mul_comm, Int.ediv_ediv_of_nonneg (by decide)]
    rw [e] at h
    have hd := ih (j + 1) (c / 2) (by omega) (by omega) (by omega) h
    have hjm : (j : Int) < m := by omega
    have e2 : Aside0 (wrap64 (c / 2) = c / 2) := ⟨wrap_in (by omega) (by omega)⟩
    have e3 : Aside0 (wrap64 ((j : Int) + 1) = ((j + 1 : Nat) : Int)) := ⟨by rw [wrap_in (by omega) (by omega)]; rfl⟩
    refine Ev.step (fun k => ?_) hd
    simp only [celluloidref04_Next.l2]
    rw [if_pos (Int.natCast_nonneg _), if_pos hi1, hri, if_pos hjm, Int.tdiv_eq_ediv_of_nonneg hc0, e2.out, e3.out]

/-- Does symbol i stand as the document says: its code is v, of n bits? -/
def Hits (l : List Int) (n : Nat) (v : Int) (i : Nat) : Prop := 0 < n ∧ l.getD i 0 = n ∧ codeAt l i = v
/-- One pass over all symbols: the symbol is there. -/
theorem refnext_hit (l : List Int) (hl : l.length ≤ 320) (hok : okL l = true) (s : ByteArray) (pos : Int) (v : Int) (n : Nat) (hn : n ≤ 15) (i0 : Nat) (hi0 : i0 < l.length) (hh : Hits l n v i0) (d : Nat) : ∀ (i : Nat) (b : Bool), i + d = i0 →
    Ev (fun k => celluloidref04_Next.l1 k l s pos (codesOf l) v n b i) ((i0 : Int), wrap64 (pos + n), 0) := by
  induction d with
  | zero =>
    intro i b hi
    obtain rfl : i = i0 := by omega
    have hil : (i : Int) < l.length := by omega
    have hri : rd l i = n := by rw [rd_nat]; exact hh.2.1
    have hcr := codesOf_rng l hl hok i hi0
    have hcd : rd (codesOf l) i = codeAt l i := by
      rw [rd_nat, List.getD_eq_getElem?_getD, codesOf_get l i hi0, if_neg (by rw [hh.2.1]; have := hh.1; omega)]; rfl
    have h2 := refnext_l2 l hl s pos (codesOf l) v n b i hi0 n hh.2.1 hn ((i : Int), wrap64 (pos + n), 0) 0 n (codeAt l i) (by omega) hcr.1 hcr.2 (by
      rw [Int.pow_zero, Int.ediv_one, if_pos hh.2.2, if_pos rfl])
    obtain ⟨K, h2⟩ := h2
    dsimp only at h2
    have hn0 : ((n : Int) == 0) = false := beq_eq_false_iff_ne.2 (by have := hh.1; omega)
    have hcl : (i : Int) < (codesOf l).length := by rw [codesOf_length]; omega
    refine ⟨K + 2, fun k hk => ?_⟩
    obtain ⟨k, rfl⟩ : ∃ q, k = q + 2 := ⟨k - 2, by omega⟩
    simp only [celluloidref04_Next.l1]
    rw [if_pos hil, if_pos (Int.natCast_nonneg _), hri, if_neg (Int.lt_irrefl _), hn0]
    simp only [celluloidref04_Next.j2]
    rw [if_neg (by simp), if_pos (Int.natCast_nonneg _), if_pos hcl, hcd]
    exact h2 k (by omega)
  | succ d ih =>
    intro i b hi
    have hil : (i : Int) < l.length := by omega
    obtain ⟨m, em, hm⟩ := ok_at l hok i (by omega)
    have hri : rd l i = m := by rw [rd_nat]; exact em
    have e1 : Aside0 (wrap64 ((i : Int) + 1) = ((i + 1 : Nat) : Int)) := ⟨by rw [wrap_in (by omega) (by omega)]; rfl⟩
    have hcl : (i : Int) < (codesOf l).length := by rw [codesOf_length]; omega
    have key : Ev (fun k => celluloidref04_Next.j2 k l s pos (codesOf l) v n b i (decide (m < n ∨ m = 0))) ((i0 : Int), wrap64 (pos + n), 0) := by
      by_cases hc : m < n ∨ m = 0
      · rw [decide_eq_true hc]
        refine Ev.step (fun k => ?_) (ih (i + 1) b (by omega))
        simp only [celluloidref04_Next.j2]
        rw [if_pos trivial, e1.out]
      · rw [decide_eq_false hc]
        have hcr := codesOf_rng l hl hok i (by omega)
        have hcd : rd (codesOf l) i = codeAt l i := by
          rw [rd_nat, List.getD_eq_getElem?_getD, codesOf_get l i (by omega), if_neg (by rw [em]; omega)]; rfl
        have hne : ¬ (m = n ∧ codeAt l i = v) := by
          rintro ⟨rfl, hcv⟩
          have := code_inj l i i0 m (by omega) (by omega) (by omega) hi0 em hh.2.1 (by rw [hcv, hh.2.2])
          omega
        have h2 := refnext_l2 l hl s pos (codesOf l) v n b i (by omega) m em hm ((i0 : Int), wrap64 (pos + n), 0) (m - n) n (codeAt l i) (by omega) hcr.1 hcr.2 (by
          by_cases hcv : codeAt l i / 2 ^ (m - n) = v
          · rw [if_pos hcv]
            by_cases hmn : m = n
            · exfalso; subst hmn; rw [Nat.sub_self, Int.pow_zero, Int.ediv_one] at hcv; exact hne ⟨rfl, hcv⟩
            · rw [if_neg hmn]; exact ih (i + 1) true (by omega)
          · rw [if_neg hcv]; exact ih (i + 1) b (by omega))
        refine Ev.step (fun k => ?_) h2
        simp only [celluloidref04_Next.j2]
        rw [if_neg (by simp), if_pos (Int.natCast_nonneg _), if_pos hcl, hcd]
    refine Ev.step (fun k => ?_) key
    simp only [celluloidref04_Next.l1]
    rw [if_pos hil, if_pos (Int.natCast_nonneg _), hri]
    by_cases h1 : (m : Int) < n
    · rw [if_pos h1, decide_eq_true (.inl (by omega))]
    · rw [if_neg h1]
      congr 1
      rw [Bool.eq_iff_iff, beq_iff_eq, decide_eq_true_eq]
      omega
/-- One pass over all symbols: none stands there; does a longer one begin so? -/
theorem refnext_miss (l : List Int) (hl : l.length ≤ 320) (hok : okL l = true) (s : ByteArray) (pos : Int) (v : Int) (n : Nat) (hn : n ≤ 15) (hm : ∀ i : Nat, i < l.length → ¬ Hits l n v i) (r0 r1 : Int × Int × Int)
    (E1 : (∃ q : Nat, q < l.length ∧ Begins l n v q) → Ev (fun k => celluloidref04_Next.l1 k l s pos (codesOf l) v n true l.length) r1) (E0 : Ev (fun k => celluloidref04_Next.l1 k l s pos (codesOf l) v n false l.length) r0) (d : Nat) : ∀ (i : Nat) (b : Bool), i + d = l.length → (b = true → ∃ q : Nat, q < l.length ∧ Begins l n v q) → ∀ r : Int × Int × Int,
    (b = true ∨ (∃ q : Nat, i ≤ q ∧ q < l.length ∧ Begins l n v q) → r = r1) → (¬ (b = true ∨ ∃ q : Nat, i ≤ q ∧ q < l.length ∧ Begins l n v q) → r = r0) →
    Ev (fun k => celluloidref04_Next.l1 k l s pos (codesOf l) v n b i) r := by
  induction d with
  | zero =>
    intro i b hi hbt r h1 h0
    obtain rfl : i = l.length := by omega
    cases b with
    | true => rw [h1 (.inl rfl)]; exact E1 (hbt rfl)
    | false => rw [h0 (by rintro (h | ⟨q, h, h', _⟩); exact absurd h (by decide); omega)]; exact E0
  | succ d ih =>
    intro i b hi hbt r hr1 hr0
    have hil : (i : Int) < l.length := by omega
    obtain ⟨m, em, hm15⟩ := ok_at l hok i (by omega)
    have hri : rd l i = m := by rw [rd_nat]; exact em
    have e1 : Aside0 (wrap64 ((i : Int) + 1) = ((i + 1 : Nat) : Int)) := ⟨by rw [wrap_in (by omega) (by omega)]; rfl⟩
    have hcl : (i : Int) < (codesOf l).length := by rw [codesOf_length]; omega
    -- where symbol i says nothing
    have skip : ¬ Begins l n v i → Ev (fun k => celluloidref04_Next.l1 k l s pos (codesOf l) v n b ((i + 1 : Nat) : Int)) r := fun hb => by
      refine ih (i + 1) b (by omega) hbt r (fun h => hr1 ?_) (fun h => hr0 ?_)
      · rcases h with h | ⟨q, h, h', h''⟩
        · exact .inl h
        · exact .inr ⟨q, by omega, h', h''⟩
      · rintro (h' | ⟨q, h', h'', h3⟩)
        · exact h (.inl h')
        · by_cases hq : q = i
          · subst hq; exact hb h3
          · exact h (.inr ⟨q, by omega, h'', h3⟩)
    have key : Ev (fun k => celluloidref04_Next.j2 k l s pos (codesOf l) v n b i (decide (m < n ∨ m = 0))) r := by
      by_cases hc : m < n ∨ m = 0
      · rw [decide_eq_true hc]
        refine Ev.step (fun k => ?_) (skip (by unfold Begins; rw [em]; omega))
        simp only [celluloidref04_Next.j2]
        rw [if_pos trivial, e1.out]
      · rw [decide_eq_false hc]
        have hcr := codesOf_rng l hl hok i (by omega)
        have hcd : rd (codesOf l) i = codeAt l i := by
          rw [rd_nat, List.getD_eq_getElem?_getD, codesOf_get l i (by omega), if_neg (by rw [em]; omega)]; rfl
        have h2 := refnext_l2 l hl s pos (codesOf l) v n b i (by omega) m em hm15 r (m - n) n (codeAt l i) (by omega) hcr.1 hcr.2 (by
          by_cases hcv : codeAt l i / 2 ^ (m - n) = v
          · rw [if_pos hcv]
            by_cases hmn : m = n
            · exfalso; subst hmn; rw [Nat.sub_self, Int.pow_zero, Int.ediv_one] at hcv; exact hm i (by omega) ⟨by omega, em, hcv⟩
            · rw [if_neg hmn]
              have hbg : Begins l n v i := ⟨by rw [em]; omega, by rw [em, Int.toNat_natCast]; exact hcv⟩
              exact ih (i + 1) true (by omega) (fun _ => ⟨i, by omega, hbg⟩) r (fun _ => hr1 (.inr ⟨i, Nat.le_refl _, by omega, hbg⟩)) (fun h => absurd (.inl rfl) h)
          · rw [if_neg hcv]
            refine skip ?_
            rintro ⟨h1, h2⟩
            rw [em, Int.toNat_natCast] at h2
            exact hcv h2)
        refine Ev.step (fun k => ?_) h2
        simp only [celluloidref04_Next.j2]
        rw [if_neg (by simp), if_pos (Int.natCast_nonneg _), if_pos hcl, hcd]
    refine Ev.step (fun k => ?_) key
    simp only [celluloidref04_Next.l1]
    rw [if_pos hil, if_pos (Int.natCast_nonneg _), hri]
    by_cases h1 : (m : Int) < n
    · rw [if_pos h1, decide_eq_true (.inl (by omega))]
    · rw [if_neg h1]
      congr 1
      rw [Bool.eq_iff_iff, beq_iff_eq, decide_eq_true_eq]
      omega

/-- What is answered once n bits are read. -/
def stageOf (l : List Int) (s : ByteArray) (pos : Int) (n : Nat) : Option (Int × Int × Int) :=
  if Vn s pos n < Gn l n then some ((idxN l n l.length).getD (Vn s pos n - firstC l n).toNat 0, pos + n, 0)
  else if Sn l n = (syms l).length then some (0, 0, 4)
  else nxt (cnts l) (syms l) s (15 - n) (pos + n) (Vn s pos n) (Gn l n) (Sn l n)
theorem stage_step (l : List Int) (hl : l.length ≤ 320) (s : ByteArray) (hs : s.size ≤ 140737488351232) (pos : Int) (h0 : 0 ≤ pos) (hp : pos ≤ 4611686018427387904) (n : Nat) (hn : n ≤ 14) (hV : Gn l n ≤ Vn s pos n) (hS : Sn l n ≠ (syms l).length) :
    stageOf l s pos n = if pos + n < 8 * s.size then stageOf l s pos (n + 1) else some (0, 0, 2) := by
  unfold stageOf
  rw [if_neg (Int.not_lt.2 hV), if_neg hS, show 15 - n = (15 - (n + 1)) + 1 by omega, nxt_step l hl s hs pos h0 hp n (15 - (n + 1)) (by omega) hV]
theorem refnext_stage (l : List Int) (hl : l.length ≤ 320) (hok : okL l = true) (hb : badSum l = false) (s : ByteArray) (hs : s.size ≤ 140737488351232) (pos : Int) (h0 : 0 ≤ pos) (hp : pos ≤ 4611686018427387904) (d : Nat) : ∀ n : Nat, n + d = 15 → firstC l n ≤ Vn s pos n →
    ∃ r, stageOf l s pos n = some r ∧ Ev (fun k => celluloidref04_Next.l0 k l s pos (codesOf l) (Vn s pos n) n) r := by
  induction d with
  | zero =>
    intro n hn hV
    obtain rfl : n = 15 := by omega
    have hVr := Vn_rng s pos 15
    have hlast : Sn l 15 = (syms l).length := rfl
    by_cases hlt : Vn s pos 15 < Gn l 15
    · obtain ⟨i, e, hi, hli, hc⟩ := symbol_is l 15 (by decide) (by decide) _ hV hlt
      have hw : wrap64 (pos + (15 : Nat)) = pos + (15 : Nat) := wrap_in (by omega) (by omega)
      refine ⟨((i : Int), pos + (15 : Nat), 0), ?_, ?_⟩
      · unfold stageOf; rw [if_pos hlt, e]
      · have := refnext_hit l hl hok s pos (Vn s pos 15) 15 (by decide) i hi ⟨by decide, hli, hc⟩ i 0 false (by omega)
        rw [hw] at this
        refine Ev.step (fun k => ?_) this
        simp only [celluloidref04_Next.l0]
        rw [if_pos (by decide)]
        rfl
    · refine ⟨(0, 0, 4), ?_, ?_⟩
      · unfold stageOf; rw [if_neg hlt, if_pos hlast]
      · have hno : ∀ i : Nat, i < l.length → ¬ Hits l 15 (Vn s pos 15) i := fun i hi hh => by
          have := (symbol_at l i 15 (by decide) (by decide) hi hh.2.1).2.1
          rw [hh.2.2] at this
          exact hlt this
        have hnb : ¬ ∃ i : Nat, i < l.length ∧ Begins l 15 (Vn s pos 15) i := by
          rintro ⟨i, hi, hbg⟩
          exact begins_more l hok 15 _ i hi hbg rfl
        have E0 : Ev (fun k => celluloidref04_Next.l1 k l s pos (codesOf l) (Vn s pos 15) (15 : Nat) false l.length) (0, 0, 4) := by
          refine Ev.step (f := fun _ => some (0, 0, 4)) (fun k => ?_) (Ev.now _)
          simp only [celluloidref04_Next.l1]
          rw [if_neg (Int.lt_irrefl _), if_neg (by simp)]
        have := refnext_miss l hl hok s pos (Vn s pos 15) 15 (by decide) hno (0, 0, 4) (0, 0, 4) (fun h => absurd h hnb) E0 l.length 0 false (by omega) (fun h => absurd h (by decide)) (0, 0, 4) (fun _ => rfl) (fun _ => rfl)
        refine Ev.step (fun k => ?_) this
        simp only [celluloidref04_Next.l0]
        rw [if_pos (by decide)]
        rfl
  | succ d ih =>
    intro n hn hV
    have hVr := Vn_rng s pos n
    have hVr1 := Vn_rng s pos (n + 1)
    by_cases hlt : Vn s pos n < Gn l n
    · have hn0 : 0 < n := by
        rcases Nat.eq_zero_or_pos n with rfl | h
        · rw [Gn_zero] at hlt; omega
        · exact h
      obtain ⟨i, e, hi, hli, hc⟩ := symbol_is l n hn0 (by omega) _ hV hlt
      have hw : wrap64 (pos + n) = pos + n := wrap_in (by omega) (by omega)
      refine ⟨((i : Int), pos + n, 0), ?_, ?_⟩
      · unfold stageOf; rw [if_pos hlt, e]
      · have := refnext_hit l hl hok s pos (Vn s pos n) n (by omega) i hi ⟨hn0, hli, hc⟩ i 0 false (by omega)
        rw [hw] at this
        refine Ev.step (fun k => ?_) this
        simp only [celluloidref04_Next.l0]
        rw [if_pos (by omega)]
        rfl
    · have hge : Gn l n ≤ Vn s pos n := Int.not_lt.1 hlt
      have hno : ∀ i : Nat, i < l.length → ¬ Hits l n (Vn s pos n) i := fun i hi hh => by
        have := (symbol_at l i n hh.1 (by omega) hi hh.2.1).2.1
        rw [hh.2.2] at this
        exact hlt this
      have hiff := begins_iff l hok hb n (by omega) (Vn s pos n) hge hVr.1 hVr.2
      have E0 : Ev (fun k => celluloidref04_Next.l1 k l s pos (codesOf l) (Vn s pos n) n false l.length) (0, 0, 4) := by
        refine Ev.step (f := fun _ => some (0, 0, 4)) (fun k => ?_) (Ev.now _)
        simp only [celluloidref04_Next.l1]
        rw [if_neg (Int.lt_irrefl _), if_neg (by simp)]
      have hstart : ∀ r, Ev (fun k => celluloidref04_Next.l1 k l s pos (codesOf l) (Vn s pos n) n false ((0 : Nat) : Int)) r → Ev (fun k => celluloidref04_Next.l0 k l s pos (codesOf l) (Vn s pos n) n) r := fun r h => by
        refine Ev.step (fun k => ?_) h
        simp only [celluloidref04_Next.l0]
        rw [if_pos (by omega)]
        rfl
      by_cases hS : Sn l n = (syms l).length
      · refine ⟨(0, 0, 4), by unfold stageOf; rw [if_neg hlt, if_pos hS], hstart _ ?_⟩
        have hnb : ¬ ∃ i : Nat, i < l.length ∧ Begins l n (Vn s pos n) i := fun h => hiff.1 h hS
        exact refnext_miss l hl hok s pos (Vn s pos n) n (by omega) hno (0, 0, 4) (0, 0, 4) (fun h => absurd h hnb) E0 l.length 0 false (by omega) (fun h => absurd h (by decide)) (0, 0, 4) (fun _ => rfl) (fun _ => rfl)
      · have hbg := hiff.2 hS
        have hst := stage_step l hl s hs pos h0 hp n (by omega) hge hS
        have hw : Aside0 (wrap64 (pos + n) = pos + n) := ⟨wrap_in (by omega) (by omega)⟩
        have hn1 : Aside0 (wrap64 ((n : Int) + 1) = ((n + 1 : Nat) : Int)) := ⟨by rw [wrap_in (by omega) (by omega)]; rfl⟩
        have hbe : ∃ q : Nat, 0 ≤ q ∧ q < l.length ∧ Begins l n (Vn s pos n) q := by obtain ⟨i, hi, h⟩ := hbg; exact ⟨i, Nat.zero_le _, hi, h⟩
        obtain ⟨KB, hbit⟩ := refbit_is s hs (pos + n) (by omega) (by omega)
        dsimp only at hbit
        by_cases hbt : pos + n < 8 * s.size
        · rw [if_pos hbt] at hst
          have hfg : firstC l (n + 1) ≤ Vn s pos (n + 1) := by
            have hbr := bitN_rng s (pos + n)
            have e1 : Vn s pos (n + 1) = 2 * Vn s pos n + bitN s (pos + n) := rfl
            rw [firstC_succ, e1]
            omega
          obtain ⟨r, hr, hE⟩ := ih (n + 1) (by omega) hfg
          refine ⟨r, by rw [hst]; exact hr, hstart _ ?_⟩
          obtain ⟨KN, hE⟩ := hE
          dsimp only at hE
          have hbr := bitN_rng s (pos + n)
          have hp2 : (2 : Int) ^ n ≤ 32768 := by
            have h1 : 2 ^ n ≤ 2 ^ 15 := Nat.pow_le_pow_right (by decide) (by omega)
            have e : ((2 ^ n : Nat) : Int) = (2 : Int) ^ n := by rw [Int.natCast_pow]; rfl
            rw [← e]; omega
          have e2 : Aside0 (wrap64 (2 * Vn s pos n) = 2 * Vn s pos n) := ⟨wrap_in (by omega) (by omega)⟩
          have e3 : Aside0 (wrap64 (2 * Vn s pos n + bitN s (pos + n)) = Vn s pos (n + 1)) := ⟨by rw [wrap_in (by omega) (by omega)]; rfl⟩
          have hb0 : ¬ bitN s (pos + n) < 0 := by omega
          have E1 : Ev (fun k => celluloidref04_Next.l1 k l s pos (codesOf l) (Vn s pos n) n true l.length) r := by
            refine ⟨KB + KN + 1, fun k hk => ?_⟩
            obtain ⟨k, rfl⟩ : ∃ q, k = q + 1 := ⟨k - 1, by omega⟩
            simp only [celluloidref04_Next.l1]
            rw [if_neg (Int.lt_irrefl _), if_pos trivial, hw.out, hbit k (by omega), if_pos (show 0 ≤ pos + (n : Int) ∧ pos + (n : Int) < 8 * s.size from ⟨by omega, hbt⟩)]
            simp only [Option.bind_some]
            rw [if_neg hb0, e2.out, e3.out, hn1.out]
            exact hE k (by omega)
          exact refnext_miss l hl hok s pos (Vn s pos n) n (by omega) hno (0, 0, 4) r (fun _ => E1) E0 l.length 0 false (by omega) (fun h => absurd h (by decide)) r (fun _ => rfl) (fun h => absurd (.inr hbe) h)
        · rw [if_neg hbt] at hst
          refine ⟨(0, 0, 2), hst, hstart _ ?_⟩
          have E1 : Ev (fun k => celluloidref04_Next.l1 k l s pos (codesOf l) (Vn s pos n) n true l.length) (0, 0, 2) := by
            refine ⟨KB + 1, fun k hk => ?_⟩
            obtain ⟨k, rfl⟩ : ∃ q, k = q + 1 := ⟨k - 1, by omega⟩
            simp only [celluloidref04_Next.l1]
            rw [if_neg (Int.lt_irrefl _), if_pos trivial, hw.out, hbit k (by omega), if_neg (show ¬ (0 ≤ pos + (n : Int) ∧ pos + (n : Int) < 8 * s.size) from fun h => hbt h.2)]
            simp only [Option.bind_some]
            rw [if_pos (by decide)]
          exact refnext_miss l hl hok s pos (Vn s pos n) n (by omega) hno (0, 0, 4) (0, 0, 2) (fun _ => E1) E0 l.length 0 false (by omega) (fun h => absurd h (by decide)) (0, 0, 2) (fun _ => rfl) (fun h => absurd (.inr hbe) h)

theorem nextOf_good (l : List Int) (he : errOf l = 0) (s : ByteArray) (pos : Int) (h0 : 0 ≤ pos) : nextOf (newCs l) (newSs l) s pos = if (syms l).length = 0 then some (0, 0, 4) else nxt (cnts l) (syms l) s 15 pos 0 0 0 := by
  obtain ⟨hl, _, _⟩ := errOf_ok l he
  unfold nextOf newCs newSs
  rw [if_pos he, if_pos he, if_neg (by omega)]
  by_cases ht : (syms l).length = 0
  · rw [if_pos ht, if_pos ht]
  · rw [if_neg ht, if_neg ht, if_pos]
    refine ⟨cnts_length l, ?_, fun x hx => ?_⟩
    · have := symsN_length l 15
      have h2 : 15 * l.length ≤ 15 * 320 := Nat.mul_le_mul_left _ hl
      unfold syms
      omega
    · obtain ⟨i, hi, rfl⟩ := List.getElem_of_mem hx
      have := cnts_rng l i
      rw [List.getD_eq_getElem?_getD, List.getElem?_eq_getElem hi, Option.getD_some] at this
      omega
theorem next_is (l : List Int) (he : errOf l = 0) (s : ByteArray) (hs : s.size ≤ 140737488351232) (pos : Int) (hp : pos ≤ 9223372036854775807) :
    ∃ r, nextOf (newCs l) (newSs l) s pos = some r ∧ Ev (fun k => celluloidref04_Next.f k l s pos) r := by
  obtain ⟨hl, hok, hb⟩ := errOf_ok l he
  by_cases hneg : pos < 0
  · refine ⟨(0, 0, 1), by unfold nextOf; rw [if_pos hneg], ?_⟩
    exact Ev.congr (f := fun _ => some (0, 0, 1)) (fun k => by unfold celluloidref04_Next.f; rw [if_pos hneg]) (Ev.now _)
  have h0 : 0 ≤ pos := by omega
  have hcodes := refcodes_is l hl hok
  have hto : ∀ r, Ev (fun k => celluloidref04_Next.l0 k l s pos (codesOf l) 0 0) r → Ev (fun k => celluloidref04_Next.f k l s pos) r := fun r h =>
    Ev.congr (fun k => by unfold celluloidref04_Next.f; rw [if_neg hneg]) (Ev.bind hcodes h)
  rw [nextOf_good l he s pos h0]
  by_cases hin : pos < 8 * s.size
  · obtain ⟨r, hr, hE⟩ := refnext_stage l hl hok hb s hs pos h0 (by omega) 15 0 rfl (by show firstC l 0 ≤ 0; exact Int.le_refl 0)
    refine ⟨r, ?_, hto r hE⟩
    rw [← hr]
    have e0 : Sn l 0 = 0 := rfl
    have eV : ¬ Vn s pos 0 < Gn l 0 := by rw [Gn_zero]; exact Int.lt_irrefl 0
    have e1 : pos + ((0 : Nat) : Int) = pos := by omega
    unfold stageOf
    rw [if_neg eV, e0, e1, Gn_zero]
    by_cases ht : (syms l).length = 0
    · rw [if_pos ht, if_pos (by omega)]
    · rw [if_neg ht, if_neg (by omega)]
      rfl
  · have hno : ∀ i : Nat, i < l.length → ¬ Hits l 0 0 i := fun i hi hh => absurd hh.1 (Nat.lt_irrefl 0)
    have hiff := begins_iff l hok hb 0 (by decide) 0 (by rw [Gn_zero]; exact Int.le_refl 0) (Int.le_refl 0) (by decide)
    have E0 : Ev (fun k => celluloidref04_Next.l1 k l s pos (codesOf l) 0 ((0 : Nat) : Int) false l.length) (0, 0, 4) := by
      refine Ev.step (f := fun _ => some (0, 0, 4)) (fun k => ?_) (Ev.now _)
      simp only [celluloidref04_Next.l1]
      rw [if_neg (Int.lt_irrefl _), if_neg (by simp)]
    have hstart : ∀ r, Ev (fun k => celluloidref04_Next.l1 k l s pos (codesOf l) 0 ((0 : Nat) : Int) false ((0 : Nat) : Int)) r → Ev (fun k => celluloidref04_Next.l0 k l s pos (codesOf l) 0 0) r := fun r h => by
      refine Ev.step (fun k => ?_) h
      simp only [celluloidref04_Next.l0]
      rw [if_pos (by decide)]
      rfl
    have e0 : Sn l 0 = 0 := rfl
    by_cases ht : (syms l).length = 0
    · rw [if_pos ht]
      refine ⟨(0, 0, 4), rfl, hto _ (hstart _ ?_)⟩
      have hnb : ¬ ∃ i : Nat, i < l.length ∧ Begins l 0 0 i := fun h => hiff.1 h (by rw [e0, ← syms_Sn]; omega)
      exact refnext_miss l hl hok s pos 0 0 (by decide) hno (0, 0, 4) (0, 0, 4) (fun h => absurd h hnb) E0 l.length 0 false (by omega) (fun h => absurd h (by decide)) (0, 0, 4) (fun _ => rfl) (fun _ => rfl)
    · rw [if_neg ht]
      have hbg := hiff.2 (by rw [e0, ← syms_Sn]; omega)
      have hbe : ∃ q : Nat, 0 ≤ q ∧ q < l.length ∧ Begins l 0 0 q := by obtain ⟨i, hi, h⟩ := hbg; exact ⟨i, Nat.zero_le _, hi, h⟩
      obtain ⟨KB, hbit⟩ := refbit_is s hs pos hp (by omega)
      dsimp only at hbit
      have hw : Aside0 (wrap64 (pos + ((0 : Nat) : Int)) = pos) := ⟨by rw [wrap_in (by omega) (by omega)]; omega⟩
      refine ⟨(0, 0, 2), ?_, hto _ (hstart _ ?_)⟩
      · simp only [nxt]
        rw [bit_is s hs pos h0 hp, if_neg hin]
        rfl
      · have E1 : Ev (fun k => celluloidref04_Next.l1 k l s pos (codesOf l) 0 ((0 : Nat) : Int) true l.length) (0, 0, 2) := by
          refine ⟨KB + 1, fun k hk => ?_⟩
          obtain ⟨k, rfl⟩ : ∃ q, k = q + 1 := ⟨k - 1, by omega⟩
          simp only [celluloidref04_Next.l1]
          rw [if_neg (Int.lt_irrefl _), if_pos trivial, hw.out, hbit k (by omega), if_neg (show ¬ (0 ≤ pos ∧ pos < 8 * s.size) from fun h => hin h.2)]
          simp only [Option.bind_some]
          rw [if_pos (by decide)]
        exact refnext_miss l hl hok s pos 0 0 (by decide) hno (0, 0, 4) (0, 0, 2) (fun _ => E1) E0 l.length 0 false (by omega) (fun h => absurd h (by decide)) (0, 0, 2) (fun _ => rfl) (fun h => absurd (.inr hbe) h)
end Go.Proofs.Ytpbhkdamkbopkaa.RefA
