/- By lengths that are full any bits begin with a code: for every input. -/
import Derived.Test.YtpbhkdamkbopkaaRefC
import Derived.Test.YtpbhkdamkbopkaaGHuffx5
namespace Go.Proofs.Ytpbhkdamkbopkaa.Pure
set_option linter.unusedSimpArgs false
set_option linter.unusedVariables false
open Go.RowKit Go.Proofs.Ytpbhkdamkbopkaa.Ext Go.Proofs.Ytpbhkdamkbopkaa.ExtAwake Go.Proofs.Ytpbhkdamkbopkaa.RefA Go.Proofs.Ytpbhkdamkbopkaa.GHuff Go.Proofs.YtpbhkdamkbopkaaW.PrintWords Go.Proofs.YtpbhkdamkbopkaaW.PrintLast Go.Proofs.YtpbhkdamkbopkaaW.PrintMore

theorem next_of16f (cs ss : List Int) (h : cs.length = 16) (s : ByteArray) (pos : Int) :
    huff_Next.f (cs.getD 0 0) (cs.getD 1 0) (cs.getD 2 0) (cs.getD 3 0) (cs.getD 4 0) (cs.getD 5 0) (cs.getD 6 0) (cs.getD 7 0) (cs.getD 8 0) (cs.getD 9 0) (cs.getD 10 0) (cs.getD 11 0) (cs.getD 12 0) (cs.getD 13 0) (cs.getD 14 0) (cs.getD 15 0) ss s pos = nextOf cs ss s pos := by
  unfold huff_Next.f
  congr 1
  match cs, h with
  | [_, _, _, _, _, _, _, _, _, _, _, _, _, _, _, _], _ => rfl
/-- By lengths that may be, 15 bits that are there tell a symbol, or that none begins so; full ones never the second. -/
theorem stage_full (l : List Int) (hl : l.length ≤ 320) (s : ByteArray) (hs : s.size ≤ 140737488351232) (h2 : 2 ≤ s.size) (d : Nat) : ∀ n : Nat, n + d = 15 → firstC l n ≤ Vn s 0 n →
    (stageOf l s 0 n = some (0, 0, 4) ∧ Gn l 15 ≠ 32768) ∨ ∃ (i m : Nat), stageOf l s 0 n = some ((i : Int), (m : Int), 0) ∧ i < l.length ∧ l.getD i 0 = m ∧ 0 < m := by
  have sym : ∀ n : Nat, n ≤ 15 → firstC l n ≤ Vn s 0 n → Vn s 0 n < Gn l n → ∃ (i m : Nat), stageOf l s 0 n = some ((i : Int), (m : Int), 0) ∧ i < l.length ∧ l.getD i 0 = m ∧ 0 < m := fun n hn hV hlt => by
    have hVr := Vn_rng s 0 n
    have hn0 : 0 < n := by
      rcases Nat.eq_zero_or_pos n with rfl | h
      · rw [Gn_zero] at hlt; omega
      · exact h
    obtain ⟨i, e, hi, hli, hc⟩ := symbol_is l n hn0 (by omega) _ hV hlt
    refine ⟨i, n, ?_, hi, hli, hn0⟩
    unfold stageOf
    rw [if_pos hlt, e, Int.zero_add]
  induction d with
  | zero =>
    intro n hn hV
    obtain rfl : n = 15 := by omega
    by_cases hlt : Vn s 0 15 < Gn l 15
    · exact .inr (sym 15 (by decide) hV hlt)
    · left
      have hVr := Vn_rng s 0 15
      refine ⟨by unfold stageOf; rw [if_neg hlt, if_pos (syms_Sn l).symm], fun h => ?_⟩
      rw [h] at hlt
      exact hlt hVr.2
  | succ d ih =>
    intro n hn hV
    by_cases hlt : Vn s 0 n < Gn l n
    · exact .inr (sym n (by omega) hV hlt)
    · have hge : Gn l n ≤ Vn s 0 n := Int.not_lt.1 hlt
      have hVr := Vn_rng s 0 n
      by_cases hS : Sn l n = (syms l).length
      · left
        refine ⟨by unfold stageOf; rw [if_neg hlt, if_pos hS], fun h => ?_⟩
        exact full_goes l h n (by omega) _ hge hVr.2 hS
      · have hst := stage_step l hl s hs 0 (by decide) (by decide) n (by omega) hge hS
        rw [if_pos (by omega)] at hst
        have hfg : firstC l (n + 1) ≤ Vn s 0 (n + 1) := by
          have hbr := bitN_rng s (0 + n)
          have e1 : Vn s 0 (n + 1) = 2 * Vn s 0 n + bitN s (0 + n) := rfl
          rw [firstC_succ, e1]
          omega
        rw [hst]
        exact ih (n + 1) (by omega) hfg
theorem nextOf_stage (l : List Int) (he : errOf l = 0) (s : ByteArray) : nextOf (newCs l) (newSs l) s 0 = stageOf l s 0 0 := by
  rw [nextOf_good l he s 0 (by decide)]
  have e0 : Sn l 0 = 0 := rfl
  have eV : ¬ Vn s 0 0 < Gn l 0 := by rw [Gn_zero]; exact Int.lt_irrefl 0
  unfold stageOf
  rw [if_neg eV, e0, Gn_zero]
  by_cases ht : (syms l).length = 0
  · rw [if_pos ht, if_pos (by omega)]
  · rw [if_neg ht, if_neg (by omega)]
    rfl
theorem many_is (l : List Int) (hok : okL l = true) : manyK l l.length = Sn l 15 := by
  have h := (takes_is l hok l.length (Nat.le_refl _)).2.1
  rw [List.take_length] at h
  rw [h]
  exact many_Sn l 15 (Nat.le_refl _)
theorem full_l (l : List Int) (hl : l.length ≤ 320) (hok : okL l = true) (he : errOf l = 0) (x1 : Int) (hx : 0 ≤ x1 ∧ x1 ≤ 65535) (d : Nat) : ∀ i : Nat, i + d = l.length →
    Ev (fun k => celluloidlaw04_HuffFull.l0 k l x1 (manyK l i) l l.length i ((newCs l).getD 0 0) ((newCs l).getD 1 0) ((newCs l).getD 2 0) ((newCs l).getD 3 0) ((newCs l).getD 4 0) ((newCs l).getD 5 0) ((newCs l).getD 6 0) ((newCs l).getD 7 0) ((newCs l).getD 8 0) ((newCs l).getD 9 0) ((newCs l).getD 10 0) ((newCs l).getD 11 0) ((newCs l).getD 12 0) ((newCs l).getD 13 0) ((newCs l).getD 14 0) ((newCs l).getD 15 0) (newSs l)) true := by
  have haw : celluloidlaw04_awake.f = some true := rfl
  induction d with
  | zero =>
    intro i hi
    obtain rfl : i = l.length := by omega
    have hsz : (strOfNums [x1 % 256, x1 / 256 % 256]).size = 2 := by rw [strOfNums_size]; rfl
    have hsz2 : (strOfNums [x1 % 256, x1 / 256 % 256]).size ≤ 140737488351232 := by rw [hsz]; decide
    have hst := stage_full l hl (strOfNums [x1 % 256, x1 / 256 % 256]) hsz2 (by rw [hsz]; decide) 15 0 rfl (by show firstC l 0 ≤ 0; exact Int.le_refl 0)
    rw [← nextOf_stage l he] at hst
    refine Ev.step (f := fun _ => some true) (fun k => ?_) (Ev.now _)
    simp only [celluloidlaw04_HuffFull.l0]
    rw [if_neg (Int.lt_irrefl _), next_of16f _ _ (newCs_length l), many_is l hok]
    rcases hst with ⟨hr, hG⟩ | ⟨i, m, hr, hi, hli, hm0⟩
    · rw [hr]
      simp only [Option.bind_some]
      have hlt : Sn l 15 < 2 := by
        rcases good_sum l (errOf_ok l he).2.2 with h | ⟨h, _⟩ | ⟨h, _, _⟩
        · exact absurd h hG
        · omega
        · omega
      rw [if_pos hlt, if_neg (by decide), if_pos (by decide), haw]
      rfl
    · rw [hr]
      simp only [Option.bind_some]
      have hri : rd l i = m := by rw [rd_nat]; exact hli
      by_cases hlt : Sn l 15 < 2
      · rw [if_pos hlt, if_pos trivial, haw]; rfl
      · rw [if_neg hlt, if_pos trivial, if_pos (Int.natCast_nonneg _), if_pos (by omega), if_pos (Int.natCast_nonneg _), hri, if_pos rfl, if_pos (by omega), haw]
        rfl
  | succ d ih =>
    intro i hi
    have hd := ih (i + 1) (by omega)
    have hil : (i : Int) < l.length := by omega
    have hri : rd l i = l.getD i 0 := rd_nat l i
    have htr := takes_rng l i
    have e1 : Aside0 (wrap64 ((i : Int) + 1) = ((i + 1 : Nat) : Int)) := ⟨by rw [wrap_in (by omega) (by omega)]; rfl⟩
    have e2 : Aside0 (wrap64 (manyK l i + 1) = manyK l i + 1) := ⟨wrap_in (by omega) (by omega)⟩
    simp only [manyK] at hd
    refine Ev.step (fun k => ?_) hd
    simp only [celluloidlaw04_HuffFull.l0]
    rw [if_pos hil, if_pos (Int.natCast_nonneg _), if_pos hil, hri, e1.out, e2.out]
    by_cases h0 : l.getD i 0 > 0
    · rw [if_pos h0, if_pos (show 0 < l.getD i 0 from h0)]
    · rw [if_neg h0, if_neg (show ¬ 0 < l.getD i 0 from h0), Int.add_zero]
theorem HuffFull : celluloidlaw04_HuffFull.Pure := by
  intro l x hlm hl8 hwf hx
  have haw : celluloidlaw04_awake.f = some true := rfl
  have hxr : 0 ≤ x ∧ x ≤ 65535 := by
    simp [Lit.wf, IntKind.min, IntKind.max, IntKind.signed, IntKind.bits] at hx
    omega
  by_cases he : errOf l = 0
  · obtain ⟨hl, hok, hb⟩ := errOf_ok l he
    obtain ⟨K, h⟩ := full_l l hl hok he x hxr l.length 0 (by omega)
    refine ⟨K, ?_⟩
    unfold celluloidlaw04_HuffFull.f huff_New.f
    simp only [Option.bind_some]
    rw [if_pos he]
    exact h K (Nat.le_refl _)
  · refine ⟨0, ?_⟩
    unfold celluloidlaw04_HuffFull.f huff_New.f
    simp only [Option.bind_some]
    rw [if_neg he, haw]
    rfl
end Go.Proofs.Ytpbhkdamkbopkaa.Pure
