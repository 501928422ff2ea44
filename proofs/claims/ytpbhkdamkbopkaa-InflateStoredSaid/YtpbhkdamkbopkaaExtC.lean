/- The walk of huff.Codes: the codes of lengths, or their error. -/
import Derived.Test.YtpbhkdamkbopkaaExtB
import Derived.Test.YtpbhkdamkbopkaaHuffDefB
import Derived.Deep.WholeRow
namespace Go.Proofs.Ytpbhkdamkbopkaa.Ext
set_option linter.unusedSimpArgs false
set_option linter.unusedVariables false
open Go.RowKit Go.Proofs.YtpbhkdamkbopkaaW.PrintWords Go.Proofs.YtpbhkdamkbopkaaW.PrintLast Go.Proofs.YtpbhkdamkbopkaaW.PrintMore

/-- What Codes answers: the codes, the error. -/
def CodesIs (w : World) (cs : List Int) (er : Int) (e : Ending) (w' : World) : Prop :=
  ∃ v : Value, e = .returned (.tuple #[v, .int .i64 er]) ∧ Kd.R (Kd.int .i64) 3 w' w.heap.size (fun _ => True) v cs ∧ Below w.heap.size w w'

set_option maxRecDepth 100000 in
set_option maxHeartbeats 1000000 in
theorem codes_err (A : Option Addr) (c : Nat) (l : List Int) (w : World) (hr : Kd.C (Kd.int .i64) w A l.length l) (h : errOf l ≠ 0) : Calls Try.prog 27 #[.slice A l.length c] w (CodesIs w [] (errOf l)) := by
  have HR := Aside0.mk hr
  have hne : (errOf l != 0) = true := by simpa using h
  clear hr h
  go_enter Try.func27, Try.ntmps27
  go_wp2_with (first
    | (go_at_call 26; refine (new_calls A c l _ HR.out).mono ?_; rintro e w1 ⟨v, rfl, hrv, hb⟩; have HV := Aside0.mk hrv; have HB := Aside0.mk hb; obtain ⟨va, vn, vc, rfl⟩ := R_form hrv; clear hrv hb)
    | (refine wpList_store_row rfl 26 _ _ rfl w1.heap.size (tab (newCs l) (.slice va vn vc)) rfl rfl 26 (tab zero16 (.slice none 0 0)) (heap_alloc_new _ _) (by rw [tab_size, newCs_length]; exact info26) (by rw [tab_size, tab_size, newCs_length]; rfl) (tab_one _ _ _ _) ?_; rw [World.setRow_alloc_new]))
  go_ret2
  exact ⟨_, rfl, Kd.R_nil _ _ _ _ _, below_alloc HB.out _⟩

theorem cz0 (l : List Int) : cz l 0 = 0 := by unfold cz; rw [List.getD_eq_getElem?_getD, cnts_get l 0 (by decide)]; rfl
/-- The codes so far, in the call's own row. -/
structure Laying (w2 : World) (v : Value) (xs : List Int) (w' : World) : Prop where
  r : Kd.R (Kd.int .i64) 3 w' w2.heap.size (fun _ => True) v xs
  b : Below w2.heap.size w2 w'

set_option maxRecDepth 100000 in
set_option maxHeartbeats 4000000 in
theorem codes_main (A : Option Addr) (c : Nat) (l : List Int) (w : World) (hr : Kd.C (Kd.int .i64) w A l.length l) (h : errOf l = 0) : Calls Try.prog 27 #[.slice A l.length c] w (CodesIs w (codesOf l) 0) := by
  obtain ⟨hlen, hokl, _⟩ := errOf_ok l h
  have e1 : newCs l = cnts l := by unfold newCs; rw [if_pos h]
  have e2 : newSs l = syms l := by unfold newSs; rw [if_pos h]
  have hnew := fun W (hc : Kd.C (Kd.int .i64) W A l.length l) => new_calls A c l W hc
  rw [e1, e2, h] at hnew
  have HNEW := Aside0.mk hnew
  have HOK := Aside0.mk hokl
  have HR := Aside0.mk hr
  clear hr h e1 e2 hnew hokl
  go_enter Try.func27, Try.ntmps27
  go_upto_region 4 with (first
    | (go_at_call 26; refine (HNEW.out _ HR.out).mono ?_; rintro e w1 ⟨v, rfl, hrv, hb⟩; have HV := Aside0.mk hrv; have HB := Aside0.mk hb; obtain ⟨va, vn, vc, rfl⟩ := R_form hrv; clear hrv hb)
    | (refine wpList_store_row rfl 26 _ _ rfl w1.heap.size (tab (cnts l) (.slice va vn vc)) rfl rfl 26 (tab zero16 (.slice none 0 0)) (heap_alloc_new _ _) (by rw [tab_size, cnts_length]; exact info26) (by rw [tab_size, tab_size, cnts_length]; rfl) (tab_one _ _ _ _) ?_; rw [World.setRow_alloc_new]))
  obtain ⟨rfl, hvn, hread⟩ := Kd.R_reads' HV.out
  have HRD := Aside0.mk (Kd.C_alloc hread (.cells (tab (cnts l) (.slice va (syms l).length vc)) 26))
  have HBK := Aside0.mk (blk_new w1 (.cells (tab (cnts l) (.slice va (syms l).length vc)) 26))
  have HB2 := Aside0.mk (below_alloc HB.out (.cells (tab (cnts l) (.slice va (syms l).length vc)) 26))
  have g4e : ∃ g4, g4 = w1.heap.size := ⟨_, rfl⟩
  obtain ⟨g4, hg4⟩ := g4e
  rw [← hg4] at HBK ⊢
  clear hg4 hread hvn HV HB
  generalize w1.alloc (.cells (tab (cnts l) (.slice va (syms l).length vc)) 26) = w2 at HRD HBK HB2 ⊢
  go_wp2_with (((with_reducible refine gate_dst (N := 20) rfl ?_); refine Kd.R_make (Kd.int .i64) (w0 := w2) w2.heap.size 3 rfl (N := 20) rfl 22 _ _ rfl (l.length : Int) rfl rfl Try.underlying22 (.int .i64 0) 8 info3 rfl (by decide) (by omega) 0 (ok := fun _ => True) (okp := fun _ => True) rfl (fun _ hk => hk) trivial (Int.natCast_nonneg _) (by rw [Int.toNat_natCast]; omega) (Below.refl _ _) (Nat.le_refl _) ?_; intro v3 w3 ho3 hb3 hg3 hn3; have HO := Aside0.mk (Laying.mk ho3 hb3); clear ho3 hb3 hg3 hn3))
  go_loopw [7, 8, 9] (fun v7 v8 v9 w' => ∃ m : Nat, m ≤ 15 ∧ v7 = .int .i64 (firstC l m + cz l m) ∧ v8 = .int .i64 ((symsN l m).length : Nat) ∧ v9 = .int .i64 ((m : Int) + 1) ∧ Aside0 (Laying w2 v3 (codesN l (m + 1) 0) w')) (fun _ _ v9 _ => 17 - (intOf v9).toNat)
  case atStart =>
    refine ⟨0, by decide, by rw [cz0]; rfl, rfl, rfl, ?_⟩
    rw [codesN_start]
    exact HO
  case round =>
    clear HO HNEW
    obtain ⟨m, hm, rfl, rfl, rfl, HO⟩ := hrel
    by_cases hlt : m < 15
    · have hdec : decide ((m : Int) + 1 ≤ 15) = true := decide_eq_true (by omega)
      have hF := firstC_le l hlen (m + 1) (by omega)
      have hF0 := firstC_le l hlen m (by omega)
      have hcm := cz_rng l m
      have hcn := cz_rng l (m + 1)
      have hFe : firstC l (m + 1) = 2 * (firstC l m + cz l m) := rfl
      have hx : ∃ x, x = firstC l m + cz l m := ⟨_, rfl⟩
      obtain ⟨x, ex⟩ := hx
      rw [← ex] at hFe ⊢
      have hx0 : 0 ≤ x ∧ x ≤ 20971520 := by omega
      clear ex hF0 hcm
      have hcell : wr.cell? ⟨g4, m + 1, none⟩ = some (.int .i64 (cz l (m + 1))) := by
        rw [blk_cell (blk_below HBK.out HO.out.b), tab_get _ _ _ (by rw [cnts_length]; omega)]; rfl
      have HIC := Aside0.mk (idxN_cz l (m + 1) (by omega) (by omega))
      generalize eF : firstC l (m + 1) = F at hFe hF
      have EF := Aside0.mk eF
      have HFE := Aside0.mk hFe
      clear hFe eF
      generalize eC : cz l (m + 1) = C at hcell hcn HIC
      have EC := Aside0.mk eC
      clear eC
      have hml : (symsN l m).length ≤ 4800 := by
        have h1 := symsN_length l m
        have h2 : m * l.length ≤ 15 * 320 := Nat.mul_le_mul (by omega) hlen
        omega
      go_wp2
      obtain ⟨wo, rfl⟩ : ∃ wo : World, wo = wr := ⟨_, rfl⟩
      go_loopw [7, 8, 31] (fun v7 v8 v31 w' => ∃ j : Nat, (j : Int) ≤ C ∧ v7 = .int .i64 (F + j) ∧ v8 = .int .i64 ((symsN l m).length + j : Nat) ∧ v31 = .int .i64 j ∧ Aside0 (Laying w2 v3 (codesN l (m + 1) j) w')) (fun _ _ v31 _ => C.toNat - (intOf v31).toNat)
      case atStart => exact ⟨0, by simpa using hcn.1, by rw [HFE.out, Int.mul_comm]; simp, rfl, rfl, HO⟩
      case round =>
        clear HO
        obtain ⟨j, hj, rfl, rfl, rfl, HO⟩ := hrel
        by_cases hjc : (j : Int) < C
        · have hji : j < (idxN l (m + 1) l.length).length := by have := HIC.out; omega
          have hsy := syms_at l m j 15 (by omega) hji
          have hgx : (idxN l (m + 1) l.length)[j]? = some ((idxN l (m + 1) l.length)[j]) := List.getElem?_eq_getElem hji
          obtain ⟨i, ei, hi, hi2, hi3⟩ := idxN_at l (m + 1) _ _ _ hgx
          rw [ei] at hgx
          have hstep := codesN_step l (m + 1) j i (by omega) hgx
          rw [EF.out] at hstep
          rw [hgx] at hsy
          have HST := Aside0.mk hstep.1
          have hlt2 := (List.getElem?_eq_some_iff.1 hsy).1
          have hrd : rd (syms l) (((symsN l m).length + j : Nat) : Int) = i := by
            rw [rd_nat, List.getD_eq_getElem?_getD]
            show ((symsN l 15)[(symsN l m).length + j]?).getD 0 = i
            rw [hsy]; rfl
          obtain ⟨ad, ead, hx⟩ := Kd.at_int (Kd.C_below HRD.out HO.out.b) (((symsN l m).length + j : Nat) : Int) (Int.natCast_nonneg _) (by unfold syms; omega)
          rw [hrd, Int.toNat_natCast] at hx
          have hsl : (symsN l m).length + j < (syms l).length := hlt2
          obtain ⟨go, co, ev, gb, gl, cl, HG⟩ := Kd.R_form HO.out.r (by rw [codesN_length]; omega)
          rw [codesN_length] at ev
          subst ev
          subst ead
          have hbk := blk_below HBK.out HO.out.b
          have hc16 : wr.cell? ⟨g4, 16, none⟩ = some (.slice (some ad) (syms l).length vc) := (show Tb (cnts l) (.slice (some ad) (syms l).length vc) g4 wr from hbk).cell16
          obtain ⟨hxc, hxf⟩ := Kd.R_celln 0 HO.out.r (i : Int) (Int.natCast_nonneg _) (by omega)
          have hput := Kd.R_putg HO.out.r (i : Int) (F + j)
          rw [Int.toNat_natCast] at hxc hxf hput
          have HPUT := Aside0.mk hput.1
          clear hput hsy hgx hstep hrd ei hi2 hi3 cl HG gl hbk
          go_wp2
          go_roundw
          case rel =>
            refine ⟨j + 1, by omega, by congr 1; omega, by congr 1, by go_num, ?_⟩
            exact ⟨⟨by have := HPUT.out; rw [HST.out] at this; exact this, below_set HO.out.b gb⟩⟩
          case measure => simp [intOf]; omega
        · have hjC : (j : Int) = C := by omega
          have HJC := Aside0.mk hjC
          clear hjc
          have hjd : decide ((j : Int) < C) = false := decide_eq_false (by omega)
          clear hjC
          go_wp2
          go_roundw
          case rel =>
            have hj1 : j = (idxN l (m + 1) l.length).length := by have := HIC.out; have := HJC.out; omega
            refine ⟨m + 1, by omega, ?_, ?_, by go_num, ?_⟩
            · rw [EF.out, EC.out, HJC.out]
            · simp only [symsN, List.length_append]
              rw [← hj1]
            · have := codesN_end l (m + 1) (by omega)
              rw [← hj1] at this
              rw [← this]
              exact HO
          case measure => simp [intOf]; omega
    · obtain rfl : m = 15 := by omega
      have hdec : decide (((15 : Nat) : Int) + 1 ≤ 15) = false := by decide
      go_wp2
      go_ret2
      refine ⟨_, rfl, ?_, ?_⟩
      · have := HO.out.r
        rw [codesN_all l HOK.out] at this
        exact Kd.R_lower this (below_size HB2.out)
      · exact below_then HB2.out (below_size HB2.out) HO.out.b
theorem codes_calls (A : Option Addr) (c : Nat) (l : List Int) (w : World) (hr : Kd.C (Kd.int .i64) w A l.length l) :
    Calls Try.prog 27 #[.slice A l.length c] w (CodesIs w (if errOf l = 0 then codesOf l else []) (errOf l)) := by
  by_cases h : errOf l = 0
  · rw [if_pos h, h]; exact codes_main A c l w hr h
  · rw [if_neg h]; exact codes_err A c l w hr h
end Go.Proofs.Ytpbhkdamkbopkaa.Ext
