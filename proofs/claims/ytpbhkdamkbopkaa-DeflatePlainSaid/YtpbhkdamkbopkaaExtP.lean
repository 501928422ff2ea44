/- The walk of the law DeflatePlain: bytes that are all unlike are packed as their codes alone. -/
import Derived.Test.YtpbhkdamkbopkaaPlainMath
import Derived.Test.YtpbhkdamkbopkaaRunMathC
namespace Go.Proofs.Ytpbhkdamkbopkaa.Wr
set_option linter.unusedSimpArgs false
set_option linter.unusedVariables false
open Go.RowKit Go.Proofs.YtpbhkdamkbopkaaW.PrintWords Go.Proofs.YtpbhkdamkbopkaaW.PrintLast Go.Proofs.YtpbhkdamkbopkaaW.PrintMore
open Go.Proofs.Ytpbhkdamkbopkaa.GRuns (celluloidlaw06_awake.f celluloidlaw06_awake.calls)

theorem info54 : (Try.prog.info? 54).map (fun i => (i.zero, i.size, i.bytes)) = some (some (.agg (Array.replicate 256 (.bool false))), 256, 256) := by kernel_rfl
theorem awake_calls (w : World) : Calls Try.prog 36 #[] w fun e w' => e = .returned (.bool true) ∧ Below w.heap.size w w' := celluloidlaw06_awake.calls 300 true w (Rn.awake_ok 300 (Nat.le_refl _))
/-- Which bytes were seen. -/
structure PSt (w0 : World) (g : Nat) (L : List Bool) (w : World) : Prop where
  blk : w.heap[g]? = some (.cells (L.map Value.bool).toArray 54 (0, 0))
  hg : w0.heap.size ≤ g
  bl : Below w0.heap.size w0 w
/-- The first i bytes are the seen ones, each once. -/
structure Seen (s : ByteArray) (i : Nat) (L : List Bool) : Prop where
  len : L.length = 256
  is : ∀ b : Nat, b < 256 → (L.getD b false = true ↔ ∃ j : Nat, j < i ∧ bt s (j : Int) = (b : Int))
  one : ∀ a b : Nat, b < a → a < i → bt s (a : Int) ≠ bt s (b : Int)
theorem Seen.zero (s : ByteArray) : Seen s 0 (List.replicate 256 false) := by
  refine ⟨List.length_replicate, fun b hb => ?_, fun a b h0 h1 => absurd h1 (by omega)⟩
  rw [List.getD_eq_getElem?_getD, List.getElem?_replicate, if_pos hb]
  simp
theorem Seen.step {s : ByteArray} {i : Nat} {L : List Bool} {b : Nat} (h : Seen s i L) (hb : bt s (i : Int) = (b : Int)) (hb2 : b < 256) (hn : L.getD b false = false) : Seen s (i + 1) (L.set b true) := by
  refine ⟨by rw [List.length_set]; exact h.len, fun c hc => ?_, fun a d h0 h1 => ?_⟩
  · rw [List.getD_eq_getElem?_getD, List.getElem?_set]
    by_cases e : b = c
    · subst e
      rw [if_pos rfl, if_pos (by rw [h.len]; exact hb2)]
      simp only [Option.getD_some, true_iff]
      exact ⟨i, by omega, hb⟩
    · rw [if_neg e, ← List.getD_eq_getElem?_getD, h.is c hc]
      constructor
      · rintro ⟨j, hj, e2⟩; exact ⟨j, by omega, e2⟩
      · rintro ⟨j, hj, e2⟩
        rcases Nat.lt_or_ge j i with hlt | hge
        · exact ⟨j, hlt, e2⟩
        · obtain rfl : j = i := by omega
          rw [hb] at e2
          omega
  · rcases Nat.lt_or_ge a i with hlt | hge
    · exact h.one a d h0 hlt
    · obtain rfl : a = i := by omega
      intro e
      have := (h.is b hb2).2 ⟨d, h0, by rw [← e]; exact hb⟩
      rw [hn] at this
      cases this

set_option maxRecDepth 100000 in
set_option maxHeartbeats 2000000 in
theorem plain_walk (s : ByteArray) (hs : s.size ≤ 140737488351232) (w : World) : Calls Try.prog 10 #[.string s] w fun e w' => e = .returned (.bool true) ∧ Below w.heap.size w w' := by
  obtain ⟨i0, hi, hz0, hz1, hz2⟩ := info_parts info54
  go_enter Try.func10, Try.ntmps10
  go_upto_region 3 with ((with_reducible refine gate_dst (N := 4) rfl ?_); refine box_event ?hg (N := 4) ?hd (cs := (List.map Value.bool (List.replicate 256 false)).toArray) (t := 54) ?hr ?_; (case hd => rfl); (case hg => rfl); (case hr => first | (go_simp; done) | (go_simp; rfl)); intro g hg w1 hx hb; have H0 : Aside0 (PSt w g (List.replicate 256 false) w1) := ⟨⟨hx, Nat.le_of_eq hg.symm, hb⟩⟩; clear hx hb hg)
  go_wp2
  go_loopw [3, 5] (fun v3 v5 w' => ∃ (x : Int) (i : Nat) (L : List Bool) (n : Int), v3 = .int .i64 n ∧ v5 = .int .i64 x ∧ Aside0 (x = (i : Int)) ∧ Aside0 (i ≤ s.size ∧ i ≤ 300) ∧ Aside0 (n = 10 + (wides s i : Int)) ∧ Aside0 (Seen s i L) ∧ Aside0 (PSt w g L w')) (fun _ v5 _ => 300 - (intOf v5).toNat)
  case atStart => exact ⟨0, 0, _, _, rfl, rfl, ⟨rfl⟩, ⟨by omega⟩, ⟨rfl⟩, ⟨Seen.zero s⟩, H0⟩
  case round =>
    clear H0
    obtain ⟨x, i, L, n, rfl, rfl, hxi, HI, HN, HS, HP⟩ := hrel
    have hw3 := wides_le s i
    by_cases hlt : i < s.size ∧ i < 300
    · have hx0 : 0 ≤ x := by rw [hxi.out]; exact Int.natCast_nonneg _
      have hx1 : x < (s.size : Int) := by rw [hxi.out]; exact Int.ofNat_lt.mpr hlt.1
      have hx2 : x < 300 := by rw [hxi.out]; omega
      have hdec : decide (x < (s.size : Int)) = true := decide_eq_true hx1
      have hdec2 : decide (x < 300) = true := decide_eq_true hx2
      have hxb := bt_at s x
      have p0 := eq_true hx0
      have q0 := eq_true hx1
      obtain ⟨b, hb, hb2⟩ : ∃ b : Nat, bt s x = (b : Int) ∧ b < 256 := ⟨(bt s x).toNat, by have := bt_range s x; omega, by have := bt_range s x; omega⟩
      rw [hb] at hxb
      have HB := Aside0.mk hb
      clear hb
      have hblt : (b : Int) < 256 := by omega
      have hcell : wr.cell? ⟨g, b, none⟩ = some (.bool (L.getD b false)) := (blk_cell HP.out.blk b).trans (by simp [List.getD_eq_getElem?_getD, HS.out.len, hb2])
      have hfr := blk_frozen HP.out.blk b
      cases hbl : L.getD b false with
      | true =>
        rw [hbl] at hcell
        go_wp2_with (go_at_call 36; (with_reducible refine (awake_calls _).mono ?_); rintro e w' ⟨rfl, hd⟩; have HD := Aside0.mk (below_step HP.out.bl hd); clear hd)
        go_ret
        exact ⟨rfl, HD.out⟩
      | false =>
        rw [hbl] at hcell
        have HBL := Aside0.mk hbl
        clear hbl
        have HS2 : Aside0 (Seen s (i + 1) (L.set b true)) := ⟨HS.out.step (by rw [← hxi.out]; exact HB.out) hb2 HBL.out⟩
        have HP2 : Aside0 (PSt w g (L.set b true) (wr.setCell ⟨g, b, none⟩ (.bool true))) := ⟨⟨by rw [List.map_set, ← List.setIfInBounds_toArray]; exact blk_put HP.out.blk b _ rfl, HP.out.hg, below_set HP.out.bl HP.out.hg⟩⟩
        have hwd : wide s i = if (b : Int) < 144 then 8 else 9 := by unfold wide; rw [← hxi.out, HB.out]
        by_cases c : (b : Int) < 144
        · have hc : decide ((b : Int) < 144) = true := decide_eq_true c
          rw [if_pos c] at hwd
          have HN2 : Aside0 (wrap64 (n + 8) = 10 + (wides s (i + 1) : Int)) := ⟨by rw [HN.out]; simp only [wides]; rw [hwd]; unfold wrap64; omega⟩
          have HX2 : Aside0 (x + 1 = ((i + 1 : Nat) : Int)) := ⟨by rw [hxi.out]; omega⟩
          clear hwd
          go_wp2
          go_roundw
          case rel => exact ⟨_, i + 1, L.set b true, _, rfl, rfl, HX2, ⟨by omega⟩, HN2, HS2, HP2⟩
          case measure => simp only [intOf]; rw [HX2.out, hxi.out]; omega
        · have hc : decide ((b : Int) < 144) = false := decide_eq_false c
          rw [if_neg c] at hwd
          have HN2 : Aside0 (wrap64 (n + 9) = 10 + (wides s (i + 1) : Int)) := ⟨by rw [HN.out]; simp only [wides]; rw [hwd]; unfold wrap64; omega⟩
          have HX2 : Aside0 (x + 1 = ((i + 1 : Nat) : Int)) := ⟨by rw [hxi.out]; omega⟩
          clear hwd
          go_wp2
          go_roundw
          case rel => exact ⟨_, i + 1, L.set b true, _, rfl, rfl, HX2, ⟨by omega⟩, HN2, HS2, HP2⟩
          case measure => simp only [intOf]; rw [HX2.out, hxi.out]; omega
    · have hout : (decide (x < (s.size : Int)) = false ∨ decide (x < (s.size : Int)) = true ∧ decide (x < 300) = false) := by
        rw [hxi.out]
        by_cases c : i < s.size
        · exact .inr ⟨decide_eq_true (by omega), decide_eq_false (by omega)⟩
        · exact .inl (decide_eq_false (by omega))
      by_cases hbig : (s.size : Int) > 256
      · have hbigd : decide ((s.size : Int) > 256) = true := decide_eq_true hbig
        rcases hout with hd1 | ⟨hd1, hd2⟩
        · go_wp2_with (go_at_call 36; (with_reducible refine (awake_calls _).mono ?_); rintro e w' ⟨rfl, hd⟩; have HD := Aside0.mk (below_step HP.out.bl hd); clear hd)
          go_ret
          exact ⟨rfl, HD.out⟩
        · go_wp2_with (go_at_call 36; (with_reducible refine (awake_calls _).mono ?_); rintro e w' ⟨rfl, hd⟩; have HD := Aside0.mk (below_step HP.out.bl hd); clear hd)
          go_ret
          exact ⟨rfl, HD.out⟩
      · have hbigd : decide ((s.size : Int) > 256) = false := decide_eq_false hbig
        obtain rfl : i = s.size := by have := HI.out; omega
        have hd1 : decide (x < (s.size : Int)) = false := decide_eq_false (by rw [hxi.out]; omega)
        clear hout
        have HU : Aside0 (Unlike s) := ⟨fun a d h0 h1 => HS.out.one a d h0 h1⟩
        obtain ⟨R, hR⟩ : ∃ R, R = strOfNums (pk (RB s)) := ⟨_, rfl⟩
        have HF : Aside0 (Wr1.deflate_Raw.f s = some (R, 0)) := ⟨by unfold Wr1.deflate_Raw.f; rw [if_pos (by omega), hR]⟩
        have hRs : ((R.size : Int) == wrap64 (Int.tdiv (wrap64 (n + 7)) 8)) = true := by
          have e1 : R.size = (wides s s.size + 17) / 8 := by
            rw [hR]
            have : (strOfNums (pk (RB s))).size = (pk (RB s)).length := by simp [strOfNums, ByteArray.size]
            rw [this, pk_len, unlike_raw HU.out]
          have e2 : wrap64 (n + 7) = ((wides s s.size + 17 : Nat) : Int) := by rw [HN.out]; unfold wrap64; omega
          rw [e1, e2, Int.tdiv_eq_ediv_of_nonneg (by omega), w64 (by omega) (by omega)]
          simp
        clear hR
        go_wp2_with (first
          | (go_at_call 39; (with_reducible refine (Wr1.deflate_Raw.calls s R 0 _ HF.out).mono ?_); rintro e w' ⟨rfl, hd⟩; have HD := Aside0.mk (below_step HP.out.bl hd); clear hd)
          | (go_at_call 36; (with_reducible refine (awake_calls _).mono ?_); rintro e w2 ⟨rfl, hd⟩; have HD2 := Aside0.mk (below_step HD.out hd); clear hd))
        go_ret
        exact ⟨rfl, HD2.out⟩
end Go.Proofs.Ytpbhkdamkbopkaa.Wr
