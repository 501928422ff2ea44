/- The walk of inflate's reader.codes: a block's symbols. -/
import Derived.Test.YtpbhkdamkbopkaaExtI8
import Derived.Test.YtpbhkdamkbopkaaExtI4
namespace Go.Proofs.Ytpbhkdamkbopkaa.Inf
set_option linter.unusedSimpArgs false
set_option linter.unusedVariables false
open Go.RowKit Go.Proofs.Ytpbhkdamkbopkaa.Ext Go.Proofs.Ytpbhkdamkbopkaa.RefP Go.Proofs.YtpbhkdamkbopkaaW.PrintWords Go.Proofs.YtpbhkdamkbopkaaW.PrintLast Go.Proofs.YtpbhkdamkbopkaaW.PrintMore

theorem left_pos (s : ByteArray) (x : St) : 1 ≤ left s x := by unfold left; omega
theorem codes_stop (s : ByteArray) (mx : Int) (la lb : List Int) (k : Nat) (x : St) (h : x.e ≠ 0) : codes s mx la lb k x = x := by
  cases k with
  | zero => rfl
  | succ k => unfold codes; rw [if_neg h]
/-- What a symbol's step leaves. -/
theorem run_step {w0 : World} {s : ByteArray} {mx : Int} {la lb : List Int} {y : St} {k : Nat} (hk : left s y ≤ k) (he : y.e = 0) : ∃ k1, k = k1 + 1 ∧ codes s mx la lb k y = if (one s mx la lb y).1 = true then (one s mx la lb y).2 else codes s mx la lb k1 (one s mx la lb y).2 := by
  have := left_pos s y
  obtain ⟨k1, rfl⟩ : ∃ k1, k = k1 + 1 := ⟨k - 1, by omega⟩
  refine ⟨k1, rfl, ?_⟩
  show (if y.e = 0 then _ else _) = _
  rw [if_pos he]

theorem post_end {s : ByteArray} {mx : Int} {la lb : List Int} {k k1 : Nat} {y z R : St} (hE : codes s mx la lb k y = R) (hc : codes s mx la lb k y = if (one s mx la lb y).1 = true then (one s mx la lb y).2 else codes s mx la lb k1 (one s mx la lb y).2) (h1 : one s mx la lb y = (true, z)) : R = z := by
  rw [← hE, hc, h1]; rfl
theorem post_go {s : ByteArray} {mx : Int} {la lb : List Int} {k k1 : Nat} {y z R : St} (hE : codes s mx la lb k y = R) (hc : codes s mx la lb k y = if (one s mx la lb y).1 = true then (one s mx la lb y).2 else codes s mx la lb k1 (one s mx la lb y).2) (h1 : one s mx la lb y = (false, z)) : codes s mx la lb k1 z = R := by
  rw [← hE, hc, h1]; rfl
theorem len_rng : ∀ q : Nat, q < 29 → 3 ≤ lenB.getD q 0 ∧ lenB.getD q 0 ≤ 258 ∧ 0 ≤ lenM.getD q 0 ∧ lenM.getD q 0 ≤ 5 := by decide +kernel
theorem dis_rng : ∀ q : Nat, q < 30 → 1 ≤ disB.getD q 0 ∧ disB.getD q 0 ≤ 24577 ∧ 0 ≤ disM.getD q 0 ∧ disM.getD q 0 ≤ 13 := by decide +kernel
theorem again_len (o : List Int) (d n : Nat) : (again o d n).length = o.length + n := by
  induction n with
  | zero => rfl
  | succ n ih => unfold again; rw [List.length_append, ih]; rfl
theorem left_less {s : ByteArray} {y z : St} {k k1 : Nat} (hk : left s y ≤ k) (hk1 : k = k1 + 1) (h1 : y.p + 1 ≤ z.p) (h2 : y.p ≤ 8 * s.size) : left s z ≤ k1 := by
  unfold left at *
  omega
theorem meas_less {w0 w w' : World} {g : Nat} {v v' : Value} {s : ByteArray} {mx : Int} {y z : St} (h : ISt w0 g v s mx y w) (h' : ISt w0 g v' s mx z w') (h1 : y.p + 1 ≤ z.p) (h2 : y.p ≤ 8 * s.size) : imeas s g w' < imeas s g w := by
  rw [h.meas, h'.meas]
  split <;> split <;> omega

set_option maxRecDepth 100000 in
set_option maxHeartbeats 8000000 in
theorem codes_calls (w0 : World) (g : Nat) (v : Value) (s : ByteArray) (mx : Int) (x : St) (la lb : List Int) (tva tvb : Value) (w : World) (hs : s.size ≤ 17592186044416) (hmx : 0 ≤ mx ∧ mx ≤ 262144) (ho : (x.o.length : Int) ≤ mx) (hx : Ok s x) (he : x.e = 0 → errOf la = 0 ∧ errOf lb = 0) (h : ISt w0 g v s mx x w) (hta : Tv w g v tva la (x.e = 0)) (htb : Tv w g v tvb lb (x.e = 0)) :
    Calls Try.prog 97 #[.pointer (some ⟨g, 0, none⟩), tva, tvb] w (Post w0 g v s mx w (.tuple #[]) (codes s mx la lb (left s x) x)) := by
  obtain ⟨ca, sa, A, c, rfl, hca, hfa, hqa⟩ := hta
  obtain ⟨cb, sb, B, d, rfl, hcb, hfb, hqb⟩ := htb
  have HH := Aside0.mk h
  have HFA := Aside0.mk hfa
  have HFB := Aside0.mk hfb
  clear h hfa hfb
  have hu26 := Aside0.mk Try.underlying26
  have HSB : Aside0 (s.size ≤ 140737488351232) := ⟨by omega⟩
  obtain ⟨W1, hW1⟩ : ∃ W1, W1 = w.alloc (.cells (tab ca (.slice A sa.length c)) 26) := ⟨_, rfl⟩
  obtain ⟨W2, hW2⟩ : ∃ W2, W2 = W1.alloc (.cells (tab cb (.slice B sb.length d)) 26) := ⟨_, rfl⟩
  obtain ⟨b4, hb4⟩ : ∃ b4, b4 = w.heap.size := ⟨_, rfl⟩
  obtain ⟨b5, hb5⟩ : ∃ b5, b5 = W1.heap.size := ⟨_, rfl⟩
  have hs1 : W1.heap.size = w.heap.size + 1 := by rw [hW1]; show (w.heap.push _).size = _; simp
  have hF1 : Fro w g v W1 v := by rw [hW1]; exact (Fro.refl _ _ _).below (below_alloc (Below.refl _ _) _)
  have hF2 : Fro w g v W2 v := by rw [hW2]; exact hF1.below (below_alloc (Below.refl _ _) _)
  have hI1 : ISt w0 g v s mx x W1 := by rw [hW1]; exact HH.out.below (below_alloc (Below.refl _ _) _)
  have hI2 : ISt w0 g v s mx x W2 := by rw [hW2]; exact hI1.below (below_alloc (Below.refl _ _) _)
  have hA2 : Tbl W2 g v b4 ca sa A c := ⟨by rw [hW2, heap_alloc_old _ _ (by omega), hb4, hW1]; exact heap_alloc_new _ _, fun e => by have := HH.out.glt; omega, fun e => by have := (HH.out.own _ e).2; omega, HFA.out.fro hF2⟩
  have hB2 : Tbl W2 g v b5 cb sb B d := ⟨by rw [hW2, hb5]; exact heap_alloc_new _ _, fun e => by have := HH.out.glt; omega, fun e => by have := (HH.out.own _ e).2; omega, HFB.out.fro hF2⟩
  have HF2 := Aside0.mk hF2
  have HI2 := Aside0.mk hI2
  have HA2 := Aside0.mk hA2
  have HB2 := Aside0.mk hB2
  have HOX := Aside0.mk hx
  have HEX := Aside0.mk he
  have HQA := Aside0.mk hqa
  have HQB := Aside0.mk hqb
  have HCA := Aside0.mk hca
  have HCB := Aside0.mk hcb
  clear hF1 hF2 hI1 hI2 hA2 hB2 hx he hqa hqb hca hcb
  go_enter Try.func97, Try.ntmps97
  go_upto_region 1 with fail
  rw [← hW1, ← hW2, ← hb4, show b4 + 1 = b5 by omega]
  have HW := Aside0.mk (And.intro hW1 (And.intro hW2 (And.intro hb4 (And.intro hb5 hs1))))
  clear hW1 hW2 hb4 hb5 hs1
  go_upto_region 2 with (go_at_call 110; (refine (inflate_bases.calls lenB lenM disB disM _ rfl).mono ?_); rintro e w3 ⟨u6, u7, u8, u9, rfl, hr6, hr7, hr8, hr9, hb3⟩; have HR6 := Aside0.mk hr6; have HR7 := Aside0.mk hr7; have HR8 := Aside0.mk hr8; have HR9 := Aside0.mk hr9; have HB3 := Aside0.mk hb3; clear hr6 hr7 hr8 hr9 hb3)
  obtain ⟨A6, c6, rfl⟩ := Kd.R_slice HR6.out
  obtain ⟨A7, c7, rfl⟩ := Kd.R_slice HR7.out
  obtain ⟨A8, c8, rfl⟩ := Kd.R_slice HR8.out
  obtain ⟨A9, c9, rfl⟩ := Kd.R_slice HR9.out
  have hlt2 : ∀ k, W2.heap.size ≤ k → k ≠ g ∧ some k ≠ v.ownBlock := fun k hk => ⟨fun e => by have := HI2.out.glt; omega, fun e => by have := (HI2.out.own _ e.symm).2; omega⟩
  have F6 : Foot w3 g v A6 lenB := foot_of (Kd.R_mono HR6.out (fun _ _ => trivial)) (Nat.le_refl _) (fun k hk _ => ⟨rfl, hlt2 k hk⟩)
  have F7 : Foot w3 g v A7 lenM := foot_of (Kd.R_mono HR7.out (fun _ _ => trivial)) (Nat.le_refl _) (fun k hk _ => ⟨rfl, hlt2 k hk⟩)
  have F8 : Foot w3 g v A8 disB := foot_of (Kd.R_mono HR8.out (fun _ _ => trivial)) (Nat.le_refl _) (fun k hk _ => ⟨rfl, hlt2 k hk⟩)
  have F9 : Foot w3 g v A9 disM := foot_of (Kd.R_mono HR9.out (fun _ _ => trivial)) (Nat.le_refl _) (fun k hk _ => ⟨rfl, hlt2 k hk⟩)
  have hFr : Fro W2 g v w3 v := (Fro.refl _ _ _).below HB3.out
  have HC : Aside0 (CSt w0 g v s mx x b4 b5 ca sa cb sb A B c d A6 A7 A8 A9 w3) := ⟨⟨HI2.out.below HB3.out, HA2.out.fro hFr, HB2.out.fro hFr, F6, F7, F8, F9⟩⟩
  have HF3 : Aside0 (Fro w g v w3 v) := ⟨HF2.out.below HB3.out⟩
  have L6 : Aside0 (lenB.length = 29 ∧ lenM.length = 29 ∧ disB.length = 30 ∧ disM.length = 30) := ⟨by decide⟩
  rw [L6.out.1, L6.out.2.1, L6.out.2.2.1, L6.out.2.2.2]
  clear HR6 HR7 HR8 HR9 hlt2 F6 F7 F8 F9 hFr HF2 HI2 HA2 HB2 HB3 HW
  obtain ⟨K, hK⟩ : ∃ K, K = left s x := ⟨_, rfl⟩
  rw [← hK]
  have HKK := Aside0.mk hK
  clear hK
  go_wp2
  go_loopw [10] (fun v10 w' => ∃ (k : Nat) (y : St) (v1 : Value), Aside0 (left s y ≤ k) ∧ Aside0 (codes s mx la lb k y = codes s mx la lb K x) ∧ Aside0 (Ok s y) ∧ Aside0 ((y.o.length : Int) ≤ mx) ∧ Aside0 (y.e = 0 → x.e = 0) ∧ Aside0 (CSt w0 g v1 s mx y b4 b5 ca sa cb sb A B c d A6 A7 A8 A9 w') ∧ Aside0 (Fro w g v w' v1)) (fun v10 w' => imeas s g w')
  case atStart => exact ⟨K, x, v, ⟨Nat.le_of_eq HKK.out.symm⟩, ⟨rfl⟩, HOX, ⟨ho⟩, ⟨fun h => h⟩, HC, HF3⟩
  case round =>
    clear HC HF3 HKK HOX
    obtain ⟨k, y, v1, HK, HE, HO, HL, HXE, HC, HF⟩ := hrel
    have hc4 := HC.out.i.c4
    by_cases c0 : y.e = 0
    · have d0 : (y.e == 0) = true := by rw [c0]; rfl
      obtain ⟨k1, hk1, hcs⟩ := run_step (w0 := w0) (mx := mx) (la := la) (lb := lb) HK.out c0
      have HCS := Aside0.mk hcs
      obtain ⟨n, y1, ha⟩ : ∃ n y1, next la s y = (n, y1) := ⟨_, _, rfl⟩
      have hee := HEX.out (HXE.out c0)
      obtain ⟨hok1, hn0, -, ho1, hgo1, -⟩ := next_get HSB.out HO.out (fun _ => hee.1) ha
      have HN := Aside0.mk ha
      have HOK1 := Aside0.mk hok1
      have HO1 := Aside0.mk ho1
      have HG1 := Aside0.mk hgo1
      have HEE := Aside0.mk hee
      have HTA : Aside0 (Tv wr g v1 (.agg (tab ca (.slice A sa.length c))) la (y.e = 0)) := ⟨⟨ca, sa, A, c, rfl, HCA.out, HC.out.ta.foot, fun h => HQA.out (HXE.out h)⟩⟩
      have HP1 : Aside0 (y.p ≤ 4611686018427387904) := ⟨by have := HO.out.p1; omega⟩
      have HLR : Aside0 ((tab ca (.slice A sa.length c)).size = 17) := ⟨by rw [tab_size, HCA.out]⟩
      have HM0 := Aside0.mk HC.out.i
      clear ha hok1 ho1 hgo1 hee hcs
      go_upto_region 4 with (first
        | ((with_reducible refine gate_load (t := 26) rfl ?_); refine wpList_load_row rfl 26 _ rfl b4 rfl 26 _ (0, 0) _ HC.out.ta.blk hu26.out rfl (by rw [HLR.out]; exact info26) ?_)
        | (go_at_call 111; (with_reducible refine (Inf.next_calls w0 g v1 s mx y _ la _ HSB.out HO.out.p0 HP1.out HC.out.i HTA.out (fun _ => HEE.out.1)).mono ?_); rw [HN.out]; rintro e w4 ⟨v4, rfl, hi, hf⟩; have HC4 := Aside0.mk (HC.out.fro hf hi); have HF4 := Aside0.mk (HF.out.trans hf); clear hi hf HC HF hc4))
      have HMS := Aside0.mk (fun (z : St) (v' : Value) (w' : World) (hz : ISt w0 g v' s mx z w') (h1 : y.p + 1 ≤ z.p) => (meas_less HM0.out hz h1 HO.out.p1 : imeas s g w' < imeas s g wr))
      have HLL := Aside0.mk (fun (z : St) (h1 : y.p + 1 ≤ z.p) => (left_less HK.out hk1 h1 HO.out.p1 : left s z ≤ k1))
      clear HM0
      have hc4 := HC4.out.i.c4
      by_cases c1 : y1.e = 0
      · have d1 : (y1.e != 0) = false := by rw [c1]; rfl
        have hgo := (HG1.out c1).2.1
        have HGO := Aside0.mk hgo
        clear hgo
        by_cases c2 : n = 256
        · have d2 : (n == 256) = true := by rw [c2]; rfl
          have h1 : one s mx la lb y = (true, y1) := by unfold one; rw [HN.out]; simp only; rw [if_pos (.inr c2)]
          have hR := post_end HE.out HCS.out h1
          have HR := Aside0.mk hR
          clear h1 hR
          go_wp2
          exact bodyPost_ret (v := .tuple #[]) (by simp [results, Try.results97, go_sem]) rfl ⟨v4, rfl, by rw [HR.out]; exact HC4.out.i, HF4.out⟩
        · have d2 : (n == 256) = false := beq_eq_false_iff_ne.2 c2
          have hor : ¬ (y1.e ≠ 0 ∨ n = 256) := fun h => h.elim (fun h => h c1) c2
          by_cases c3 : n < 256
          · have d3 : decide (n < 256) = true := decide_eq_true c3
            have HONE : Aside0 (one s mx la lb y = if (y1.o.length : Int) = mx then (true, fail y1 7) else (false, ⟨y1.p, y1.o ++ [n], y1.e⟩)) := ⟨by unfold one; rw [HN.out]; simp only; rw [if_neg hor, if_pos c3, Int.emod_eq_of_lt hn0 c3]⟩
            clear hor
            obtain ⟨AV, cV, rfl⟩ := Kd.R_slice HC4.out.i.row
            have hc2 := HC4.out.i.c2
            have hc3 := HC4.out.i.c3
            go_upto_region 6 with fail
            go_quiet (fail)
            generalize hw5 : World.drewN _ _ = w5
            have HC5 : Aside0 (CSt w0 g (.slice AV y1.o.length cV) s mx y1 b4 b5 ca sa cb sb A B c d A6 A7 A8 A9 w5) := ⟨by rw [← hw5]; exact HC4.out.below (pw_below_drewN (Below.refl _ _) _)⟩
            have HF5 : Aside0 (Fro w g v w5 (.slice AV y1.o.length cV)) := ⟨by rw [← hw5]; exact HF4.out.below (pw_below_drewN (Below.refl _ _) _)⟩
            clear hw5 hc2 hc3 hc4 HC4 HF4
            by_cases cm : (y1.o.length : Int) = mx
            · have dm : ((y1.o.length : Int) == mx) = true := by rw [cm]; exact beq_self_eq_true mx
              have hR := post_end HE.out HCS.out (by rw [HONE.out, if_pos cm])
              have HR := Aside0.mk hR
              clear hR
              go_wp2_with (go_at_call 100; (with_reducible refine (fail_calls w0 g _ s mx y1 7 _ HC5.out.i).mono ?_); rintro e w6 ⟨v6, rfl, hi, hf⟩; have HI6 := Aside0.mk hi; have HF6 := Aside0.mk (HF5.out.trans hf); clear hi hf)
              exact bodyPost_ret (v := .tuple #[]) (by simp [results, Try.results97, go_sem]) rfl ⟨v6, rfl, by rw [HR.out]; exact HI6.out, HF6.out⟩
            · have dm : ((y1.o.length : Int) == mx) = false := beq_eq_false_iff_ne.2 cm
              have hG := post_go HE.out HCS.out (by rw [HONE.out, if_neg cm])
              have HG := Aside0.mk hG
              have hlen : (y1.o.length : Int) ≤ mx := by rw [HO1.out]; exact HL.out
              have HSZ : Aside0 ((y1.o.length + 1) * 1 ≤ 140737488355328) := ⟨by omega⟩
              have HLEN : Aside0 ((((y1.o ++ [n]).length : Nat) : Int) ≤ mx) := ⟨by rw [List.length_append, List.length_singleton]; omega⟩
              have HGT : Aside0 (∀ q, w5.heap.size ≤ q → q ≠ g) := ⟨fun q hq e => by have := HC5.out.i.glt; omega⟩
              have HC5c := Aside0.mk HC5.out.i.c2
              clear hG hlen
              have hc2 := HC5.out.i.c2
              go_wp2_with ((with_reducible refine gate_builtin (b := .append) (xs := #[.tmp 56, .tmp 59]) rfl ?_); at_builtin; refine Kd.R_append (Kd.int .u8) (w0 := w0) w0.heap.size rfl (.tmp 56) (.tmp 59) 40 5 (.int .u8 0) 1 rfl Try.underlying40 info5w rfl (by decide) (by decide) (.slice AV y1.o.length cV) y1.o n [.int .u8 n] (fun k => k ≠ g) (fun _ => False) rfl rfl rfl (fun _ hk => hk.elim) HGT.out HC5.out.i.row HC5.out.i.bl HC5.out.i.bl.size HSZ.out ?_; intro v7 w7 hr7 hb7 hg7 hn7; obtain ⟨o7, ho7⟩ : ∃ o7, o7 = y1.o ++ [n] := ⟨_, rfl⟩; rw [← ho7] at hr7; have HO7 := Aside0.mk ho7; clear ho7; obtain ⟨AZ, cZ, rfl⟩ := Kd.R_slice hr7; have HI7 := Aside0.mk (HC5.out.i.seto hr7 hb7 hg7); have HF7 := Aside0.mk (Fro.seto (Fro.refl w5 g (.slice AV y1.o.length cV)) hg7 hn7); have hc7 : w7.cell? ⟨g, 2, none⟩ = some (.slice AV y1.o.length cV) := (blk_cell (blk_grown HC5.out.i.blk hg7 (Kd.R_ne HC5.out.i.row HC5.out.i.blk (by decide))) 2).trans rfl; have hf7 := blk_frozen (blk_grown HC5.out.i.blk hg7 (Kd.R_ne HC5.out.i.row HC5.out.i.blk (by decide))) 2; clear hr7 hb7 hg7 hn7 hc2)
              go_roundw
              case rel =>
                have HC8 := HC5.out.fro HF7.out HI7.out
                exact ⟨k1, ⟨y1.p, o7, y1.e⟩, _, ⟨HLL.out _ HGO.out⟩, ⟨by rw [HO7.out]; exact HG.out⟩, ⟨⟨HOK1.out.p0, HOK1.out.p1, HOK1.out.e⟩⟩, ⟨by rw [HO7.out]; exact HLEN.out⟩, ⟨fun _ => HXE.out c0⟩, ⟨HC8⟩, ⟨HF5.out.trans HF7.out⟩⟩
              case measure => exact HMS.out _ _ _ HI7.out HGO.out
          · have d3 : decide (n < 256) = false := decide_eq_false c3
            by_cases c4 : n ≥ 286
            · have d4 : decide (n ≥ 286) = true := decide_eq_true c4
              have h1 : one s mx la lb y = (true, fail y1 3) := by unfold one; rw [HN.out]; simp only; rw [if_neg hor, if_neg c3, if_pos c4]
              have hR := post_end HE.out HCS.out h1
              have HR := Aside0.mk hR
              clear h1 hR hor
              go_wp2_with (go_at_call 100; (with_reducible refine (fail_calls w0 g _ s mx y1 3 _ HC4.out.i).mono ?_); rintro e w6 ⟨v6, rfl, hi, hf⟩; have HI6 := Aside0.mk hi; have HF6 := Aside0.mk (HF4.out.trans hf); clear hi hf)
              exact bodyPost_ret (v := .tuple #[]) (by simp [results, Try.results97, go_sem]) rfl ⟨v6, rfl, by rw [HR.out]; exact HI6.out, HF6.out⟩
            · have d4 : decide (n ≥ 286) = false := decide_eq_false c4
              have HONE : Aside0 (one s mx la lb y = (false, far s mx lb y1 n)) := ⟨by unfold one; rw [HN.out]; simp only; rw [if_neg hor, if_neg c3, if_neg c4]⟩
              clear hor
              obtain ⟨q, hq⟩ : ∃ q : Nat, n = (q : Int) + 257 := ⟨(n - 257).toNat, by omega⟩
              have hq29 : q < 29 := by omega
              have hqn : (n - 257).toNat = q := by omega
              obtain ⟨lr0, lr1, lr2, lr3⟩ := len_rng q hq29
              obtain ⟨ad6, e6, H6⟩ := foot_at HC4.out.r6 q hq29
              obtain ⟨ad7, e7, H7⟩ := foot_at HC4.out.r7 q hq29
              obtain ⟨lb0, hlb⟩ : ∃ lb0, lb0 = lenB.getD q 0 := ⟨_, rfl⟩
              obtain ⟨lm, hlm⟩ : ∃ lm : Nat, lenM.getD q 0 = (lm : Int) := ⟨(lenM.getD q 0).toNat, by omega⟩
              rw [← hlb] at lr0 lr1 H6
              rw [hlm] at lr2 lr3 H7
              obtain ⟨m, x2, hm⟩ : ∃ m x2, bits s (lm : Int) y1 = (m, x2) := ⟨_, _, rfl⟩
              obtain ⟨hok2, hm0, hm1, ho2, hgo2, -⟩ := bits_get (n := lm) rfl HOK1.out (by omega) hm
              have hm2 : m < 32 := by
                have : (2 : Int) ^ lm ≤ 32 := by
                  have h5 : 2 ^ lm ≤ 2 ^ 5 := Nat.pow_le_pow_right (by decide) (by omega)
                  have e : ((2 ^ lm : Nat) : Int) = (2 : Int) ^ lm := by rw [Int.natCast_pow]; rfl
                  omega
                omega
              obtain ⟨nn, hnn⟩ : ∃ nn : Nat, lb0 + m = (nn : Int) := ⟨(lb0 + m).toNat, by omega⟩
              have hnn1 : nn ≤ 300 := by omega
              obtain ⟨dd, x3, hd⟩ : ∃ dd x3, next lb s x2 = (dd, x3) := ⟨_, _, rfl⟩
              obtain ⟨hok3, hdd0, -, ho3, hgo3, -⟩ := next_get HSB.out hok2 (fun _ => HEE.out.2) hd
              have HFAR : Aside0 (far s mx lb y1 n = (if (if x3.e = 0 ∧ dd ≥ 30 then fail x3 3 else x3).e = 0 then (if (bits s (disM.getD dd.toNat 0) (if x3.e = 0 ∧ dd ≥ 30 then fail x3 3 else x3)).2.e = 0 then copy mx (bits s (disM.getD dd.toNat 0) (if x3.e = 0 ∧ dd ≥ 30 then fail x3 3 else x3)).2 (nn : Int) (disB.getD dd.toNat 0 + (bits s (disM.getD dd.toNat 0) (if x3.e = 0 ∧ dd ≥ 30 then fail x3 3 else x3)).1) else (bits s (disM.getD dd.toNat 0) (if x3.e = 0 ∧ dd ≥ 30 then fail x3 3 else x3)).2) else (if x3.e = 0 ∧ dd ≥ 30 then fail x3 3 else x3))) := ⟨by unfold far; simp only; rw [hqn, hlm, hm]; simp only; rw [hd, ← hlb, hnn]⟩
              have HRUN := Aside0.mk (post_go HE.out HCS.out HONE.out)
              have HM := Aside0.mk hm
              have HDD := Aside0.mk hd
              have HOK2 := Aside0.mk hok2
              have HOK3 := Aside0.mk hok3
              have HO2 := Aside0.mk ho2
              have HO3 := Aside0.mk ho3
              have HG2 := Aside0.mk hgo2
              have HG3 := Aside0.mk hgo3
              have HNN := Aside0.mk hnn
              have H6 := Aside0.mk H6
              have H7 := Aside0.mk H7
              have HPY : Aside0 (y1.p ≤ 9223372036854775807) := ⟨by have := HOK1.out.p1; omega⟩
              have HP2 : Aside0 (x2.p ≤ 4611686018427387904) := ⟨by have := hok2.p1; omega⟩
              have HW1 : Aside0 (wrap64 (n - 256) = (q : Int) + 1) := ⟨by rw [hq]; rw [wrap_in (by omega) (by omega)]; omega⟩
              have HW2 : Aside0 (wrap64 (q : Int) = (q : Int)) := ⟨wrap_in (by omega) (by omega)⟩
              have HW3 : Aside0 (wrap64 (lb0 + m) = (nn : Int)) := ⟨by rw [hnn]; exact wrap_in (by omega) (by omega)⟩
              subst e6
              subst e7
              clear hm hd hok2 hok3 ho2 ho3 hgo2 hgo3 hnn hlb hlm lr0 lr1 lr2 lr3 hqn hq hm0 hm1 hm2 HE HCS HONE
              go_upto_region 11 with fail
              have hqt : ((q : Int) < 29) = True := eq_true (by omega)
              have hw1 := HW1.out
              have hw2 := HW2.out
              have hw3 := HW3.out
              clear hc4 d1 d2 d3 d4
              have KD : Aside0 (KeepBut w4 w4.drew g v4.ownBlock) := ⟨KeepBut.of_below (below_drew1 (Below.refl _ _)) _ _⟩
              refine start_ (n := 16) (S := fun w' => w'.cell? (ad6.add q) = some (.int .i64 lb0) ∧ w'.cell? (ad7.add q) = some (.int .i64 (lm : Int))) (ds := []) #[false, false, false, false, false, false, false, false, false, false, false, false, false, false, false, false] (by kernel_rfl) rfl rfl ⟨H6.out _ (KeepBut.of_below (below_drew1 (Below.refl _ _)) _ _), H7.out _ (KeepBut.of_below (below_drew1 (Below.refl _ _)) _ _)⟩ (fun hHeld => ?_)
              have HC5 := Aside0.mk (HC4.out.below (below_drew1 (Below.refl _ _))); have HF5 := Aside0.mk (HF4.out.below (below_drew1 (Below.refl _ _))); generalize w4.drew = w5 at hHeld HC5 HF5 KD ⊢
              refine pure_ (i := 0) (N := some 68) (v := ?_) (a' := ?_) #[true, false, false, false, false, false, false, false, false, false, false, false, false, false, false, false] rfl rfl (by kernel_rfl) (fun _ _ _ h => h) (Or.inl ⟨by rfl, ?_⟩) ?_ ?_
              rotate_left
              · intro w'
                go_simp
                with_reducible rfl
              rotate_left
              · simp only [Act.put, List.setIfInBounds_toArray, List.set_cons_zero, List.set_cons_succ, i64_w, i32_w]
                rfl
              refine pure_ (i := 1) (N := some 69) (v := ?_) (a' := ?_) #[true, true, false, false, false, false, false, false, false, false, false, false, false, false, false, false] rfl rfl (by kernel_rfl) (fun _ _ _ h => h) (Or.inl ⟨by rfl, ?_⟩) ?_ ?_
              rotate_left
              · intro w'
                go_simp
                with_reducible rfl
              rotate_left
              · simp only [Act.put, List.setIfInBounds_toArray, List.set_cons_zero, List.set_cons_succ, i64_w, i32_w]
                rfl
              refine pure_ (i := 2) (N := some 70) (v := ?_) (a' := ?_) #[true, true, true, false, false, false, false, false, false, false, false, false, false, false, false, false] rfl rfl (by kernel_rfl) (fun _ _ _ h => h) (Or.inl ⟨by rfl, ?_⟩) ?_ ?_
              rotate_left
              · intro w'
                go_simp
                with_reducible rfl
              rotate_left
              · simp only [Act.put, List.setIfInBounds_toArray, List.set_cons_zero, List.set_cons_succ, i64_w, i32_w]
                rfl
              refine pure_ (i := 3) (N := some 71) (v := ?_) (a' := ?_) #[true, true, true, true, false, false, false, false, false, false, false, false, false, false, false, false] rfl rfl (by kernel_rfl) (fun _ _ _ h => h) (Or.inl ⟨by rfl, ?_⟩) ?_ ?_
              rotate_left
              · intro w'
                go_simp
                with_reducible rfl
              rotate_left
              · simp only [Act.put, List.setIfInBounds_toArray, List.set_cons_zero, List.set_cons_succ, i64_w, i32_w]
                rfl
              refine pure_ (i := 4) (N := some 72) (v := ?_) (a' := ?_) #[true, true, true, true, true, false, false, false, false, false, false, false, false, false, false, false] rfl rfl (by kernel_rfl) (fun _ _ _ h => h) (Or.inl ⟨by rfl, ?_⟩) ?_ ?_
              rotate_left
              · intro w'
                go_simp
                with_reducible rfl
              rotate_left
              · simp only [Act.put, List.setIfInBounds_toArray, List.set_cons_zero, List.set_cons_succ, i64_w, i32_w]
                rfl
              refine take_ (i := 5) (N := some 73) (v := ?_) (a' := ?_) #[true, true, true, true, true, true, false, false, false, false, false, false, false, false, false, false] rfl rfl (by kernel_rfl) (fun _ _ _ h => h) (Or.inl ⟨by rfl, ?_⟩) hHeld ?_ ?_
              rotate_left
              · rintro w' ⟨s0, s1⟩
                go_simp
                with_reducible rfl
              rotate_left
              · simp only [Act.put, List.setIfInBounds_toArray, List.set_cons_zero, List.set_cons_succ, i64_w, i32_w]
                rfl
              refine pure_ (i := 6) (N := some 74) (v := ?_) (a' := ?_) #[true, true, true, true, true, true, true, false, false, false, false, false, false, false, false, false] rfl rfl (by kernel_rfl) (fun _ _ _ h => h) (Or.inl ⟨by rfl, ?_⟩) ?_ ?_
              rotate_left
              · intro w'
                go_simp
                with_reducible rfl
              rotate_left
              · simp only [Act.put, List.setIfInBounds_toArray, List.set_cons_zero, List.set_cons_succ, i64_w, i32_w]
                rfl
              refine pure_ (i := 7) (N := some 75) (v := ?_) (a' := ?_) #[true, true, true, true, true, true, true, true, false, false, false, false, false, false, false, false] rfl rfl (by kernel_rfl) (fun _ _ _ h => h) (Or.inl ⟨by rfl, ?_⟩) ?_ ?_
              rotate_left
              · intro w'
                go_simp
                with_reducible rfl
              rotate_left
              · simp only [Act.put, List.setIfInBounds_toArray, List.set_cons_zero, List.set_cons_succ, i64_w, i32_w]
                rfl
              refine pure_ (i := 8) (N := some 76) (v := ?_) (a' := ?_) #[true, true, true, true, true, true, true, true, true, false, false, false, false, false, false, false] rfl rfl (by kernel_rfl) (fun _ _ _ h => h) (Or.inl ⟨by rfl, ?_⟩) ?_ ?_
              rotate_left
              · intro w'
                go_simp
                with_reducible rfl
              rotate_left
              · simp only [Act.put, List.setIfInBounds_toArray, List.set_cons_zero, List.set_cons_succ, i64_w, i32_w]
                rfl
              refine pure_ (i := 9) (N := some 77) (v := ?_) (a' := ?_) #[true, true, true, true, true, true, true, true, true, true, false, false, false, false, false, false] rfl rfl (by kernel_rfl) (fun _ _ _ h => h) (Or.inl ⟨by rfl, ?_⟩) ?_ ?_
              rotate_left
              · intro w'
                go_simp
                with_reducible rfl
              rotate_left
              · simp only [Act.put, List.setIfInBounds_toArray, List.set_cons_zero, List.set_cons_succ, i64_w, i32_w]
                rfl
              refine pure_ (i := 10) (N := some 78) (v := ?_) (a' := ?_) #[true, true, true, true, true, true, true, true, true, true, true, false, false, false, false, false] rfl rfl (by kernel_rfl) (fun _ _ _ h => h) (Or.inl ⟨by rfl, ?_⟩) ?_ ?_
              rotate_left
              · intro w'
                go_simp
                with_reducible rfl
              rotate_left
              · simp only [Act.put, List.setIfInBounds_toArray, List.set_cons_zero, List.set_cons_succ, i64_w, i32_w]
                rfl
              refine pure_ (i := 11) (N := some 79) (v := ?_) (a' := ?_) #[true, true, true, true, true, true, true, true, true, true, true, true, false, false, false, false] rfl rfl (by kernel_rfl) (fun _ _ _ h => h) (Or.inl ⟨by rfl, ?_⟩) ?_ ?_
              rotate_left
              · intro w'
                go_simp
                with_reducible rfl
              rotate_left
              · simp only [Act.put, List.setIfInBounds_toArray, List.set_cons_zero, List.set_cons_succ, i64_w, i32_w]
                rfl
              refine take_ (i := 12) (N := some 80) (v := ?_) (a' := ?_) #[true, true, true, true, true, true, true, true, true, true, true, true, true, false, false, false] rfl rfl (by kernel_rfl) (fun _ _ _ h => h) (Or.inl ⟨by rfl, ?_⟩) hHeld ?_ ?_
              rotate_left
              · rintro w' ⟨s0, s1⟩
                go_simp
                with_reducible rfl
              rotate_left
              · simp only [Act.put, List.setIfInBounds_toArray, List.set_cons_zero, List.set_cons_succ, i64_w, i32_w]
                rfl
              refine one_ (i := 13) (N := some 81) #[true, true, true, true, true, true, true, true, true, true, true, true, true, true, false, false] rfl rfl (by kernel_rfl) (by decide) (fun K hK => ?_)
              refine goes_ Try.func94 (by kernel_rfl) rfl #[.pointer (some ⟨g, 0, none⟩), .int .i64 (lm : Int)] (by rfl) rfl rfl (by (try simp only [List.map_toArray, List.map_cons, List.map_nil]); first | done | rfl) ?_
              (with_reducible refine (bits_calls w0 g v4 s mx y1 (lm : Int) _ HSB.out HPY.out HC5.out.i).mono ?_)
              rw [HM.out]
              rintro e w6 ⟨v6, rfl, hi, hf⟩
              have HC6 := Aside0.mk (HC5.out.fro hf hi)
              have HF6 := Aside0.mk (HF5.out.trans hf)
              have hS6 : w6.cell? (ad6.add q) = some (.int .i64 lb0) ∧ w6.cell? (ad7.add q) = some (.int .i64 (lm : Int)) := ⟨H6.out _ (KD.out.trans hf.keep (.inl rfl)), H7.out _ (KD.out.trans hf.keep (.inl rfl))⟩
              refine ⟨_, rfl, ?_⟩
              refine hK.out _ _ hS6 (fun hHeld => ?_)
              clear hK K hi hf
              refine norm_ (a' := ?_) ?_ ?_
              rotate_left
              · show Act.put _ (some 81) _ = _
                simp only [Act.put, List.setIfInBounds_toArray, List.set_cons_zero, List.set_cons_succ, i64_w, i32_w]
                rfl
              refine pure_ (i := 14) (N := some 82) (v := ?_) (a' := ?_) #[true, true, true, true, true, true, true, true, true, true, true, true, true, true, true, false] rfl rfl (by kernel_rfl) (fun _ _ _ h => h) (Or.inl ⟨by rfl, ?_⟩) ?_ ?_
              rotate_left
              · intro w'
                go_simp
                with_reducible rfl
              rotate_left
              · simp only [Act.put, List.setIfInBounds_toArray, List.set_cons_zero, List.set_cons_succ, i64_w, i32_w]
                rfl
              refine pure_ (i := 15) (N := some 11) (v := ?_) (a' := ?_) #[true, true, true, true, true, true, true, true, true, true, true, true, true, true, true, true] rfl rfl (by kernel_rfl) (fun _ _ _ h => h) (Or.inl ⟨by rfl, ?_⟩) ?_ ?_
              rotate_left
              · intro w'
                go_simp
                with_reducible rfl
              rotate_left
              · simp only [Act.put, List.setIfInBounds_toArray, List.set_cons_zero, List.set_cons_succ, i64_w, i32_w]
                rfl
              refine done_ (by kernel_rfl) ?_
              clear hw1 hw2 hw3 hqt HW1 HW2 HW3 hHeld KD HC5 HF5 HC4 HF4
              have HTB : Aside0 (Tv w6 g v6 (.agg (tab cb (.slice B sb.length d))) lb (x2.e = 0)) := ⟨⟨cb, sb, B, d, rfl, HCB.out, HC6.out.tb.foot, fun _ => HQB.out (HXE.out c0)⟩⟩
              have HLB : Aside0 ((tab cb (.slice B sb.length d)).size = 17) := ⟨by rw [tab_size, HCB.out]⟩
              go_upto_region 13 with (first
                | ((with_reducible refine gate_load (t := 26) rfl ?_); refine wpList_load_row rfl 26 _ rfl b5 rfl 26 _ (0, 0) _ HC6.out.tb.blk hu26.out rfl (by rw [HLB.out]; exact info26) ?_)
                | (go_at_call 111; (with_reducible refine (Inf.next_calls w0 g v6 s mx x2 _ lb _ HSB.out HOK2.out.p0 HP2.out HC6.out.i HTB.out (fun _ => HEE.out.2)).mono ?_); rw [HDD.out]; rintro e w7 ⟨v7, rfl, hi, hf⟩; have HC7 := Aside0.mk (HC6.out.fro hf hi); have HF7 := Aside0.mk (HF6.out.trans hf); clear hi hf HC6 HF6))
              have hc4 := HC7.out.i.c4
              by_cases c5 : x3.e = 0
              · have d5 : (x3.e == 0) = true := by rw [c5]; rfl
                by_cases c6 : dd ≥ 30
                · have d6 : decide (dd ≥ 30) = true := decide_eq_true c6
                  have hfe : fail x3 3 = ⟨x3.p, x3.o, 3⟩ := by unfold fail; rw [if_pos c5]
                  have hX : (if x3.e = 0 ∧ dd ≥ 30 then fail x3 3 else x3) = ⟨x3.p, x3.o, 3⟩ := by rw [if_pos ⟨c5, c6⟩, hfe]
                  have hR : codes s mx la lb K x = ⟨x3.p, x3.o, 3⟩ := by
                    have h1 := HFAR.out
                    rw [hX, if_neg (show ¬ (3 : Int) = 0 by decide)] at h1
                    rw [← HRUN.out, h1, codes_stop _ _ _ _ _ _ (show (3 : Int) ≠ 0 by decide)]
                  have HR := Aside0.mk hR
                  clear hR hX
                  go_upto_region 15 with (go_at_call 100; (with_reducible refine (fail_calls w0 g v7 s mx x3 3 _ HC7.out.i).mono ?_); rintro e w8 ⟨v8, rfl, hi, hf⟩; rw [hfe] at hi; have HI8 := Aside0.mk hi; have HF8 := Aside0.mk (HF7.out.trans hf); clear hi hf hc4; have hc4 := HI8.out.c4)
                  go_wp2
                  exact bodyPost_ret (v := .tuple #[]) (by simp [results, Try.results97, go_sem]) rfl ⟨v8, rfl, by rw [HR.out]; exact HI8.out, HF8.out⟩
                · have d6 : decide (dd ≥ 30) = false := decide_eq_false c6
                  have hX : (if x3.e = 0 ∧ dd ≥ 30 then fail x3 3 else x3) = x3 := if_neg (fun h => c6 h.2)
                  have hfar := HFAR.out
                  rw [hX, if_pos c5] at hfar
                  obtain ⟨dq, hdq⟩ : ∃ dq : Nat, dd = (dq : Int) := ⟨dd.toNat, by omega⟩
                  have hdq30 : dq < 30 := by omega
                  rw [hdq, Int.toNat_natCast] at hfar
                  obtain ⟨lr0, lr1, lr2, lr3⟩ := dis_rng dq hdq30
                  obtain ⟨ad8, e8, H8⟩ := foot_at HC7.out.r8 dq hdq30
                  obtain ⟨ad9, e9, H9⟩ := foot_at HC7.out.r9 dq hdq30
                  obtain ⟨db0, hdb⟩ : ∃ db0, db0 = disB.getD dq 0 := ⟨_, rfl⟩
                  obtain ⟨dm, hdm⟩ : ∃ dm : Nat, disM.getD dq 0 = (dm : Int) := ⟨(disM.getD dq 0).toNat, by omega⟩
                  rw [← hdb] at lr0 lr1 H8 hfar
                  rw [hdm] at lr2 lr3 H9 hfar
                  obtain ⟨m3, x4, hm3⟩ : ∃ m3 x4, bits s (dm : Int) x3 = (m3, x4) := ⟨_, _, rfl⟩
                  rw [hm3] at hfar
                  simp only at hfar
                  obtain ⟨hok4, hm30, hm31, ho4, hgo4, -⟩ := bits_get (n := dm) rfl HOK3.out (by omega) hm3
                  have hm32 : m3 < 8192 := by
                    have : (2 : Int) ^ dm ≤ 8192 := by
                      have h5 : 2 ^ dm ≤ 2 ^ 13 := Nat.pow_le_pow_right (by decide) (by omega)
                      have e : ((2 ^ dm : Nat) : Int) = (2 : Int) ^ dm := by rw [Int.natCast_pow]; rfl
                      omega
                    omega
                  obtain ⟨D, hD⟩ : ∃ D : Nat, db0 + m3 = (D : Int) := ⟨(db0 + m3).toNat, by omega⟩
                  have hD1 : 1 ≤ D := by omega
                  have hD2 : D ≤ 40000 := by omega
                  rw [hD] at hfar
                  have HFA4 := Aside0.mk hfar
                  have HM3 := Aside0.mk hm3
                  have HOK4 := Aside0.mk hok4
                  have HO4 := Aside0.mk ho4
                  have HG4 := Aside0.mk hgo4
                  have H8 := Aside0.mk H8
                  have H9 := Aside0.mk H9
                  have HP3 : Aside0 (x3.p ≤ 9223372036854775807) := ⟨by have := HOK3.out.p1; omega⟩
                  have HW2 : Aside0 (wrap64 (dq : Int) = (dq : Int)) := ⟨wrap_in (by omega) (by omega)⟩
                  have HW3 : Aside0 (wrap64 (db0 + m3) = (D : Int)) := ⟨by rw [hD]; exact wrap_in (by omega) (by omega)⟩
                  subst e8
                  subst e9
                  subst hdq
                  clear hfar hm3 hok4 ho4 hgo4 hD hdb hdm lr0 lr1 lr2 lr3 hm30 hm31 hm32 hX
                  go_upto_region 16 with fail
                  have hqt : ((dq : Int) < 30) = True := eq_true (by omega)
                  have hw2 := HW2.out
                  have hw3 := HW3.out
                  clear hc4 d5 d6
                  have KD : Aside0 (KeepBut w7 w7.drew g v7.ownBlock) := ⟨KeepBut.of_below (below_drew1 (Below.refl _ _)) _ _⟩
                  refine start_ (n := 12) (S := fun w' => w'.cell? (ad8.add dq) = some (.int .i64 db0) ∧ w'.cell? (ad9.add dq) = some (.int .i64 (dm : Int))) (ds := []) #[false, false, false, false, false, false, false, false, false, false, false, false] (by kernel_rfl) rfl rfl ⟨H8.out _ (KeepBut.of_below (below_drew1 (Below.refl _ _)) _ _), H9.out _ (KeepBut.of_below (below_drew1 (Below.refl _ _)) _ _)⟩ (fun hHeld => ?_)
                  have HC8 := Aside0.mk (HC7.out.below (below_drew1 (Below.refl _ _))); have HF8 := Aside0.mk (HF7.out.below (below_drew1 (Below.refl _ _))); generalize w7.drew = w8 at hHeld HC8 HF8 KD ⊢
                  refine pure_ (i := 0) (N := some 102) (v := ?_) (a' := ?_) #[true, false, false, false, false, false, false, false, false, false, false, false] rfl rfl (by kernel_rfl) (fun _ _ _ h => h) (Or.inl ⟨by rfl, ?_⟩) ?_ ?_
                  rotate_left
                  · intro w'
                    go_simp
                    with_reducible rfl
                  rotate_left
                  · simp only [Act.put, List.setIfInBounds_toArray, List.set_cons_zero, List.set_cons_succ, i64_w, i32_w]
                    rfl
                  refine pure_ (i := 1) (N := some 103) (v := ?_) (a' := ?_) #[true, true, false, false, false, false, false, false, false, false, false, false] rfl rfl (by kernel_rfl) (fun _ _ _ h => h) (Or.inl ⟨by rfl, ?_⟩) ?_ ?_
                  rotate_left
                  · intro w'
                    go_simp
                    with_reducible rfl
                  rotate_left
                  · simp only [Act.put, List.setIfInBounds_toArray, List.set_cons_zero, List.set_cons_succ, i64_w, i32_w]
                    rfl
                  refine pure_ (i := 2) (N := some 104) (v := ?_) (a' := ?_) #[true, true, true, false, false, false, false, false, false, false, false, false] rfl rfl (by kernel_rfl) (fun _ _ _ h => h) (Or.inl ⟨by rfl, ?_⟩) ?_ ?_
                  rotate_left
                  · intro w'
                    go_simp
                    with_reducible rfl
                  rotate_left
                  · simp only [Act.put, List.setIfInBounds_toArray, List.set_cons_zero, List.set_cons_succ, i64_w, i32_w]
                    rfl
                  refine take_ (i := 3) (N := some 105) (v := ?_) (a' := ?_) #[true, true, true, true, false, false, false, false, false, false, false, false] rfl rfl (by kernel_rfl) (fun _ _ _ h => h) (Or.inl ⟨by rfl, ?_⟩) hHeld ?_ ?_
                  rotate_left
                  · rintro w' ⟨s0, s1⟩
                    go_simp
                    with_reducible rfl
                  rotate_left
                  · simp only [Act.put, List.setIfInBounds_toArray, List.set_cons_zero, List.set_cons_succ, i64_w, i32_w]
                    rfl
                  refine pure_ (i := 4) (N := some 106) (v := ?_) (a' := ?_) #[true, true, true, true, true, false, false, false, false, false, false, false] rfl rfl (by kernel_rfl) (fun _ _ _ h => h) (Or.inl ⟨by rfl, ?_⟩) ?_ ?_
                  rotate_left
                  · intro w'
                    go_simp
                    with_reducible rfl
                  rotate_left
                  · simp only [Act.put, List.setIfInBounds_toArray, List.set_cons_zero, List.set_cons_succ, i64_w, i32_w]
                    rfl
                  refine pure_ (i := 5) (N := some 107) (v := ?_) (a' := ?_) #[true, true, true, true, true, true, false, false, false, false, false, false] rfl rfl (by kernel_rfl) (fun _ _ _ h => h) (Or.inl ⟨by rfl, ?_⟩) ?_ ?_
                  rotate_left
                  · intro w'
                    go_simp
                    with_reducible rfl
                  rotate_left
                  · simp only [Act.put, List.setIfInBounds_toArray, List.set_cons_zero, List.set_cons_succ, i64_w, i32_w]
                    rfl
                  refine pure_ (i := 6) (N := some 108) (v := ?_) (a' := ?_) #[true, true, true, true, true, true, true, false, false, false, false, false] rfl rfl (by kernel_rfl) (fun _ _ _ h => h) (Or.inl ⟨by rfl, ?_⟩) ?_ ?_
                  rotate_left
                  · intro w'
                    go_simp
                    with_reducible rfl
                  rotate_left
                  · simp only [Act.put, List.setIfInBounds_toArray, List.set_cons_zero, List.set_cons_succ, i64_w, i32_w]
                    rfl
                  refine pure_ (i := 7) (N := some 109) (v := ?_) (a' := ?_) #[true, true, true, true, true, true, true, true, false, false, false, false] rfl rfl (by kernel_rfl) (fun _ _ _ h => h) (Or.inl ⟨by rfl, ?_⟩) ?_ ?_
                  rotate_left
                  · intro w'
                    go_simp
                    with_reducible rfl
                  rotate_left
                  · simp only [Act.put, List.setIfInBounds_toArray, List.set_cons_zero, List.set_cons_succ, i64_w, i32_w]
                    rfl
                  refine take_ (i := 8) (N := some 110) (v := ?_) (a' := ?_) #[true, true, true, true, true, true, true, true, true, false, false, false] rfl rfl (by kernel_rfl) (fun _ _ _ h => h) (Or.inl ⟨by rfl, ?_⟩) hHeld ?_ ?_
                  rotate_left
                  · rintro w' ⟨s0, s1⟩
                    go_simp
                    with_reducible rfl
                  rotate_left
                  · simp only [Act.put, List.setIfInBounds_toArray, List.set_cons_zero, List.set_cons_succ, i64_w, i32_w]
                    rfl
                  refine one_ (i := 9) (N := some 111) #[true, true, true, true, true, true, true, true, true, true, false, false] rfl rfl (by kernel_rfl) (by decide) (fun K hK => ?_)
                  refine goes_ Try.func94 (by kernel_rfl) rfl #[.pointer (some ⟨g, 0, none⟩), .int .i64 (dm : Int)] (by rfl) rfl rfl (by (try simp only [List.map_toArray, List.map_cons, List.map_nil]); first | done | rfl) ?_
                  (with_reducible refine (bits_calls w0 g v7 s mx x3 (dm : Int) _ HSB.out HP3.out HC8.out.i).mono ?_)
                  rw [HM3.out]
                  rintro e w9 ⟨v9, rfl, hi, hf⟩
                  have HC9 := Aside0.mk (HC8.out.fro hf hi)
                  have HF9 := Aside0.mk (HF8.out.trans hf)
                  have hS9 : w9.cell? (ad8.add dq) = some (.int .i64 db0) ∧ w9.cell? (ad9.add dq) = some (.int .i64 (dm : Int)) := ⟨H8.out _ (KD.out.trans hf.keep (.inl rfl)), H9.out _ (KD.out.trans hf.keep (.inl rfl))⟩
                  refine ⟨_, rfl, ?_⟩
                  refine hK.out _ _ hS9 (fun hHeld => ?_)
                  clear hK K hi hf
                  refine norm_ (a' := ?_) ?_ ?_
                  rotate_left
                  · show Act.put _ (some 111) _ = _
                    simp only [Act.put, List.setIfInBounds_toArray, List.set_cons_zero, List.set_cons_succ, i64_w, i32_w]
                    rfl
                  refine pure_ (i := 10) (N := some 112) (v := ?_) (a' := ?_) #[true, true, true, true, true, true, true, true, true, true, true, false] rfl rfl (by kernel_rfl) (fun _ _ _ h => h) (Or.inl ⟨by rfl, ?_⟩) ?_ ?_
                  rotate_left
                  · intro w'
                    go_simp
                    with_reducible rfl
                  rotate_left
                  · simp only [Act.put, List.setIfInBounds_toArray, List.set_cons_zero, List.set_cons_succ, i64_w, i32_w]
                    rfl
                  refine pure_ (i := 11) (N := some 12) (v := ?_) (a' := ?_) #[true, true, true, true, true, true, true, true, true, true, true, true] rfl rfl (by kernel_rfl) (fun _ _ _ h => h) (Or.inl ⟨by rfl, ?_⟩) ?_ ?_
                  rotate_left
                  · intro w'
                    go_simp
                    with_reducible rfl
                  rotate_left
                  · simp only [Act.put, List.setIfInBounds_toArray, List.set_cons_zero, List.set_cons_succ, i64_w, i32_w]
                    rfl
                  refine done_ (by kernel_rfl) ?_
                  clear hw2 hw3 hqt HW2 HW3 hHeld KD HC7 HF7 HC8 HF8
                  have hc4 := HC9.out.i.c4
                  by_cases c7 : x4.e = 0
                  · have d7 : (x4.e != 0) = false := by rw [c7]; rfl
                    have hg3 := (HG4.out c7)
                    have hg2 := (HG3.out hg3.1)
                    have hg1 := (HG2.out hg2.1)
                    have HGOZ : Aside0 (y.p + 1 ≤ x4.p) := ⟨by have := HGO.out; omega⟩
                    have hol : x4.o.length = y.o.length := by rw [HO4.out, HO3.out, HO2.out, HO1.out]
                    have hol2 : (x4.o.length : Int) ≤ mx := by rw [hol]; exact HL.out
                    have HOL := Aside0.mk hol2
                    have hfar4 := HFA4.out
                    rw [if_pos c7] at hfar4
                    have HFC := Aside0.mk hfar4
                    obtain ⟨AV, cV, rfl⟩ := Kd.R_slice HC9.out.i.row
                    have hc2 := HC9.out.i.c2
                    clear hg1 hg2 hg3 hol hfar4 HFA4 HFAR
                    by_cases c8 : (D : Int) ≤ x4.o.length
                    · have d8 : decide ((D : Int) > x4.o.length) = false := decide_eq_false (by omega)
                      have hc3 := HC9.out.i.c3
                      go_upto_region 24 with fail
                      go_quiet (fail)
                      generalize hw5 : World.drewN _ _ = w10
                      have HC10 : Aside0 (CSt w0 g (.slice AV x4.o.length cV) s mx x4 b4 b5 ca sa cb sb A B c d _ _ _ _ w10) := ⟨by rw [← hw5]; exact HC9.out.below (pw_below_drewN (Below.refl _ _) _)⟩
                      have HF10 : Aside0 (Fro w g v w10 (.slice AV x4.o.length cV)) := ⟨by rw [← hw5]; exact HF9.out.below (pw_below_drewN (Below.refl _ _) _)⟩
                      clear hw5 hc2 hc3 hc4 HC9 HF9
                      by_cases c9 : (x4.o.length : Int) + (nn : Int) ≤ mx
                      · have d9 : decide ((x4.o.length : Int) + (nn : Int) > mx) = false := decide_eq_false (by omega)
                        have hcp : far s mx lb y1 n = ⟨x4.p, again x4.o D nn, x4.e⟩ := by rw [HFC.out]; unfold copy; rw [if_pos c8, if_pos c9, Int.toNat_natCast, Int.toNat_natCast]
                        have HCP := Aside0.mk hcp
                        clear hcp
                        go_wp2
                        go_loopw [114] (fun v114 w' => ∃ (j : Nat) (v1 : Value), j ≤ nn ∧ v114 = .int .i64 (j : Int) ∧ Aside0 (CSt w0 g v1 s mx ⟨x4.p, again x4.o D j, x4.e⟩ b4 b5 ca sa cb sb A B c d (some ad6) (some ad7) (some ad8) (some ad9) w') ∧ Aside0 (Fro w g v w' v1)) (fun v114 _ => nn - (intOf v114).toNat)
                        case atStart => exact ⟨0, _, Nat.zero_le _, rfl, HC10, HF10⟩
                        case round =>
                          clear HC10 HF10
                          obtain ⟨j, v10_, hj, rfl, HCJ, HFJ⟩ := hrel
                          by_cases hlt : j < nn
                          · have hdec : decide ((j : Int) < (nn : Int)) = true := decide_eq_true (by omega)
                            obtain ⟨oj, hoj⟩ : ∃ oj, oj = again x4.o D j := ⟨_, rfl⟩
                            rw [← hoj] at HCJ
                            have hlj : oj.length = x4.o.length + j := by rw [hoj, again_len]
                            have HOJ := Aside0.mk hoj
                            clear hoj
                            obtain ⟨L, hL⟩ : ∃ L, oj.length = L := ⟨_, rfl⟩
                            obtain ⟨go, cp, hv10, hgg, hgo, hcp2⟩ := row_form HCJ.out.i.row (by show 0 < oj.length; omega)
                            have hv11 : v10_ = .slice (some ⟨go, 0, none⟩) L cp := by rw [← hL]; exact hv10
                            subst hv11
                            obtain ⟨q9, hq9⟩ : ∃ q9 : Nat, (L : Int) - (D : Int) = (q9 : Int) := ⟨L - D, by omega⟩
                            have hq9L : q9 < L := by omega
                            have hq9e : oj.length - D = q9 := by omega
                            obtain ⟨z, hz⟩ : ∃ z, z = oj.getD q9 0 := ⟨_, rfl⟩
                            have HZ := Aside0.mk hz
                            have hcz : wr.drew.cell? ⟨go, q9, none⟩ = some (.int .u8 z) := by
                              have := (Kd.R_celln (0 : Int) HCJ.out.i.drew.row (q9 : Int) (by omega) (by omega)).1
                              rw [Int.toNat_natCast] at this
                              rw [this, hz]
                              simp [rdOf]
                            have hcz2 : (wr.drew.alloc (.cells #[.int .u8 z] 5)).cell? ⟨go, q9, none⟩ = some (.int .u8 z) := by
                              have := (Kd.R_celln (0 : Int) (HCJ.out.i.drew.below (below_alloc (Below.refl _ _) (.cells #[.int .u8 z] 5))).row (q9 : Int) (by omega) (by omega)).1
                              rw [Int.toNat_natCast] at this
                              rw [this, hz]
                              simp [rdOf]
                            have HGT : Aside0 (∀ q, wr.drew.heap.size ≤ q → q ≠ g) := ⟨fun q hq e => by have := HCJ.out.i.drew.glt; omega⟩
                            have HSZ : Aside0 ((oj.length + 1) * 1 ≤ 140737488355328) := ⟨by omega⟩
                            have HQE := Aside0.mk hq9e
                            have HW9 : Aside0 (wrap64 ((L : Int) - (D : Int)) = (q9 : Int)) := ⟨by rw [hq9]; exact wrap_in (by omega) (by omega)⟩
                            have hqt : ((q9 : Int) < (L : Int)) = True := eq_true (by omega)
                            clear hz hq9e hlj hv10 hL hq9
                            go_upto_region 19 with fail
                            have hw9 := HW9.out
                            refine start_ (n := 23) (S := fun w' => w'.cell? ⟨g, 2, none⟩ = some (.slice (some ⟨go, 0, none⟩) L cp) ∧ w'.cell? ⟨go, q9, none⟩ = some (.int .u8 z)) (ds := [19, 22]) #[false, false, false, false, false, false, false, false, false, false, false, false, false, false, false, false, false, false, false, false, false, false, false] (by kernel_rfl) rfl rfl ⟨HCJ.out.i.drew.c2, hcz⟩ (fun hHeld => ?_)
                            have HCD := Aside0.mk (HCJ.out.below (below_drew1 (Below.refl _ _))); have HFD := Aside0.mk (HFJ.out.below (below_drew1 (Below.refl _ _))); generalize wr.drew = w11 at hHeld HCD HFD HGT hcz2 ⊢; have hiD := HCD.out.i; have hrowD := HCD.out.i.row
                            refine pure_ (i := 0) (N := some 116) (v := ?_) (a' := ?_) #[true, false, false, false, false, false, false, false, false, false, false, false, false, false, false, false, false, false, false, false, false, false, false] rfl rfl (by kernel_rfl) (fun _ _ _ h => h) (Or.inl ⟨by rfl, ?_⟩) ?_ ?_
                            rotate_left
                            · intro w'
                              go_simp
                              with_reducible rfl
                            rotate_left
                            · simp only [Act.put, List.setIfInBounds_toArray, List.set_cons_zero, List.set_cons_succ, i64_w, i32_w]
                              rfl
                            refine pure_ (i := 1) (N := some 117) (v := ?_) (a' := ?_) #[true, true, false, false, false, false, false, false, false, false, false, false, false, false, false, false, false, false, false, false, false, false, false] rfl rfl (by kernel_rfl) (fun _ _ _ h => h) (Or.inl ⟨by rfl, ?_⟩) ?_ ?_
                            rotate_left
                            · intro w'
                              go_simp
                              with_reducible rfl
                            rotate_left
                            · simp only [Act.put, List.setIfInBounds_toArray, List.set_cons_zero, List.set_cons_succ, i64_w, i32_w]
                              rfl
                            refine pure_ (i := 2) (N := some 118) (v := ?_) (a' := ?_) #[true, true, true, false, false, false, false, false, false, false, false, false, false, false, false, false, false, false, false, false, false, false, false] rfl rfl (by kernel_rfl) (fun _ _ _ h => h) (Or.inl ⟨by rfl, ?_⟩) ?_ ?_
                            rotate_left
                            · intro w'
                              go_simp
                              with_reducible rfl
                            rotate_left
                            · simp only [Act.put, List.setIfInBounds_toArray, List.set_cons_zero, List.set_cons_succ, i64_w, i32_w]
                              rfl
                            refine pure_ (i := 3) (N := some 119) (v := ?_) (a' := ?_) #[true, true, true, true, false, false, false, false, false, false, false, false, false, false, false, false, false, false, false, false, false, false, false] rfl rfl (by kernel_rfl) (fun _ _ _ h => h) (Or.inl ⟨by rfl, ?_⟩) ?_ ?_
                            rotate_left
                            · intro w'
                              go_simp
                              with_reducible rfl
                            rotate_left
                            · simp only [Act.put, List.setIfInBounds_toArray, List.set_cons_zero, List.set_cons_succ, i64_w, i32_w]
                              rfl
                            refine take_ (i := 4) (N := some 120) (v := ?_) (a' := ?_) #[true, true, true, true, true, false, false, false, false, false, false, false, false, false, false, false, false, false, false, false, false, false, false] rfl rfl (by kernel_rfl) (fun _ _ _ h => h) (Or.inl ⟨by rfl, ?_⟩) hHeld ?_ ?_
                            rotate_left
                            · rintro w' ⟨s0, s1⟩
                              go_simp
                              with_reducible rfl
                            rotate_left
                            · simp only [Act.put, List.setIfInBounds_toArray, List.set_cons_zero, List.set_cons_succ, i64_w, i32_w]
                              rfl
                            refine pure_ (i := 5) (N := some 121) (v := ?_) (a' := ?_) #[true, true, true, true, true, true, false, false, false, false, false, false, false, false, false, false, false, false, false, false, false, false, false] rfl rfl (by kernel_rfl) (fun _ _ _ h => h) (Or.inl ⟨by rfl, ?_⟩) ?_ ?_
                            rotate_left
                            · intro w'
                              go_simp
                              with_reducible rfl
                            rotate_left
                            · simp only [Act.put, List.setIfInBounds_toArray, List.set_cons_zero, List.set_cons_succ, i64_w, i32_w]
                              rfl
                            refine pure_ (i := 6) (N := some 122) (v := ?_) (a' := ?_) #[true, true, true, true, true, true, true, false, false, false, false, false, false, false, false, false, false, false, false, false, false, false, false] rfl rfl (by kernel_rfl) (fun _ _ _ h => h) (Or.inl ⟨by rfl, ?_⟩) ?_ ?_
                            rotate_left
                            · intro w'
                              go_simp
                              with_reducible rfl
                            rotate_left
                            · simp only [Act.put, List.setIfInBounds_toArray, List.set_cons_zero, List.set_cons_succ, i64_w, i32_w]
                              rfl
                            refine pure_ (i := 7) (N := some 123) (v := ?_) (a' := ?_) #[true, true, true, true, true, true, true, true, false, false, false, false, false, false, false, false, false, false, false, false, false, false, false] rfl rfl (by kernel_rfl) (fun _ _ _ h => h) (Or.inl ⟨by rfl, ?_⟩) ?_ ?_
                            rotate_left
                            · intro w'
                              go_simp
                              with_reducible rfl
                            rotate_left
                            · simp only [Act.put, List.setIfInBounds_toArray, List.set_cons_zero, List.set_cons_succ, i64_w, i32_w]
                              rfl
                            refine take_ (i := 8) (N := some 124) (v := ?_) (a' := ?_) #[true, true, true, true, true, true, true, true, true, false, false, false, false, false, false, false, false, false, false, false, false, false, false] rfl rfl (by kernel_rfl) (fun _ _ _ h => h) (Or.inl ⟨by rfl, ?_⟩) hHeld ?_ ?_
                            rotate_left
                            · rintro w' ⟨s0, s1⟩
                              go_simp
                              with_reducible rfl
                            rotate_left
                            · simp only [Act.put, List.setIfInBounds_toArray, List.set_cons_zero, List.set_cons_succ, i64_w, i32_w]
                              rfl
                            refine pure_ (i := 9) (N := some 125) (v := ?_) (a' := ?_) #[true, true, true, true, true, true, true, true, true, true, false, false, false, false, false, false, false, false, false, false, false, false, false] rfl rfl (by kernel_rfl) (fun _ _ _ h => h) (Or.inl ⟨by rfl, ?_⟩) ?_ ?_
                            rotate_left
                            · intro w'
                              go_simp
                              with_reducible rfl
                            rotate_left
                            · simp only [Act.put, List.setIfInBounds_toArray, List.set_cons_zero, List.set_cons_succ, i64_w, i32_w]
                              rfl
                            refine pure_ (i := 10) (N := some 126) (v := ?_) (a' := ?_) #[true, true, true, true, true, true, true, true, true, true, true, false, false, false, false, false, false, false, false, false, false, false, false] rfl rfl (by kernel_rfl) (fun _ _ _ h => h) (Or.inl ⟨by rfl, ?_⟩) ?_ ?_
                            rotate_left
                            · intro w'
                              go_simp
                              with_reducible rfl
                            rotate_left
                            · simp only [Act.put, List.setIfInBounds_toArray, List.set_cons_zero, List.set_cons_succ, i64_w, i32_w]
                              rfl
                            refine pure_ (i := 11) (N := some 127) (v := ?_) (a' := ?_) #[true, true, true, true, true, true, true, true, true, true, true, true, false, false, false, false, false, false, false, false, false, false, false] rfl rfl (by kernel_rfl) (fun _ _ _ h => h) (Or.inl ⟨by rfl, ?_⟩) ?_ ?_
                            rotate_left
                            · intro w'
                              go_simp
                              with_reducible rfl
                            rotate_left
                            · simp only [Act.put, List.setIfInBounds_toArray, List.set_cons_zero, List.set_cons_succ, i64_w, i32_w]
                              rfl
                            refine take_ (i := 12) (N := some 128) (v := ?_) (a' := ?_) #[true, true, true, true, true, true, true, true, true, true, true, true, true, false, false, false, false, false, false, false, false, false, false] rfl rfl (by kernel_rfl) (fun _ _ _ h => h) (Or.inl ⟨by rfl, ?_⟩) hHeld ?_ ?_
                            rotate_left
                            · rintro w' ⟨s0, s1⟩
                              go_simp
                              with_reducible rfl
                            rotate_left
                            · simp only [Act.put, List.setIfInBounds_toArray, List.set_cons_zero, List.set_cons_succ, i64_w, i32_w]
                              rfl
                            refine pure_ (i := 13) (N := some 129) (v := ?_) (a' := ?_) #[true, true, true, true, true, true, true, true, true, true, true, true, true, true, false, false, false, false, false, false, false, false, false] rfl rfl (by kernel_rfl) (fun _ _ _ h => h) (Or.inl ⟨by rfl, ?_⟩) ?_ ?_
                            rotate_left
                            · intro w'
                              go_simp
                              with_reducible rfl
                            rotate_left
                            · simp only [Act.put, List.setIfInBounds_toArray, List.set_cons_zero, List.set_cons_succ, i64_w, i32_w]
                              rfl
                            refine pure_ (i := 14) (N := some 130) (v := ?_) (a' := ?_) #[true, true, true, true, true, true, true, true, true, true, true, true, true, true, true, false, false, false, false, false, false, false, false] rfl rfl (by kernel_rfl) (fun _ _ _ h => h) (Or.inl ⟨by rfl, ?_⟩) ?_ ?_
                            rotate_left
                            · intro w'
                              go_simp
                              with_reducible rfl
                            rotate_left
                            · simp only [Act.put, List.setIfInBounds_toArray, List.set_cons_zero, List.set_cons_succ, i64_w, i32_w]
                              rfl
                            refine pure_ (i := 15) (N := some 131) (v := ?_) (a' := ?_) #[true, true, true, true, true, true, true, true, true, true, true, true, true, true, true, true, false, false, false, false, false, false, false] rfl rfl (by kernel_rfl) (fun _ _ _ h => h) (Or.inl ⟨by rfl, ?_⟩) ?_ ?_
                            rotate_left
                            · intro w'
                              go_simp
                              with_reducible rfl
                            rotate_left
                            · simp only [Act.put, List.setIfInBounds_toArray, List.set_cons_zero, List.set_cons_succ, i64_w, i32_w]
                              rfl
                            refine pure_ (i := 16) (N := some 132) (v := ?_) (a' := ?_) #[true, true, true, true, true, true, true, true, true, true, true, true, true, true, true, true, true, false, false, false, false, false, false] rfl rfl (by kernel_rfl) (fun _ _ _ h => h) (Or.inl ⟨by rfl, ?_⟩) ?_ ?_
                            rotate_left
                            · intro w'
                              go_simp
                              with_reducible rfl
                            rotate_left
                            · simp only [Act.put, List.setIfInBounds_toArray, List.set_cons_zero, List.set_cons_succ, i64_w, i32_w]
                              rfl
                            refine take_ (i := 17) (N := some 133) (v := ?_) (a' := ?_) #[true, true, true, true, true, true, true, true, true, true, true, true, true, true, true, true, true, true, false, false, false, false, false] rfl rfl (by kernel_rfl) (fun _ _ _ h => h) (Or.inl ⟨by rfl, ?_⟩) hHeld ?_ ?_
                            rotate_left
                            · rintro w' ⟨s0, s1⟩
                              go_simp
                              with_reducible rfl
                            rotate_left
                            · simp only [Act.put, List.setIfInBounds_toArray, List.set_cons_zero, List.set_cons_succ, i64_w, i32_w]
                              rfl
                            refine one_ (i := 18) (N := some 134) #[true, true, true, true, true, true, true, true, true, true, true, true, true, true, true, true, true, true, true, false, false, false, false] rfl rfl (by kernel_rfl) (by decide) (fun K hK => ?_)
                            refine event_step (v := .slice (some ⟨w11.heap.size, 0, none⟩) 1 1) (w1 := w11.alloc (.cells #[.int .u8 z] 5)) (by rfl) (by first | (go_simp; done) | (go_simp; rfl)) ?_
                            refine hK.out _ _ ⟨(HCD.out.below (below_alloc (Below.refl _ _) _)).i.c2, hcz2⟩ (fun hHeld => ?_)
                            clear hK K
                            refine norm_ (a' := ?_) ?_ ?_
                            rotate_left
                            · show Act.put _ (some 134) _ = _
                              simp only [Act.put, List.setIfInBounds_toArray, List.set_cons_zero, List.set_cons_succ, i64_w, i32_w]
                              rfl
                            refine last_ (i := 19) (N := some 135) #[true, true, true, true, true, true, true, true, true, true, true, true, true, true, true, true, true, true, true, true, false, false, false] rfl rfl (by kernel_rfl) (by decide) (fun K hK => ?_)
                            refine Kd.R_append_step (Kd.int .u8) (w0 := w0) w0.heap.size rfl (.tmp 120) (.tmp 134) 40 5 (.int .u8 0) 1 rfl Try.underlying40 info5w rfl (by decide) (by decide) (.slice (some ⟨go, 0, none⟩) L cp) oj z [.int .u8 z] (fun k => k ≠ g) (fun _ => False) rfl rfl rfl (fun _ hk => hk.elim) HGT.out hrowD HCD.out.i.bl HCD.out.i.bl.size HSZ.out ?_
                            intro v12 w12 hr12 hb12 hg12 hn12
                            obtain ⟨o12, ho12⟩ : ∃ o12, o12 = oj ++ [z] := ⟨_, rfl⟩
                            rw [← ho12] at hr12
                            have HO12 := Aside0.mk ho12
                            clear ho12
                            obtain ⟨AZ, cZ, rfl⟩ := Kd.R_slice hr12
                            have HI12 := Aside0.mk (hiD.seto hr12 hb12 hg12)
                            have HF12 := Aside0.mk (Fro.seto (Fro.refl w11 g (.slice (some ⟨go, 0, none⟩) L cp)) hg12 hn12)
                            have hc12 : w12.cell? ⟨g, 2, none⟩ = some (.slice (some ⟨go, 0, none⟩) L cp) := (blk_cell (blk_grown hiD.blk hg12 (Kd.R_ne hiD.row hiD.blk (by decide))) 2).trans rfl
                            have hf12 := blk_frozen (blk_grown hiD.blk hg12 (Kd.R_ne hiD.row hiD.blk (by decide))) 2
                            refine hK.out _ _ ?_
                            clear hK K hr12 hb12 hg12 hn12
                            refine norm_ (a' := ?_) ?_ ?_
                            rotate_left
                            · show Act.put _ (some 135) _ = _
                              simp only [Act.put, List.setIfInBounds_toArray, List.set_cons_zero, List.set_cons_succ, i64_w, i32_w]
                              rfl
                            refine pure_ (i := 20) (N := some 136) (v := ?_) (a' := ?_) #[true, true, true, true, true, true, true, true, true, true, true, true, true, true, true, true, true, true, true, true, true, false, false] rfl rfl (by kernel_rfl) (fun _ _ _ h => h) (Or.inl ⟨by rfl, ?_⟩) ?_ ?_
                            rotate_left
                            · intro w'
                              go_simp
                              with_reducible rfl
                            rotate_left
                            · simp only [Act.put, List.setIfInBounds_toArray, List.set_cons_zero, List.set_cons_succ, i64_w, i32_w]
                              rfl
                            refine pure_ (i := 21) (N := some 137) (v := ?_) (a' := ?_) #[true, true, true, true, true, true, true, true, true, true, true, true, true, true, true, true, true, true, true, true, true, true, false] rfl rfl (by kernel_rfl) (fun _ _ _ h => h) (Or.inl ⟨by rfl, ?_⟩) ?_ ?_
                            rotate_left
                            · intro w'
                              go_simp
                              with_reducible rfl
                            rotate_left
                            · simp only [Act.put, List.setIfInBounds_toArray, List.set_cons_zero, List.set_cons_succ, i64_w, i32_w]
                              rfl
                            refine last_ (i := 22) (N := none) #[true, true, true, true, true, true, true, true, true, true, true, true, true, true, true, true, true, true, true, true, true, true, true] rfl rfl (by kernel_rfl) (by decide) (fun K hK => ?_)
                            refine skip_ (w1 := ?_) (by rfl) rfl ?_ ?_
                            rotate_left
                            · go_simp
                              rfl
                            refine hK.out _ _ ?_
                            clear hK K
                            refine done_ (by kernel_rfl) ?_
                            clear hw9 hqt
                            go_wp2
                            go_roundw
                            case rel =>
                              have e12 : o12 = again x4.o D (j + 1) := by rw [HO12.out, HZ.out, ← HQE.out]; unfold again; rw [← HOJ.out]
                              exact ⟨j + 1, _, by omega, by go_num, ⟨by rw [← e12]; exact HCD.out.fro HF12.out HI12.out⟩, ⟨HFD.out.trans HF12.out⟩⟩
                            case measure => simp [intOf]; omega
                          · have hdec : decide ((j : Int) < (nn : Int)) = false := decide_eq_false (by omega)
                            obtain rfl : j = nn := by omega
                            go_wp2
                            go_roundw
                            case rel => exact ⟨k1, _, _, ⟨HLL.out ⟨x4.p, again x4.o D j, x4.e⟩ HGOZ.out⟩, ⟨by rw [← HCP.out]; exact HRUN.out⟩, ⟨⟨HOK4.out.p0, HOK4.out.p1, HOK4.out.e⟩⟩, ⟨by rw [again_len]; omega⟩, ⟨fun _ => HXE.out c0⟩, HCJ, HFJ⟩
                            case measure => exact HMS.out _ _ _ HCJ.out.i HGOZ.out
                      · have d9 : decide ((x4.o.length : Int) + (nn : Int) > mx) = true := decide_eq_true (by omega)
                        have hcp : far s mx lb y1 n = fail x4 7 := by rw [HFC.out]; unfold copy; rw [if_pos c8, if_neg c9]
                        have HCP := Aside0.mk hcp
                        clear hcp
                        have hfo : (fail x4 7).o = x4.o ∧ (fail x4 7).p = x4.p := by unfold fail; split <;> exact ⟨rfl, rfl⟩
                        have HFO := Aside0.mk hfo
                        clear hfo
                        go_wp2_with (go_at_call 100; (with_reducible refine (fail_calls w0 g _ s mx x4 7 _ HC10.out.i).mono ?_); rintro e w12 ⟨v12, rfl, hi, hf⟩; have HC12 := Aside0.mk (HC10.out.fro hf hi); have HF12 := Aside0.mk (HF10.out.trans hf); clear hi hf)
                        go_roundw
                        case rel => exact ⟨k1, _, _, ⟨HLL.out (fail x4 7) (by rw [HFO.out.2]; exact HGOZ.out)⟩, ⟨by rw [← HCP.out]; exact HRUN.out⟩, ⟨fail_ok HOK4.out (by decide)⟩, ⟨by rw [HFO.out.1]; exact HOL.out⟩, ⟨fun _ => HXE.out c0⟩, HC12, HF12⟩
                        case measure => exact HMS.out _ _ _ HC12.out.i (by rw [HFO.out.2]; exact HGOZ.out)
                    · have d8 : decide ((D : Int) > x4.o.length) = true := decide_eq_true (by omega)
                      have hcp : far s mx lb y1 n = fail x4 3 := by rw [HFC.out]; unfold copy; rw [if_neg c8]
                      have HCP := Aside0.mk hcp
                      clear hcp
                      have hfo : (fail x4 3).o = x4.o ∧ (fail x4 3).p = x4.p := by unfold fail; split <;> exact ⟨rfl, rfl⟩
                      have HFO := Aside0.mk hfo
                      clear hfo
                      go_wp2_with (go_at_call 100; (with_reducible refine (fail_calls w0 g _ s mx x4 3 _ HC9.out.i).mono ?_); rintro e w12 ⟨v12, rfl, hi, hf⟩; have HC12 := Aside0.mk (HC9.out.fro hf hi); have HF12 := Aside0.mk (HF9.out.trans hf); clear hi hf)
                      go_roundw
                      case rel => exact ⟨k1, _, _, ⟨HLL.out (fail x4 3) (by rw [HFO.out.2]; exact HGOZ.out)⟩, ⟨by rw [← HCP.out]; exact HRUN.out⟩, ⟨fail_ok HOK4.out (by decide)⟩, ⟨by rw [HFO.out.1]; exact HOL.out⟩, ⟨fun _ => HXE.out c0⟩, HC12, HF12⟩
                      case measure => exact HMS.out _ _ _ HC12.out.i (by rw [HFO.out.2]; exact HGOZ.out)
                  · have d7 : (x4.e != 0) = true := by simpa using c7
                    have hR : codes s mx la lb K x = x4 := by
                      have h1 := HFA4.out
                      rw [if_neg c7] at h1
                      rw [← HRUN.out, h1, codes_stop _ _ _ _ _ _ c7]
                    have HR := Aside0.mk hR
                    clear hR
                    go_wp2
                    exact bodyPost_ret (v := .tuple #[]) (by simp [results, Try.results97, go_sem]) rfl ⟨v9, rfl, by rw [HR.out]; exact HC9.out.i, HF9.out⟩
              · have d5 : (x3.e == 0) = false := beq_eq_false_iff_ne.2 c5
                have d7 : (x3.e != 0) = true := by simpa using c5
                have hX : (if x3.e = 0 ∧ dd ≥ 30 then fail x3 3 else x3) = x3 := if_neg (fun h => c5 h.1)
                have hR : codes s mx la lb K x = x3 := by
                  have h1 := HFAR.out
                  rw [hX, if_neg c5] at h1
                  rw [← HRUN.out, h1, codes_stop _ _ _ _ _ _ c5]
                have HR := Aside0.mk hR
                clear hR hX
                go_wp2
                exact bodyPost_ret (v := .tuple #[]) (by simp [results, Try.results97, go_sem]) rfl ⟨v7, rfl, by rw [HR.out]; exact HC7.out.i, HF7.out⟩
      · have d1 : (y1.e != 0) = true := by simpa using c1
        have h1 : one s mx la lb y = (true, y1) := by unfold one; rw [HN.out]; simp only; rw [if_pos (.inl c1)]
        have hR := post_end HE.out HCS.out h1
        have HR := Aside0.mk hR
        clear h1 hR
        go_wp2
        exact bodyPost_ret (v := .tuple #[]) (by simp [results, Try.results97, go_sem]) rfl ⟨v4, rfl, by rw [HR.out]; exact HC4.out.i, HF4.out⟩
    · have d0 : (y.e == 0) = false := beq_eq_false_iff_ne.2 c0
      go_wp2
      exact bodyPost_end (v := .tuple #[]) (by simp [results, Try.results97, go_sem]) rfl ⟨v1, rfl, by rw [← HE.out, codes_stop s mx la lb k y c0]; exact HC.out.i, HF.out⟩
end Go.Proofs.Ytpbhkdamkbopkaa.Inf
