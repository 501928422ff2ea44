/- The walk of inflate.Raw. -/
import Derived.Test.YtpbhkdamkbopkaaExtI11
namespace Go.Proofs.Ytpbhkdamkbopkaa.Inf
set_option linter.unusedSimpArgs false
set_option linter.unusedVariables false
open Go.RowKit Go.Proofs.Ytpbhkdamkbopkaa.Ext Go.Proofs.Ytpbhkdamkbopkaa.RefP Go.Proofs.YtpbhkdamkbopkaaW.PrintWords Go.Proofs.YtpbhkdamkbopkaaW.PrintLast Go.Proofs.YtpbhkdamkbopkaaW.PrintMore

set_option maxRecDepth 100000 in
set_option maxHeartbeats 8000000 in
theorem raw_calls (s : ByteArray) (mx : Int) (w : World) (hs : s.size ≤ 17592186044416) :
    Calls Try.prog 44 #[.string s, .int .i64 mx] w fun e w' => e = .returned (.tuple #[.string (raw s mx).1, .int .i64 (raw s mx).2.1, .int .i64 (raw s mx).2.2]) ∧ Below w.heap.size w w' := by
  have HB0 := Aside0.mk (Below.refl w.heap.size w)
  by_cases c1 : mx < 0
  · have d1 : decide (mx < 0) = true := decide_eq_true c1
    have hres : raw s mx = (⟨#[]⟩, 0, 1) := by unfold raw; rw [if_pos (.inl c1)]
    rw [hres]
    go_enter Try.func44, Try.ntmps44
    go_wp2
    exact bodyPost_ret (v := .tuple #[.string ⟨#[]⟩, .int .i64 0, .int .i64 1]) (by simp [results, Try.results44, go_sem]) rfl ⟨rfl, HB0.out⟩
  have d1 : decide (mx < 0) = false := decide_eq_false c1
  by_cases c2 : mx > 262144
  · have d2 : decide (mx > 262144) = true := decide_eq_true c2
    have hres : raw s mx = (⟨#[]⟩, 0, 1) := by unfold raw; rw [if_pos (.inr c2)]
    rw [hres]
    go_enter Try.func44, Try.ntmps44
    go_wp2
    exact bodyPost_ret (v := .tuple #[.string ⟨#[]⟩, .int .i64 0, .int .i64 1]) (by simp [results, Try.results44, go_sem]) rfl ⟨rfl, HB0.out⟩
  have d2 : decide (mx > 262144) = false := decide_eq_false c2
  obtain ⟨X, hX⟩ : ∃ X, X = blocks s mx (8 * s.size + 2) ⟨0, [], 0⟩ := ⟨_, rfl⟩
  have hres : raw s mx = if X.e = 0 then (strOfNums X.o, (X.p + 7) / 8, 0) else (⟨#[]⟩, 0, X.e) := by unfold raw; rw [if_neg (fun h => h.elim c1 c2), hX]
  obtain ⟨r, hr0⟩ : ∃ r, r = raw s mx := ⟨_, rfl⟩
  rw [← hr0] at hres ⊢
  obtain ⟨r1, r2, r3⟩ := r
  simp only
  have HRES := Aside0.mk hres
  have HX := Aside0.mk hX
  clear hr0
  have HMX : Aside0 (0 ≤ mx ∧ mx ≤ 262144) := ⟨by omega⟩
  have HS := Aside0.mk hs
  have HSB : Aside0 (s.size ≤ 140737488351232) := ⟨by omega⟩
  have HI0 : Aside0 (ISt w w.heap.size (.slice none 0 0) s mx ⟨0, [], 0⟩ (w.alloc (.cells #[.string s, .int .i64 0, .slice none 0 0, .int .i64 mx, .int .i64 0] 113))) := ⟨⟨heap_alloc_new _ _, Kd.R_nil _ _ _ _ _, Nat.le_refl _, below_alloc (Below.refl _ _) _⟩⟩
  obtain ⟨W1, hW1⟩ : ∃ W1, W1 = w.alloc (.cells #[.string s, .int .i64 0, .slice none 0 0, .int .i64 mx, .int .i64 0] 113) := ⟨_, rfl⟩
  clear hX hres hs
  go_enter Try.func44, Try.ntmps44
  go_upto_region 3 with fail
  clear c1 c2 d1 d2
  go_wp2
  rw [← hW1] at HI0 ⊢
  have hpre : Aside0 (ISt w w.heap.size (.slice none 0 0) s mx ⟨0, [], 0⟩ W1) := HI0
  clear hW1 HI0
  obtain ⟨g, hg⟩ : ∃ g, g = w.heap.size := ⟨_, rfl⟩
  rw [← hg] at hpre ⊢
  have HG := Aside0.mk hg
  clear hg
  go_loopw [18] (fun v18 w' => ∃ (k : Nat) (y : St) (v1 : Value), Aside0 (blocks s mx k y = X) ∧ Aside0 (left s y ≤ k) ∧ Aside0 (Ok s y) ∧ Aside0 ((y.o.length : Int) ≤ mx) ∧ Aside0 (ISt w g v1 s mx y w') ∧ Aside0 (y.e = 0)) (fun v18 w' => imeas s g w')
  case atStart => exact ⟨8 * s.size + 2, ⟨0, [], 0⟩, .slice none 0 0, ⟨HX.out.symm⟩, ⟨by unfold left; show (8 * (s.size : Int) + 1 - 0).toNat + 1 ≤ _; omega⟩, ⟨⟨Int.le_refl _, by show (0 : Int) ≤ _; omega, .inl rfl⟩⟩, ⟨HMX.out.1⟩, hpre, ⟨rfl⟩⟩
  case round =>
    clear hpre HX
    obtain ⟨k, y, v1, HE, HK, HOK, HO, HI, HE0⟩ := hrel
    obtain ⟨t, z, hz⟩ : ∃ t z, block s mx y = (t, z) := ⟨_, _, rfl⟩
    have HZ := Aside0.mk hz
    obtain ⟨ha, hb⟩ := Aft.block (mx := mx) HSB.out HOK.out
    rw [hz] at ha hb
    have HA := Aside0.mk ha
    have HAP := Aside0.mk hb
    obtain ⟨k1, hk1⟩ : ∃ k1, k = k1 + 1 := ⟨k - 1, by have := HK.out; unfold left at this; omega⟩
    have hX2 : X = if t = true then z else if z.e = 0 then blocks s mx k1 z else z := by rw [← HE.out, hk1]; show (if (block s mx y).1 = true then _ else _) = _; rw [hz]
    have HX2 := Aside0.mk hX2
    clear hz ha hb hX2
    cases t
    · by_cases c1 : z.e = 0
      · have d1 : (z.e == 0) = true := by rw [c1]; rfl
        have hX3 := HX2.out
        rw [if_neg (by decide), if_pos c1] at hX3
        have HX3 := Aside0.mk hX3
        have HK1 : Aside0 (left s z ≤ k1) := ⟨by have h1 := HK.out; have h2 := HAP.out c1; have h3 := HOK.out.p1; simp only at h2; unfold left at *; omega⟩
        clear hX3
        go_wp2_with (go_at_call 72; (with_reducible refine (block_calls w g v1 s mx y _ HS.out HMX.out HO.out HOK.out HI.out).mono ?_); rw [HZ.out]; rintro e w3 ⟨v3, rfl, hi, hf⟩; have HI3 := Aside0.mk hi; have hc4 := hi.c4; clear hi hf)
        go_roundw
        case rel => exact ⟨k1, z, v3, ⟨HX3.out.symm⟩, HK1, ⟨HA.out.ok⟩, ⟨HA.out.o HO.out⟩, HI3, ⟨c1⟩⟩
        case measure => exact meas_less2 HI.out HI3.out HE0.out HA.out.p HAP.out HOK.out.p1
      · have d1 : (z.e == 0) = false := beq_eq_false_iff_ne.2 c1
        have d2 : (z.e != 0) = true := by simpa using c1
        have hX3 := HX2.out
        rw [if_neg (by decide), if_neg c1] at hX3
        have HX3 := Aside0.mk hX3
        clear hX3
        have hr := HRES.out
        rw [HX3.out, if_neg c1] at hr
        injection hr with hr1 hr2
        injection hr2 with hr2 hr3
        subst hr1
        subst hr2
        subst hr3
        go_upto_region 6 with (go_at_call 72; (with_reducible refine (block_calls w g v1 s mx y _ HS.out HMX.out HO.out HOK.out HI.out).mono ?_); rw [HZ.out]; rintro e w3 ⟨v3, rfl, hi, hf⟩; have HI3 := Aside0.mk hi; have hc4 := hi.c4; clear hi hf)
        go_quiet (fail)
        generalize hw9 : World.drewN _ _ = w9
        have HI9 : Aside0 (ISt w g v3 s mx z w9) := ⟨by rw [← hw9]; exact HI3.out.below (pw_below_drewN (Below.refl _ _) _)⟩
        clear hw9
        go_wp2
        exact bodyPost_ret (v := .tuple #[.string ⟨#[]⟩, .int .i64 0, .int .i64 z.e]) (by simp [results, Try.results44, go_sem]) rfl ⟨rfl, HI9.out.bl⟩
    · have hX3 := HX2.out
      rw [if_pos rfl] at hX3
      have HX3 := Aside0.mk hX3
      clear hX3
      have hr := HRES.out
      rw [HX3.out] at hr
      by_cases c1 : z.e = 0
      · have d2 : (z.e != 0) = false := by rw [c1]; rfl
        rw [if_pos c1] at hr
        injection hr with hr1 hr2
        injection hr2 with hr2 hr3
        subst hr1
        subst hr2
        subst hr3
        go_upto_region 7 with (go_at_call 72; (with_reducible refine (block_calls w g v1 s mx y _ HS.out HMX.out HO.out HOK.out HI.out).mono ?_); rw [HZ.out]; rintro e w3 ⟨v3, rfl, hi, hf⟩; have HI3 := Aside0.mk hi; have hc4 := hi.c4; clear hi hf)
        obtain ⟨A, c, hv3⟩ := Kd.R_slice HI3.out.row
        subst hv3
        have hc1 := HI3.out.c1
        have hc2 := HI3.out.c2
        have hzp := HA.out.ok.p0
        have hzq := HA.out.ok.p1
        have hss := HS.out
        have hw7 : wrap64 (z.p + 7) = z.p + 7 := wrap_in (by omega) (by omega)
        have hcv : ∀ n, (Go.convert 40 9 (.slice A z.o.length c)).run Try.prog (World.drewN w3 n) = Go.Result.ok (.string (strOfNums z.o)) (World.drewN w3 n) := fun n => Kd.C_string (P := Try.prog) Try.underlying40 Try.underlying5 Try.underlying9 (Kd.R_reads' (Kd.R_below HI3.out.row (pw_below_drewN (Below.refl _ _) n))).2.2
        have hdv : Int.tdiv (z.p + 7) 8 = (z.p + 7) / 8 := Int.tdiv_eq_ediv_of_nonneg (by omega)
        have hw8 : wrap64 ((z.p + 7) / 8) = (z.p + 7) / 8 := wrap_in (by omega) (by omega)
        have HDV := Aside0.mk hdv
        have HW8 := Aside0.mk hw8
        clear hss hdv hw8 hzp hzq
        go_quiet (fail)
        rw [HDV.out, HW8.out]
        generalize hw9 : World.drewN _ _ = w9
        have HI9 : Aside0 (ISt w g _ s mx z w9) := ⟨by rw [← hw9]; exact HI3.out.below (pw_below_drewN (Below.refl _ _) _)⟩
        clear hw9
        go_wp2
        exact bodyPost_ret (v := .tuple #[.string (strOfNums z.o), .int .i64 ((z.p + 7) / 8), .int .i64 0]) (by simp [results, Try.results44, go_sem]) rfl ⟨rfl, HI9.out.bl⟩
      · have d2 : (z.e != 0) = true := by simpa using c1
        rw [if_neg c1] at hr
        injection hr with hr1 hr2
        injection hr2 with hr2 hr3
        subst hr1
        subst hr2
        subst hr3
        go_upto_region 6 with (go_at_call 72; (with_reducible refine (block_calls w g v1 s mx y _ HS.out HMX.out HO.out HOK.out HI.out).mono ?_); rw [HZ.out]; rintro e w3 ⟨v3, rfl, hi, hf⟩; have HI3 := Aside0.mk hi; have hc4 := hi.c4; clear hi hf)
        go_quiet (fail)
        generalize hw9 : World.drewN _ _ = w9
        have HI9 : Aside0 (ISt w g v3 s mx z w9) := ⟨by rw [← hw9]; exact HI3.out.below (pw_below_drewN (Below.refl _ _) _)⟩
        clear hw9
        go_wp2
        exact bodyPost_ret (v := .tuple #[.string ⟨#[]⟩, .int .i64 0, .int .i64 z.e]) (by simp [results, Try.results44, go_sem]) rfl ⟨rfl, HI9.out.bl⟩
end Go.Proofs.Ytpbhkdamkbopkaa.Inf
namespace Go.Proofs.Ytpbhkdamkbopkaa.Wr2
open Go.RowKit Go.Proofs.Ytpbhkdamkbopkaa.Inf Go.Proofs.YtpbhkdamkbopkaaW.PrintWords Go.Proofs.YtpbhkdamkbopkaaW.PrintLast Go.Proofs.YtpbhkdamkbopkaaW.PrintMore
/-- inflate.Raw, in the form in which the other texts call it. -/
def inflate_Raw.f (a0 : ByteArray) (a1 : Int) : Option (ByteArray × Int × Int) := if a0.size ≤ 17592186044416 then some (raw a0 a1) else none
theorem inflate_Raw.calls (a0 : ByteArray) (a1 : Int) (r1 : ByteArray) (r2 : Int) (r3 : Int) (w : World) (h : inflate_Raw.f a0 a1 = some (r1, r2, r3)) :
    Calls Try.prog 44 #[.string a0, .int .i64 a1] w fun e w' => e = .returned (.tuple #[.string r1, .int .i64 r2, .int .i64 r3]) ∧ Below w.heap.size w w' := by
  unfold inflate_Raw.f at h
  by_cases h0 : a0.size ≤ 17592186044416
  · rw [if_pos h0] at h
    have e := Option.some.inj h
    have hh := raw_calls a0 a1 w h0
    rw [e] at hh
    exact hh
  · rw [if_neg h0] at h
    exact absurd h (by simp)
end Go.Proofs.Ytpbhkdamkbopkaa.Wr2
