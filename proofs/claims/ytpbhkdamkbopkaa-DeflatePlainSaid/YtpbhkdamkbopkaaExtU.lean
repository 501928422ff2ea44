/- The walk of deflate's writer.run: a length and a distance. -/
import Derived.Test.YtpbhkdamkbopkaaExtR0
import Derived.Test.YtpbhkdamkbopkaaGRunsx3
namespace Go.Proofs.Ytpbhkdamkbopkaa.Wr
set_option linter.unusedSimpArgs false
set_option linter.unusedVariables false
open Go.RowKit Go.Proofs.YtpbhkdamkbopkaaW.PrintWords Go.Proofs.YtpbhkdamkbopkaaW.PrintLast Go.Proofs.YtpbhkdamkbopkaaW.PrintMore
open Go.Proofs.Ytpbhkdamkbopkaa.GRuns (deflate_lengthOf.f deflate_lengthOf.calls deflate_distanceOf.f deflate_distanceOf.calls)

/-- The least length and the bits of a length symbol, by its number behind 257. -/
def lof (k : Nat) : Int × Int := (deflate_lengthOf.f (257 + (k : Int))).getD (0, 0)
/-- The same of a distance symbol. -/
def dof (k : Nat) : Int × Int := (deflate_distanceOf.f (k : Int)).getD (0, 0)
theorem lof_all : ∀ k : Nat, k < 28 → deflate_lengthOf.f (257 + (k : Int)) = some (lof k) ∧ 3 ≤ (lof k).1 ∧ (lof k).1 ≤ 258 ∧ 0 ≤ (lof k).2 ∧ (lof k).2 ≤ 5 := by decide +kernel
theorem dof_all : ∀ k : Nat, k < 30 → deflate_distanceOf.f (k : Int) = some (dof k) ∧ 1 ≤ (dof k).1 ∧ (dof k).1 ≤ 32768 ∧ 0 ≤ (dof k).2 ∧ (dof k).2 ≤ 13 := by decide +kernel
/-- The last symbol, among the first k, whose least length is no more than n. -/
def lf (n : Int) : Nat → Int × Int × Int
  | 0 => (257, 3, 0)
  | k + 1 => if (lof k).1 ≤ n then (257 + (k : Int), lof k) else lf n k
def df (n : Int) : Nat → Int × Int × Int
  | 0 => (0, 1, 0)
  | k + 1 => if (dof k).1 ≤ n then ((k : Int), dof k) else df n k
theorem lf_rng {n : Int} (hn : 3 ≤ n) : ∀ k, k ≤ 28 → 257 ≤ (lf n k).1 ∧ (lf n k).1 ≤ 284 ∧ (lf n k).2.1 ≤ n ∧ 3 ≤ (lf n k).2.1 ∧ 0 ≤ (lf n k).2.2 ∧ (lf n k).2.2 ≤ 5 := by
  intro k
  induction k with
  | zero => intro _; simp only [lf, df]; omega
  | succ k ih =>
    intro hk
    obtain ⟨_, h1, h2, h3, h4⟩ := lof_all k (by omega)
    unfold lf
    split
    · simp only
      omega
    · exact ih (by omega)
theorem df_rng {n : Int} (hn : 1 ≤ n) : ∀ k, k ≤ 30 → 0 ≤ (df n k).1 ∧ (df n k).1 ≤ 29 ∧ (df n k).2.1 ≤ n ∧ 1 ≤ (df n k).2.1 ∧ 0 ≤ (df n k).2.2 ∧ (df n k).2.2 ≤ 13 := by
  intro k
  induction k with
  | zero => intro _; simp only [lf, df]; omega
  | succ k ih =>
    intro hk
    obtain ⟨_, h1, h2, h3, h4⟩ := dof_all k (by omega)
    unfold df
    split
    · simp only
      omega
    · exact ih (by omega)
/-- The symbol of a length. -/
def lsym (n : Int) : Int × Int × Int := if n = 258 then (285, 258, 0) else lf n 28
def dsym (n : Int) : Int × Int × Int := df n 30
theorem lsym_rng {n : Int} (hn : 3 ≤ n) : 257 ≤ (lsym n).1 ∧ (lsym n).1 ≤ 285 ∧ (lsym n).2.1 ≤ n ∧ 3 ≤ (lsym n).2.1 ∧ 0 ≤ (lsym n).2.2 ∧ (lsym n).2.2 ≤ 5 := by
  unfold lsym
  split
  · simp only; omega
  · have := lf_rng hn 28 (Nat.le_refl _); omega
/-- A run's bits. -/
def rc (n far : Int) : List Int := sc (lsym n).1 ++ nb (n - (lsym n).2.1) (lsym n).2.2.toNat ++ cb (dsym far).1 5 ++ nb (far - (dsym far).2.1) (dsym far).2.2.toNat
theorem rc_bits (n far : Int) : Bits (rc n far) := (((sc_bits _).append (nb_bits _ _)).append (cb_bits _ _)).append (nb_bits _ _)
theorem Fro.draw {w w1 w2 : World} {g : Nat} {v v1 : Value} (h : Fro w g v w1 v1) (hd : Drawn0 w1 w2) : Fro w g v w2 v1 := by
  obtain ⟨n, rfl⟩ := hd.out
  exact ⟨keep_drewN h.keep n, h.own⟩

theorem bits_zero (w0 : World) (g : Nat) (v0 : Value) (B : List Int) (v : Int) (w : World) (h : WSt w0 g v0 (pk B) (fr B.length) w) (hB : Bits B) (hv0 : 0 ≤ v) (hv1 : v ≤ 1000000) (hl : B.length ≤ 1000000000) :
    Calls Try.prog 63 #[.pointer (some ⟨g, 0, none⟩), .int .i64 v, .int .i64 0] w fun e w' => ∃ v1, e = .returned (.tuple #[]) ∧ WSt w0 g v1 (pk (B ++ nb v 0)) (fr (B ++ nb v 0).length) w' ∧ Fro w g v0 w' v1 :=
  bits_calls w0 g v0 B v 0 w h hB hv0 hv1 (by decide) hl
theorem code_five (w0 : World) (g : Nat) (v0 : Value) (B : List Int) (v : Int) (w : World) (h : WSt w0 g v0 (pk B) (fr B.length) w) (hB : Bits B) (hv0 : 0 ≤ v) (hv1 : v ≤ 1000000) (hl : B.length ≤ 1000000000 - 16) :
    Calls Try.prog 90 #[.pointer (some ⟨g, 0, none⟩), .int .i64 v, .int .i64 5] w fun e w' => ∃ v1, e = .returned (.tuple #[]) ∧ WSt w0 g v1 (pk (B ++ cb v 5)) (fr (B ++ cb v 5).length) w' ∧ Fro w g v0 w' v1 :=
  code_calls w0 g v0 B v 5 w h hB hv0 hv1 (by decide) hl

set_option maxRecDepth 100000 in
set_option maxHeartbeats 2000000 in
theorem run_calls (w0 : World) (g : Nat) (v0 : Value) (B : List Int) (n far : Int) (w : World) (h : WSt w0 g v0 (pk B) (fr B.length) w) (hB : Bits B) (hn0 : 3 ≤ n) (hn1 : n ≤ 258) (hf0 : 1 ≤ far) (hf1 : far ≤ 32768) (hl : B.length ≤ 1000000000 - 100) :
    Calls Try.prog 65 #[.pointer (some ⟨g, 0, none⟩), .int .i64 n, .int .i64 far] w fun e w' => ∃ v1, e = .returned (.tuple #[]) ∧ WSt w0 g v1 (pk (B ++ rc n far)) (fr (B ++ rc n far).length) w' ∧ Fro w g v0 w' v1 := by
  have HH := Aside0.mk h
  have HB := Aside0.mk hB
  clear h hB
  go_enter Try.func65, Try.ntmps65
  go_wp2
  go_loopw [6, 7, 8, 9] (fun v6 v7 v8 v9 w' => ∃ (k : Nat) (s b m : Int), k ≤ 28 ∧ v6 = .int .i64 s ∧ v7 = .int .i64 b ∧ v8 = .int .i64 m ∧ v9 = .int .i64 (257 + (k : Int)) ∧ Aside0 (lf n k = (s, b, m)) ∧ Aside0 (WSt w0 g v0 (pk B) (fr B.length) w') ∧ Aside0 (Fro w g v0 w' v0)) (fun _ _ _ v9 _ => 28 - (intOf v9 - 257).toNat)
  case atStart => exact ⟨0, 257, 3, 0, Nat.zero_le _, rfl, rfl, rfl, rfl, ⟨rfl⟩, HH, ⟨Fro.refl _ _ _⟩⟩
  case round =>
    clear HH
    obtain ⟨k, s, b, m, hk, rfl, rfl, rfl, rfl, HL, HW, HF⟩ := hrel
    by_cases hlt : k < 28
    · have hdec : decide (257 + (k : Int) < 285) = true := decide_eq_true (by omega)
      obtain ⟨he, h1, h2, h3, h4⟩ := lof_all k hlt
      obtain ⟨p, hp⟩ : ∃ p, p = lof k := ⟨_, rfl⟩
      obtain ⟨b1, m1⟩ := p
      rw [← hp] at he h1 h2 h3 h4
      have HP := Aside0.mk hp
      have HE := Aside0.mk he
      clear hp he
      by_cases c : b1 ≤ n
      · have hc : decide (b1 ≤ n) = true := decide_eq_true c
        have HL2 : Aside0 (lf n (k + 1) = (257 + (k : Int), b1, m1)) := ⟨by show (if (lof k).1 ≤ n then (257 + (k : Int), lof k) else lf n k) = _; rw [← HP.out, if_pos c]⟩
        go_wp2_with (go_at_call 91; (with_reducible refine (deflate_lengthOf.calls (257 + (k : Int)) b1 m1 _ HE.out).mono ?_); rintro e w' ⟨rfl, hd⟩; have HD := Aside0.mk hd; clear hd)
        go_roundw
        case rel => exact ⟨k + 1, _, _, _, by omega, rfl, rfl, rfl, by go_num, HL2, ⟨HW.out.below HD.out.below⟩, ⟨HF.out.draw HD.out⟩⟩
        case measure => simp [intOf]; omega
      · have hc : decide (b1 ≤ n) = false := decide_eq_false c
        have HL2 : Aside0 (lf n (k + 1) = (s, b, m)) := ⟨by show (if (lof k).1 ≤ n then (257 + (k : Int), lof k) else lf n k) = _; rw [← HP.out, if_neg c]; exact HL.out⟩
        go_wp2_with (go_at_call 91; (with_reducible refine (deflate_lengthOf.calls (257 + (k : Int)) b1 m1 _ HE.out).mono ?_); rintro e w' ⟨rfl, hd⟩; have HD := Aside0.mk hd; clear hd)
        go_roundw
        case rel => exact ⟨k + 1, _, _, _, by omega, rfl, rfl, rfl, by go_num, HL2, ⟨HW.out.below HD.out.below⟩, ⟨HF.out.draw HD.out⟩⟩
        case measure => simp [intOf]; omega
    · have hdec : decide (257 + (k : Int) < 285) = false := decide_eq_false (by omega)
      obtain rfl : k = 28 := by omega
      have HN1 : Aside0 (B.length ≤ 1000000000 - 16) := ⟨by omega⟩
      obtain ⟨r1, r2, r3, r4, r5, r6⟩ := lsym_rng hn0
      by_cases c : n = 258
      focus
        have hc : (n == 258) = true := by rw [c]; rfl
        have HS : Aside0 (lsym n = (285, 258, 0)) := ⟨by unfold lsym; rw [if_pos c]⟩
        have N0 : Aside0 ((0 : Int) ≤ 285) := ⟨by decide⟩
        have N1 : Aside0 ((285 : Int) ≤ 300) := ⟨by decide⟩
        have N2 : Aside0 ((0 : Int) ≤ 0) := ⟨by decide⟩
        have N3 : Aside0 ((0 : Int) ≤ 1000000) := ⟨by decide⟩
        have N4 : Aside0 (Bits (B ++ sc 285)) := ⟨HB.out.append (sc_bits _)⟩
        have N5 : Aside0 ((B ++ sc 285).length ≤ 1000000000) := ⟨by have := sc_len 285; rw [List.length_append]; omega⟩
        clear HL
        go_wp2_with (first
          | (go_at_call 64; (with_reducible refine (symbol_calls w0 g _ B 285 _ HW.out HB.out N0.out N1.out HN1.out).mono ?_); rintro e w' ⟨v2, rfl, hw2, hf2⟩; have HW2 := Aside0.mk hw2; have HF2 := Aside0.mk (HF.out.trans hf2); clear hw2 hf2)
          | (go_at_call 63; (with_reducible refine (bits_zero w0 g _ (B ++ sc 285) 0 _ HW2.out N4.out N2.out N3.out N5.out).mono ?_); rintro e w' ⟨v3, rfl, hw2, hf2⟩; have HW3 := Aside0.mk hw2; have HF3 := Aside0.mk (HF2.out.trans hf2); clear hw2 hf2))
        obtain ⟨C, hC⟩ : ∃ C, C = (B ++ sc 285) ++ nb 0 0 := ⟨_, rfl⟩
        have HC : Aside0 (C = B ++ (sc (lsym n).1 ++ nb (n - (lsym n).2.1) (lsym n).2.2.toNat)) := ⟨by rw [hC, HS.out, List.append_assoc, c]; rfl⟩
        rw [← hC] at HW3
        clear hC HS N0 N1 N2 N3 N4 N5 hc c HW HF HW2 HF2
      rotate_left
      focus
        have hc : (n == 258) = false := beq_eq_false_iff_ne.2 c
        have HS : Aside0 (lsym n = (s, b, m)) := ⟨by unfold lsym; rw [if_neg c]; exact HL.out⟩
        rw [HS.out] at r1 r2 r3 r4 r5 r6
        simp only at r1 r2 r3 r4 r5 r6
        obtain ⟨mm, rfl⟩ : ∃ mm : Nat, m = (mm : Int) := ⟨m.toNat, by omega⟩
        have N0 : Aside0 (0 ≤ s) := ⟨by omega⟩
        have N1 : Aside0 (s ≤ 300) := ⟨by omega⟩
        have N2 : Aside0 (0 ≤ n - b) := ⟨by omega⟩
        have N3 : Aside0 (n - b ≤ 1000000) := ⟨by omega⟩
        have N4 : Aside0 (Bits (B ++ sc s)) := ⟨HB.out.append (sc_bits _)⟩
        have N5 : Aside0 ((B ++ sc s).length ≤ 1000000000) := ⟨by have := sc_len s; rw [List.length_append]; omega⟩
        have N6 : Aside0 (mm ≤ 16) := ⟨by omega⟩
        clear HL
        go_wp2_with (first
          | (go_at_call 64; (with_reducible refine (symbol_calls w0 g _ B s _ HW.out HB.out N0.out N1.out HN1.out).mono ?_); rintro e w' ⟨v2, rfl, hw2, hf2⟩; have HW2 := Aside0.mk hw2; have HF2 := Aside0.mk (HF.out.trans hf2); clear hw2 hf2)
          | (go_at_call 63; (with_reducible refine (bits_calls w0 g _ (B ++ sc s) (n - b) mm _ HW2.out N4.out N2.out N3.out N6.out N5.out).mono ?_); rintro e w' ⟨v3, rfl, hw2, hf2⟩; have HW3 := Aside0.mk hw2; have HF3 := Aside0.mk (HF2.out.trans hf2); clear hw2 hf2))
        obtain ⟨C, hC⟩ : ∃ C, C = (B ++ sc s) ++ nb (n - b) mm := ⟨_, rfl⟩
        have HC : Aside0 (C = B ++ (sc (lsym n).1 ++ nb (n - (lsym n).2.1) (lsym n).2.2.toNat)) := ⟨by rw [hC, HS.out, List.append_assoc]; rfl⟩
        rw [← hC] at HW3
        clear hC HS N0 N1 N2 N3 N4 N5 hc c HW HF HW2 HF2
      all_goals
        have HCB : Aside0 (Bits C ∧ C.length ≤ 1000000000 - 60) := ⟨by
          rw [HC.out]
          refine ⟨HB.out.append ((sc_bits _).append (nb_bits _ _)), ?_⟩
          have h1 := sc_len (lsym n).1
          have h2 := (lsym_rng hn0).2.2.2.2.2
          rw [List.length_append, List.length_append, nb_len]
          omega⟩
        go_loopw [6, 7, 8, 41] (fun v6 v7 v8 v9 w' => ∃ (k : Nat) (s b m : Int), k ≤ 30 ∧ v6 = .int .i64 s ∧ v7 = .int .i64 b ∧ v8 = .int .i64 m ∧ v9 = .int .i64 (k : Int) ∧ Aside0 (df far k = (s, b, m)) ∧ Aside0 (WSt w0 g v3 (pk C) (fr C.length) w') ∧ Aside0 (Fro w g v0 w' v3)) (fun _ _ _ v9 _ => 30 - (intOf v9).toNat)
        case atStart => exact ⟨0, 0, 1, 0, Nat.zero_le _, rfl, rfl, rfl, rfl, ⟨rfl⟩, HW3, HF3⟩
        case round =>
          clear HW3 HF3
          obtain ⟨k, s, b, m, hk, rfl, rfl, rfl, rfl, HL, HW, HF⟩ := hrel
          by_cases hlt2 : k < 30
          · have hdec2 : decide ((k : Int) < 30) = true := decide_eq_true (by omega)
            obtain ⟨he, h1, h2, h3, h4⟩ := dof_all k hlt2
            obtain ⟨p, hp⟩ : ∃ p, p = dof k := ⟨_, rfl⟩
            obtain ⟨b1, m1⟩ := p
            rw [← hp] at he h1 h2 h3 h4
            have HP := Aside0.mk hp
            have HE := Aside0.mk he
            clear hp he
            by_cases c : b1 ≤ far
            · have hc : decide (b1 ≤ far) = true := decide_eq_true c
              have HL2 : Aside0 (df far (k + 1) = ((k : Int), b1, m1)) := ⟨by show (if (dof k).1 ≤ far then ((k : Int), dof k) else df far k) = _; rw [← HP.out, if_pos c]⟩
              go_wp2_with (go_at_call 92; (with_reducible refine (deflate_distanceOf.calls (k : Int) b1 m1 _ HE.out).mono ?_); rintro e w' ⟨rfl, hd⟩; have HD := Aside0.mk hd; clear hd)
              go_roundw
              case rel => exact ⟨k + 1, _, _, _, by omega, rfl, rfl, rfl, by go_num, HL2, ⟨HW.out.below HD.out.below⟩, ⟨HF.out.draw HD.out⟩⟩
              case measure => simp [intOf]; omega
            · have hc : decide (b1 ≤ far) = false := decide_eq_false c
              have HL2 : Aside0 (df far (k + 1) = (s, b, m)) := ⟨by show (if (dof k).1 ≤ far then ((k : Int), dof k) else df far k) = _; rw [← HP.out, if_neg c]; exact HL.out⟩
              go_wp2_with (go_at_call 92; (with_reducible refine (deflate_distanceOf.calls (k : Int) b1 m1 _ HE.out).mono ?_); rintro e w' ⟨rfl, hd⟩; have HD := Aside0.mk hd; clear hd)
              go_roundw
              case rel => exact ⟨k + 1, _, _, _, by omega, rfl, rfl, rfl, by go_num, HL2, ⟨HW.out.below HD.out.below⟩, ⟨HF.out.draw HD.out⟩⟩
              case measure => simp [intOf]; omega
          · have hdec2 : decide ((k : Int) < 30) = false := decide_eq_false (by omega)
            obtain rfl : k = 30 := by omega
            obtain ⟨q1, q2, q3, q4, q5, q6⟩ := df_rng hf0 30 (Nat.le_refl _)
            rw [HL.out] at q1 q2 q3 q4 q5 q6
            simp only at q1 q2 q3 q4 q5 q6
            obtain ⟨mm, rfl⟩ : ∃ mm : Nat, m = (mm : Int) := ⟨m.toNat, by omega⟩
            have N1 : Aside0 (s ≤ 1000000) := ⟨by omega⟩
            have N2 : Aside0 (0 ≤ far - b) := ⟨by omega⟩
            have N3 : Aside0 (far - b ≤ 1000000) := ⟨by omega⟩
            have N4 : Aside0 (Bits (C ++ cb s 5)) := ⟨HCB.out.1.append (cb_bits _ _)⟩
            have N5 : Aside0 ((C ++ cb s 5).length ≤ 1000000000) := ⟨by have := HCB.out.2; rw [List.length_append, cb_len]; omega⟩
            have N6 : Aside0 (mm ≤ 16) := ⟨by omega⟩
            have N7 : Aside0 (C.length ≤ 1000000000 - 16) := ⟨by have := HCB.out.2; omega⟩
            have HF4 : Aside0 (B ++ rc n far = (C ++ cb s 5) ++ nb (far - b) mm) := ⟨by rw [HC.out]; unfold rc dsym; rw [HL.out]; simp only [List.append_assoc]; rfl⟩
            go_wp2_with (first
              | (go_at_call 90; (with_reducible refine (code_five w0 g _ C s _ HW.out HCB.out.1 q1 N1.out N7.out).mono ?_); rintro e w' ⟨v4, rfl, hw2, hf2⟩; have HW2 := Aside0.mk hw2; have HF2 := Aside0.mk (HF.out.trans hf2); clear hw2 hf2)
              | (go_at_call 63; (with_reducible refine (bits_calls w0 g _ (C ++ cb s 5) (far - b) mm _ HW2.out N4.out N2.out N3.out N6.out N5.out).mono ?_); rintro e w' ⟨v5, rfl, hw2, hf2⟩; have HW3 := Aside0.mk hw2; have HF3 := Aside0.mk (HF2.out.trans hf2); clear hw2 hf2))
            exact bodyPost_end (v := .tuple #[]) (by simp [results, Try.results65, go_sem]) rfl ⟨v5, rfl, by rw [HF4.out]; exact HW3.out, HF3.out⟩
end Go.Proofs.Ytpbhkdamkbopkaa.Wr
