/- The walks of deflate's writer: a code, a symbol of the fixed code. -/
import Derived.Test.YtpbhkdamkbopkaaExtW
namespace Go.Proofs.Ytpbhkdamkbopkaa.Wr
set_option linter.unusedSimpArgs false
set_option linter.unusedVariables false
open Go.RowKit Go.Proofs.YtpbhkdamkbopkaaW.PrintWords Go.Proofs.YtpbhkdamkbopkaaW.PrintLast Go.Proofs.YtpbhkdamkbopkaaW.PrintMore

/-- A code's bits, the highest first. -/
def cb (v : Int) (n : Nat) : List Int := (List.range n).map fun j => bit v (n - 1 - j)
theorem cb_len (v : Int) (n : Nat) : (cb v n).length = n := by unfold cb; simp
theorem cb_bits (v : Int) (n : Nat) : Bits (cb v n) := fun b hb => by
  obtain ⟨i, _, rfl⟩ := List.mem_map.1 hb
  exact bit_rng v _
theorem cb_take (v : Int) {n i : Nat} (h : i + 1 ≤ n) : (cb v n).take (n - i) = (cb v n).take (n - (i + 1)) ++ [bit v i] := by
  have hl := cb_len v n
  rw [show n - i = n - (i + 1) + 1 by omega, List.take_succ_eq_append_getElem (by omega)]
  congr 2
  unfold cb
  simp
  congr 1
  omega
theorem Bits.take {B : List Int} (h : Bits B) (k : Nat) : Bits (B.take k) := fun b hb => h b (List.mem_of_mem_take hb)

theorem bits_one (w0 : World) (g : Nat) (v0 : Value) (B : List Int) (b : Int) (w : World) (h : WSt w0 g v0 (pk B) (fr B.length) w) (hB : Bits B) (hb : 0 ≤ b ∧ b ≤ 1) (hl : B.length ≤ 1000000000) :
    Calls Try.prog 63 #[.pointer (some ⟨g, 0, none⟩), .int .i64 b, .int .i64 1] w fun e w' => ∃ v1, e = .returned (.tuple #[]) ∧ WSt w0 g v1 (pk (B ++ [b])) (fr (B ++ [b]).length) w' ∧ Fro w g v0 w' v1 := by
  have := bits_calls w0 g v0 B b 1 w h hB hb.1 (by omega) (by decide) hl
  have e : nb b 1 = [b] := by
    unfold nb bit
    simp
    omega
  rw [e] at this
  exact this

set_option maxHeartbeats 1000000 in
theorem code_calls (w0 : World) (g : Nat) (v0 : Value) (B : List Int) (v : Int) (n : Nat) (w : World) (h : WSt w0 g v0 (pk B) (fr B.length) w) (hB : Bits B) (hv0 : 0 ≤ v) (hv1 : v ≤ 1000000) (hn : n ≤ 16) (hl : B.length ≤ 1000000000 - 16) :
    Calls Try.prog 90 #[.pointer (some ⟨g, 0, none⟩), .int .i64 v, .int .i64 n] w fun e w' => ∃ v1, e = .returned (.tuple #[]) ∧ WSt w0 g v1 (pk (B ++ cb v n)) (fr (B ++ cb v n).length) w' ∧ Fro w g v0 w' v1 := by
  have HH := Aside0.mk h
  have HB := Aside0.mk hB
  clear h hB
  go_enter Try.func90, Try.ntmps90
  go_wp2
  go_loopw [6] (fun v6 w' => ∃ (r : Nat) (v1 : Value), r ≤ n ∧ v6 = .int .i64 ((r : Int) - 1) ∧ Aside0 (WSt w0 g v1 (pk (B ++ (cb v n).take (n - r))) (fr (B ++ (cb v n).take (n - r)).length) w') ∧ Aside0 (Fro w g v0 w' v1)) (fun v6 _ => (intOf v6 + 1).toNat)
  case atStart => exact ⟨n, v0, Nat.le_refl _, rfl, ⟨by simpa using HH.out⟩, ⟨Fro.refl _ _ _⟩⟩
  case round =>
    clear HH
    obtain ⟨r, v1, hr, rfl, HW, HF⟩ := hrel
    cases r with
    | zero =>
      rw [show (((0 : Nat) : Int) - 1) = -1 from rfl]
      go_wp2
      have hx := HW.out
      rw [Nat.sub_zero, List.take_of_length_le (by rw [cb_len]; exact Nat.le_refl _)] at hx
      exact bodyPost_end (v := .tuple #[]) (by simp [results, Try.results90, go_sem]) rfl ⟨v1, rfl, hx, HF.out⟩
    | succ i =>
      rw [show (((i + 1 : Nat) : Int) - 1) = (i : Int) by omega]
      have hd0 : 0 ≤ v / 2 ^ i := Int.ediv_nonneg hv0 (Int.le_of_lt (Int.pow_pos (by decide)))
      have hd1 : v / 2 ^ i ≤ v := Int.ediv_le_self _ hv0
      have hm : Go.bits .and .i64 (v / 2 ^ i) 1 = bit v i := bits_mask .i64 40 (by decide) (fun n h₀ h₁ => by rw [IntKind.wrap_i64]; omega) 1 (by decide) _ hd0 (by omega)
      have hk0 : (0 : Int) ≤ (i : Int) := Int.natCast_nonneg i
      clear hd0 hd1
      obtain ⟨C, hC⟩ : ∃ C, C = B ++ (cb v n).take (n - (i + 1)) := ⟨_, rfl⟩
      have HC : Aside0 (Bits C) := ⟨by rw [hC]; exact HB.out.append ((cb_bits _ _).take _)⟩
      have HN : Aside0 (B ++ (cb v n).take (n - i) = C ++ [bit v i]) := ⟨by rw [cb_take v (by omega), hC, List.append_assoc]⟩
      have hcl : C.length ≤ 1000000000 := by
        rw [hC, List.length_append, List.length_take, cb_len]; omega
      rw [← hC] at HW
      clear hC
      go_wp2_with (go_at_call 63; refine (bits_one w0 g v1 C (bit v i) _ HW.out HC.out (bit_rng v i) hcl).mono ?_; rintro e w' ⟨v2, rfl, hw2, hf2⟩; have HW2 := Aside0.mk hw2; have HF2 := Aside0.mk hf2; clear hw2 hf2)
      go_roundw
      case rel => exact ⟨i, v2, by omega, rfl, ⟨by rw [HN.out]; exact HW2.out⟩, ⟨HF.out.trans HF2.out⟩⟩
      case measure => simp [intOf]
/-- A symbol's bits, by the fixed code. -/
def sc (s : Int) : List Int := if s < 144 then cb (48 + s) 8 else if s < 256 then cb (400 + s - 144) 9 else if s < 280 then cb (s - 256) 7 else cb (192 + s - 280) 8
theorem sc_bits (s : Int) : Bits (sc s) := by unfold sc; (repeat' split) <;> exact cb_bits _ _
theorem sc_len (s : Int) : (sc s).length ≤ 9 := by unfold sc; (repeat' split) <;> rw [cb_len] <;> decide

theorem symbol_calls (w0 : World) (g : Nat) (v0 : Value) (B : List Int) (s : Int) (w : World) (h : WSt w0 g v0 (pk B) (fr B.length) w) (hB : Bits B) (hs0 : 0 ≤ s) (hs1 : s ≤ 300) (hl : B.length ≤ 1000000000 - 16) :
    Calls Try.prog 64 #[.pointer (some ⟨g, 0, none⟩), .int .i64 s] w fun e w' => ∃ v1, e = .returned (.tuple #[]) ∧ WSt w0 g v1 (pk (B ++ sc s)) (fr (B ++ sc s).length) w' ∧ Fro w g v0 w' v1 := by
  have HH := Aside0.mk h
  have HB := Aside0.mk hB
  clear h hB
  by_cases c1 : s < 144
  · have d1 : decide (s < 144) = true := decide_eq_true c1
    have HE : Aside0 (sc s = cb (48 + s) 8) := ⟨by unfold sc; rw [if_pos c1]⟩
    go_enter Try.func64, Try.ntmps64
    go_wp2_with (go_at_call 90; refine (code_calls w0 g v0 B (48 + s) 8 _ HH.out HB.out (by omega) (by omega) (by decide) hl).mono ?_; rintro e w' ⟨v2, rfl, hw2, hf2⟩; have HW2 := Aside0.mk hw2; have HF2 := Aside0.mk hf2; clear hw2 hf2)
    exact bodyPost_end (v := .tuple #[]) (by simp [results, Try.results64, go_sem]) rfl ⟨v2, rfl, by rw [HE.out]; exact HW2.out, HF2.out⟩
  have d1 : decide (s < 144) = false := decide_eq_false c1
  by_cases c2 : s < 256
  · have d2 : decide (s < 256) = true := decide_eq_true c2
    have HE : Aside0 (sc s = cb (400 + s - 144) 9) := ⟨by unfold sc; rw [if_neg c1, if_pos c2]⟩
    go_enter Try.func64, Try.ntmps64
    go_wp2_with (go_at_call 90; refine (code_calls w0 g v0 B (400 + s - 144) 9 _ HH.out HB.out (by omega) (by omega) (by decide) hl).mono ?_; rintro e w' ⟨v2, rfl, hw2, hf2⟩; have HW2 := Aside0.mk hw2; have HF2 := Aside0.mk hf2; clear hw2 hf2)
    exact bodyPost_end (v := .tuple #[]) (by simp [results, Try.results64, go_sem]) rfl ⟨v2, rfl, by rw [HE.out]; exact HW2.out, HF2.out⟩
  have d2 : decide (s < 256) = false := decide_eq_false c2
  by_cases c3 : s < 280
  · have d3 : decide (s < 280) = true := decide_eq_true c3
    have HE : Aside0 (sc s = cb (s - 256) 7) := ⟨by unfold sc; rw [if_neg c1, if_neg c2, if_pos c3]⟩
    go_enter Try.func64, Try.ntmps64
    go_wp2_with (go_at_call 90; refine (code_calls w0 g v0 B (s - 256) 7 _ HH.out HB.out (by omega) (by omega) (by decide) hl).mono ?_; rintro e w' ⟨v2, rfl, hw2, hf2⟩; have HW2 := Aside0.mk hw2; have HF2 := Aside0.mk hf2; clear hw2 hf2)
    exact bodyPost_end (v := .tuple #[]) (by simp [results, Try.results64, go_sem]) rfl ⟨v2, rfl, by rw [HE.out]; exact HW2.out, HF2.out⟩
  have d3 : decide (s < 280) = false := decide_eq_false c3
  have HE : Aside0 (sc s = cb (192 + s - 280) 8) := ⟨by unfold sc; rw [if_neg c1, if_neg c2, if_neg c3]⟩
  go_enter Try.func64, Try.ntmps64
  go_wp2_with (go_at_call 90; refine (code_calls w0 g v0 B (192 + s - 280) 8 _ HH.out HB.out (by omega) (by omega) (by decide) hl).mono ?_; rintro e w' ⟨v2, rfl, hw2, hf2⟩; have HW2 := Aside0.mk hw2; have HF2 := Aside0.mk hf2; clear hw2 hf2)
  exact bodyPost_end (v := .tuple #[]) (by simp [results, Try.results64, go_sem]) rfl ⟨v2, rfl, by rw [HE.out]; exact HW2.out, HF2.out⟩
end Go.Proofs.Ytpbhkdamkbopkaa.Wr
