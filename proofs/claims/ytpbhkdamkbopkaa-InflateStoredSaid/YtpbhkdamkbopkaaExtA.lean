/- Contracts of the small library loops that huff.New leans on: is there a length that may not be? -/
import Derived.Test.YtpbhkdamkbopkaaPHuffBitsx1
namespace Go.Proofs.Ytpbhkdamkbopkaa.Ext
set_option linter.unusedSimpArgs false
set_option linter.unusedVariables false
open Go.RowKit Go.Proofs.YtpbhkdamkbopkaaW.PrintWords Go.Proofs.YtpbhkdamkbopkaaW.PrintLast Go.Proofs.YtpbhkdamkbopkaaW.PrintMore

/-- A length that may not be. -/
def badLen (n : Int) : Bool := decide (n < 0) || decide (15 < n)

theorem bad60 (n : Int) (w : World) (h : badLen n = true) : Calls Try.prog 60 #[.int .i64 n] w fun e w' => e = .returned (.bool true) ∧ w = w' := by
  by_cases h0 : n < 0
  · have h2 : decide (n < 0) = true := decide_eq_true h0
    clear h h0
    go_enter Try.func60, Try.ntmps60
    go_wp2
    go_ret
    exact ⟨by simp [h2], rfl⟩
  · have h1 : decide (15 < n) = true := by simp [badLen] at h; apply decide_eq_true; omega
    have h2 : decide (n < 0) = false := decide_eq_false h0
    clear h h0
    go_enter Try.func60, Try.ntmps60
    go_wp2
    go_ret
    exact ⟨by simp [h1, h2], rfl⟩
theorem good60 (n : Int) (w : World) (h : badLen n = false) : Calls Try.prog 60 #[.int .i64 n] w fun e w' => e = .returned (.bool false) ∧ w = w' := by
  have h1 : decide (15 < n) = false := by simp [badLen] at h; apply decide_eq_false; omega
  have h2 : decide (n < 0) = false := by simp [badLen] at h; apply decide_eq_false; omega
  clear h
  go_enter Try.func60, Try.ntmps60
  go_wp2
  go_ret
  exact ⟨by simp [h1, h2], rfl⟩

theorem index_none (A : Option Addr) (c : Nat) (l : List Int) (w : World) (hr : Kd.C (Kd.int .i64) w A l.length l) (h : ∀ i : Nat, i < l.length → badLen (rd l i) = false) :
    Calls Try.prog 88 #[.slice A l.length c, .func (.func 60) #[] #[]] w fun e w' => e = .returned (.int .i64 (-1)) ∧ w = w' := by
  have HR := Aside0.mk hr
  have HH := Aside0.mk h
  have hm := Kd.C_max hr
  clear hr h
  go_enter Try.func88, Try.ntmps88
  go_wp2
  go_loop [4, 8] (fun v4 v8 => ∃ k : Nat, k ≤ l.length ∧ v4 = .int .i64 0 ∧ v8 = .int .i64 k) (fun _ v8 => l.length - (intOf v8).toNat)
  case atStart => exact ⟨0, Nat.zero_le _, rfl, rfl⟩
  case round =>
    obtain ⟨k, hk, rfl, rfl⟩ := hrel
    by_cases hlt : k < l.length
    · obtain ⟨ad, ead, hx⟩ := Kd.at_int HR.out k (by omega) (by omega)
      cases ead
      rw [Int.toNat_natCast] at hx
      have H1 := Aside0.mk (HH.out k hlt)
      go_wp2_with (go_at_call 60; refine (good60 _ _ H1.out).mono ?_; rintro e w' ⟨rfl, rfl⟩)
      go_round
      case rel => exact ⟨k + 1, by omega, rfl, by go_num⟩
      case measure => simp [intOf]; omega
    · go_wp2
      go_ret
      exact ⟨rfl, rfl⟩

theorem index_some (A : Option Addr) (c : Nat) (l : List Int) (w : World) (hr : Kd.C (Kd.int .i64) w A l.length l) (m : Nat) (hm0 : m < l.length) (hm1 : badLen (rd l m) = true) (h : ∀ i : Nat, i < m → badLen (rd l i) = false) :
    Calls Try.prog 88 #[.slice A l.length c, .func (.func 60) #[] #[]] w fun e w' => e = .returned (.int .i64 m) ∧ w = w' := by
  have HR := Aside0.mk hr
  have HH := Aside0.mk h
  have HM := Aside0.mk hm1
  have hm := Kd.C_max hr
  clear hr h hm1
  go_enter Try.func88, Try.ntmps88
  go_wp2
  go_loop [4, 8] (fun v4 v8 => ∃ k : Nat, k ≤ m ∧ v4 = .int .i64 0 ∧ v8 = .int .i64 k) (fun _ v8 => l.length - (intOf v8).toNat)
  case atStart => exact ⟨0, Nat.zero_le _, rfl, rfl⟩
  case round =>
    obtain ⟨k, hk, rfl, rfl⟩ := hrel
    obtain ⟨ad, ead, hx⟩ := Kd.at_int HR.out k (by omega) (by omega)
    cases ead
    rw [Int.toNat_natCast] at hx
    have hkl : k < l.length := by omega
    by_cases hlt : k < m
    · have H1 := Aside0.mk (HH.out k hlt)
      go_wp2_with (go_at_call 60; refine (good60 _ _ H1.out).mono ?_; rintro e w' ⟨rfl, rfl⟩)
      go_round
      case rel => exact ⟨k + 1, by omega, rfl, by go_num⟩
      case measure => simp [intOf]; omega
    · obtain rfl : k = m := by omega
      go_wp2_with (go_at_call 60; refine (bad60 _ _ HM.out).mono ?_; rintro e w' ⟨rfl, rfl⟩)
      go_ret
      exact ⟨rfl, rfl⟩

theorem contains_no (A : Option Addr) (c : Nat) (l : List Int) (w : World) (hr : Kd.C (Kd.int .i64) w A l.length l) (h : ∀ i : Nat, i < l.length → badLen (rd l i) = false) :
    Calls Try.prog 59 #[.slice A l.length c, .func (.func 60) #[] #[]] w fun e w' => e = .returned (.bool false) ∧ w = w' := by
  have HR := Aside0.mk hr
  have HH := Aside0.mk h
  clear hr h
  go_enter Try.func59, Try.ntmps59
  go_wp2_with (go_at_call 88; refine (index_none A c l _ HR.out HH.out).mono ?_; rintro e w' ⟨rfl, rfl⟩)
  go_ret
  exact ⟨rfl, rfl⟩

theorem first_bad (l : List Int) (n : Nat) : (∀ i : Nat, i < n → badLen (rd l i) = false) ∨ ∃ m, m < n ∧ badLen (rd l m) = true ∧ ∀ i : Nat, i < m → badLen (rd l i) = false := by
  induction n with
  | zero => exact .inl fun i hi => absurd hi (Nat.not_lt_zero i)
  | succ n ih =>
    rcases ih with h | ⟨m, h0, h1, h2⟩
    · cases hb : badLen (rd l n) with
      | false =>
        refine .inl fun i hi => ?_
        rcases Nat.lt_or_ge i n with h' | h'
        · exact h i h'
        · obtain rfl : i = n := by omega
          exact hb
      | true => exact .inr ⟨n, by omega, hb, h⟩
    · exact .inr ⟨m, by omega, h1, h2⟩

theorem contains_yes (A : Option Addr) (c : Nat) (l : List Int) (w : World) (hr : Kd.C (Kd.int .i64) w A l.length l) (h : ¬ ∀ i : Nat, i < l.length → badLen (rd l i) = false) :
    Calls Try.prog 59 #[.slice A l.length c, .func (.func 60) #[] #[]] w fun e w' => e = .returned (.bool true) ∧ w = w' := by
  rcases first_bad l l.length with h' | ⟨m, h0, h1, h2⟩
  · exact absurd h' h
  have HR := Aside0.mk hr
  have H1 := Aside0.mk h1
  have H2 := Aside0.mk h2
  have hm := Kd.C_max hr
  clear hr h h1 h2
  go_enter Try.func59, Try.ntmps59
  go_wp2_with (go_at_call 88; refine (index_some A c l _ HR.out m h0 H1.out H2.out).mono ?_; rintro e w' ⟨rfl, rfl⟩)
  go_ret
  exact ⟨rfl, rfl⟩
end Go.Proofs.Ytpbhkdamkbopkaa.Ext
