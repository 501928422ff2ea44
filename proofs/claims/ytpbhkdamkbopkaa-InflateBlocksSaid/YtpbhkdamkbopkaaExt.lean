/- The functions of package huff that were walked by hand, in the form in which the other texts call them. -/
import Derived.Test.YtpbhkdamkbopkaaExtC
import Derived.Test.YtpbhkdamkbopkaaExtL
namespace Go.Proofs.Ytpbhkdamkbopkaa.Ext
set_option linter.unusedSimpArgs false
set_option linter.unusedVariables false
open Go.RowKit Go.Proofs.YtpbhkdamkbopkaaW.PrintWords Go.Proofs.YtpbhkdamkbopkaaW.PrintLast Go.Proofs.YtpbhkdamkbopkaaW.PrintMore

theorem tab16 (cs : List Int) (v : Value) (h : cs.length = 16) : tab cs v = #[.int .i64 (cs.getD 0 0), .int .i64 (cs.getD 1 0), .int .i64 (cs.getD 2 0), .int .i64 (cs.getD 3 0), .int .i64 (cs.getD 4 0), .int .i64 (cs.getD 5 0), .int .i64 (cs.getD 6 0), .int .i64 (cs.getD 7 0), .int .i64 (cs.getD 8 0), .int .i64 (cs.getD 9 0), .int .i64 (cs.getD 10 0), .int .i64 (cs.getD 11 0), .int .i64 (cs.getD 12 0), .int .i64 (cs.getD 13 0), .int .i64 (cs.getD 14 0), .int .i64 (cs.getD 15 0), v] := by
  match cs, h with
  | [a0, a1, a2, a3, a4, a5, a6, a7, a8, a9, a10, a11, a12, a13, a14, a15], _ => rfl
def huff_New.f (l0 : List Int) : Option (Int × Int × Int × Int × Int × Int × Int × Int × Int × Int × Int × Int × Int × Int × Int × Int × List Int × Int) := some ((newCs l0).getD 0 0, (newCs l0).getD 1 0, (newCs l0).getD 2 0, (newCs l0).getD 3 0, (newCs l0).getD 4 0, (newCs l0).getD 5 0, (newCs l0).getD 6 0, (newCs l0).getD 7 0, (newCs l0).getD 8 0, (newCs l0).getD 9 0, (newCs l0).getD 10 0, (newCs l0).getD 11 0, (newCs l0).getD 12 0, (newCs l0).getD 13 0, (newCs l0).getD 14 0, (newCs l0).getD 15 0, newSs l0, errOf l0)
theorem huff_New.calls (A0 : Option Addr) (c0 : Nat) (l0 : List Int) (r1 : Int) (r2 : Int) (r3 : Int) (r4 : Int) (r5 : Int) (r6 : Int) (r7 : Int) (r8 : Int) (r9 : Int) (r10 : Int) (r11 : Int) (r12 : Int) (r13 : Int) (r14 : Int) (r15 : Int) (r16 : Int) (r17 : List Int) (r18 : Int) (w : World) (hr0 : Kd.C (Kd.int .i64) w A0 l0.length l0) (hc0 : l0.length ≤ c0) (h : huff_New.f l0 = some (r1, r2, r3, r4, r5, r6, r7, r8, r9, r10, r11, r12, r13, r14, r15, r16, r17, r18)) :
    Calls Try.prog 26 #[.slice A0 l0.length c0] w fun e w' => ∃ v16_ : Value, e = .returned (.tuple #[.agg #[.int .i64 r1, .int .i64 r2, .int .i64 r3, .int .i64 r4, .int .i64 r5, .int .i64 r6, .int .i64 r7, .int .i64 r8, .int .i64 r9, .int .i64 r10, .int .i64 r11, .int .i64 r12, .int .i64 r13, .int .i64 r14, .int .i64 r15, .int .i64 r16, v16_], .int .i64 r18]) ∧ Kd.R (Kd.int .i64) 3 w' w.heap.size (fun _ => True) v16_ r17 ∧ Below w.heap.size w w' := by
  unfold huff_New.f at h
  simp only [Option.some.injEq, Prod.mk.injEq] at h
  obtain ⟨rfl, rfl, rfl, rfl, rfl, rfl, rfl, rfl, rfl, rfl, rfl, rfl, rfl, rfl, rfl, rfl, rfl, rfl⟩ := h
  refine (new_calls A0 c0 l0 w hr0).mono fun e w' hn => ?_
  obtain ⟨v, he, hv, hb⟩ := hn
  rw [tab16 _ _ (newCs_length l0)] at he
  exact ⟨v, he, hv, hb⟩

def huff_Codes.f (l0 : List Int) : Option (List Int × Int) := some (if errOf l0 = 0 then codesOf l0 else [], errOf l0)
theorem huff_Codes.calls (A0 : Option Addr) (c0 : Nat) (l0 : List Int) (r1 : List Int) (r2 : Int) (w : World) (hr0 : Kd.C (Kd.int .i64) w A0 l0.length l0) (hc0 : l0.length ≤ c0) (h : huff_Codes.f l0 = some (r1, r2)) :
    Calls Try.prog 27 #[.slice A0 l0.length c0] w fun e w' => ∃ v0_ : Value, e = .returned (.tuple #[v0_, .int .i64 r2]) ∧ Kd.R (Kd.int .i64) 3 w' w.heap.size (fun _ => True) v0_ r1 ∧ Below w.heap.size w w' := by
  unfold huff_Codes.f at h
  simp only [Option.some.injEq, Prod.mk.injEq] at h
  obtain ⟨rfl, rfl⟩ := h
  exact codes_calls A0 c0 l0 w hr0

def huff_Next.f (a0_0 : Int) (a0_1 : Int) (a0_2 : Int) (a0_3 : Int) (a0_4 : Int) (a0_5 : Int) (a0_6 : Int) (a0_7 : Int) (a0_8 : Int) (a0_9 : Int) (a0_10 : Int) (a0_11 : Int) (a0_12 : Int) (a0_13 : Int) (a0_14 : Int) (a0_15 : Int) (l0_16 : List Int) (a1 : ByteArray) (a2 : Int) : Option (Int × Int × Int) := nextOf [a0_0, a0_1, a0_2, a0_3, a0_4, a0_5, a0_6, a0_7, a0_8, a0_9, a0_10, a0_11, a0_12, a0_13, a0_14, a0_15] l0_16 a1 a2
theorem huff_Next.calls (a0_0 : Int) (a0_1 : Int) (a0_2 : Int) (a0_3 : Int) (a0_4 : Int) (a0_5 : Int) (a0_6 : Int) (a0_7 : Int) (a0_8 : Int) (a0_9 : Int) (a0_10 : Int) (a0_11 : Int) (a0_12 : Int) (a0_13 : Int) (a0_14 : Int) (a0_15 : Int) (A0_16 : Option Addr) (c0_16 : Nat) (l0_16 : List Int) (a1 : ByteArray) (a2 : Int) (r1 : Int) (r2 : Int) (r3 : Int) (w : World) (hr0_16 : Kd.C (Kd.int .i64) w A0_16 l0_16.length l0_16) (hc0_16 : l0_16.length ≤ c0_16) (h : huff_Next.f a0_0 a0_1 a0_2 a0_3 a0_4 a0_5 a0_6 a0_7 a0_8 a0_9 a0_10 a0_11 a0_12 a0_13 a0_14 a0_15 l0_16 a1 a2 = some (r1, r2, r3)) :
    Calls Try.prog 30 #[.agg #[.int .i64 a0_0, .int .i64 a0_1, .int .i64 a0_2, .int .i64 a0_3, .int .i64 a0_4, .int .i64 a0_5, .int .i64 a0_6, .int .i64 a0_7, .int .i64 a0_8, .int .i64 a0_9, .int .i64 a0_10, .int .i64 a0_11, .int .i64 a0_12, .int .i64 a0_13, .int .i64 a0_14, .int .i64 a0_15, .slice A0_16 l0_16.length c0_16], .string a1, .int .i64 a2] w fun e w' => e = .returned (.tuple #[.int .i64 r1, .int .i64 r2, .int .i64 r3]) ∧ Below w.heap.size w w' := by
  have := next_calls A0_16 c0_16 [a0_0, a0_1, a0_2, a0_3, a0_4, a0_5, a0_6, a0_7, a0_8, a0_9, a0_10, a0_11, a0_12, a0_13, a0_14, a0_15] l0_16 a1 a2 w hr0_16 rfl r1 r2 r3 h
  rw [tab16 _ _ rfl] at this
  exact this
end Go.Proofs.Ytpbhkdamkbopkaa.Ext
