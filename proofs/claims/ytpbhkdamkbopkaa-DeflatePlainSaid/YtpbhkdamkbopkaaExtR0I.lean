/- deflate.Raw of no bytes, in the form in which the other texts call it. -/
import Derived.Test.YtpbhkdamkbopkaaExtR0
namespace Go.Proofs.Ytpbhkdamkbopkaa.Wr0
open Go.RowKit Go.Proofs.Ytpbhkdamkbopkaa.Wr Go.Proofs.YtpbhkdamkbopkaaW.PrintWords Go.Proofs.YtpbhkdamkbopkaaW.PrintLast Go.Proofs.YtpbhkdamkbopkaaW.PrintMore
def deflate_Raw.f (a0 : ByteArray) : Option (ByteArray × Int) := if a0.size = 0 then some (strOfNums [3, 0], 0) else none
theorem deflate_Raw.calls (a0 : ByteArray) (r1 : ByteArray) (r2 : Int) (w : World) (h : deflate_Raw.f a0 = some (r1, r2)) :
    Calls Try.prog 39 #[.string a0] w fun e w' => e = .returned (.tuple #[.string r1, .int .i64 r2]) ∧ Below w.heap.size w w' := by
  unfold deflate_Raw.f at h
  by_cases h0 : a0.size = 0
  · rw [if_pos h0] at h
    simp only [Option.some.injEq, Prod.mk.injEq] at h
    obtain ⟨rfl, rfl⟩ := h
    obtain ⟨d⟩ := a0
    have e : d = #[] := Array.eq_empty_of_size_eq_zero h0
    subst e
    exact raw0_calls w
  · rw [if_neg h0] at h; cases h
end Go.Proofs.Ytpbhkdamkbopkaa.Wr0
