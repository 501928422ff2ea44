/- deflate.Raw, in the form in which the other texts call it. -/
import Derived.Test.YtpbhkdamkbopkaaExtY
namespace Go.Proofs.Ytpbhkdamkbopkaa.Wr1
open Go.RowKit Go.Proofs.Ytpbhkdamkbopkaa.Wr Go.Proofs.YtpbhkdamkbopkaaW.PrintWords Go.Proofs.YtpbhkdamkbopkaaW.PrintLast Go.Proofs.YtpbhkdamkbopkaaW.PrintMore
set_option maxRecDepth 100000 in
theorem raw_long (s : ByteArray) (hs : 262144 < s.size) (w : World) : Calls Try.prog 39 #[.string s] w fun e w' => e = .returned (.tuple #[.string ⟨#[]⟩, .int .i64 7]) ∧ Below w.heap.size w w' := by
  have hbig : decide ((s.size : Int) > 262144) = true := decide_eq_true (by omega)
  have HB := Below.refl w.heap.size w
  go_enter Try.func39, Try.ntmps39
  go_wp2
  go_ret2
  exact ⟨rfl, HB⟩
def deflate_Raw.f (a0 : ByteArray) : Option (ByteArray × Int) := if a0.size ≤ 262144 then some (strOfNums (pk (RB a0)), 0) else some (⟨#[]⟩, 7)
theorem deflate_Raw.calls (a0 : ByteArray) (r1 : ByteArray) (r2 : Int) (w : World) (h : deflate_Raw.f a0 = some (r1, r2)) :
    Calls Try.prog 39 #[.string a0] w fun e w' => e = .returned (.tuple #[.string r1, .int .i64 r2]) ∧ Below w.heap.size w w' := by
  unfold deflate_Raw.f at h
  by_cases h0 : a0.size ≤ 262144
  · rw [if_pos h0] at h
    simp only [Option.some.injEq, Prod.mk.injEq] at h
    obtain ⟨rfl, rfl⟩ := h
    exact raw_calls a0 h0 w
  · rw [if_neg h0] at h
    simp only [Option.some.injEq, Prod.mk.injEq] at h
    obtain ⟨rfl, rfl⟩ := h
    exact raw_long a0 (by omega) w
end Go.Proofs.Ytpbhkdamkbopkaa.Wr1
