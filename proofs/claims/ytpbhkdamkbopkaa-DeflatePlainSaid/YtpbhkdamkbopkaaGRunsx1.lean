-- Written by a program of this session (wip/tools/print2.py) for this claim.
import Derived.Test.YtpbhkdamkbopkaaGRunsx0
import Derived.ChangeKeysEq
namespace Go.Proofs.Ytpbhkdamkbopkaa.GRuns
open Go.RowKit Go.Proofs.YtpbhkdamkbopkaaW.PrintWords Go.Proofs.YtpbhkdamkbopkaaW.PrintLast Go.Proofs.YtpbhkdamkbopkaaW.PrintMore Go.Proofs.Ytpbhkdamkbopkaa.Wr0
attribute [local go_sem] max2_int min2_int max_two min_two max_three min_three max_four min_four   -- for this text's walks alone
set_option linter.unusedVariables false
set_option linter.unusedSimpArgs false

theorem eqA97 (d : Nat) (w : World) (x0 y0 : Int) (x1 y1 : Int) (x2 y2 : Int) :
    (Op.equalIn (d + 2) 97 (.agg #[.int .u8 x0, .int .u8 x1, .int .u8 x2]) (.agg #[.int .u8 y0, .int .u8 y1, .int .u8 y2])).run Try.prog w = .ok (x0 == y0 && (x1 == y1 && (x2 == y2))) w := by
  obtain ⟨i5, hi⟩ : ∃ i, Try.prog.info? 5 = some i := Option.isSome_iff_exists.mp (by kernel_rfl)
  have hz : Try.prog.cellsOf 5 = 1 := by kernel_rfl
  rw [run_equalIn_array w (d + 1) (n := 3) (e := 5) _ _ (by kernel_rfl) hi]
  have e1 : ∀ (a b : Int), (Op.equalIn (d + 1) 5 (.int .u8 a) (.int .u8 b)).run Try.prog w = .ok (a == b) w := fun a b => run_equalIn_int w d 5 .u8 .u8 a b (by kernel_rfl)
  have hp : ∀ (a0 a1 a2 : Int), (part 5 #[.int .u8 a0, .int .u8 a1, .int .u8 a2] 0).run Try.prog w = .ok (.int .u8 a0) w ∧ (part 5 #[.int .u8 a0, .int .u8 a1, .int .u8 a2] 1).run Try.prog w = .ok (.int .u8 a1) w ∧ (part 5 #[.int .u8 a0, .int .u8 a1, .int .u8 a2] 2).run Try.prog w = .ok (.int .u8 a2) w := by
    intro a0 a1 a2
    refine ⟨?_, ?_, ?_⟩ <;> go_simp
  simp only [hz, show List.range 3 = [0, 1, 2] from rfl, Op.eqItems, Sem.run_bind, Nat.zero_mul, Nat.one_mul, Nat.mul_one, (hp x0 x1 x2).1, (hp x0 x1 x2).2.1, (hp x0 x1 x2).2.2, (hp y0 y1 y2).1, (hp y0 y1 y2).2.1, (hp y0 y1 y2).2.2, Result.andThen_ok, e1]
  cases h0 : (x0 == y0) <;> cases h1 : (x1 == y1) <;> cases h2 : (x2 == y2) <;> simp [h0, h1, h2, Result.andThen_ok, (hp x0 x1 x2).2.1, (hp x0 x1 x2).2.2, (hp y0 y1 y2).2.1, (hp y0 y1 y2).2.2, e1]
end Go.Proofs.Ytpbhkdamkbopkaa.GRuns
