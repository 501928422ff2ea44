/- The walk of the law's ref: a canvas as the document's is the same canvas. -/
import Derived.Test.YtdkiglaidbahmaaExtL
namespace Go.Proofs.Ytdkiglaidbahmaa.Ext
set_option linter.unusedSimpArgs false
set_option linter.unusedVariables false
open Go.RowKit Go.Proofs.Ytdkiglaidbahmaa.PCanvasLays Go.Proofs.YtdkiglaidbahmaaW.PrintWords Go.Proofs.YtdkiglaidbahmaaW.PrintLast Go.Proofs.YtdkiglaidbahmaaW.PrintMore
theorem ref_same (a0 a1 : Int) (A : Option Addr) (n c : Nat) (w : World) :
    Calls Try.prog 21 #[.agg #[.int .i64 a0, .int .i64 a1, .slice A n c]] w fun e w' => e = .returned (.agg #[.int .i64 a0, .int .i64 a1, .slice A n c]) ∧ Below w.heap.size w w' := by
  go_enter Try.func21, Try.ntmps21
  go_wp2
  refine bodyPost_ret (results_cell_row rfl _ _ (w.heap.size + 1) 46 #[.int .i64 a0, .int .i64 a1, .slice A n c] (0, 0) _ rfl (by simpa using blk_new (w.alloc (Obj.cells #[Value.int IntKind.i64 a0, Value.int IntKind.i64 a1, Value.slice A n c] 26)) (Obj.cells #[Value.int IntKind.i64 a0, Value.int IntKind.i64 a1, Value.slice A n c] 46)) Try.underlying46 rfl (by kernel_rfl)) rfl ⟨rfl, ?_⟩
  exact below_alloc (below_alloc (Below.refl _ _) _) _
end Go.Proofs.Ytdkiglaidbahmaa.Ext
