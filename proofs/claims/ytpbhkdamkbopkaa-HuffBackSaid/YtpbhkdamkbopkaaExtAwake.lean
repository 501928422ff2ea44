/- The fixed answer of the statements on codes is true. -/
import Derived.Test.YtpbhkdamkbopkaaGAwake04x1
namespace Go.Proofs.Ytpbhkdamkbopkaa.ExtAwake
open Go.RowKit Go.Proofs.Ytpbhkdamkbopkaa.Ext Go.Proofs.YtpbhkdamkbopkaaW.PrintWords Go.Proofs.YtpbhkdamkbopkaaW.PrintLast Go.Proofs.YtpbhkdamkbopkaaW.PrintMore
theorem true04 : GAwake04.celluloidlaw04_awake.f = some true := by decide +kernel
def celluloidlaw04_awake.f : Option Bool := some true
theorem celluloidlaw04_awake.calls (r : Bool) (w : World) (h : celluloidlaw04_awake.f = some r) : Calls Try.prog 25 #[] w fun e w' => e = .returned (.bool r) ∧ Below w.heap.size w w' := by
  obtain rfl : true = r := Option.some.inj h
  exact GAwake04.celluloidlaw04_awake.calls true w true04 ⟨rfl⟩
end Go.Proofs.Ytpbhkdamkbopkaa.ExtAwake
