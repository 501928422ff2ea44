-- Written by a program of this session (wip/tools/print2.py) for this claim.
import Derived.Test.YtpbhkdamkbopkaaProg
import Derived.Below
import Derived.Deep.Draws
import Derived.Deep.AppendLies
import Derived.Maps.AppendAt
import Derived.OwnWalk
import Derived.Laws.BytesArg
import Derived.Laws.MakeOwn
import Derived.Laws.OwnMore
import Derived.Deep.OwnRows
import Derived.Tactics
import Derived.Lib.ConvBytes
import Derived.Laws.Slices
import Derived.WalkKit
import Derived.KernelRfl
import Derived.RowKit3
import Derived.Deep.LoopGhost
import Derived.Deep.QuietTactic
import Derived.BigQuiet
import Derived.WideLaws
import Derived.Deep.DeepCutAuto
import Derived.Deep.CutBlock
import Derived.Deep.RegionHeld3
import Derived.Laws.Rows
import Derived.Lib.AppendStr
import Derived.ArgAppend
import Derived.Laws.IdiomCopy
import Derived.OrdersHeld
import Derived.Laws.BitsLemmas
import Derived.RowKit
import Derived.Test.YtpbhkdamkbopkaaExtI12
import Derived.Test.YtpbhkdamkbopkaaGEndsx1
import Derived.Test.YtpbhkdamkbopkaaWWords
import Derived.Test.YtpbhkdamkbopkaaWLast
import Derived.Test.YtpbhkdamkbopkaaWTab
import Derived.Test.YtpbhkdamkbopkaaWFour
import Derived.Test.YtpbhkdamkbopkaaWQPut
import Derived.Test.YtpbhkdamkbopkaaWApart
import Derived.Test.YtpbhkdamkbopkaaWArr
import Derived.Test.YtpbhkdamkbopkaaWZeros
import Derived.Test.YtpbhkdamkbopkaaWFoot
import Derived.Test.YtpbhkdamkbopkaaWKept
import Derived.Test.YtpbhkdamkbopkaaWShare
import Derived.Test.YtpbhkdamkbopkaaWN
import Derived.Test.YtpbhkdamkbopkaaWFootNe
import Derived.Test.YtpbhkdamkbopkaaWAt
import Derived.Test.YtpbhkdamkbopkaaWEqStruct
import Derived.Test.YtpbhkdamkbopkaaWRepsOne
import Derived.Test.YtpbhkdamkbopkaaWInv
import Derived.Test.YtpbhkdamkbopkaaWInvWords
import Derived.Test.YtpbhkdamkbopkaaWGuard
import Derived.Test.YtpbhkdamkbopkaaWNEv
import Derived.Test.YtpbhkdamkbopkaaWMore
namespace Go.Proofs.Ytpbhkdamkbopkaa.GBlks
open Go.RowKit Go.Proofs.YtpbhkdamkbopkaaW.PrintWords Go.Proofs.YtpbhkdamkbopkaaW.PrintLast Go.Proofs.YtpbhkdamkbopkaaW.PrintMore Go.Proofs.Ytpbhkdamkbopkaa.Wr2 Go.Proofs.Ytpbhkdamkbopkaa.GEnds
attribute [local go_sem] max2_int min2_int max_two min_two max_three min_three max_four min_four   -- for this text's walks alone
set_option linter.unusedVariables false
set_option linter.unusedSimpArgs false



def errW : Option Int → Value
  | none => .nilIface
  | some c => .iface 0 (.int .i64 c)
theorem errW_none : errW none = .nilIface := rfl
theorem errW_some (c : Int) : errW (some c) = .iface 0 (.int .i64 c) := rfl

theorem info5 : (Try.prog.info? 5).map (fun i => (i.zero, i.size, i.bytes)) = some (some (.int .u8 0), 1, 1) := by kernel_rfl
-- the values' own types

end Go.Proofs.Ytpbhkdamkbopkaa.GBlks
