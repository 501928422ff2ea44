-- Written by a program of this session (wip/tools/print2.py) for this claim.
import Derived.Test.YtdkiglaidbahmaaProg
import Derived.Below
import Derived.Deep.Draws
import Derived.Deep.AppendLies
import Derived.Maps.AppendAt
import Derived.OwnWalk
import Derived.Laws.BytesArg
import Derived.Laws.MakeOwn
import Derived.Laws.OwnMore
import Derived.Deep.OwnRows
import Derived.Tactics
import Derived.Lib.ConvBytes
import Derived.Laws.Slices
import Derived.WalkKit
import Derived.KernelRfl
import Derived.RowKit3
import Derived.Deep.LoopGhost
import Derived.Deep.QuietTactic
import Derived.BigQuiet
import Derived.WideLaws
import Derived.Deep.DeepCutAuto
import Derived.Deep.CutBlock
import Derived.Deep.RegionHeld3
import Derived.Laws.Rows
import Derived.Lib.AppendStr
import Derived.ArgAppend
import Derived.Laws.IdiomCopy
import Derived.OrdersHeld
import Derived.Laws.BitsLemmas
import Derived.RowKit
import Derived.Test.YtdkiglaidbahmaaExtRight
import Derived.Test.YtdkiglaidbahmaaExtRepeat
import Derived.Test.YtdkiglaidbahmaaExtOver
import Derived.Test.YtdkiglaidbahmaaExtClone
import Derived.Test.YtdkiglaidbahmaaExtS
import Derived.Test.YtdkiglaidbahmaaPCanvasLaysx4
import Derived.Test.YtdkiglaidbahmaaWWords
import Derived.Test.YtdkiglaidbahmaaWLast
import Derived.Test.YtdkiglaidbahmaaWTab
import Derived.Test.YtdkiglaidbahmaaWFour
import Derived.Test.YtdkiglaidbahmaaWQPut
import Derived.Test.YtdkiglaidbahmaaWApart
import Derived.Test.YtdkiglaidbahmaaWArr
import Derived.Test.YtdkiglaidbahmaaWZeros
import Derived.Test.YtdkiglaidbahmaaWFoot
import Derived.Test.YtdkiglaidbahmaaWKept
import Derived.Test.YtdkiglaidbahmaaWShare
import Derived.Test.YtdkiglaidbahmaaWN
import Derived.Test.YtdkiglaidbahmaaWFootNe
import Derived.Test.YtdkiglaidbahmaaWAt
import Derived.Test.YtdkiglaidbahmaaWEqStruct
import Derived.Test.YtdkiglaidbahmaaWRepsOne
import Derived.Test.YtdkiglaidbahmaaWInv
import Derived.Test.YtdkiglaidbahmaaWInvWords
import Derived.Test.YtdkiglaidbahmaaWGuard
import Derived.Test.YtdkiglaidbahmaaWNEv
import Derived.Test.YtdkiglaidbahmaaWMore
namespace Go.Proofs.Ytdkiglaidbahmaa.GCan
open Go.RowKit Go.Proofs.YtdkiglaidbahmaaW.PrintWords Go.Proofs.YtdkiglaidbahmaaW.PrintLast Go.Proofs.YtdkiglaidbahmaaW.PrintMore Go.Proofs.Ytdkiglaidbahmaa.PCanvasLays Go.Proofs.Ytdkiglaidbahmaa.Ext
attribute [local go_sem] max2_int min2_int max_two min_two max_three min_three max_four min_four   -- for this text's walks alone
set_option linter.unusedVariables false
set_option linter.unusedSimpArgs false

theorem info23 : (Try.prog.info? 23).map (fun i => (i.zero, i.size, i.bytes)) = some (some (.agg #[(.int .i64 0), (.int .i64 0), (.int .i64 0), (.int .i64 0)]), 4, 32) := by kernel_rfl
theorem info50 : (Try.prog.info? 50).map (fun i => (i.zero, i.size, i.bytes)) = some (some (.agg #[(.int .i64 0), (.int .i64 0), (.int .i64 0), (.int .i64 0), (.int .i64 0)]), 5, 40) := by kernel_rfl
-- the values' own types

end Go.Proofs.Ytdkiglaidbahmaa.GCan
