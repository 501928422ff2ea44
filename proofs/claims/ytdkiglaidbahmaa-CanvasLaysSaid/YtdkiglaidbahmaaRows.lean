/-
  No cell of these rows narrows 'for every input' (looked for: loops, veiled, ifaces, maps, wideKeys, modest, calm, conditions, laid).
  DERIVED. THE GIVEN ROWS OF THIS SEAT. 6 by the template 'for every input the law returns true; each argument reads behind the call as it read before'; 0 by the template 'total and deterministic' (their statements: YtdkiglaidbahmaaTotals.lean).
  GIVEN WITH THE SEED: the statements are not yours to turn. If you find one false, say at which input.
  Laid BY PROGRAM, IN A SANDBOX (cutbox-rows.mjs): the forced cells as the released guide's own fill.sh prints them over the translation 3dd66ff9061a23f4… (all of the seat's roots in one cut). By AI agents, Wed Nov 11 2026. No macro, syntax, notation, axiom, sorry.
-/
import Derived.Test.YtdkiglaidbahmaaChecked
import GoSem.Claim
import GoSem.ClaimJoined
import GoSem.ClaimMapViews
import Derived.JoinedTies
import Derived.KernelRfl
namespace Go.Proofs.Ytdkiglaidbahmaa
/- THE CELL 'sum', in the pinned program and in every row, IS THE sha256 OF THE DUMP (.gsa) THAT YtdkiglaidbahmaaProg.lean LOADS. Nothing in Lean hashes anything: it is a label: what it is worth is what the hold of that sum in a sandbox is worth. -/
noncomputable def Try.pinned : Pinned := { name := "ytdkiglaidbahmaa", sum := "3dd66ff9061a23f4318110eda9d7ec0d91ecccd54917efc96dea9e3951918a3b", checked := Try.checked }
namespace Rows
def none {H : Type} : Left H := { results := [], args := [] }

/-- 'celluloidlaw21.CanvasNews': WHATEVER THE INPUT: true; the input reads as it did. -/
def canvasNewsSpec : ChangeSpec := { name := "canvasNews", fn := fun _ => fun
  | [d1, d2, d3, d4, d5] => { results := [.lit (.bool true)], args := [d1, d2, d3, d4, d5] }
  | _ => none }
def canvasNewsRow : OpenClaim := { program := "ytdkiglaidbahmaa", sum := "3dd66ff9061a23f4318110eda9d7ec0d91ecccd54917efc96dea9e3951918a3b", func := "celluloid/celluloidlaw21.CanvasNews", spec := "canvasNews", unfollowed := true, recurses := true, apart := false }
def CanvasNewsSaid : Prop := canvasNewsRow.holds Try.pinned (OpenSpec.ofChange canvasNewsSpec)

/-- ITS FALSE NEIGHBOUR: 'it returns false'. Refute it at one input. -/
def canvasNewsWrong : ChangeSpec := { name := "canvasNews", fn := fun _ => fun
  | [d1, d2, d3, d4, d5] => { results := [.lit (.bool false)], args := [d1, d2, d3, d4, d5] }
  | _ => none }
def CanvasNewsWrongFalsely : Prop := canvasNewsRow.holds Try.pinned (OpenSpec.ofChange canvasNewsWrong)

/-- 'celluloidlaw21.CanvasOver': WHATEVER THE INPUT: true; the input reads as it did. -/
def canvasOverSpec : ChangeSpec := { name := "canvasOver", fn := fun _ => fun
  | [d1, d2, d3] => { results := [.lit (.bool true)], args := [d1, d2, d3] }
  | _ => none }
def canvasOverRow : OpenClaim := { program := "ytdkiglaidbahmaa", sum := "3dd66ff9061a23f4318110eda9d7ec0d91ecccd54917efc96dea9e3951918a3b", func := "celluloid/celluloidlaw21.CanvasOver", spec := "canvasOver", unfollowed := true, recurses := true, apart := false }
def CanvasOverSaid : Prop := canvasOverRow.holds Try.pinned (OpenSpec.ofChange canvasOverSpec)

/-- ITS FALSE NEIGHBOUR: 'it returns false'. Refute it at one input. -/
def canvasOverWrong : ChangeSpec := { name := "canvasOver", fn := fun _ => fun
  | [d1, d2, d3] => { results := [.lit (.bool false)], args := [d1, d2, d3] }
  | _ => none }
def CanvasOverWrongFalsely : Prop := canvasOverRow.holds Try.pinned (OpenSpec.ofChange canvasOverWrong)

/-- 'celluloidlaw21.CanvasLays': WHATEVER THE INPUT: true; the input reads as it did. -/
def canvasLaysSpec : ChangeSpec := { name := "canvasLays", fn := fun _ => fun
  | [d1, d2, d3, d4, d5] => { results := [.lit (.bool true)], args := [d1, d2, d3, d4, d5] }
  | _ => none }
def canvasLaysRow : OpenClaim := { program := "ytdkiglaidbahmaa", sum := "3dd66ff9061a23f4318110eda9d7ec0d91ecccd54917efc96dea9e3951918a3b", func := "celluloid/celluloidlaw21.CanvasLays", spec := "canvasLays", unfollowed := true, recurses := true, apart := false }
def CanvasLaysSaid : Prop := canvasLaysRow.holds Try.pinned (OpenSpec.ofChange canvasLaysSpec)

/-- ITS FALSE NEIGHBOUR: 'it returns false'. Refute it at one input. -/
def canvasLaysWrong : ChangeSpec := { name := "canvasLays", fn := fun _ => fun
  | [d1, d2, d3, d4, d5] => { results := [.lit (.bool false)], args := [d1, d2, d3, d4, d5] }
  | _ => none }
def CanvasLaysWrongFalsely : Prop := canvasLaysRow.holds Try.pinned (OpenSpec.ofChange canvasLaysWrong)

/-- 'celluloidlaw21.CanvasFaint': WHATEVER THE INPUT: true; the input reads as it did. -/
def canvasFaintSpec : ChangeSpec := { name := "canvasFaint", fn := fun _ => fun
  | [d1, d2, d3] => { results := [.lit (.bool true)], args := [d1, d2, d3] }
  | _ => none }
def canvasFaintRow : OpenClaim := { program := "ytdkiglaidbahmaa", sum := "3dd66ff9061a23f4318110eda9d7ec0d91ecccd54917efc96dea9e3951918a3b", func := "celluloid/celluloidlaw21.CanvasFaint", spec := "canvasFaint", unfollowed := true, recurses := true, apart := false }
def CanvasFaintSaid : Prop := canvasFaintRow.holds Try.pinned (OpenSpec.ofChange canvasFaintSpec)

/-- ITS FALSE NEIGHBOUR: 'it returns false'. Refute it at one input. -/
def canvasFaintWrong : ChangeSpec := { name := "canvasFaint", fn := fun _ => fun
  | [d1, d2, d3] => { results := [.lit (.bool false)], args := [d1, d2, d3] }
  | _ => none }
def CanvasFaintWrongFalsely : Prop := canvasFaintRow.holds Try.pinned (OpenSpec.ofChange canvasFaintWrong)

/-- 'celluloidlaw21.CanvasOrder': WHATEVER THE INPUT: true; the input reads as it did. -/
def canvasOrderSpec : ChangeSpec := { name := "canvasOrder", fn := fun _ => fun
  | [d1, d2, d3] => { results := [.lit (.bool true)], args := [d1, d2, d3] }
  | _ => none }
def canvasOrderRow : OpenClaim := { program := "ytdkiglaidbahmaa", sum := "3dd66ff9061a23f4318110eda9d7ec0d91ecccd54917efc96dea9e3951918a3b", func := "celluloid/celluloidlaw21.CanvasOrder", spec := "canvasOrder", unfollowed := true, recurses := true, apart := false }
def CanvasOrderSaid : Prop := canvasOrderRow.holds Try.pinned (OpenSpec.ofChange canvasOrderSpec)

/-- ITS FALSE NEIGHBOUR: 'it returns false'. Refute it at one input. -/
def canvasOrderWrong : ChangeSpec := { name := "canvasOrder", fn := fun _ => fun
  | [d1, d2, d3] => { results := [.lit (.bool false)], args := [d1, d2, d3] }
  | _ => none }
def CanvasOrderWrongFalsely : Prop := canvasOrderRow.holds Try.pinned (OpenSpec.ofChange canvasOrderWrong)

/-- 'celluloidlaw21.CanvasMasks': WHATEVER THE INPUT: true; the input reads as it did. -/
def canvasMasksSpec : ChangeSpec := { name := "canvasMasks", fn := fun _ => fun
  | [d1, d2, d3] => { results := [.lit (.bool true)], args := [d1, d2, d3] }
  | _ => none }
def canvasMasksRow : OpenClaim := { program := "ytdkiglaidbahmaa", sum := "3dd66ff9061a23f4318110eda9d7ec0d91ecccd54917efc96dea9e3951918a3b", func := "celluloid/celluloidlaw21.CanvasMasks", spec := "canvasMasks", unfollowed := true, recurses := true, apart := false }
def CanvasMasksSaid : Prop := canvasMasksRow.holds Try.pinned (OpenSpec.ofChange canvasMasksSpec)

/-- ITS FALSE NEIGHBOUR: 'it returns false'. Refute it at one input. -/
def canvasMasksWrong : ChangeSpec := { name := "canvasMasks", fn := fun _ => fun
  | [d1, d2, d3] => { results := [.lit (.bool false)], args := [d1, d2, d3] }
  | _ => none }
def CanvasMasksWrongFalsely : Prop := canvasMasksRow.holds Try.pinned (OpenSpec.ofChange canvasMasksWrong)

/- THE SECOND FORM. 'bulk': how many values and letters a reading holds, each counted each time it is reached (what is shared counts as often as it is met; a slice's spare places count too). A statement '..UptoSaid' is the law's where the arguments, and the package variables that the reading takes, are together of bulk at most 1048576: NARROWER than '..Said'. Prove '..Said' where nothing that the law and all that it calls make is longer than what came in: it says more and counts as full. Else prove '..UptoSaid'. A law counts once. -/
mutual
def uptoBulk {H : Type} : DataW H → Nat
  | .lit (.string bytes) => bytes.length + 1
  | .lit _ => 1
  | .nil => 1
  | .ptr d => uptoBulk d + 1
  | .slice elems spare => uptoBulkAll elems + uptoBulkAll spare + 1
  | .agg parts => uptoBulkAll parts + 1
  | .iface _ d => uptoBulk d + 1
  | .map entries => uptoBulkEntries entries + 1
  | .held _ => 1
def uptoBulkAll {H : Type} : List (DataW H) → Nat
  | [] => 0
  | d :: r => uptoBulk d + uptoBulkAll r
def uptoBulkEntries {H : Type} : List (Lit × DataW H) → Nat
  | [] => 0
  | x :: r => uptoBulkEntry x + uptoBulkEntries r
def uptoBulkEntry {H : Type} : Lit × DataW H → Nat
  | (.string bytes, d) => bytes.length + uptoBulk d + 1
  | (_, d) => uptoBulk d + 1
 end
def uptoSmall : (H : Type) → List (DataW H) → Bool := fun _ ds => decide (uptoBulkAll ds ≤ 1048576)
def OpenSpec.upto (s : _root_.Go.ChangeSpec) : _root_.Go.OpenSpec := { _root_.Go.OpenSpec.ofChange s with cond := some uptoSmall }

/-- 'celluloidlaw21.CanvasNews', WHERE WHAT IT READS IS OF BULK AT MOST 1048576: true; the input reads as it did. -/
def canvasNewsUptoRow : OpenClaim := { program := "ytdkiglaidbahmaa", sum := "3dd66ff9061a23f4318110eda9d7ec0d91ecccd54917efc96dea9e3951918a3b", func := "celluloid/celluloidlaw21.CanvasNews", spec := "canvasNews", unfollowed := true, recurses := true, apart := false, narrowed := true }
def CanvasNewsUptoSaid : Prop := canvasNewsUptoRow.holds Try.pinned (OpenSpec.upto canvasNewsSpec)

/-- 'celluloidlaw21.CanvasOver', WHERE WHAT IT READS IS OF BULK AT MOST 1048576: true; the input reads as it did. -/
def canvasOverUptoRow : OpenClaim := { program := "ytdkiglaidbahmaa", sum := "3dd66ff9061a23f4318110eda9d7ec0d91ecccd54917efc96dea9e3951918a3b", func := "celluloid/celluloidlaw21.CanvasOver", spec := "canvasOver", unfollowed := true, recurses := true, apart := false, narrowed := true }
def CanvasOverUptoSaid : Prop := canvasOverUptoRow.holds Try.pinned (OpenSpec.upto canvasOverSpec)

/-- 'celluloidlaw21.CanvasLays', WHERE WHAT IT READS IS OF BULK AT MOST 1048576: true; the input reads as it did. -/
def canvasLaysUptoRow : OpenClaim := { program := "ytdkiglaidbahmaa", sum := "3dd66ff9061a23f4318110eda9d7ec0d91ecccd54917efc96dea9e3951918a3b", func := "celluloid/celluloidlaw21.CanvasLays", spec := "canvasLays", unfollowed := true, recurses := true, apart := false, narrowed := true }
def CanvasLaysUptoSaid : Prop := canvasLaysUptoRow.holds Try.pinned (OpenSpec.upto canvasLaysSpec)

/-- 'celluloidlaw21.CanvasFaint', WHERE WHAT IT READS IS OF BULK AT MOST 1048576: true; the input reads as it did. -/
def canvasFaintUptoRow : OpenClaim := { program := "ytdkiglaidbahmaa", sum := "3dd66ff9061a23f4318110eda9d7ec0d91ecccd54917efc96dea9e3951918a3b", func := "celluloid/celluloidlaw21.CanvasFaint", spec := "canvasFaint", unfollowed := true, recurses := true, apart := false, narrowed := true }
def CanvasFaintUptoSaid : Prop := canvasFaintUptoRow.holds Try.pinned (OpenSpec.upto canvasFaintSpec)

/-- 'celluloidlaw21.CanvasOrder', WHERE WHAT IT READS IS OF BULK AT MOST 1048576: true; the input reads as it did. -/
def canvasOrderUptoRow : OpenClaim := { program := "ytdkiglaidbahmaa", sum := "3dd66ff9061a23f4318110eda9d7ec0d91ecccd54917efc96dea9e3951918a3b", func := "celluloid/celluloidlaw21.CanvasOrder", spec := "canvasOrder", unfollowed := true, recurses := true, apart := false, narrowed := true }
def CanvasOrderUptoSaid : Prop := canvasOrderUptoRow.holds Try.pinned (OpenSpec.upto canvasOrderSpec)

/-- 'celluloidlaw21.CanvasMasks', WHERE WHAT IT READS IS OF BULK AT MOST 1048576: true; the input reads as it did. -/
def canvasMasksUptoRow : OpenClaim := { program := "ytdkiglaidbahmaa", sum := "3dd66ff9061a23f4318110eda9d7ec0d91ecccd54917efc96dea9e3951918a3b", func := "celluloid/celluloidlaw21.CanvasMasks", spec := "canvasMasks", unfollowed := true, recurses := true, apart := false, narrowed := true }
def CanvasMasksUptoSaid : Prop := canvasMasksUptoRow.holds Try.pinned (OpenSpec.upto canvasMasksSpec)

end Rows
end Go.Proofs.Ytdkiglaidbahmaa
