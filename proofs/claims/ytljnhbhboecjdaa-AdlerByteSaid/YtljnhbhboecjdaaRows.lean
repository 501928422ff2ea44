/-
  No cell of these rows narrows 'for every input' (looked for: loops, veiled, ifaces, maps, wideKeys, modest, calm, conditions, laid).
  DERIVED. THE GIVEN ROWS OF THIS SEAT. 5 by the template 'for every input the law returns true; each argument reads behind the call as it read before'; 0 by the template 'total and deterministic' (their statements: YtljnhbhboecjdaaTotals.lean).
  GIVEN WITH THE SEED: the statements are not yours to turn. If you find one false, say at which input.
  Laid BY PROGRAM, IN A SANDBOX (cutbox-rows.mjs): the forced cells as the released guide's own fill.sh prints them over the translation ebde600d44339a8a… (all of the seat's roots in one cut). By AI agents, Wed Nov 11 2026. No macro, syntax, notation, axiom, sorry.
-/
import Derived.Test.YtljnhbhboecjdaaChecked
import GoSem.Claim
import GoSem.ClaimJoined
import GoSem.ClaimMapViews
import Derived.JoinedTies
import Derived.KernelRfl
namespace Go.Proofs.Ytljnhbhboecjdaa
/- THE CELL 'sum', in the pinned program and in every row, IS THE sha256 OF THE DUMP (.gsa) THAT YtljnhbhboecjdaaProg.lean LOADS. Nothing in Lean hashes anything: it is a label: what it is worth is what the hold of that sum in a sandbox is worth. -/
noncomputable def Try.pinned : Pinned := { name := "ytljnhbhboecjdaa", sum := "ebde600d44339a8aea7ab58213a01da1271d02129463daabecf77b32d2188db2", checked := Try.checked }
namespace Rows
def none {H : Type} : Left H := { results := [], args := [] }

/-- 'celluloidlaw03.AdlerSums': WHATEVER THE INPUT: true; the input reads as it did. -/
def adlerSumsSpec : ChangeSpec := { name := "adlerSums", fn := fun _ => fun
  | [d1, d2] => { results := [.lit (.bool true)], args := [d1, d2] }
  | _ => none }
def adlerSumsRow : OpenClaim := { program := "ytljnhbhboecjdaa", sum := "ebde600d44339a8aea7ab58213a01da1271d02129463daabecf77b32d2188db2", func := "celluloid/celluloidlaw03.AdlerSums", spec := "adlerSums", apart := false }
def AdlerSumsSaid : Prop := adlerSumsRow.holds Try.pinned (OpenSpec.ofChange adlerSumsSpec)

/-- ITS FALSE NEIGHBOUR: 'it returns false'. Refute it at one input. -/
def adlerSumsWrong : ChangeSpec := { name := "adlerSums", fn := fun _ => fun
  | [d1, d2] => { results := [.lit (.bool false)], args := [d1, d2] }
  | _ => none }
def AdlerSumsWrongFalsely : Prop := adlerSumsRow.holds Try.pinned (OpenSpec.ofChange adlerSumsWrong)

/-- 'celluloidlaw03.AdlerGoes': WHATEVER THE INPUT: true; the input reads as it did. -/
def adlerGoesSpec : ChangeSpec := { name := "adlerGoes", fn := fun _ => fun
  | [d1, d2] => { results := [.lit (.bool true)], args := [d1, d2] }
  | _ => none }
def adlerGoesRow : OpenClaim := { program := "ytljnhbhboecjdaa", sum := "ebde600d44339a8aea7ab58213a01da1271d02129463daabecf77b32d2188db2", func := "celluloid/celluloidlaw03.AdlerGoes", spec := "adlerGoes", apart := false }
def AdlerGoesSaid : Prop := adlerGoesRow.holds Try.pinned (OpenSpec.ofChange adlerGoesSpec)

/-- ITS FALSE NEIGHBOUR: 'it returns false'. Refute it at one input. -/
def adlerGoesWrong : ChangeSpec := { name := "adlerGoes", fn := fun _ => fun
  | [d1, d2] => { results := [.lit (.bool false)], args := [d1, d2] }
  | _ => none }
def AdlerGoesWrongFalsely : Prop := adlerGoesRow.holds Try.pinned (OpenSpec.ofChange adlerGoesWrong)

/-- 'celluloidlaw03.AdlerByte': WHATEVER THE INPUT: true; the input reads as it did. -/
def adlerByteSpec : ChangeSpec := { name := "adlerByte", fn := fun _ => fun
  | [d1, d2] => { results := [.lit (.bool true)], args := [d1, d2] }
  | _ => none }
def adlerByteRow : OpenClaim := { program := "ytljnhbhboecjdaa", sum := "ebde600d44339a8aea7ab58213a01da1271d02129463daabecf77b32d2188db2", func := "celluloid/celluloidlaw03.AdlerByte", spec := "adlerByte", apart := false }
def AdlerByteSaid : Prop := adlerByteRow.holds Try.pinned (OpenSpec.ofChange adlerByteSpec)

/-- ITS FALSE NEIGHBOUR: 'it returns false'. Refute it at one input. -/
def adlerByteWrong : ChangeSpec := { name := "adlerByte", fn := fun _ => fun
  | [d1, d2] => { results := [.lit (.bool false)], args := [d1, d2] }
  | _ => none }
def AdlerByteWrongFalsely : Prop := adlerByteRow.holds Try.pinned (OpenSpec.ofChange adlerByteWrong)

/-- 'celluloidlaw03.AdlerJoins': WHATEVER THE INPUT: true; the input reads as it did. -/
def adlerJoinsSpec : ChangeSpec := { name := "adlerJoins", fn := fun _ => fun
  | [d1, d2] => { results := [.lit (.bool true)], args := [d1, d2] }
  | _ => none }
def adlerJoinsRow : OpenClaim := { program := "ytljnhbhboecjdaa", sum := "ebde600d44339a8aea7ab58213a01da1271d02129463daabecf77b32d2188db2", func := "celluloid/celluloidlaw03.AdlerJoins", spec := "adlerJoins", apart := false }
def AdlerJoinsSaid : Prop := adlerJoinsRow.holds Try.pinned (OpenSpec.ofChange adlerJoinsSpec)

/-- ITS FALSE NEIGHBOUR: 'it returns false'. Refute it at one input. -/
def adlerJoinsWrong : ChangeSpec := { name := "adlerJoins", fn := fun _ => fun
  | [d1, d2] => { results := [.lit (.bool false)], args := [d1, d2] }
  | _ => none }
def AdlerJoinsWrongFalsely : Prop := adlerJoinsRow.holds Try.pinned (OpenSpec.ofChange adlerJoinsWrong)

/-- 'celluloidlaw03.AdlerParts': WHATEVER THE INPUT: true; the input reads as it did. -/
def adlerPartsSpec : ChangeSpec := { name := "adlerParts", fn := fun _ => fun
  | [d1, d2] => { results := [.lit (.bool true)], args := [d1, d2] }
  | _ => none }
def adlerPartsRow : OpenClaim := { program := "ytljnhbhboecjdaa", sum := "ebde600d44339a8aea7ab58213a01da1271d02129463daabecf77b32d2188db2", func := "celluloid/celluloidlaw03.AdlerParts", spec := "adlerParts", apart := false }
def AdlerPartsSaid : Prop := adlerPartsRow.holds Try.pinned (OpenSpec.ofChange adlerPartsSpec)

/-- ITS FALSE NEIGHBOUR: 'it returns false'. Refute it at one input. -/
def adlerPartsWrong : ChangeSpec := { name := "adlerParts", fn := fun _ => fun
  | [d1, d2] => { results := [.lit (.bool false)], args := [d1, d2] }
  | _ => none }
def AdlerPartsWrongFalsely : Prop := adlerPartsRow.holds Try.pinned (OpenSpec.ofChange adlerPartsWrong)

/- THE SECOND FORM. 'bulk': how many values and letters a reading holds, each counted each time it is reached (what is shared counts as often as it is met; a slice's spare places count too). A statement '..UptoSaid' is the law's where the arguments, and the package variables that the reading takes, are together of bulk at most 1048576: NARROWER than '..Said'. Prove '..Said' where nothing that the law and all that it calls make is longer than what came in: it says more and counts as full. Else prove '..UptoSaid'. A law counts once. -/
mutual
def uptoBulk {H : Type} : DataW H → Nat
  | .lit (.string bytes) => bytes.length + 1
  | .lit _ => 1
  | .nil => 1
  | .ptr d => uptoBulk d + 1
  | .slice elems spare => uptoBulkAll elems + uptoBulkAll spare + 1
  | .agg parts => uptoBulkAll parts + 1
  | .iface _ d => uptoBulk d + 1
  | .map entries => uptoBulkEntries entries + 1
  | .held _ => 1
def uptoBulkAll {H : Type} : List (DataW H) → Nat
  | [] => 0
  | d :: r => uptoBulk d + uptoBulkAll r
def uptoBulkEntries {H : Type} : List (Lit × DataW H) → Nat
  | [] => 0
  | x :: r => uptoBulkEntry x + uptoBulkEntries r
def uptoBulkEntry {H : Type} : Lit × DataW H → Nat
  | (.string bytes, d) => bytes.length + uptoBulk d + 1
  | (_, d) => uptoBulk d + 1
 end
def uptoSmall : (H : Type) → List (DataW H) → Bool := fun _ ds => decide (uptoBulkAll ds ≤ 1048576)
def OpenSpec.upto (s : _root_.Go.ChangeSpec) : _root_.Go.OpenSpec := { _root_.Go.OpenSpec.ofChange s with cond := some uptoSmall }

/-- 'celluloidlaw03.AdlerSums', WHERE WHAT IT READS IS OF BULK AT MOST 1048576: true; the input reads as it did. -/
def adlerSumsUptoRow : OpenClaim := { program := "ytljnhbhboecjdaa", sum := "ebde600d44339a8aea7ab58213a01da1271d02129463daabecf77b32d2188db2", func := "celluloid/celluloidlaw03.AdlerSums", spec := "adlerSums", apart := false, narrowed := true }
def AdlerSumsUptoSaid : Prop := adlerSumsUptoRow.holds Try.pinned (OpenSpec.upto adlerSumsSpec)

/-- 'celluloidlaw03.AdlerGoes', WHERE WHAT IT READS IS OF BULK AT MOST 1048576: true; the input reads as it did. -/
def adlerGoesUptoRow : OpenClaim := { program := "ytljnhbhboecjdaa", sum := "ebde600d44339a8aea7ab58213a01da1271d02129463daabecf77b32d2188db2", func := "celluloid/celluloidlaw03.AdlerGoes", spec := "adlerGoes", apart := false, narrowed := true }
def AdlerGoesUptoSaid : Prop := adlerGoesUptoRow.holds Try.pinned (OpenSpec.upto adlerGoesSpec)

/-- 'celluloidlaw03.AdlerByte', WHERE WHAT IT READS IS OF BULK AT MOST 1048576: true; the input reads as it did. -/
def adlerByteUptoRow : OpenClaim := { program := "ytljnhbhboecjdaa", sum := "ebde600d44339a8aea7ab58213a01da1271d02129463daabecf77b32d2188db2", func := "celluloid/celluloidlaw03.AdlerByte", spec := "adlerByte", apart := false, narrowed := true }
def AdlerByteUptoSaid : Prop := adlerByteUptoRow.holds Try.pinned (OpenSpec.upto adlerByteSpec)

/-- 'celluloidlaw03.AdlerJoins', WHERE WHAT IT READS IS OF BULK AT MOST 1048576: true; the input reads as it did. -/
def adlerJoinsUptoRow : OpenClaim := { program := "ytljnhbhboecjdaa", sum := "ebde600d44339a8aea7ab58213a01da1271d02129463daabecf77b32d2188db2", func := "celluloid/celluloidlaw03.AdlerJoins", spec := "adlerJoins", apart := false, narrowed := true }
def AdlerJoinsUptoSaid : Prop := adlerJoinsUptoRow.holds Try.pinned (OpenSpec.upto adlerJoinsSpec)

/-- 'celluloidlaw03.AdlerParts', WHERE WHAT IT READS IS OF BULK AT MOST 1048576: true; the input reads as it did. -/
def adlerPartsUptoRow : OpenClaim := { program := "ytljnhbhboecjdaa", sum := "ebde600d44339a8aea7ab58213a01da1271d02129463daabecf77b32d2188db2", func := "celluloid/celluloidlaw03.AdlerParts", spec := "adlerParts", apart := false, narrowed := true }
def AdlerPartsUptoSaid : Prop := adlerPartsUptoRow.holds Try.pinned (OpenSpec.upto adlerPartsSpec)

end Rows
end Go.Proofs.Ytljnhbhboecjdaa
