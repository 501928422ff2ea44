/-
  No cell of these rows narrows 'for every input' (looked for: loops, veiled, ifaces, maps, wideKeys, modest, calm, conditions, laid).
  DERIVED. THE GIVEN ROWS OF THIS SEAT. 22 by the template 'for every input the law returns true; each argument reads behind the call as it read before'; 0 by the template 'total and deterministic' (their statements: YtpbhkdamkbopkaaTotals.lean).
  GIVEN WITH THE SEED: the statements are not yours to turn. If you find one false, say at which input.
  Laid BY PROGRAM, IN A SANDBOX (cutbox-rows.mjs): the forced cells as the released guide's own fill.sh prints them over the translation 27b79db47abe332c… (all of the seat's roots in one cut). By AI agents, Wed Nov 11 2026. No macro, syntax, notation, axiom, sorry.
-/
import Derived.Test.YtpbhkdamkbopkaaChecked
import GoSem.Claim
import GoSem.ClaimJoined
import GoSem.ClaimMapViews
import Derived.JoinedTies
import Derived.KernelRfl
namespace Go.Proofs.Ytpbhkdamkbopkaa
/- THE CELL 'sum', in the pinned program and in every row, IS THE sha256 OF THE DUMP (.gsa) THAT YtpbhkdamkbopkaaProg.lean LOADS. Nothing in Lean hashes anything: it is a label: what it is worth is what the hold of that sum in a sandbox is worth. -/
noncomputable def Try.pinned : Pinned := { name := "ytpbhkdamkbopkaa", sum := "27b79db47abe332c41978544dfd9a41a4cdf96091f83c4172596447ccc3da950", checked := Try.checked }
namespace Rows
def none {H : Type} : Left H := { results := [], args := [] }

/-- 'celluloidlaw04.HuffCodes': WHATEVER THE INPUT: true; the input reads as it did. -/
def huffCodesSpec : ChangeSpec := { name := "huffCodes", fn := fun _ => fun
  | [d] => { results := [.lit (.bool true)], args := [d] }
  | _ => none }
def huffCodesRow : OpenClaim := { program := "ytpbhkdamkbopkaa", sum := "27b79db47abe332c41978544dfd9a41a4cdf96091f83c4172596447ccc3da950", func := "celluloid/celluloidlaw04.HuffCodes", spec := "huffCodes", unfollowed := true, recurses := true, plainKeys := false, apart := false }
def HuffCodesSaid : Prop := huffCodesRow.holds Try.pinned (OpenSpec.ofChange huffCodesSpec)

/-- ITS FALSE NEIGHBOUR: 'it returns false'. Refute it at one input. -/
def huffCodesWrong : ChangeSpec := { name := "huffCodes", fn := fun _ => fun
  | [d] => { results := [.lit (.bool false)], args := [d] }
  | _ => none }
def HuffCodesWrongFalsely : Prop := huffCodesRow.holds Try.pinned (OpenSpec.ofChange huffCodesWrong)

/-- 'celluloidlaw04.HuffReads': WHATEVER THE INPUT: true; the input reads as it did. -/
def huffReadsSpec : ChangeSpec := { name := "huffReads", fn := fun _ => fun
  | [d1, d2, d3] => { results := [.lit (.bool true)], args := [d1, d2, d3] }
  | _ => none }
def huffReadsRow : OpenClaim := { program := "ytpbhkdamkbopkaa", sum := "27b79db47abe332c41978544dfd9a41a4cdf96091f83c4172596447ccc3da950", func := "celluloid/celluloidlaw04.HuffReads", spec := "huffReads", unfollowed := true, recurses := true, plainKeys := false, apart := false }
def HuffReadsSaid : Prop := huffReadsRow.holds Try.pinned (OpenSpec.ofChange huffReadsSpec)

/-- ITS FALSE NEIGHBOUR: 'it returns false'. Refute it at one input. -/
def huffReadsWrong : ChangeSpec := { name := "huffReads", fn := fun _ => fun
  | [d1, d2, d3] => { results := [.lit (.bool false)], args := [d1, d2, d3] }
  | _ => none }
def HuffReadsWrongFalsely : Prop := huffReadsRow.holds Try.pinned (OpenSpec.ofChange huffReadsWrong)

/-- 'celluloidlaw04.HuffBack': WHATEVER THE INPUT: true; the input reads as it did. -/
def huffBackSpec : ChangeSpec := { name := "huffBack", fn := fun _ => fun
  | [d1, d2, d3] => { results := [.lit (.bool true)], args := [d1, d2, d3] }
  | _ => none }
def huffBackRow : OpenClaim := { program := "ytpbhkdamkbopkaa", sum := "27b79db47abe332c41978544dfd9a41a4cdf96091f83c4172596447ccc3da950", func := "celluloid/celluloidlaw04.HuffBack", spec := "huffBack", unfollowed := true, recurses := true, plainKeys := false, apart := false }
def HuffBackSaid : Prop := huffBackRow.holds Try.pinned (OpenSpec.ofChange huffBackSpec)

/-- ITS FALSE NEIGHBOUR: 'it returns false'. Refute it at one input. -/
def huffBackWrong : ChangeSpec := { name := "huffBack", fn := fun _ => fun
  | [d1, d2, d3] => { results := [.lit (.bool false)], args := [d1, d2, d3] }
  | _ => none }
def HuffBackWrongFalsely : Prop := huffBackRow.holds Try.pinned (OpenSpec.ofChange huffBackWrong)

/-- 'celluloidlaw04.HuffFull': WHATEVER THE INPUT: true; the input reads as it did. -/
def huffFullSpec : ChangeSpec := { name := "huffFull", fn := fun _ => fun
  | [d1, d2] => { results := [.lit (.bool true)], args := [d1, d2] }
  | _ => none }
def huffFullRow : OpenClaim := { program := "ytpbhkdamkbopkaa", sum := "27b79db47abe332c41978544dfd9a41a4cdf96091f83c4172596447ccc3da950", func := "celluloid/celluloidlaw04.HuffFull", spec := "huffFull", unfollowed := true, recurses := true, plainKeys := false, apart := false }
def HuffFullSaid : Prop := huffFullRow.holds Try.pinned (OpenSpec.ofChange huffFullSpec)

/-- ITS FALSE NEIGHBOUR: 'it returns false'. Refute it at one input. -/
def huffFullWrong : ChangeSpec := { name := "huffFull", fn := fun _ => fun
  | [d1, d2] => { results := [.lit (.bool false)], args := [d1, d2] }
  | _ => none }
def HuffFullWrongFalsely : Prop := huffFullRow.holds Try.pinned (OpenSpec.ofChange huffFullWrong)

/-- 'celluloidlaw04.HuffBits': WHATEVER THE INPUT: true; the input reads as it did. -/
def huffBitsSpec : ChangeSpec := { name := "huffBits", fn := fun _ => fun
  | [d1, d2, d3] => { results := [.lit (.bool true)], args := [d1, d2, d3] }
  | _ => none }
def huffBitsRow : OpenClaim := { program := "ytpbhkdamkbopkaa", sum := "27b79db47abe332c41978544dfd9a41a4cdf96091f83c4172596447ccc3da950", func := "celluloid/celluloidlaw04.HuffBits", spec := "huffBits", unfollowed := true, recurses := true, plainKeys := false, apart := false }
def HuffBitsSaid : Prop := huffBitsRow.holds Try.pinned (OpenSpec.ofChange huffBitsSpec)

/-- ITS FALSE NEIGHBOUR: 'it returns false'. Refute it at one input. -/
def huffBitsWrong : ChangeSpec := { name := "huffBits", fn := fun _ => fun
  | [d1, d2, d3] => { results := [.lit (.bool false)], args := [d1, d2, d3] }
  | _ => none }
def HuffBitsWrongFalsely : Prop := huffBitsRow.holds Try.pinned (OpenSpec.ofChange huffBitsWrong)

/-- 'celluloidlaw06.DeflateRuns': WHATEVER THE INPUT: true; the input reads as it did. -/
def deflateRunsSpec : ChangeSpec := { name := "deflateRuns", fn := fun _ => fun
  | [d1, d2] => { results := [.lit (.bool true)], args := [d1, d2] }
  | _ => none }
def deflateRunsRow : OpenClaim := { program := "ytpbhkdamkbopkaa", sum := "27b79db47abe332c41978544dfd9a41a4cdf96091f83c4172596447ccc3da950", func := "celluloid/celluloidlaw06.DeflateRuns", spec := "deflateRuns", plainKeys := false, apart := false }
def DeflateRunsSaid : Prop := deflateRunsRow.holds Try.pinned (OpenSpec.ofChange deflateRunsSpec)

/-- ITS FALSE NEIGHBOUR: 'it returns false'. Refute it at one input. -/
def deflateRunsWrong : ChangeSpec := { name := "deflateRuns", fn := fun _ => fun
  | [d1, d2] => { results := [.lit (.bool false)], args := [d1, d2] }
  | _ => none }
def DeflateRunsWrongFalsely : Prop := deflateRunsRow.holds Try.pinned (OpenSpec.ofChange deflateRunsWrong)

/-- 'celluloidlaw06.DeflateFinds': WHATEVER THE INPUT: true; the input reads as it did. -/
def deflateFindsSpec : ChangeSpec := { name := "deflateFinds", fn := fun _ => fun
  | [d1, d2, d3] => { results := [.lit (.bool true)], args := [d1, d2, d3] }
  | _ => none }
def deflateFindsRow : OpenClaim := { program := "ytpbhkdamkbopkaa", sum := "27b79db47abe332c41978544dfd9a41a4cdf96091f83c4172596447ccc3da950", func := "celluloid/celluloidlaw06.DeflateFinds", spec := "deflateFinds", plainKeys := false, apart := false }
def DeflateFindsSaid : Prop := deflateFindsRow.holds Try.pinned (OpenSpec.ofChange deflateFindsSpec)

/-- ITS FALSE NEIGHBOUR: 'it returns false'. Refute it at one input. -/
def deflateFindsWrong : ChangeSpec := { name := "deflateFinds", fn := fun _ => fun
  | [d1, d2, d3] => { results := [.lit (.bool false)], args := [d1, d2, d3] }
  | _ => none }
def DeflateFindsWrongFalsely : Prop := deflateFindsRow.holds Try.pinned (OpenSpec.ofChange deflateFindsWrong)

/-- 'celluloidlaw06.DeflatePlain': WHATEVER THE INPUT: true; the input reads as it did. -/
def deflatePlainSpec : ChangeSpec := { name := "deflatePlain", fn := fun _ => fun
  | [d] => { results := [.lit (.bool true)], args := [d] }
  | _ => none }
def deflatePlainRow : OpenClaim := { program := "ytpbhkdamkbopkaa", sum := "27b79db47abe332c41978544dfd9a41a4cdf96091f83c4172596447ccc3da950", func := "celluloid/celluloidlaw06.DeflatePlain", spec := "deflatePlain", plainKeys := false, apart := false }
def DeflatePlainSaid : Prop := deflatePlainRow.holds Try.pinned (OpenSpec.ofChange deflatePlainSpec)

/-- ITS FALSE NEIGHBOUR: 'it returns false'. Refute it at one input. -/
def deflatePlainWrong : ChangeSpec := { name := "deflatePlain", fn := fun _ => fun
  | [d] => { results := [.lit (.bool false)], args := [d] }
  | _ => none }
def DeflatePlainWrongFalsely : Prop := deflatePlainRow.holds Try.pinned (OpenSpec.ofChange deflatePlainWrong)

/-- 'celluloidlaw06.DeflateRaw': WHATEVER THE INPUT: true; the input reads as it did. -/
def deflateRawSpec : ChangeSpec := { name := "deflateRaw", fn := fun _ => fun
  | [d] => { results := [.lit (.bool true)], args := [d] }
  | _ => none }
def deflateRawRow : OpenClaim := { program := "ytpbhkdamkbopkaa", sum := "27b79db47abe332c41978544dfd9a41a4cdf96091f83c4172596447ccc3da950", func := "celluloid/celluloidlaw06.DeflateRaw", spec := "deflateRaw", plainKeys := false, apart := false }
def DeflateRawSaid : Prop := deflateRawRow.holds Try.pinned (OpenSpec.ofChange deflateRawSpec)

/-- ITS FALSE NEIGHBOUR: 'it returns false'. Refute it at one input. -/
def deflateRawWrong : ChangeSpec := { name := "deflateRaw", fn := fun _ => fun
  | [d] => { results := [.lit (.bool false)], args := [d] }
  | _ => none }
def DeflateRawWrongFalsely : Prop := deflateRawRow.holds Try.pinned (OpenSpec.ofChange deflateRawWrong)

/-- 'celluloidlaw05.InflateRaw': WHATEVER THE INPUT: true; the input reads as it did. -/
def inflateRawSpec : ChangeSpec := { name := "inflateRaw", fn := fun _ => fun
  | [d1, d2] => { results := [.lit (.bool true)], args := [d1, d2] }
  | _ => none }
def inflateRawRow : OpenClaim := { program := "ytpbhkdamkbopkaa", sum := "27b79db47abe332c41978544dfd9a41a4cdf96091f83c4172596447ccc3da950", func := "celluloid/celluloidlaw05.InflateRaw", spec := "inflateRaw", unfollowed := true, recurses := true, plainKeys := false, apart := false }
def InflateRawSaid : Prop := inflateRawRow.holds Try.pinned (OpenSpec.ofChange inflateRawSpec)

/-- ITS FALSE NEIGHBOUR: 'it returns false'. Refute it at one input. -/
def inflateRawWrong : ChangeSpec := { name := "inflateRaw", fn := fun _ => fun
  | [d1, d2] => { results := [.lit (.bool false)], args := [d1, d2] }
  | _ => none }
def InflateRawWrongFalsely : Prop := inflateRawRow.holds Try.pinned (OpenSpec.ofChange inflateRawWrong)

/-- 'celluloidlaw05.InflateOpens': WHATEVER THE INPUT: true; the input reads as it did. -/
def inflateOpensSpec : ChangeSpec := { name := "inflateOpens", fn := fun _ => fun
  | [d1, d2] => { results := [.lit (.bool true)], args := [d1, d2] }
  | _ => none }
def inflateOpensRow : OpenClaim := { program := "ytpbhkdamkbopkaa", sum := "27b79db47abe332c41978544dfd9a41a4cdf96091f83c4172596447ccc3da950", func := "celluloid/celluloidlaw05.InflateOpens", spec := "inflateOpens", unfollowed := true, recurses := true, plainKeys := false, apart := false }
def InflateOpensSaid : Prop := inflateOpensRow.holds Try.pinned (OpenSpec.ofChange inflateOpensSpec)

/-- ITS FALSE NEIGHBOUR: 'it returns false'. Refute it at one input. -/
def inflateOpensWrong : ChangeSpec := { name := "inflateOpens", fn := fun _ => fun
  | [d1, d2] => { results := [.lit (.bool false)], args := [d1, d2] }
  | _ => none }
def InflateOpensWrongFalsely : Prop := inflateOpensRow.holds Try.pinned (OpenSpec.ofChange inflateOpensWrong)

/-- 'celluloidlaw05.InflateStored': WHATEVER THE INPUT: true; the input reads as it did. -/
def inflateStoredSpec : ChangeSpec := { name := "inflateStored", fn := fun _ => fun
  | [d1, d2] => { results := [.lit (.bool true)], args := [d1, d2] }
  | _ => none }
def inflateStoredRow : OpenClaim := { program := "ytpbhkdamkbopkaa", sum := "27b79db47abe332c41978544dfd9a41a4cdf96091f83c4172596447ccc3da950", func := "celluloid/celluloidlaw05.InflateStored", spec := "inflateStored", unfollowed := true, recurses := true, plainKeys := false, apart := false }
def InflateStoredSaid : Prop := inflateStoredRow.holds Try.pinned (OpenSpec.ofChange inflateStoredSpec)

/-- ITS FALSE NEIGHBOUR: 'it returns false'. Refute it at one input. -/
def inflateStoredWrong : ChangeSpec := { name := "inflateStored", fn := fun _ => fun
  | [d1, d2] => { results := [.lit (.bool false)], args := [d1, d2] }
  | _ => none }
def InflateStoredWrongFalsely : Prop := inflateStoredRow.holds Try.pinned (OpenSpec.ofChange inflateStoredWrong)

/-- 'celluloidlaw05.InflateEnds': WHATEVER THE INPUT: true; the input reads as it did. -/
def inflateEndsSpec : ChangeSpec := { name := "inflateEnds", fn := fun _ => fun
  | [d1, d2, d3] => { results := [.lit (.bool true)], args := [d1, d2, d3] }
  | _ => none }
def inflateEndsRow : OpenClaim := { program := "ytpbhkdamkbopkaa", sum := "27b79db47abe332c41978544dfd9a41a4cdf96091f83c4172596447ccc3da950", func := "celluloid/celluloidlaw05.InflateEnds", spec := "inflateEnds", unfollowed := true, recurses := true, plainKeys := false, apart := false }
def InflateEndsSaid : Prop := inflateEndsRow.holds Try.pinned (OpenSpec.ofChange inflateEndsSpec)

/-- ITS FALSE NEIGHBOUR: 'it returns false'. Refute it at one input. -/
def inflateEndsWrong : ChangeSpec := { name := "inflateEnds", fn := fun _ => fun
  | [d1, d2, d3] => { results := [.lit (.bool false)], args := [d1, d2, d3] }
  | _ => none }
def InflateEndsWrongFalsely : Prop := inflateEndsRow.holds Try.pinned (OpenSpec.ofChange inflateEndsWrong)

/-- 'celluloidlaw05.InflateBlocks': WHATEVER THE INPUT: true; the input reads as it did. -/
def inflateBlocksSpec : ChangeSpec := { name := "inflateBlocks", fn := fun _ => fun
  | [d] => { results := [.lit (.bool true)], args := [d] }
  | _ => none }
def inflateBlocksRow : OpenClaim := { program := "ytpbhkdamkbopkaa", sum := "27b79db47abe332c41978544dfd9a41a4cdf96091f83c4172596447ccc3da950", func := "celluloid/celluloidlaw05.InflateBlocks", spec := "inflateBlocks", unfollowed := true, recurses := true, plainKeys := false, apart := false }
def InflateBlocksSaid : Prop := inflateBlocksRow.holds Try.pinned (OpenSpec.ofChange inflateBlocksSpec)

/-- ITS FALSE NEIGHBOUR: 'it returns false'. Refute it at one input. -/
def inflateBlocksWrong : ChangeSpec := { name := "inflateBlocks", fn := fun _ => fun
  | [d] => { results := [.lit (.bool false)], args := [d] }
  | _ => none }
def InflateBlocksWrongFalsely : Prop := inflateBlocksRow.holds Try.pinned (OpenSpec.ofChange inflateBlocksWrong)

/-- 'celluloidlaw06.DeflateBack': WHATEVER THE INPUT: true; the input reads as it did. -/
def deflateBackSpec : ChangeSpec := { name := "deflateBack", fn := fun _ => fun
  | [d1, d2] => { results := [.lit (.bool true)], args := [d1, d2] }
  | _ => none }
def deflateBackRow : OpenClaim := { program := "ytpbhkdamkbopkaa", sum := "27b79db47abe332c41978544dfd9a41a4cdf96091f83c4172596447ccc3da950", func := "celluloid/celluloidlaw06.DeflateBack", spec := "deflateBack", unfollowed := true, recurses := true, plainKeys := false, apart := false }
def DeflateBackSaid : Prop := deflateBackRow.holds Try.pinned (OpenSpec.ofChange deflateBackSpec)

/-- ITS FALSE NEIGHBOUR: 'it returns false'. Refute it at one input. -/
def deflateBackWrong : ChangeSpec := { name := "deflateBack", fn := fun _ => fun
  | [d1, d2] => { results := [.lit (.bool false)], args := [d1, d2] }
  | _ => none }
def DeflateBackWrongFalsely : Prop := deflateBackRow.holds Try.pinned (OpenSpec.ofChange deflateBackWrong)

/-- 'celluloidlaw06.DeflateLong': WHATEVER THE INPUT: true; the input reads as it did. -/
def deflateLongSpec : ChangeSpec := { name := "deflateLong", fn := fun _ => fun
  | [d] => { results := [.lit (.bool true)], args := [d] }
  | _ => none }
def deflateLongRow : OpenClaim := { program := "ytpbhkdamkbopkaa", sum := "27b79db47abe332c41978544dfd9a41a4cdf96091f83c4172596447ccc3da950", func := "celluloid/celluloidlaw06.DeflateLong", spec := "deflateLong", unfollowed := true, recurses := true, plainKeys := false, apart := false }
def DeflateLongSaid : Prop := deflateLongRow.holds Try.pinned (OpenSpec.ofChange deflateLongSpec)

/-- ITS FALSE NEIGHBOUR: 'it returns false'. Refute it at one input. -/
def deflateLongWrong : ChangeSpec := { name := "deflateLong", fn := fun _ => fun
  | [d] => { results := [.lit (.bool false)], args := [d] }
  | _ => none }
def DeflateLongWrongFalsely : Prop := deflateLongRow.holds Try.pinned (OpenSpec.ofChange deflateLongWrong)

/-- 'celluloidlaw11.PixelPuts': WHATEVER THE INPUT: true; the input reads as it did. -/
def pixelPutsSpec : ChangeSpec := { name := "pixelPuts", fn := fun _ => fun
  | [d] => { results := [.lit (.bool true)], args := [d] }
  | _ => none }
def pixelPutsRow : OpenClaim := { program := "ytpbhkdamkbopkaa", sum := "27b79db47abe332c41978544dfd9a41a4cdf96091f83c4172596447ccc3da950", func := "celluloid/celluloidlaw11.PixelPuts", spec := "pixelPuts", unfollowed := true, recurses := true, plainKeys := false, apart := false }
def PixelPutsSaid : Prop := pixelPutsRow.holds Try.pinned (OpenSpec.ofChange pixelPutsSpec)

/-- ITS FALSE NEIGHBOUR: 'it returns false'. Refute it at one input. -/
def pixelPutsWrong : ChangeSpec := { name := "pixelPuts", fn := fun _ => fun
  | [d] => { results := [.lit (.bool false)], args := [d] }
  | _ => none }
def PixelPutsWrongFalsely : Prop := pixelPutsRow.holds Try.pinned (OpenSpec.ofChange pixelPutsWrong)

/-- 'celluloidlaw11.PixelTakes': WHATEVER THE INPUT: true; the input reads as it did. -/
def pixelTakesSpec : ChangeSpec := { name := "pixelTakes", fn := fun _ => fun
  | [d] => { results := [.lit (.bool true)], args := [d] }
  | _ => none }
def pixelTakesRow : OpenClaim := { program := "ytpbhkdamkbopkaa", sum := "27b79db47abe332c41978544dfd9a41a4cdf96091f83c4172596447ccc3da950", func := "celluloid/celluloidlaw11.PixelTakes", spec := "pixelTakes", unfollowed := true, recurses := true, plainKeys := false, apart := false }
def PixelTakesSaid : Prop := pixelTakesRow.holds Try.pinned (OpenSpec.ofChange pixelTakesSpec)

/-- ITS FALSE NEIGHBOUR: 'it returns false'. Refute it at one input. -/
def pixelTakesWrong : ChangeSpec := { name := "pixelTakes", fn := fun _ => fun
  | [d] => { results := [.lit (.bool false)], args := [d] }
  | _ => none }
def PixelTakesWrongFalsely : Prop := pixelTakesRow.holds Try.pinned (OpenSpec.ofChange pixelTakesWrong)

/-- 'celluloidlaw11.PixelAgain': WHATEVER THE INPUT: true; the input reads as it did. -/
def pixelAgainSpec : ChangeSpec := { name := "pixelAgain", fn := fun _ => fun
  | [d] => { results := [.lit (.bool true)], args := [d] }
  | _ => none }
def pixelAgainRow : OpenClaim := { program := "ytpbhkdamkbopkaa", sum := "27b79db47abe332c41978544dfd9a41a4cdf96091f83c4172596447ccc3da950", func := "celluloid/celluloidlaw11.PixelAgain", spec := "pixelAgain", unfollowed := true, recurses := true, plainKeys := false, apart := false }
def PixelAgainSaid : Prop := pixelAgainRow.holds Try.pinned (OpenSpec.ofChange pixelAgainSpec)

/-- ITS FALSE NEIGHBOUR: 'it returns false'. Refute it at one input. -/
def pixelAgainWrong : ChangeSpec := { name := "pixelAgain", fn := fun _ => fun
  | [d] => { results := [.lit (.bool false)], args := [d] }
  | _ => none }
def PixelAgainWrongFalsely : Prop := pixelAgainRow.holds Try.pinned (OpenSpec.ofChange pixelAgainWrong)

/-- 'celluloidlaw11.PixelPoints': WHATEVER THE INPUT: true; the input reads as it did. -/
def pixelPointsSpec : ChangeSpec := { name := "pixelPoints", fn := fun _ => fun
  | [d1, d2, d3] => { results := [.lit (.bool true)], args := [d1, d2, d3] }
  | _ => none }
def pixelPointsRow : OpenClaim := { program := "ytpbhkdamkbopkaa", sum := "27b79db47abe332c41978544dfd9a41a4cdf96091f83c4172596447ccc3da950", func := "celluloid/celluloidlaw11.PixelPoints", spec := "pixelPoints", unfollowed := true, recurses := true, plainKeys := false, apart := false }
def PixelPointsSaid : Prop := pixelPointsRow.holds Try.pinned (OpenSpec.ofChange pixelPointsSpec)

/-- ITS FALSE NEIGHBOUR: 'it returns false'. Refute it at one input. -/
def pixelPointsWrong : ChangeSpec := { name := "pixelPoints", fn := fun _ => fun
  | [d1, d2, d3] => { results := [.lit (.bool false)], args := [d1, d2, d3] }
  | _ => none }
def PixelPointsWrongFalsely : Prop := pixelPointsRow.holds Try.pinned (OpenSpec.ofChange pixelPointsWrong)

/-- 'celluloidlaw11.PixelTable': WHATEVER THE INPUT: true; the input reads as it did. -/
def pixelTableSpec : ChangeSpec := { name := "pixelTable", fn := fun _ => fun
  | [d1, d2, d3, d4, d5] => { results := [.lit (.bool true)], args := [d1, d2, d3, d4, d5] }
  | _ => none }
def pixelTableRow : OpenClaim := { program := "ytpbhkdamkbopkaa", sum := "27b79db47abe332c41978544dfd9a41a4cdf96091f83c4172596447ccc3da950", func := "celluloid/celluloidlaw11.PixelTable", spec := "pixelTable", unfollowed := true, recurses := true, plainKeys := false, apart := false }
def PixelTableSaid : Prop := pixelTableRow.holds Try.pinned (OpenSpec.ofChange pixelTableSpec)

/-- ITS FALSE NEIGHBOUR: 'it returns false'. Refute it at one input. -/
def pixelTableWrong : ChangeSpec := { name := "pixelTable", fn := fun _ => fun
  | [d1, d2, d3, d4, d5] => { results := [.lit (.bool false)], args := [d1, d2, d3, d4, d5] }
  | _ => none }
def PixelTableWrongFalsely : Prop := pixelTableRow.holds Try.pinned (OpenSpec.ofChange pixelTableWrong)

/-- 'celluloidlaw11.PixelNames': WHATEVER THE INPUT: true; the input reads as it did. -/
def pixelNamesSpec : ChangeSpec := { name := "pixelNames", fn := fun _ => fun
  | [d1, d2] => { results := [.lit (.bool true)], args := [d1, d2] }
  | _ => none }
def pixelNamesRow : OpenClaim := { program := "ytpbhkdamkbopkaa", sum := "27b79db47abe332c41978544dfd9a41a4cdf96091f83c4172596447ccc3da950", func := "celluloid/celluloidlaw11.PixelNames", spec := "pixelNames", unfollowed := true, recurses := true, plainKeys := false, apart := false }
def PixelNamesSaid : Prop := pixelNamesRow.holds Try.pinned (OpenSpec.ofChange pixelNamesSpec)

/-- ITS FALSE NEIGHBOUR: 'it returns false'. Refute it at one input. -/
def pixelNamesWrong : ChangeSpec := { name := "pixelNames", fn := fun _ => fun
  | [d1, d2] => { results := [.lit (.bool false)], args := [d1, d2] }
  | _ => none }
def PixelNamesWrongFalsely : Prop := pixelNamesRow.holds Try.pinned (OpenSpec.ofChange pixelNamesWrong)

/- THE SECOND FORM. 'bulk': how many values and letters a reading holds, each counted each time it is reached (what is shared counts as often as it is met; a slice's spare places count too). A statement '..UptoSaid' is the law's where the arguments, and the package variables that the reading takes, are together of bulk at most 1048576: NARROWER than '..Said'. Prove '..Said' where nothing that the law and all that it calls make is longer than what came in: it says more and counts as full. Else prove '..UptoSaid'. A law counts once. -/
mutual
def uptoBulk {H : Type} : DataW H → Nat
  | .lit (.string bytes) => bytes.length + 1
  | .lit _ => 1
  | .nil => 1
  | .ptr d => uptoBulk d + 1
  | .slice elems spare => uptoBulkAll elems + uptoBulkAll spare + 1
  | .agg parts => uptoBulkAll parts + 1
  | .iface _ d => uptoBulk d + 1
  | .map entries => uptoBulkEntries entries + 1
  | .held _ => 1
def uptoBulkAll {H : Type} : List (DataW H) → Nat
  | [] => 0
  | d :: r => uptoBulk d + uptoBulkAll r
def uptoBulkEntries {H : Type} : List (Lit × DataW H) → Nat
  | [] => 0
  | x :: r => uptoBulkEntry x + uptoBulkEntries r
def uptoBulkEntry {H : Type} : Lit × DataW H → Nat
  | (.string bytes, d) => bytes.length + uptoBulk d + 1
  | (_, d) => uptoBulk d + 1
 end
def uptoSmall : (H : Type) → List (DataW H) → Bool := fun _ ds => decide (uptoBulkAll ds ≤ 1048576)
def OpenSpec.upto (s : _root_.Go.ChangeSpec) : _root_.Go.OpenSpec := { _root_.Go.OpenSpec.ofChange s with cond := some uptoSmall }

/-- 'celluloidlaw04.HuffCodes', WHERE WHAT IT READS IS OF BULK AT MOST 1048576: true; the input reads as it did. -/
def huffCodesUptoRow : OpenClaim := { program := "ytpbhkdamkbopkaa", sum := "27b79db47abe332c41978544dfd9a41a4cdf96091f83c4172596447ccc3da950", func := "celluloid/celluloidlaw04.HuffCodes", spec := "huffCodes", unfollowed := true, recurses := true, plainKeys := false, apart := false, narrowed := true }
def HuffCodesUptoSaid : Prop := huffCodesUptoRow.holds Try.pinned (OpenSpec.upto huffCodesSpec)

/-- 'celluloidlaw04.HuffReads', WHERE WHAT IT READS IS OF BULK AT MOST 1048576: true; the input reads as it did. -/
def huffReadsUptoRow : OpenClaim := { program := "ytpbhkdamkbopkaa", sum := "27b79db47abe332c41978544dfd9a41a4cdf96091f83c4172596447ccc3da950", func := "celluloid/celluloidlaw04.HuffReads", spec := "huffReads", unfollowed := true, recurses := true, plainKeys := false, apart := false, narrowed := true }
def HuffReadsUptoSaid : Prop := huffReadsUptoRow.holds Try.pinned (OpenSpec.upto huffReadsSpec)

/-- 'celluloidlaw04.HuffBack', WHERE WHAT IT READS IS OF BULK AT MOST 1048576: true; the input reads as it did. -/
def huffBackUptoRow : OpenClaim := { program := "ytpbhkdamkbopkaa", sum := "27b79db47abe332c41978544dfd9a41a4cdf96091f83c4172596447ccc3da950", func := "celluloid/celluloidlaw04.HuffBack", spec := "huffBack", unfollowed := true, recurses := true, plainKeys := false, apart := false, narrowed := true }
def HuffBackUptoSaid : Prop := huffBackUptoRow.holds Try.pinned (OpenSpec.upto huffBackSpec)

/-- 'celluloidlaw04.HuffFull', WHERE WHAT IT READS IS OF BULK AT MOST 1048576: true; the input reads as it did. -/
def huffFullUptoRow : OpenClaim := { program := "ytpbhkdamkbopkaa", sum := "27b79db47abe332c41978544dfd9a41a4cdf96091f83c4172596447ccc3da950", func := "celluloid/celluloidlaw04.HuffFull", spec := "huffFull", unfollowed := true, recurses := true, plainKeys := false, apart := false, narrowed := true }
def HuffFullUptoSaid : Prop := huffFullUptoRow.holds Try.pinned (OpenSpec.upto huffFullSpec)

/-- 'celluloidlaw04.HuffBits', WHERE WHAT IT READS IS OF BULK AT MOST 1048576: true; the input reads as it did. -/
def huffBitsUptoRow : OpenClaim := { program := "ytpbhkdamkbopkaa", sum := "27b79db47abe332c41978544dfd9a41a4cdf96091f83c4172596447ccc3da950", func := "celluloid/celluloidlaw04.HuffBits", spec := "huffBits", unfollowed := true, recurses := true, plainKeys := false, apart := false, narrowed := true }
def HuffBitsUptoSaid : Prop := huffBitsUptoRow.holds Try.pinned (OpenSpec.upto huffBitsSpec)

/-- 'celluloidlaw06.DeflateRuns', WHERE WHAT IT READS IS OF BULK AT MOST 1048576: true; the input reads as it did. -/
def deflateRunsUptoRow : OpenClaim := { program := "ytpbhkdamkbopkaa", sum := "27b79db47abe332c41978544dfd9a41a4cdf96091f83c4172596447ccc3da950", func := "celluloid/celluloidlaw06.DeflateRuns", spec := "deflateRuns", plainKeys := false, apart := false, narrowed := true }
def DeflateRunsUptoSaid : Prop := deflateRunsUptoRow.holds Try.pinned (OpenSpec.upto deflateRunsSpec)

/-- 'celluloidlaw06.DeflateFinds', WHERE WHAT IT READS IS OF BULK AT MOST 1048576: true; the input reads as it did. -/
def deflateFindsUptoRow : OpenClaim := { program := "ytpbhkdamkbopkaa", sum := "27b79db47abe332c41978544dfd9a41a4cdf96091f83c4172596447ccc3da950", func := "celluloid/celluloidlaw06.DeflateFinds", spec := "deflateFinds", plainKeys := false, apart := false, narrowed := true }
def DeflateFindsUptoSaid : Prop := deflateFindsUptoRow.holds Try.pinned (OpenSpec.upto deflateFindsSpec)

/-- 'celluloidlaw06.DeflatePlain', WHERE WHAT IT READS IS OF BULK AT MOST 1048576: true; the input reads as it did. -/
def deflatePlainUptoRow : OpenClaim := { program := "ytpbhkdamkbopkaa", sum := "27b79db47abe332c41978544dfd9a41a4cdf96091f83c4172596447ccc3da950", func := "celluloid/celluloidlaw06.DeflatePlain", spec := "deflatePlain", plainKeys := false, apart := false, narrowed := true }
def DeflatePlainUptoSaid : Prop := deflatePlainUptoRow.holds Try.pinned (OpenSpec.upto deflatePlainSpec)

/-- 'celluloidlaw06.DeflateRaw', WHERE WHAT IT READS IS OF BULK AT MOST 1048576: true; the input reads as it did. -/
def deflateRawUptoRow : OpenClaim := { program := "ytpbhkdamkbopkaa", sum := "27b79db47abe332c41978544dfd9a41a4cdf96091f83c4172596447ccc3da950", func := "celluloid/celluloidlaw06.DeflateRaw", spec := "deflateRaw", plainKeys := false, apart := false, narrowed := true }
def DeflateRawUptoSaid : Prop := deflateRawUptoRow.holds Try.pinned (OpenSpec.upto deflateRawSpec)

/-- 'celluloidlaw05.InflateRaw', WHERE WHAT IT READS IS OF BULK AT MOST 1048576: true; the input reads as it did. -/
def inflateRawUptoRow : OpenClaim := { program := "ytpbhkdamkbopkaa", sum := "27b79db47abe332c41978544dfd9a41a4cdf96091f83c4172596447ccc3da950", func := "celluloid/celluloidlaw05.InflateRaw", spec := "inflateRaw", unfollowed := true, recurses := true, plainKeys := false, apart := false, narrowed := true }
def InflateRawUptoSaid : Prop := inflateRawUptoRow.holds Try.pinned (OpenSpec.upto inflateRawSpec)

/-- 'celluloidlaw05.InflateOpens', WHERE WHAT IT READS IS OF BULK AT MOST 1048576: true; the input reads as it did. -/
def inflateOpensUptoRow : OpenClaim := { program := "ytpbhkdamkbopkaa", sum := "27b79db47abe332c41978544dfd9a41a4cdf96091f83c4172596447ccc3da950", func := "celluloid/celluloidlaw05.InflateOpens", spec := "inflateOpens", unfollowed := true, recurses := true, plainKeys := false, apart := false, narrowed := true }
def InflateOpensUptoSaid : Prop := inflateOpensUptoRow.holds Try.pinned (OpenSpec.upto inflateOpensSpec)

/-- 'celluloidlaw05.InflateStored', WHERE WHAT IT READS IS OF BULK AT MOST 1048576: true; the input reads as it did. -/
def inflateStoredUptoRow : OpenClaim := { program := "ytpbhkdamkbopkaa", sum := "27b79db47abe332c41978544dfd9a41a4cdf96091f83c4172596447ccc3da950", func := "celluloid/celluloidlaw05.InflateStored", spec := "inflateStored", unfollowed := true, recurses := true, plainKeys := false, apart := false, narrowed := true }
def InflateStoredUptoSaid : Prop := inflateStoredUptoRow.holds Try.pinned (OpenSpec.upto inflateStoredSpec)

/-- 'celluloidlaw05.InflateEnds', WHERE WHAT IT READS IS OF BULK AT MOST 1048576: true; the input reads as it did. -/
def inflateEndsUptoRow : OpenClaim := { program := "ytpbhkdamkbopkaa", sum := "27b79db47abe332c41978544dfd9a41a4cdf96091f83c4172596447ccc3da950", func := "celluloid/celluloidlaw05.InflateEnds", spec := "inflateEnds", unfollowed := true, recurses := true, plainKeys := false, apart := false, narrowed := true }
def InflateEndsUptoSaid : Prop := inflateEndsUptoRow.holds Try.pinned (OpenSpec.upto inflateEndsSpec)

/-- 'celluloidlaw05.InflateBlocks', WHERE WHAT IT READS IS OF BULK AT MOST 1048576: true; the input reads as it did. -/
def inflateBlocksUptoRow : OpenClaim := { program := "ytpbhkdamkbopkaa", sum := "27b79db47abe332c41978544dfd9a41a4cdf96091f83c4172596447ccc3da950", func := "celluloid/celluloidlaw05.InflateBlocks", spec := "inflateBlocks", unfollowed := true, recurses := true, plainKeys := false, apart := false, narrowed := true }
def InflateBlocksUptoSaid : Prop := inflateBlocksUptoRow.holds Try.pinned (OpenSpec.upto inflateBlocksSpec)

/-- 'celluloidlaw06.DeflateBack', WHERE WHAT IT READS IS OF BULK AT MOST 1048576: true; the input reads as it did. -/
def deflateBackUptoRow : OpenClaim := { program := "ytpbhkdamkbopkaa", sum := "27b79db47abe332c41978544dfd9a41a4cdf96091f83c4172596447ccc3da950", func := "celluloid/celluloidlaw06.DeflateBack", spec := "deflateBack", unfollowed := true, recurses := true, plainKeys := false, apart := false, narrowed := true }
def DeflateBackUptoSaid : Prop := deflateBackUptoRow.holds Try.pinned (OpenSpec.upto deflateBackSpec)

/-- 'celluloidlaw06.DeflateLong', WHERE WHAT IT READS IS OF BULK AT MOST 1048576: true; the input reads as it did. -/
def deflateLongUptoRow : OpenClaim := { program := "ytpbhkdamkbopkaa", sum := "27b79db47abe332c41978544dfd9a41a4cdf96091f83c4172596447ccc3da950", func := "celluloid/celluloidlaw06.DeflateLong", spec := "deflateLong", unfollowed := true, recurses := true, plainKeys := false, apart := false, narrowed := true }
def DeflateLongUptoSaid : Prop := deflateLongUptoRow.holds Try.pinned (OpenSpec.upto deflateLongSpec)

/-- 'celluloidlaw11.PixelPuts', WHERE WHAT IT READS IS OF BULK AT MOST 1048576: true; the input reads as it did. -/
def pixelPutsUptoRow : OpenClaim := { program := "ytpbhkdamkbopkaa", sum := "27b79db47abe332c41978544dfd9a41a4cdf96091f83c4172596447ccc3da950", func := "celluloid/celluloidlaw11.PixelPuts", spec := "pixelPuts", unfollowed := true, recurses := true, plainKeys := false, apart := false, narrowed := true }
def PixelPutsUptoSaid : Prop := pixelPutsUptoRow.holds Try.pinned (OpenSpec.upto pixelPutsSpec)

/-- 'celluloidlaw11.PixelTakes', WHERE WHAT IT READS IS OF BULK AT MOST 1048576: true; the input reads as it did. -/
def pixelTakesUptoRow : OpenClaim := { program := "ytpbhkdamkbopkaa", sum := "27b79db47abe332c41978544dfd9a41a4cdf96091f83c4172596447ccc3da950", func := "celluloid/celluloidlaw11.PixelTakes", spec := "pixelTakes", unfollowed := true, recurses := true, plainKeys := false, apart := false, narrowed := true }
def PixelTakesUptoSaid : Prop := pixelTakesUptoRow.holds Try.pinned (OpenSpec.upto pixelTakesSpec)

/-- 'celluloidlaw11.PixelAgain', WHERE WHAT IT READS IS OF BULK AT MOST 1048576: true; the input reads as it did. -/
def pixelAgainUptoRow : OpenClaim := { program := "ytpbhkdamkbopkaa", sum := "27b79db47abe332c41978544dfd9a41a4cdf96091f83c4172596447ccc3da950", func := "celluloid/celluloidlaw11.PixelAgain", spec := "pixelAgain", unfollowed := true, recurses := true, plainKeys := false, apart := false, narrowed := true }
def PixelAgainUptoSaid : Prop := pixelAgainUptoRow.holds Try.pinned (OpenSpec.upto pixelAgainSpec)

/-- 'celluloidlaw11.PixelPoints', WHERE WHAT IT READS IS OF BULK AT MOST 1048576: true; the input reads as it did. -/
def pixelPointsUptoRow : OpenClaim := { program := "ytpbhkdamkbopkaa", sum := "27b79db47abe332c41978544dfd9a41a4cdf96091f83c4172596447ccc3da950", func := "celluloid/celluloidlaw11.PixelPoints", spec := "pixelPoints", unfollowed := true, recurses := true, plainKeys := false, apart := false, narrowed := true }
def PixelPointsUptoSaid : Prop := pixelPointsUptoRow.holds Try.pinned (OpenSpec.upto pixelPointsSpec)

/-- 'celluloidlaw11.PixelTable', WHERE WHAT IT READS IS OF BULK AT MOST 1048576: true; the input reads as it did. -/
def pixelTableUptoRow : OpenClaim := { program := "ytpbhkdamkbopkaa", sum := "27b79db47abe332c41978544dfd9a41a4cdf96091f83c4172596447ccc3da950", func := "celluloid/celluloidlaw11.PixelTable", spec := "pixelTable", unfollowed := true, recurses := true, plainKeys := false, apart := false, narrowed := true }
def PixelTableUptoSaid : Prop := pixelTableUptoRow.holds Try.pinned (OpenSpec.upto pixelTableSpec)

/-- 'celluloidlaw11.PixelNames', WHERE WHAT IT READS IS OF BULK AT MOST 1048576: true; the input reads as it did. -/
def pixelNamesUptoRow : OpenClaim := { program := "ytpbhkdamkbopkaa", sum := "27b79db47abe332c41978544dfd9a41a4cdf96091f83c4172596447ccc3da950", func := "celluloid/celluloidlaw11.PixelNames", spec := "pixelNames", unfollowed := true, recurses := true, plainKeys := false, apart := false, narrowed := true }
def PixelNamesUptoSaid : Prop := pixelNamesUptoRow.holds Try.pinned (OpenSpec.upto pixelNamesSpec)

end Rows
end Go.Proofs.Ytpbhkdamkbopkaa
