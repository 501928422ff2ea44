/- Short names for the three movers of a block's fact, for texts that would outgrow a claim's file. -/
import Derived.Test.YtdkiglaidbahmaaPCanvasLaysx1
namespace Go.Proofs.Ytdkiglaidbahmaa.Ext
open Go.RowKit Go.Proofs.YtdkiglaidbahmaaW.PrintWords Go.Proofs.YtdkiglaidbahmaaW.PrintLast Go.Proofs.YtdkiglaidbahmaaW.PrintMore
theorem bN {w : World} {g : Nat} {o : Obj} (h : w.heap[g]? = some o) (m : Nat) : (w.drewN m).heap[g]? = some o := blk_drewN h m
theorem bD {w : World} {g : Nat} {o : Obj} (h : w.heap[g]? = some o) : w.drew.heap[g]? = some o := blk_drew h
theorem bA {w : World} {g : Nat} {o : Obj} (h : w.heap[g]? = some o) (q : Obj) : (w.alloc q).heap[g]? = some o := blk_alloc h q
end Go.Proofs.Ytdkiglaidbahmaa.Ext
