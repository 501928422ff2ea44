/- A variable of a struct type that is made and stored into at once, and one that is loaded whole: two steps of a walk. -/
import Derived.Test.YtpbhkdamkbopkaaExtN
import Derived.Deep.WholeRow
namespace Go.Proofs.Ytpbhkdamkbopkaa.Ext
set_option linter.unusedSimpArgs false
set_option linter.unusedVariables false
open Go.RowKit Go.Proofs.YtpbhkdamkbopkaaW.PrintWords Go.Proofs.YtpbhkdamkbopkaaW.PrintLast Go.Proofs.YtpbhkdamkbopkaaW.PrintMore
section
variable {P : Program} {ops : Array Oper} {rest : List Oper} {o o2 : Oper} {a : Act} {Q : Exit → Act → World → Prop}
theorem gate_load {W : World} {t : TypeId} {x : Operand} (_ho : o.op = .load t x) (h : wpList P ops Q (o :: rest) a W) : wpList P ops Q (o :: rest) a W := h
theorem box2_event {W : World} (hgd : o.guard = none) {N : Tmp} (hd : o.dst = some N) {cs0 cs : Array Value} {t : TypeId} {y : Operand}
    (hrun : (execOp a.eval o).run P W = .ok (.value (.pointer (some ⟨W.heap.size, 0, none⟩))) (W.alloc (.cells cs0 t (0, 0))))
    (hgd2 : o2.guard = none) (ho2 : o2.op = .store t (.tmp N) y) (hd2 : o2.dst = none)
    (hp : (a.put (some N) (.pointer (some ⟨W.heap.size, 0, none⟩))).eval (.tmp N) = .pointer (some ⟨W.heap.size, 0, none⟩))
    (hy : (a.put (some N) (.pointer (some ⟨W.heap.size, 0, none⟩))).eval y = .agg cs) (hi : (P.info? t).map (·.size) = some cs.size) (hold : cs0.size = cs.size) (h1 : cs.all (·.oneCell') = true)
    (h : ∀ g, g = W.heap.size → ∀ w1, w1.heap[g]? = some (.cells cs t (0, 0)) → Below W.heap.size W w1 → wpList P ops Q rest (a.put o.dst (.pointer (some ⟨g, 0, none⟩))) w1) : wpList P ops Q (o :: o2 :: rest) a W := by
  refine Kd.event_run hgd hrun ?_
  rw [hd] at h ⊢
  refine wpList_store_row hgd2 t _ _ ho2 W.heap.size cs hp hy t cs0 (heap_alloc_new _ _) hi hold h1 ?_
  rw [World.setRow_alloc_new, hd2]
  exact h _ rfl _ (heap_alloc_new _ _) (below_alloc (Below.refl _ _) _)
end
end Go.Proofs.Ytpbhkdamkbopkaa.Ext
