/- Parts of the proof, glued by a program of this session (wip/tools/claimfit.py). -/
import Derived.Below
import Derived.Deep.Draws
import Derived.Deep.AppendLies
import Derived.Maps.AppendAt
import Derived.OwnWalk
import Derived.Laws.BytesArg
import Derived.Laws.MakeOwn
import Derived.Laws.OwnMore
import Derived.Deep.OwnRows
import Derived.Tactics
import Derived.Lib.ConvBytes
import Derived.Laws.Slices
import Derived.WalkKit
import Derived.KernelRfl
import Derived.RowKit3
import Derived.Deep.LoopGhost
import Derived.Deep.QuietTactic
import Derived.BigQuiet
import Derived.WideLaws
import Derived.Deep.DeepCutAuto
import Derived.Deep.CutBlock
import Derived.Deep.RegionHeld3
import Derived.Laws.Rows
import Derived.Lib.AppendStr
import Derived.ArgAppend
import Derived.Laws.IdiomCopy
import Derived.RowKit
import Derived.OrdersHeld
import Derived.Laws.BitsLemmas
import Derived.Laws.StructEq
import Derived.Test.YtpbhkdamkbopkaaProg
import Derived.Laws.Tables
import Derived.Deep.MidRow
import Derived.Outline
import Derived.Deep.WholeRow
import Derived.StillTailTactics
import Derived.Carry
import Derived.Laws.CopyRow
import Derived.Laws.CopyOwn
import Derived.Deep.RegionLaw
import Derived.Test.YtpbhkdamkbopkaaChecked
import Derived.JoinedOf
import Derived.Test.YtpbhkdamkbopkaaMIOA
namespace Go.Proofs.Ytpbhkdamkbopkaa.Sq
set_option linter.unusedSimpArgs false
set_option linter.unusedVariables false
open Go.RowKit Go.Proofs.YtpbhkdamkbopkaaW.PrintWords Go.Proofs.YtpbhkdamkbopkaaW.PrintLast Go.Proofs.YtpbhkdamkbopkaaW.PrintMore
section
variable {w w1 w2 W0:World} {g g2:Nat} {o:Obj} {t:TypeId} {cs cs':Array Value}
theorem bb (h : Aside0 (w.heap[g]? = some o)) (hb : Below w1.heap.size w1 w2)
  (e:w.heap[g]?=some o → w1.heap[g]?=some o:=by intro h_;repeat (first | with_reducible exact h_ | with_reducible refine blk_drewN ?_ _ | with_reducible refine blk_drew ?_ | with_reducible refine blk_alloc ?_ _ | refine blk_far ?_ (Aside0.out (by assumption)) _ | exact h_)):Aside0 (w2.heap[g]?=some o):=⟨blk_below (e h.out) hb⟩
/-- A block of cells of which something holds. -/
def Pt (w:World) (g:Nat) (t:TypeId) (k:Array Value → Prop):Prop:=∃ cs,w.heap[g]?=some (.cells cs t (0,0))∧k cs
variable {k:Array Value → Prop}
theorem Pt.drewN (h:Pt w g t k) (n:Nat):Pt (w.drewN n) g t k:=h
theorem Pt.drew (h:Pt w g t k):Pt w.drew g t k:=h
theorem Pt.alloc (h:Pt w g t k) (o:Obj):Pt (w.alloc o) g t k:=by obtain ⟨c,h1,h2⟩:=h;exact ⟨c,blk_alloc h1 o,h2⟩
theorem Pt.far (h:Pt w g t k) {p:Addr} (hp:g ≠ p.block) (u:Value):Pt (w.setCell p u) g t k:=by obtain ⟨c,h1,h2⟩:=h;exact ⟨c,blk_far h1 hp u,h2⟩
theorem Pt.put {i:Nat} {u:Value} (h:Pt w g t (fun c=>k (c.setIfInBounds i u))):Pt (w.setCell ⟨g,i,none⟩ u) g t k:=by obtain ⟨c,h1,h2⟩:=h;exact ⟨_,blk_put h1 i u rfl,h2⟩
theorem Pt.end_ (h:Pt w g t (fun c=>c=cs')):w.heap[g]?=some (.cells cs' t (0,0)):=by obtain ⟨c,h1,rfl⟩:=h;exact h1
theorem bq (h : Aside0 (w.heap[g]? = some (.cells cs t (0, 0))))
  (e:w.heap[g]?=some (.cells cs t (0,0)) → w1.heap[g]?=some (.cells cs' t (0,0)):=by intro h_;refine Pt.end_ ?_;(repeat (first | with_reducible refine Pt.drewN ?_ _ | with_reducible refine Pt.drew ?_ | with_reducible refine Pt.alloc ?_ _ | with_reducible refine Pt.put ?_ | refine Pt.far ?_ (Aside0.out (by assumption)) _));exact ⟨_,h_,rfl⟩):w1.heap[g]?=some (.cells cs' t (0,0)):=e h.out
theorem hs (h : Aside0 (Below W0.heap.size W0 w)) (hb : Below w1.heap.size w1 w2)
  (e:Below W0.heap.size W0 w → Below W0.heap.size W0 w1:=by intro h_;repeat (first | with_reducible exact h_ | with_reducible apply below_alloc | with_reducible apply pw_below_drewN | with_reducible apply below_drew1 | refine below_set ?_ (Aside0.out (by assumption)) | exact h_)):Aside0 (Below W0.heap.size W0 w2):=⟨below_step (e h.out) hb⟩
theorem hn (h : Aside0 (Below W0.heap.size W0 w))
  (e:Below W0.heap.size W0 w → Below W0.heap.size W0 w1:=by intro h_;repeat (first | with_reducible exact h_ | with_reducible apply below_alloc | with_reducible apply pw_below_drewN | with_reducible apply below_drew1 | refine below_set ?_ (Aside0.out (by assumption)) | exact h_)):Below W0.heap.size W0 w1:=e h.out
theorem gs (h : Aside0 (Below W0.heap.size W0 w)) (hg : g = w1.heap.size)
  (e:Below W0.heap.size W0 w → Below W0.heap.size W0 w1:=by intro h_;repeat (first | with_reducible exact h_ | with_reducible apply below_alloc | with_reducible apply pw_below_drewN | with_reducible apply below_drew1 | refine below_set ?_ (Aside0.out (by assumption)) | exact h_)):Aside0 (W0.heap.size≤g):=⟨by rw [hg];exact below_size (e h.out)⟩
theorem sz_drewN {a:Nat} (h:a≤w.heap.size) (n:Nat):a≤(w.drewN n).heap.size:=h
theorem sz_drew {a:Nat} (h:a≤w.heap.size):a≤w.drew.heap.size:=h
theorem sz_alloc {a:Nat} (h:a≤w.heap.size) (o:Obj):a≤(w.alloc o).heap.size:=Nat.le_trans h (by show _≤(w.heap.push o).size;simp)
theorem sz_set {a:Nat} (h:a≤w.heap.size) (p:Addr) (u:Value):a≤(w.setCell p u).heap.size:=by simpa [World.setCell] using h
theorem nl (h:Aside0 (w.heap[g]?=some o)) (hg:g2=w1.heap.size) (e:w.heap.size≤w1.heap.size:=by repeat (first | with_reducible exact Nat.le_refl _ | with_reducible refine sz_drewN ?_ _ | with_reducible refine sz_drew ?_ | with_reducible refine sz_alloc ?_ _ | with_reducible refine sz_set ?_ _ _)):Aside0 (g ≠ g2):=⟨by have:=blk_lt h.out;omega⟩
theorem ng (h:Aside0 (w.heap[g]?=some o)) (hg:g2=w1.heap.size) (e:w.heap.size≤w1.heap.size:=by repeat (first | with_reducible exact Nat.le_refl _ | with_reducible refine sz_drewN ?_ _ | with_reducible refine sz_drew ?_ | with_reducible refine sz_alloc ?_ _ | with_reducible refine sz_set ?_ _ _)):Aside0 (g2 ≠ g):=⟨by have:=blk_lt h.out;omega⟩
theorem rk {α : Type} {d : Kd α} {e : TypeId} {base : Nat} {ok : Nat → Prop} {v : Value} {xs : List α} (h : Aside0 (d.R e w base ok v xs)) (hb : Below w1.heap.size w1 w2)
  (e1:d.R e w base ok v xs → d.R e w1 base ok v xs:=by intro h_;(with_reducible repeat (first | apply Kd.R_alloc | apply Kd.R_drewN | apply Kd.R_drew));exact h_):Aside0 (d.R e w2 base ok v xs):=⟨Kd.R_below (e1 h.out) hb⟩
end
section
variable {w:World} {g:Nat} {t:TypeId} {a b c d:Value}
theorem cc3 (h:Aside0 (w.heap[g]?=some (.cells #[a,b,c] t (0,0)))):w.cell? ⟨g,0,none⟩=some a∧w.cell? ⟨g,1,none⟩=some b∧w.cell? ⟨g,2,none⟩=some c:=⟨(blk_cell h.out 0).trans rfl,(blk_cell h.out 1).trans rfl,(blk_cell h.out 2).trans rfl⟩
theorem ff3 {cs:Array Value} (h:Aside0 (w.heap[g]?=some (.cells cs t (0,0)))):w.frozen? ⟨g,0,none⟩=false∧w.frozen? ⟨g,1,none⟩=false∧w.frozen? ⟨g,2,none⟩=false:=⟨blk_frozen h.out 0,blk_frozen h.out 1,blk_frozen h.out 2⟩
end
section
variable {P:Program} {ops:Array Oper} {rest:List Oper} {o:Oper} {a:Act} {Q:Exit → Act → World → Prop}
theorem boxQ {W : World} (N : Tmp) (cs : Array Value) (t : TypeId)
  (h:∀ g,g=W.heap.size → ∀ w1,w1.heap[g]?=some (.cells cs t (0,0)) → Below W.heap.size W w1 → wpList P ops Q rest (a.put o.dst (.pointer (some ⟨g,0,none⟩))) w1)
  (hd:o.dst=some N:=by rfl) (hgd:o.guard=none:=by rfl)
  (hrun:(execOp a.eval o).run P W=.ok (.value (.pointer (some ⟨W.heap.size,0,none⟩))) (W.alloc (.cells cs t (0,0))):=by first | (go_simp;done) | (go_simp;rfl)):wpList P ops Q (o :: rest) a W:=box_event hgd hd hrun h
theorem goesQ {w : World} (N : Option Tmp) {f : FuncId} {fn : Func} (hf : P.funcs[f]? = some fn) {az : Array Operand} {ts : Array TypeId} (args : Array Value)
  (h:Calls P f args w fun e w'=>∃ v,e=.returned v∧wpList P ops Q rest (a.put N v) w')
  (hd:o.dst=N:=by rfl) (hg:o.guard=none:=by rfl) (hop:o.op=.call { callee:=.value (.func f),args:=az,argTypes:=ts }:=by rfl)
  (hname : (fn.name == "runtime.NumGoroutine") = false := by kernel_rfl) (hb : fn.body.isSome = true := by rfl)
  (hargs:az.map a.eval=args:=by (try simp only [List.map_toArray,List.map_cons,List.map_nil]);first | done | rfl | (simp only [List.length_drop,List.length_take];rfl)):wpList P ops Q (o :: rest) a w :=
 goesL_ N hd hg hf hname hb args hop hargs h
end
section
variable {P:Program} {ops:Array Oper} {Q:Exit → Act → World → Prop} {md:Region.Mode} {S:World → Prop} {ds:List Nat}
theorem pureQ (i : Nat) (N : Option Tmp) {oi : Oper} {v : Value} {fuel : Nat} {l : Array Bool} {a : Act} {w : World} (l' : Array Bool) (hc : anyB md ops l l' i = true) {a' : Act} (h : wpAnyLast P md ops Q S ds fuel l' a' w)
  (hi:ops[i]?=some oi:=by rfl) (hN:oi.dst=N:=by rfl) (hQ:∀ c a w,Q (.panic c) (a.put oi.dst v) w → Q (.panic c) a w:=by exact fun _ _ _ h=>h)
  (hy:Yields P ops oi v a:=by exact Or.inl ⟨by rfl,by intro w';go_simp;with_reducible rfl⟩) (ha:a.put N v=a':=by simp only [Act.put,List.setIfInBounds_toArray,List.set_cons_zero,List.set_cons_succ,i64_w,i32_w];rfl):wpAnyLast P md ops Q S ds (fuel+1) l a w :=
 pure_ l' hi hN hc hQ hy ha h
end
/-- So many are done,so many not. -/
def tk (n m:Nat):Array Bool:=(List.replicate n true ++ List.replicate m false).toArray
end Go.Proofs.Ytpbhkdamkbopkaa.Sq
namespace Go.Proofs.Ytpbhkdamkbopkaa.Sq
set_option linter.unusedSimpArgs false
set_option linter.unusedVariables false
open Go.RowKit Go.Proofs.YtpbhkdamkbopkaaW.PrintWords Go.Proofs.YtpbhkdamkbopkaaW.PrintLast Go.Proofs.YtpbhkdamkbopkaaW.PrintMore
section
variable {W0 w w1 w2 w' W:World} {g g2:Nat} {t:TypeId} {cs:Array Value} {S:Nat → Prop}
theorem hk (h : Aside0 (Kept W w S))
  (e:Kept W w S → Kept W w1 S:=by intro h_;repeat (first | with_reducible exact h_ | with_reducible apply Kept.alloc | with_reducible apply Kept.drewN | with_reducible apply Kept.drew | refine Kept.setCell ?_ (.inr (Aside0.out (by assumption))) _ | exact h_)):Kept W w1 S:=e h.out
theorem hz (h:Aside0 (Kept W w S)) (e:w.heap.size≤w1.heap.size:=by repeat (first | with_reducible exact Nat.le_refl _ | with_reducible refine sz_drewN ?_ _ | with_reducible refine sz_drew ?_ | with_reducible refine sz_alloc ?_ _ | with_reducible refine sz_set ?_ _ _ | exact Nat.le_refl _)):W.heap.size≤w1.heap.size:=Nat.le_trans h.out.1 e
theorem bk {o : Obj} (h : Aside0 (w.heap[g]? = some o))
  (e:w.heap[g]?=some o → w1.heap[g]?=some o:=by intro h_;repeat (first | with_reducible exact h_ | with_reducible refine blk_drewN ?_ _ | with_reducible refine blk_drew ?_ | with_reducible refine blk_alloc ?_ _ | exact h_)):w1.heap[g]?=some o:=e h.out
theorem sF (hw : w' = w1) (h : Aside0 (w.heap[g]? = some (.cells cs t (0, 0)))) (hne : Aside0 (g ≠ g2))
  (e:g ≠ g2 → w.heap[g]?=some (.cells cs t (0,0)) → w1.heap[g]?=some (.cells cs t (0,0)):=by intro hn_ h_;repeat (first | with_reducible exact h_ | with_reducible refine blk_drewN ?_ _ | with_reducible refine blk_drew ?_ | with_reducible refine blk_alloc ?_ _ | refine blk_far ?_ hn_ _ | exact h_)):Aside0 (w'.heap[g]?=some (.cells cs t (0,0))):=⟨hw ▸ e hne.out h.out⟩
theorem sK (hw : w' = w1) (h : Aside0 (Kept W w S)) (hg : Aside0 (W.heap.size ≤ g))
  (e:W.heap.size≤g → Kept W w S → Kept W w1 S:=by intro hg_ h_;repeat (first | with_reducible exact h_ | with_reducible apply Kept.alloc | with_reducible apply Kept.drewN | with_reducible apply Kept.drew | refine Kept.setCell ?_ (.inr hg_) _ | exact h_)):Aside0 (Kept W w' S):=⟨hw ▸ e hg.out h.out⟩
theorem sB (hw : w' = w1) (h : Aside0 (Below W0.heap.size W0 w)) (hg : Aside0 (W0.heap.size ≤ g))
  (e:W0.heap.size≤g → Below W0.heap.size W0 w → Below W0.heap.size W0 w1:=by intro hg_ h_;repeat (first | with_reducible exact h_ | with_reducible apply below_alloc | with_reducible apply pw_below_drewN | with_reducible apply below_drew1 | refine below_set ?_ hg_ | exact h_)):Aside0 (Below W0.heap.size W0 w'):=⟨hw ▸ e hg.out h.out⟩
theorem sP {a b c a' b' c':Value} (hw:w'=((w.setCell ⟨g,0,none⟩ a').setCell ⟨g,1,none⟩ b').setCell ⟨g,2,none⟩ c') (h:Aside0 (w.heap[g]?=some (.cells #[a,b,c] t (0,0)))):Aside0 (w'.heap[g]?=some (.cells #[a',b',c'] t (0,0))) :=
 ⟨hw ▸ blk_put (blk_put (blk_put h.out 0 a' (by rfl:#[a,b,c].setIfInBounds 0 a'=#[a',b,c])) 1 b' (by rfl:#[a',b,c].setIfInBounds 1 b'=#[a',b',c])) 2 c' (by rfl)⟩
theorem sP0 {a b c a':Value} (hw:w'=w.setCell ⟨g,0,none⟩ a') (h:Aside0 (w.heap[g]?=some (.cells #[a,b,c] t (0,0)))):Aside0 (w'.heap[g]?=some (.cells #[a',b,c] t (0,0))):=⟨hw ▸ blk_put h.out 0 a' (by rfl)⟩
theorem sP1 {a b c b':Value} (hw:w'=w.setCell ⟨g,1,none⟩ b') (h:Aside0 (w.heap[g]?=some (.cells #[a,b,c] t (0,0)))):Aside0 (w'.heap[g]?=some (.cells #[a,b',c] t (0,0))):=⟨hw ▸ blk_put h.out 1 b' (by rfl)⟩
theorem sP2 {a b c c':Value} (hw:w'=w.setCell ⟨g,2,none⟩ c') (h:Aside0 (w.heap[g]?=some (.cells #[a,b,c] t (0,0)))):Aside0 (w'.heap[g]?=some (.cells #[a,b,c'] t (0,0))):=⟨hw ▸ blk_put h.out 2 c' (by rfl)⟩
variable {α β:Type} {d:Kd α} {d2:Kd β} {e e2 base base2:Nat} {ok ok2:Nat → Prop} {v v2:Value} {xs:List α} {ys:List β}
theorem rr (h : Aside0 (d.R e w base ok v xs))
  (e1:d.R e w base ok v xs → d.R e w1 base ok v xs:=by intro h_;(with_reducible repeat (first | apply Kd.R_alloc | apply Kd.R_drewN | apply Kd.R_drew));exact h_):d.R e w1 base ok v xs:=e1 h.out
theorem sR (hw : w' = w1) (h : Aside0 (d.R e w base ok v xs)) (hb : Aside0 (w.heap[g]? = some (.cells cs t (0, 0))))
  (e1:d.R e w base (fun k=>ok k∧k ≠ g) v xs → d.R e w1 base (fun k=>ok k∧k ≠ g) v xs:=by intro h_;repeat (first | with_reducible exact h_ | refine Kd.R_far ?_ (fun _ hk_=>hk_.2) _ | with_reducible apply Kd.R_alloc | with_reducible apply Kd.R_drewN | with_reducible apply Kd.R_drew | exact h_))
  (hd:∀ q,q ∈ e :: d.E → q ≠ t:=by decide):Aside0 (d.R e w' base ok v xs):=⟨hw ▸ Kd.R_mono (e1 (Kd.R_types h.out hb.out hd)) (fun _ hk=>hk.1)⟩
theorem kb (h : Aside0 (w.heap[g]? = some (.cells cs t (0, 0)))) (ho : Aside0 (d.R e w base ok v xs)) (hkp : Kept w1 w2 (fun k_ => some k_ = v.ownBlock))
  (e1:w.heap[g]?=some (.cells cs t (0,0)) → w1.heap[g]?=some (.cells cs t (0,0)):=by intro h_;repeat (first | with_reducible exact h_ | with_reducible refine blk_drewN ?_ _ | with_reducible refine blk_drew ?_ | with_reducible refine blk_alloc ?_ _ | exact h_))
  (hd:e ≠ t:=by decide):Aside0 (w2.heap[g]?=some (.cells cs t (0,0))):=⟨blk_kept (e1 h.out) hkp (fun hs_=>Kd.R_ne ho.out h.out hd hs_)⟩
theorem kt (h : Aside0 (Kept W w S)) (ho : Aside0 (d.R e w base (fun k => S k ∨ W.heap.size ≤ k) v xs)) (hkp : Kept w1 w2 (fun k_ => some k_ = v.ownBlock))
  (e1:Kept W w S → Kept W w1 S:=by intro h_;repeat (first | with_reducible exact h_ | with_reducible apply Kept.alloc | with_reducible apply Kept.drewN | with_reducible apply Kept.drew | refine Kept.setCell ?_ (.inr (Aside0.out (by assumption))) _ | exact h_)):Aside0 (Kept W w2 S):=⟨Kept.then_ (e1 h.out) hkp (fun k hs=>ho.out.1 k hs.symm)⟩
theorem kr {e3 base3 : Nat} {v3 : Value} {zs : List α} (ho : Aside0 (d.R e w base (fun k => S k ∨ W.heap.size ≤ k) v xs)) (h : Aside0 (Kept W w S)) (ho0 : d.R e3 w2 base3 (fun k => some k = v.ownBlock ∨ w1.heap.size ≤ k) v3 zs)
  (e1:w.heap.size≤w1.heap.size:=by repeat (first | with_reducible exact Nat.le_refl _ | with_reducible refine sz_drewN ?_ _ | with_reducible refine sz_drew ?_ | with_reducible refine sz_alloc ?_ _ | with_reducible refine sz_set ?_ _ _ | exact Nat.le_refl _)):Aside0 (d.R e3 w2 base3 (fun k=>S k ∨ W.heap.size≤k) v3 zs) :=
 ⟨Kd.R_mono ho0 (fun k hk=>hk.elim (fun hs=>ho.out.1 k hs.symm) (fun hn=>.inr (Nat.le_trans (Nat.le_trans h.out.1 e1) hn)))⟩
theorem ka (ho : Aside0 (d.R e w base ok v xs)) (h2 : Aside0 (d2.R e2 w base2 ok2 v2 ys)) (hkp : Kept w1 w2 (fun k_ => some k_ = v2.ownBlock))
  (e1:d.R e w base (fun k=>ok k∧some k ≠ v2.ownBlock) v xs → d.R e w1 base (fun k=>ok k∧some k ≠ v2.ownBlock) v xs:=by intro h_;(with_reducible repeat (first | apply Kd.R_alloc | apply Kd.R_drewN | apply Kd.R_drew));exact h_)
  (hd:∀ q,q ∈ e :: d.E → q ≠ e2:=by decide):Aside0 (d.R e w2 base ok v xs):=⟨Kd.R_mono (Kd.R_keptB (e1 (Kd.R_apart' ho.out (Kd.R_typed h2.out) hd)) hkp (fun k hk hs=>hk.2 hs)) (fun k hk=>hk.1.1)⟩
theorem aR {m:Nat} (hq:w.drewN m=w') (h:Aside0 (d.R e w base ok v xs)):Aside0 (d.R e w' base ok v xs):=⟨Kd.R_at hq h.out⟩
theorem aB {m:Nat} {o:Obj} (hq:w.drewN m=w') (h:Aside0 (w.heap[g]?=some o)):Aside0 (w'.heap[g]?=some o):=⟨blk_at hq h.out⟩
theorem aW {m B:Nat} {u:World} (hq:w.drewN m=w') (h:Aside0 (Below B u w)):Aside0 (Below B u w'):=⟨below_at hq h.out⟩
end
section
variable {P:Program} {ops:Array Oper} {rest:List Oper} {o:Oper} {a:Act} {Q:Exit → Act → World → Prop}
theorem stQ {W : World} (t : TypeId) (p : Tmp) (w1 : World) (h : ∀ w', w' = w1 → wpList P ops Q rest a w') {v : Operand} (ho : o.op = .store t (.tmp p) v := by rfl) (hgd : o.guard = none := by rfl) (hN : o.dst = none := by rfl)
  (hrun:(execOp a.eval o).run P W=.ok .skip w1:=by first | (go_simp;done) | (go_simp;rfl)):wpList P ops Q (o :: rest) a W:=store_event hgd ho hN hrun h
end
end Go.Proofs.Ytpbhkdamkbopkaa.Sq
namespace Go.Proofs.Ytpbhkdamkbopkaa.PHuffBits
open Go.RowKit Go.Proofs.YtpbhkdamkbopkaaW.PrintWords Go.Proofs.YtpbhkdamkbopkaaW.PrintLast Go.Proofs.YtpbhkdamkbopkaaW.PrintMore
attribute [local go_sem] max2_int min2_int max_two min_two max_three min_three max_four min_four
set_option linter.unusedVariables false
set_option linter.unusedSimpArgs false
def errW:Option Int → Value
 |none=>.nilIface
 |some c=>.iface 0 (.int .i64 c)
theorem errW_none:errW none=.nilIface:=rfl
theorem errW_some (c:Int):errW (some c)=.iface 0 (.int .i64 c):=rfl
end Go.Proofs.Ytpbhkdamkbopkaa.PHuffBits
namespace Go.Proofs.Ytpbhkdamkbopkaa.PHuffBits
open Go.RowKit Go.Proofs.YtpbhkdamkbopkaaW.PrintWords Go.Proofs.YtpbhkdamkbopkaaW.PrintLast Go.Proofs.YtpbhkdamkbopkaaW.PrintMore
attribute [local go_sem] max2_int min2_int max_two min_two max_three min_three max_four min_four
set_option linter.unusedVariables false
set_option linter.unusedSimpArgs false
def huff_Bit.f (a0:ByteArray) (a1:Int):Option (Int × Bool):=if a1 < 0 then (some (0,false)) else (if a1 ≥ (wrap64 (8*(a0.size:Int))) then (some (0,false)) else (if 0≤(wrap64 (Int.tdiv a1 8)) then (if (wrap64 (Int.tdiv a1 8)) < (a0.size:Int) then (if 0≤(Int.tmod a1 8) then (some (Go.bits .and .i64 (wrap64 (shr .u8 (bt a0 (wrap64 (Int.tdiv a1 8))) (Int.tmod a1 8))) 1,true)) else (none)) else (none)) else (none)))
set_option maxHeartbeats 8000000 in
set_option maxRecDepth 100000 in
theorem huff_Bit.calls (a0 : ByteArray) (a1 : Int) (r1 : Int) (r2 : Bool) (w : World) (h : huff_Bit.f a0 a1 = some (r1, r2)) :
  Calls Try.prog 34 #[.string a0,.int .i64 a1] w fun e w'=>e=.returned (.tuple #[.int .i64 r1,.bool r2])∧Drawn0 w w':=by
 have H:(if a1 < 0 then (some (0,false)) else (if a1 ≥ (wrap64 (8*(a0.size:Int))) then (some (0,false)) else (if 0≤(wrap64 (Int.tdiv a1 8)) then (if (wrap64 (Int.tdiv a1 8)) < (a0.size:Int) then (if 0≤(Int.tmod a1 8) then (some (Go.bits .and .i64 (wrap64 (shr .u8 (bt a0 (wrap64 (Int.tdiv a1 8))) (Int.tmod a1 8))) 1,true)) else (none)) else (none)) else (none))))=some (r1,r2):=h
 clear h
 by_cases c3:a1 < 0
 ·rw [if_pos c3] at H
  have c3b0:decide (a1 < 0)=true:=decide_eq_true c3
  clear c3
  simp only [Option.some.injEq,Prod.mk.injEq] at H
  obtain ⟨rfl,rfl⟩:=H
  go_enter Try.func34,Try.ntmps34
  go_wp2
  go_ret2
  exact ⟨by first | rfl | (simp;done) | (simp [*];done),by repeat (first | exact Drawn0.refl _ | apply Drawn0.step)⟩
 ·rw [if_neg c3] at H
  have c3b0:decide (a1 < 0)=false:=decide_eq_false c3
  clear c3
  by_cases c4:a1 ≥ (wrap64 (8*(a0.size:Int)))
  ·rw [if_pos c4] at H
   have c4b0:decide ((wrap64 (8*(a0.size:Int)))≤a1)=true:=decide_eq_true c4
   clear c4
   simp only [Option.some.injEq,Prod.mk.injEq] at H
   obtain ⟨rfl,rfl⟩:=H
   go_enter Try.func34,Try.ntmps34
   go_wp2
   go_ret2
   exact ⟨by first | rfl | (simp;done) | (simp [*];done),by repeat (first | exact Drawn0.refl _ | apply Drawn0.step)⟩
  ·rw [if_neg c4] at H
   have c4b0:decide ((wrap64 (8*(a0.size:Int)))≤a1)=false:=decide_eq_false c4
   clear c4
   obtain ⟨ji5,hji5⟩:∃ j_:Int,(wrap64 (Int.tdiv a1 8))=j_:=⟨_,rfl⟩
   replace H:(if 0≤(ji5) then (if (ji5) < (a0.size:Int) then (if 0≤(Int.tmod a1 8) then (some (Go.bits .and .i64 (wrap64 (shr .u8 (bt a0 (ji5)) (Int.tmod a1 8))) 1,true)) else (none)) else (none)) else (none))=some (r1,r2):=by first | (rw [hji5] at H;exact H) | (simp only [hji5] at H ⊢;exact H)
   have hji5w:(IntKind.i64.wrap (Int.tdiv a1 8))=ji5:=(i64_w _).trans hji5
   by_cases c6:0≤(ji5)
   ·rw [if_pos c6] at H
    have c6b0:decide (0≤(ji5))=true:=decide_eq_true c6
    clear c6
    by_cases c7:(ji5) < (a0.size:Int)
    ·rw [if_pos c7] at H
     have c7b0:decide ((ji5) < (a0.size:Int))=true:=decide_eq_true c7
     clear c7
     obtain ⟨ji9,hji9⟩:∃ j_:Int,(Int.tmod a1 8)=j_:=⟨_,rfl⟩
     replace H:(if 0≤(ji9) then (some (Go.bits .and .i64 (wrap64 (shr .u8 (bt a0 (ji5)) (ji9))) 1,true)) else (none))=some (r1,r2):=by first | (rw [hji9] at H;exact H) | (simp only [hji9] at H ⊢;exact H)
     by_cases c10:0≤(ji9)
     ·rw [if_pos c10] at H
      have c10b0:=eq_true c10
      have c10b1:decide (0≤(ji9))=true:=decide_eq_true c10
      clear c10
      obtain ⟨ji11,hji11⟩:∃ j_:Int,(shr .u8 (bt a0 (ji5)) (ji9))=j_:=⟨_,rfl⟩
      replace H:(some (Go.bits .and .i64 (wrap64 (ji11)) 1,true))=some (r1,r2):=by first | (rw [hji11] at H;exact H) | (simp only [hji11] at H ⊢;exact H)
      have hji11_:((bt a0 (ji5)) / 2 ^ min (ji9).toNat 8)=ji11:=hji11
      have hji11z:(ji9)≤8 → ((bt a0 (ji5)) / 2 ^ (ji9).toNat)=ji11:=shr_small hji11
      simp only [Option.some.injEq,Prod.mk.injEq] at H
      obtain ⟨rfl,rfl⟩:=H
      have p8:0≤((ji5):Int):=of_decide_eq_true (by first | (with_reducible assumption) | assumption)
      have q8:(ji5) < (a0.size:Int):=of_decide_eq_true (by first | (with_reducible assumption) | assumption)
      have hx8:=bt_at a0 (ji5)
      replace p8:=eq_true p8
      replace q8:=eq_true q8
      go_enter Try.func34,Try.ntmps34
      go_wp2
      go_ret2
      exact ⟨by first | rfl | (simp;done) | (simp only [← hji5,← hji9,← hji11] <;> (first | rfl | simp)) | (simp [*];done),by repeat (first | exact Drawn0.refl _ | apply Drawn0.step)⟩
     ·rw [if_neg c10] at H
      exact absurd H (by simp)
    ·rw [if_neg c7] at H
     exact absurd H (by simp)
   ·rw [if_neg c6] at H
    exact absurd H (by simp)
mutual
def huff_Bits.j0:Nat → ByteArray → Int → Int → Bool → Option (Int × Int × Int)
 |0,_,_,_,_=>none
 |k+1,x0,x1,x2,x13=>if x13=true then (some (0,0,1)) else (if x1 > (wrap64 ((wrap64 (8*(x0.size:Int))) - x2)) then (some (0,0,2)) else (huff_Bits.l0 k x0 x1 x2 0 x2 0))
def huff_Bits.l0:Nat → ByteArray → Int → Int → Int → Int → Int → Option (Int × Int × Int)
 |0,_,_,_,_,_,_=>none
 |k+1,x0,x1,x2,x9,x32,x33=>if x33 < x32 then ((huff_Bit.f x0 (wrap64 (x1+x33))).bind fun bt104=>(if 0≤x33 then (huff_Bits.l0 k x0 x1 x2 (Go.bits .or .i64 x9 (shl .i64 bt104.1 x33)) x32 (wrap64 (x33+1))) else (none))) else (some (x9,wrap64 (x1+x2),0))
end
def huff_Bits.f (k:Nat) (a0:ByteArray) (a1:Int) (a2:Int):Option (Int × Int × Int):=if a1 < 0 then (huff_Bits.j0 k a0 a1 a2 true) else (if a2 < 0 then (huff_Bits.j0 k a0 a1 a2 true) else (huff_Bits.j0 k a0 a1 a2 (decide (a2 > 16))))
set_option maxHeartbeats 8000000 in
set_option maxRecDepth 100000 in
theorem huff_Bits.calls (k : Nat) (a0 : ByteArray) (a1 : Int) (a2 : Int) (r1 : Int) (r2 : Int) (r3 : Int) (w : World) (h : huff_Bits.f k a0 a1 a2 = some (r1, r2, r3)) :
  Calls Try.prog 32 #[.string a0,.int .i64 a1,.int .i64 a2] w fun e w'=>e=.returned (.tuple #[.int .i64 r1,.int .i64 r2,.int .i64 r3])∧Drawn0 w w':=by
 have H:(if a1 < 0 then (huff_Bits.j0 k a0 a1 a2 true) else (if a2 < 0 then (huff_Bits.j0 k a0 a1 a2 true) else (huff_Bits.j0 k a0 a1 a2 (decide (a2 > 16)))))=some (r1,r2,r3):=h
 clear h
 have HC4:=Aside0.mk H
 clear H
 go_enter Try.func32,Try.ntmps32
 go_upto_region 1 with (fail)
 go_cut [13] (fun v13 wc=>∃ (kq:Nat) (x13_3:Bool),v13=.bool x13_3∧Aside0 (huff_Bits.j0 kq a0 a1 a2 x13_3=some (r1,r2,r3))∧Aside0 (kq≤k)∧Drawn0 w wc)
 case first =>
  have H:=HC4.out
  clear HC4
  by_cases c5:a1 < 0
  ·rw [if_pos c5] at H
   have c5b0:decide (a1 < 0)=true:=decide_eq_true c5
   clear c5
   (first | rw [c5b0] | (simp only [i64_w,i32_w];rw [c5b0]) | skip)
   have H':=Aside0.mk H
   clear H
   go_wp2
   go_meet
   case rel=>exact ⟨_,(true),(by first | rfl | (simp;done) | (simp [*];done)),H',⟨by first | omega | exact Nat.le_refl _⟩,by repeat (first | exact Drawn0.refl _ | apply Drawn0.step)⟩
  ·rw [if_neg c5] at H
   have c5b0:decide (a1 < 0)=false:=decide_eq_false c5
   clear c5
   (first | rw [c5b0] | (simp only [i64_w,i32_w];rw [c5b0]) | skip)
   by_cases c6:a2 < 0
   ·rw [if_pos c6] at H
    have c6b0:decide (a2 < 0)=true:=decide_eq_true c6
    clear c6
    have H':=Aside0.mk H
    clear H
    go_wp2
    go_meet
    case rel=>exact ⟨_,(true),(by first | rfl | (simp;done) | (simp [*];done)),H',⟨by first | omega | exact Nat.le_refl _⟩,by repeat (first | exact Drawn0.refl _ | apply Drawn0.step)⟩
   ·rw [if_neg c6] at H
    have c6b0:decide (a2 < 0)=false:=decide_eq_false c6
    clear c6
    have H':=Aside0.mk H
    clear H
    go_wp2
    go_meet
    case rel=>exact ⟨_,(decide (a2 > 16)),(by first | rfl | (simp;done) | (simp [*];done)),H',⟨by first | omega | exact Nat.le_refl _⟩,by repeat (first | exact Drawn0.refl _ | apply Drawn0.step)⟩
 case rest =>
  clear HC4
  try clear p2
  try clear c3
  try clear c5
  try clear c5b0
  try clear c6
  try clear c6b0
  obtain ⟨kq,x13_3,rfl,HA,HJ3,⟨mc3,rfl⟩⟩:=hcut
  cases kq with
  |zero=>exact absurd HA.out (by simp [huff_Bits.j0])
  |succ kj3 =>
   have H:=HA.out
   clear HA
   simp only [huff_Bits.j0] at H
   by_cases c7:x13_3=true
   ·subst c7
    have H1:(some (0,0,1))=some (r1,r2,r3):=by rw [if_pos rfl] at H;exact H
    clear H
    have H:=H1
    clear H1
    simp only [Option.some.injEq,Prod.mk.injEq] at H
    obtain ⟨rfl,rfl,rfl⟩:=H
    go_wp2
    go_ret3
    exact ⟨by first | rfl | (simp;done) | (simp [*];done),by repeat (first | exact Drawn0.refl _ | apply Drawn0.step)⟩
   ·replace c7:=Bool.eq_false_iff.mpr c7
    subst c7
    have H1:(if a1 > (wrap64 ((wrap64 (8*(a0.size:Int))) - a2)) then (some (0,0,2)) else (huff_Bits.l0 kj3 a0 a1 a2 0 a2 0))=some (r1,r2,r3):=by rw [if_neg (show ¬ (false=true) by decide)] at H;exact H
    clear H
    have H:=H1
    clear H1
    by_cases c8:a1 > (wrap64 ((wrap64 (8*(a0.size:Int))) - a2))
    ·rw [if_pos c8] at H
     have c8b0:decide ((wrap64 ((wrap64 (8*(a0.size:Int))) - a2)) < a1)=true:=decide_eq_true c8
     clear c8
     simp only [Option.some.injEq,Prod.mk.injEq] at H
     obtain ⟨rfl,rfl,rfl⟩:=H
     go_wp2
     go_ret3
     exact ⟨by first | rfl | (simp;done) | (simp [*];done),by repeat (first | exact Drawn0.refl _ | apply Drawn0.step)⟩
    ·rw [if_neg c8] at H
     have c8b0:decide ((wrap64 ((wrap64 (8*(a0.size:Int))) - a2)) < a1)=false:=decide_eq_false c8
     clear c8
     have H':=Aside0.mk H
     clear H
     go_wp2
     go_loopg [9,33] kj3 (fun kq v9 v33 w'=>∃ (x9_2:Int) (x33_2:Int),v9=.int .i64 x9_2∧v33=.int .i64 x33_2∧Aside0 (huff_Bits.l0 kq a0 a1 a2 x9_2 a2 x33_2=some (r1,r2,r3))∧Aside0 (kq≤kj3)∧Drawn0 w w')
     case atStart=>exact ⟨(0),(0),(by first | rfl | (simp;done) | (simp [*];done)),(by first | rfl | (simp;done) | (simp [*];done)),H',⟨Nat.le_refl _⟩,by repeat (first | exact Drawn0.refl _ | apply Drawn0.step)⟩
     case round =>
      clear H'
      try clear p2
      try clear c3
      try clear c5
      try clear c5b0
      try clear c6
      try clear c6b0
      try clear p6
      try clear c7
      try clear c8
      try clear c8b0
      try clear p2
      obtain ⟨x9_2,x33_2,rfl,rfl,HA,HK2,⟨m2,rfl⟩⟩:=hrel
      cases gk with
      |zero=>exact absurd HA.out (by simp [huff_Bits.l0])
      |succ k2 =>
       have H:=HA.out
       clear HA
       simp only [huff_Bits.l0] at H
       by_cases c9:x33_2 < a2
       ·rw [if_pos c9] at H
        have c9b0:decide (x33_2 < a2)=true:=decide_eq_true c9
        clear c9
        replace H:=Option.bind_eq_some_iff.mp H
        obtain ⟨⟨t104,t105⟩,A100,H⟩:=H
        replace H:(if 0≤x33_2 then (huff_Bits.l0 k2 a0 a1 a2 (Go.bits .or .i64 x9_2 (shl .i64 t104 x33_2)) a2 (wrap64 (x33_2+1))) else (none))=some (r1,r2,r3):=H
        have A10:=Aside0.mk A100
        clear A100
        by_cases c11:0≤x33_2
        ·rw [if_pos c11] at H
         have c11b0:=eq_true c11
         have c11b1:decide (0≤x33_2)=true:=decide_eq_true c11
         clear c11
         obtain ⟨ji12,hji12⟩:∃ j_:Int,(shl .i64 t104 x33_2)=j_:=⟨_,rfl⟩
         replace H:(huff_Bits.l0 k2 a0 a1 a2 (Go.bits .or .i64 x9_2 (ji12)) a2 (wrap64 (x33_2+1)))=some (r1,r2,r3):=by first | (rw [hji12] at H;exact H) | (simp only [hji12] at H ⊢;exact H)
         (try rw [hji12] at A10)
         have hji12_:(IntKind.i64.wrap (t104*2 ^ min x33_2.toNat 64))=ji12:=hji12
         have hji12z:x33_2≤64 → (IntKind.i64.wrap (t104*2 ^ x33_2.toNat))=ji12:=shl_small hji12
         have hji12y:(wrap64 (t104*2 ^ min x33_2.toNat 64))=ji12:=(i64_w _).symm.trans hji12_
         have hji12x:x33_2≤64 → (wrap64 (t104*2 ^ x33_2.toNat))=ji12:=fun h_=>(i64_w _).symm.trans (hji12z h_)
         have H':=Aside0.mk H
         clear H
         go_wp2_with (first | ((with_reducible refine gate_callee (f:=34) rfl ?_);refine goesL_ (some 41) rfl rfl Try.func34 (by kernel_rfl) rfl #[.string a0,.int .i64 (wrap64 (a1+x33_2))] rfl (by (try simp only [List.map_toArray,List.map_cons,List.map_nil]);first | done | rfl | (simp only [List.length_drop,List.length_take];rfl)) ?_;(with_reducible refine (huff_Bit.calls a0 (wrap64 (a1+x33_2)) t104 t105 _ A10.out).mono ?_);rintro e w' ⟨rfl,⟨nd,rfl⟩⟩;refine ⟨_,rfl,?_⟩))
         go_roundg k2
         case measure=>have:=HJ3.out;have:=HK2.out;omega
         case rel=>exact ⟨(Go.bits .or .i64 x9_2 (ji12)),(wrap64 (x33_2+1)),(by first | rfl | (simp;done) | (simp only [← hji12] <;> (first | rfl | simp)) | (simp [*];done)),(by first | rfl | (simp;done) | (simp [*];done)),H',⟨by have:=HJ3.out;have:=HK2.out;omega⟩,by repeat (first | exact Drawn0.refl _ | apply Drawn0.step)⟩
        ·rw [if_neg c11] at H
         exact absurd H (by simp)
       ·rw [if_neg c9] at H
        have c9b0:decide (x33_2 < a2)=false:=decide_eq_false c9
        clear c9
        simp only [Option.some.injEq,Prod.mk.injEq] at H
        obtain ⟨rfl,rfl,rfl⟩:=H
        go_wp2
        go_ret3
        exact ⟨by first | rfl | (simp;done) | (simp [*];done),by repeat (first | exact Drawn0.refl _ | apply Drawn0.step)⟩
mutual
def celluloidref04_Bit.j0:Nat → ByteArray → Int → Bool → Option (Int)
 |0,_,_,_=>none
 |k+1,x0,x1,x15=>if x15=true then (some (-1)) else (if 0≤(wrap64 (Int.tdiv x1 8)) then (if (wrap64 (Int.tdiv x1 8)) < (x0.size:Int) then (celluloidref04_Bit.l0 k x1 (wrap64 (bt x0 (wrap64 (Int.tdiv x1 8)))) 0) else (none)) else (none))
def celluloidref04_Bit.l0:Nat → Int → Int → Int → Option (Int)
 |0,_,_,_=>none
 |k+1,x1,x5,x6=>if x6 < (Int.tmod x1 8) then (celluloidref04_Bit.l0 k x1 (wrap64 (Int.tdiv x5 2)) (wrap64 (x6+1))) else (some (Int.tmod x5 2))
end
def celluloidref04_Bit.f (k:Nat) (a0:ByteArray) (a1:Int):Option (Int):=if a1 < 0 then (celluloidref04_Bit.j0 k a0 a1 true) else (celluloidref04_Bit.j0 k a0 a1 (decide ((wrap64 (Int.tdiv a1 8)) ≥ (a0.size:Int))))
set_option maxHeartbeats 8000000 in
set_option maxRecDepth 100000 in
theorem celluloidref04_Bit.calls (k : Nat) (a0 : ByteArray) (a1 : Int) (r : Int) (w : World) (h : celluloidref04_Bit.f k a0 a1 = some r) :
  Calls Try.prog 35 #[.string a0,.int .i64 a1] w fun e w'=>e=.returned (.int .i64 r)∧Drawn0 w w':=by
 have H:(if a1 < 0 then (celluloidref04_Bit.j0 k a0 a1 true) else (celluloidref04_Bit.j0 k a0 a1 (decide ((wrap64 (Int.tdiv a1 8)) ≥ (a0.size:Int)))))=some r:=h
 clear h
 have HC3:=Aside0.mk H
 clear H
 go_enter Try.func35,Try.ntmps35
 go_upto_region 1 with (fail)
 go_cut [15] (fun v15 wc=>∃ (kq:Nat) (x15_2:Bool),v15=.bool x15_2∧Aside0 (celluloidref04_Bit.j0 kq a0 a1 x15_2=some r)∧Aside0 (kq≤k)∧Drawn0 w wc)
 case first =>
  have H:=HC3.out
  clear HC3
  by_cases c4:a1 < 0
  ·rw [if_pos c4] at H
   have c4b0:decide (a1 < 0)=true:=decide_eq_true c4
   clear c4
   (first | rw [c4b0] | (simp only [i64_w,i32_w];rw [c4b0]) | skip)
   have H':=Aside0.mk H
   clear H
   go_wp2
   go_meet
   case rel=>exact ⟨_,(true),(by first | rfl | (simp;done) | (simp [*];done)),H',⟨by first | omega | exact Nat.le_refl _⟩,by repeat (first | exact Drawn0.refl _ | apply Drawn0.step)⟩
  ·rw [if_neg c4] at H
   have c4b0:decide (a1 < 0)=false:=decide_eq_false c4
   clear c4
   (first | rw [c4b0] | (simp only [i64_w,i32_w];rw [c4b0]) | skip)
   have H':=Aside0.mk H
   clear H
   go_wp2
   go_meet
   case rel=>exact ⟨_,(decide ((wrap64 (Int.tdiv a1 8)) ≥ (a0.size:Int))),(by first | rfl | (simp;done) | (simp [*];done)),H',⟨by first | omega | exact Nat.le_refl _⟩,by repeat (first | exact Drawn0.refl _ | apply Drawn0.step)⟩
 case rest =>
  clear HC3
  try clear p2
  try clear c3
  try clear c4
  try clear c4b0
  obtain ⟨kq,x15_2,rfl,HA,HJ2,⟨mc2,rfl⟩⟩:=hcut
  cases kq with
  |zero=>exact absurd HA.out (by simp [celluloidref04_Bit.j0])
  |succ kj2 =>
   have H:=HA.out
   clear HA
   simp only [celluloidref04_Bit.j0] at H
   by_cases c5:x15_2=true
   ·subst c5
    have H1:(some (-1))=some r:=by rw [if_pos rfl] at H;exact H
    clear H
    have H:=H1
    clear H1
    obtain rfl:=Option.some.inj H
    go_wp2
    go_ret
    exact ⟨by first | rfl | (simp;done) | (simp [*];done),by repeat (first | exact Drawn0.refl _ | apply Drawn0.step)⟩
   ·replace c5:=Bool.eq_false_iff.mpr c5
    subst c5
    have H1:(if 0≤(wrap64 (Int.tdiv a1 8)) then (if (wrap64 (Int.tdiv a1 8)) < (a0.size:Int) then (celluloidref04_Bit.l0 kj2 a1 (wrap64 (bt a0 (wrap64 (Int.tdiv a1 8)))) 0) else (none)) else (none))=some r:=by rw [if_neg (show ¬ (false=true) by decide)] at H;exact H
    clear H
    have H:=H1
    clear H1
    obtain ⟨ji6,hji6⟩:∃ j_:Int,(wrap64 (Int.tdiv a1 8))=j_:=⟨_,rfl⟩
    replace H:(if 0≤(ji6) then (if (ji6) < (a0.size:Int) then (celluloidref04_Bit.l0 kj2 a1 (wrap64 (bt a0 (ji6))) 0) else (none)) else (none))=some r:=by first | (rw [hji6] at H;exact H) | (simp only [hji6] at H ⊢;exact H)
    have hji6w:(IntKind.i64.wrap (Int.tdiv a1 8))=ji6:=(i64_w _).trans hji6
    by_cases c7:0≤(ji6)
    ·rw [if_pos c7] at H
     have c7b0:decide (0≤(ji6))=true:=decide_eq_true c7
     clear c7
     by_cases c8:(ji6) < (a0.size:Int)
     ·rw [if_pos c8] at H
      have c8b0:decide ((ji6) < (a0.size:Int))=true:=decide_eq_true c8
      clear c8
      have H':=Aside0.mk H
      clear H
      have p9:0≤((ji6):Int):=of_decide_eq_true (by first | (with_reducible assumption) | assumption)
      have q9:(ji6) < (a0.size:Int):=of_decide_eq_true (by first | (with_reducible assumption) | assumption)
      have hx9:=bt_at a0 (ji6)
      replace p9:=eq_true p9
      replace q9:=eq_true q9
      go_wp2
      go_loopg [5,6] kj2 (fun kq v5 v6 w'=>∃ (x5_2:Int) (x6_2:Int),v5=.int .i64 x5_2∧v6=.int .i64 x6_2∧Aside0 (celluloidref04_Bit.l0 kq a1 x5_2 x6_2=some r)∧Aside0 (kq≤kj2)∧Drawn0 w w')
      case atStart=>exact ⟨(wrap64 (bt a0 (ji6))),(0),(by first | rfl | (simp;done) | (simp only [← hji6] <;> (first | rfl | simp)) | (simp [*];done)),(by first | rfl | (simp;done) | (simp [*];done)),H',⟨Nat.le_refl _⟩,by repeat (first | exact Drawn0.refl _ | apply Drawn0.step)⟩
      case round =>
       clear H'
       try clear c2
       try clear p2
       try clear c3
       try clear c4
       try clear c4b0
       try clear c5
       try clear p6
       try clear c7
       try clear c7b0
       try clear c8
       try clear c8b0
       try clear p9
       try clear q9
       try clear hx9
       try clear p2
       try clear p9
       try clear q9
       obtain ⟨x5_2,x6_2,rfl,rfl,HA,HK2,⟨m2,rfl⟩⟩:=hrel
       cases gk with
       |zero=>exact absurd HA.out (by simp [celluloidref04_Bit.l0])
       |succ k2 =>
        have H:=HA.out
        clear HA
        simp only [celluloidref04_Bit.l0] at H
        by_cases c10:x6_2 < (Int.tmod a1 8)
        ·rw [if_pos c10] at H
         have c10b0:decide (x6_2 < (Int.tmod a1 8))=true:=decide_eq_true c10
         clear c10
         have H':=Aside0.mk H
         clear H
         go_wp2
         go_roundg k2
         case measure=>have:=HJ2.out;have:=HK2.out;omega
         case rel=>exact ⟨(wrap64 (Int.tdiv x5_2 2)),(wrap64 (x6_2+1)),(by first | rfl | (simp;done) | (simp [*];done)),(by first | rfl | (simp;done) | (simp [*];done)),H',⟨by have:=HJ2.out;have:=HK2.out;omega⟩,by repeat (first | exact Drawn0.refl _ | apply Drawn0.step)⟩
        ·rw [if_neg c10] at H
         have c10b0:decide (x6_2 < (Int.tmod a1 8))=false:=decide_eq_false c10
         clear c10
         obtain rfl:=Option.some.inj H
         go_wp2
         go_ret
         exact ⟨by first | rfl | (simp;done) | (simp only [← hji6] <;> (first | rfl | simp)) | (simp [*];done),by repeat (first | exact Drawn0.refl _ | apply Drawn0.step)⟩
     ·rw [if_neg c8] at H
      exact absurd H (by simp)
    ·rw [if_neg c7] at H
     exact absurd H (by simp)
mutual
def celluloidref04_Bits.j0:Nat → ByteArray → Int → Int → Bool → Option (Int × Int × Int)
 |0,_,_,_,_=>none
 |k+1,x0,x1,x2,x22=>if x22=true then (some (0,0,1)) else (celluloidref04_Bits.l0 k x0 x1 x2 0 1 0)
def celluloidref04_Bits.l0:Nat → ByteArray → Int → Int → Int → Int → Int → Option (Int × Int × Int)
 |0,_,_,_,_,_,_=>none
 |k+1,x0,x1,x2,x9,x10,x11=>if x11 < x2 then ((celluloidref04_Bit.f k x0 (wrap64 (x1+x11))).bind fun t106=>(if t106 < 0 then (some (0,0,2)) else (celluloidref04_Bits.l0 k x0 x1 x2 (wrap64 (x9+(wrap64 (x10*t106)))) (wrap64 (x10*2)) (wrap64 (x11+1))))) else (if x2=0 then (if x1 > (wrap64 (8*(x0.size:Int))) then (some (0,0,2)) else (some (x9,wrap64 (x1+x2),0))) else (some (x9,wrap64 (x1+x2),0)))
end
def celluloidref04_Bits.f (k:Nat) (a0:ByteArray) (a1:Int) (a2:Int):Option (Int × Int × Int):=if a1 < 0 then (celluloidref04_Bits.j0 k a0 a1 a2 true) else (if a2 < 0 then (celluloidref04_Bits.j0 k a0 a1 a2 true) else (celluloidref04_Bits.j0 k a0 a1 a2 (decide (a2 > 16))))
set_option maxHeartbeats 8000000 in
set_option maxRecDepth 100000 in
theorem celluloidref04_Bits.calls (k : Nat) (a0 : ByteArray) (a1 : Int) (a2 : Int) (r1 : Int) (r2 : Int) (r3 : Int) (w : World) (h : celluloidref04_Bits.f k a0 a1 a2 = some (r1, r2, r3)) :
  Calls Try.prog 33 #[.string a0,.int .i64 a1,.int .i64 a2] w fun e w'=>e=.returned (.tuple #[.int .i64 r1,.int .i64 r2,.int .i64 r3])∧Drawn0 w w':=by
 have H:(if a1 < 0 then (celluloidref04_Bits.j0 k a0 a1 a2 true) else (if a2 < 0 then (celluloidref04_Bits.j0 k a0 a1 a2 true) else (celluloidref04_Bits.j0 k a0 a1 a2 (decide (a2 > 16)))))=some (r1,r2,r3):=h
 clear h
 have HC4:=Aside0.mk H
 clear H
 go_enter Try.func33,Try.ntmps33
 go_upto_region 1 with (fail)
 go_cut [22] (fun v22 wc=>∃ (kq:Nat) (x22_3:Bool),v22=.bool x22_3∧Aside0 (celluloidref04_Bits.j0 kq a0 a1 a2 x22_3=some (r1,r2,r3))∧Aside0 (kq≤k)∧Drawn0 w wc)
 case first =>
  have H:=HC4.out
  clear HC4
  by_cases c5:a1 < 0
  ·rw [if_pos c5] at H
   have c5b0:decide (a1 < 0)=true:=decide_eq_true c5
   clear c5
   (first | rw [c5b0] | (simp only [i64_w,i32_w];rw [c5b0]) | skip)
   have H':=Aside0.mk H
   clear H
   go_wp2
   go_meet
   case rel=>exact ⟨_,(true),(by first | rfl | (simp;done) | (simp [*];done)),H',⟨by first | omega | exact Nat.le_refl _⟩,by repeat (first | exact Drawn0.refl _ | apply Drawn0.step)⟩
  ·rw [if_neg c5] at H
   have c5b0:decide (a1 < 0)=false:=decide_eq_false c5
   clear c5
   (first | rw [c5b0] | (simp only [i64_w,i32_w];rw [c5b0]) | skip)
   by_cases c6:a2 < 0
   ·rw [if_pos c6] at H
    have c6b0:decide (a2 < 0)=true:=decide_eq_true c6
    clear c6
    have H':=Aside0.mk H
    clear H
    go_wp2
    go_meet
    case rel=>exact ⟨_,(true),(by first | rfl | (simp;done) | (simp [*];done)),H',⟨by first | omega | exact Nat.le_refl _⟩,by repeat (first | exact Drawn0.refl _ | apply Drawn0.step)⟩
   ·rw [if_neg c6] at H
    have c6b0:decide (a2 < 0)=false:=decide_eq_false c6
    clear c6
    have H':=Aside0.mk H
    clear H
    go_wp2
    go_meet
    case rel=>exact ⟨_,(decide (a2 > 16)),(by first | rfl | (simp;done) | (simp [*];done)),H',⟨by first | omega | exact Nat.le_refl _⟩,by repeat (first | exact Drawn0.refl _ | apply Drawn0.step)⟩
 case rest =>
  clear HC4
  try clear p2
  try clear c3
  try clear c5
  try clear c5b0
  try clear c6
  try clear c6b0
  obtain ⟨kq,x22_3,rfl,HA,HJ3,⟨mc3,rfl⟩⟩:=hcut
  cases kq with
  |zero=>exact absurd HA.out (by simp [celluloidref04_Bits.j0])
  |succ kj3 =>
   have H:=HA.out
   clear HA
   simp only [celluloidref04_Bits.j0] at H
   by_cases c7:x22_3=true
   ·subst c7
    have H1:(some (0,0,1))=some (r1,r2,r3):=by rw [if_pos rfl] at H;exact H
    clear H
    have H:=H1
    clear H1
    simp only [Option.some.injEq,Prod.mk.injEq] at H
    obtain ⟨rfl,rfl,rfl⟩:=H
    go_wp2
    go_ret3
    exact ⟨by first | rfl | (simp;done) | (simp [*];done),by repeat (first | exact Drawn0.refl _ | apply Drawn0.step)⟩
   ·replace c7:=Bool.eq_false_iff.mpr c7
    subst c7
    have H1:(celluloidref04_Bits.l0 kj3 a0 a1 a2 0 1 0)=some (r1,r2,r3):=by rw [if_neg (show ¬ (false=true) by decide)] at H;exact H
    clear H
    have H:=H1
    clear H1
    have H':=Aside0.mk H
    clear H
    go_wp2
    go_loopg [9,10,11] kj3 (fun kq v9 v10 v11 w'=>∃ (x9_2:Int) (x10_2:Int) (x11_2:Int),v9=.int .i64 x9_2∧v10=.int .i64 x10_2∧v11=.int .i64 x11_2∧Aside0 (celluloidref04_Bits.l0 kq a0 a1 a2 x9_2 x10_2 x11_2=some (r1,r2,r3))∧Aside0 (kq≤kj3)∧Drawn0 w w')
    case atStart=>exact ⟨(0),(1),(0),(by first | rfl | (simp;done) | (simp [*];done)),(by first | rfl | (simp;done) | (simp [*];done)),(by first | rfl | (simp;done) | (simp [*];done)),H',⟨Nat.le_refl _⟩,by repeat (first | exact Drawn0.refl _ | apply Drawn0.step)⟩
    case round =>
     clear H'
     try clear p2
     try clear c3
     try clear c5
     try clear c5b0
     try clear c6
     try clear c6b0
     try clear c7
     try clear p2
     obtain ⟨x9_2,x10_2,x11_2,rfl,rfl,rfl,HA,HK2,⟨m2,rfl⟩⟩:=hrel
     cases gk with
     |zero=>exact absurd HA.out (by simp [celluloidref04_Bits.l0])
     |succ k2 =>
      have H:=HA.out
      clear HA
      simp only [celluloidref04_Bits.l0] at H
      by_cases c8:x11_2 < a2
      ·rw [if_pos c8] at H
       have c8b0:decide (x11_2 < a2)=true:=decide_eq_true c8
       clear c8
       replace H:=Option.bind_eq_some_iff.mp H
       obtain ⟨t106,A90,H⟩:=H
       replace H:(if t106 < 0 then (some (0,0,2)) else (celluloidref04_Bits.l0 k2 a0 a1 a2 (wrap64 (x9_2+(wrap64 (x10_2*t106)))) (wrap64 (x10_2*2)) (wrap64 (x11_2+1))))=some (r1,r2,r3):=H
       have A9:=Aside0.mk A90
       clear A90
       by_cases c10:t106 < 0
       ·rw [if_pos c10] at H
        have c10b0:decide (t106 < 0)=true:=decide_eq_true c10
        clear c10
        simp only [Option.some.injEq,Prod.mk.injEq] at H
        obtain ⟨rfl,rfl,rfl⟩:=H
        go_wp2_with (first | ((with_reducible refine gate_callee (f:=35) rfl ?_);refine goesL_ (some 32) rfl rfl Try.func35 (by kernel_rfl) rfl #[.string a0,.int .i64 (wrap64 (a1+x11_2))] rfl (by (try simp only [List.map_toArray,List.map_cons,List.map_nil]);first | done | rfl | (simp only [List.length_drop,List.length_take];rfl)) ?_;(with_reducible refine (celluloidref04_Bit.calls k2 a0 (wrap64 (a1+x11_2)) t106 _ A9.out).mono ?_);rintro e w' ⟨rfl,⟨nd,rfl⟩⟩;refine ⟨_,rfl,?_⟩))
        go_ret3
        exact ⟨by first | rfl | (simp;done) | (simp [*];done),by repeat (first | exact Drawn0.refl _ | apply Drawn0.step)⟩
       ·rw [if_neg c10] at H
        have c10b0:decide (t106 < 0)=false:=decide_eq_false c10
        clear c10
        have H':=Aside0.mk H
        clear H
        go_wp2_with (first | ((with_reducible refine gate_callee (f:=35) rfl ?_);refine goesL_ (some 32) rfl rfl Try.func35 (by kernel_rfl) rfl #[.string a0,.int .i64 (wrap64 (a1+x11_2))] rfl (by (try simp only [List.map_toArray,List.map_cons,List.map_nil]);first | done | rfl | (simp only [List.length_drop,List.length_take];rfl)) ?_;(with_reducible refine (celluloidref04_Bit.calls k2 a0 (wrap64 (a1+x11_2)) t106 _ A9.out).mono ?_);rintro e w' ⟨rfl,⟨nd,rfl⟩⟩;refine ⟨_,rfl,?_⟩))
        go_roundg k2
        case measure=>have:=HJ3.out;have:=HK2.out;omega
        case rel=>exact ⟨(wrap64 (x9_2+(wrap64 (x10_2*t106)))),(wrap64 (x10_2*2)),(wrap64 (x11_2+1)),(by first | rfl | (simp;done) | (simp [*];done)),(by first | rfl | (simp;done) | (simp [*];done)),(by first | rfl | (simp;done) | (simp [*];done)),H',⟨by have:=HJ3.out;have:=HK2.out;omega⟩,by repeat (first | exact Drawn0.refl _ | apply Drawn0.step)⟩
      ·rw [if_neg c8] at H
       have c8b0:decide (x11_2 < a2)=false:=decide_eq_false c8
       clear c8
       by_cases c11:a2=0
       ·rw [if_pos c11] at H
        have c11b0:(a2 == 0)=true:=beq_iff_eq.mpr c11
        have c11b1:(a2 != 0)=false:=bne_eq_false_iff_eq.mpr c11
        clear c11
        by_cases c12:a1 > (wrap64 (8*(a0.size:Int)))
        ·rw [if_pos c12] at H
         have c12b0:decide ((wrap64 (8*(a0.size:Int))) < a1)=true:=decide_eq_true c12
         clear c12
         simp only [Option.some.injEq,Prod.mk.injEq] at H
         obtain ⟨rfl,rfl,rfl⟩:=H
         go_wp2
         go_ret3
         exact ⟨by first | rfl | (simp;done) | (simp [*];done),by repeat (first | exact Drawn0.refl _ | apply Drawn0.step)⟩
        ·rw [if_neg c12] at H
         have c12b0:decide ((wrap64 (8*(a0.size:Int))) < a1)=false:=decide_eq_false c12
         clear c12
         simp only [Option.some.injEq,Prod.mk.injEq] at H
         obtain ⟨rfl,rfl,rfl⟩:=H
         go_wp2
         go_ret3
         exact ⟨by first | rfl | (simp;done) | (simp [*];done),by repeat (first | exact Drawn0.refl _ | apply Drawn0.step)⟩
       ·rw [if_neg c11] at H
        have c11b0:(a2 == 0)=false:=beq_eq_false_iff_ne.mpr c11
        have c11b1:(a2 != 0)=true:=bne_iff_ne.mpr c11
        simp only [Option.some.injEq,Prod.mk.injEq] at H
        obtain ⟨rfl,rfl,rfl⟩:=H
        go_wp2
        go_ret3
        exact ⟨by first | rfl | (simp;done) | (simp [*];done),by repeat (first | exact Drawn0.refl _ | apply Drawn0.step)⟩
end Go.Proofs.Ytpbhkdamkbopkaa.PHuffBits
namespace Go.Proofs.Ytpbhkdamkbopkaa.Ext
set_option linter.unusedSimpArgs false
set_option linter.unusedVariables false
open Go.RowKit Go.Proofs.YtpbhkdamkbopkaaW.PrintWords Go.Proofs.YtpbhkdamkbopkaaW.PrintLast Go.Proofs.YtpbhkdamkbopkaaW.PrintMore
/-- A length that may not be. -/
def badLen (n:Int):Bool:=decide (n < 0) || decide (15 < n)
theorem bad60 (n:Int) (w:World) (h:badLen n=true):Calls Try.prog 60 #[.int .i64 n] w fun e w'=>e=.returned (.bool true)∧w=w':=by
 by_cases h0:n < 0
 ·have h2:decide (n < 0)=true:=decide_eq_true h0
  clear h h0
  go_enter Try.func60,Try.ntmps60
  go_wp2
  go_ret
  exact ⟨by simp [h2],rfl⟩
 ·have h1:decide (15 < n)=true:=by simp [badLen] at h;apply decide_eq_true;omega
  have h2:decide (n < 0)=false:=decide_eq_false h0
  clear h h0
  go_enter Try.func60,Try.ntmps60
  go_wp2
  go_ret
  exact ⟨by simp [h1,h2],rfl⟩
theorem good60 (n:Int) (w:World) (h:badLen n=false):Calls Try.prog 60 #[.int .i64 n] w fun e w'=>e=.returned (.bool false)∧w=w':=by
 have h1:decide (15 < n)=false:=by simp [badLen] at h;apply decide_eq_false;omega
 have h2:decide (n < 0)=false:=by simp [badLen] at h;apply decide_eq_false;omega
 clear h
 go_enter Try.func60,Try.ntmps60
 go_wp2
 go_ret
 exact ⟨by simp [h1,h2],rfl⟩
theorem index_none (A : Option Addr) (c : Nat) (l : List Int) (w : World) (hr : Kd.C (Kd.int .i64) w A l.length l) (h : ∀ i : Nat, i < l.length → badLen (rd l i) = false) :
  Calls Try.prog 88 #[.slice A l.length c,.func (.func 60) #[] #[]] w fun e w'=>e=.returned (.int .i64 (-1))∧w=w':=by
 have HR:=Aside0.mk hr
 have HH:=Aside0.mk h
 have hm:=Kd.C_max hr
 clear hr h
 go_enter Try.func88,Try.ntmps88
 go_wp2
 go_loop [4,8] (fun v4 v8=>∃ k:Nat,k≤l.length∧v4=.int .i64 0∧v8=.int .i64 k) (fun _ v8=>l.length - (intOf v8).toNat)
 case atStart=>exact ⟨0,Nat.zero_le _,rfl,rfl⟩
 case round =>
  obtain ⟨k,hk,rfl,rfl⟩:=hrel
  by_cases hlt:k < l.length
  ·obtain ⟨ad,ead,hx⟩:=Kd.at_int HR.out k (by omega) (by omega)
   cases ead
   rw [Int.toNat_natCast] at hx
   have H1:=Aside0.mk (HH.out k hlt)
   go_wp2_with (go_at_call 60;refine (good60 _ _ H1.out).mono ?_;rintro e w' ⟨rfl,rfl⟩)
   go_round
   case rel=>exact ⟨k+1,by omega,rfl,by go_num⟩
   case measure=>simp [intOf];omega
  ·go_wp2
   go_ret
   exact ⟨rfl,rfl⟩
theorem index_some (A : Option Addr) (c : Nat) (l : List Int) (w : World) (hr : Kd.C (Kd.int .i64) w A l.length l) (m : Nat) (hm0 : m < l.length) (hm1 : badLen (rd l m) = true) (h : ∀ i : Nat, i < m → badLen (rd l i) = false) :
  Calls Try.prog 88 #[.slice A l.length c,.func (.func 60) #[] #[]] w fun e w'=>e=.returned (.int .i64 m)∧w=w':=by
 have HR:=Aside0.mk hr
 have HH:=Aside0.mk h
 have HM:=Aside0.mk hm1
 have hm:=Kd.C_max hr
 clear hr h hm1
 go_enter Try.func88,Try.ntmps88
 go_wp2
 go_loop [4,8] (fun v4 v8=>∃ k:Nat,k≤m∧v4=.int .i64 0∧v8=.int .i64 k) (fun _ v8=>l.length - (intOf v8).toNat)
 case atStart=>exact ⟨0,Nat.zero_le _,rfl,rfl⟩
 case round =>
  obtain ⟨k,hk,rfl,rfl⟩:=hrel
  obtain ⟨ad,ead,hx⟩:=Kd.at_int HR.out k (by omega) (by omega)
  cases ead
  rw [Int.toNat_natCast] at hx
  have hkl:k < l.length:=by omega
  by_cases hlt:k < m
  ·have H1:=Aside0.mk (HH.out k hlt)
   go_wp2_with (go_at_call 60;refine (good60 _ _ H1.out).mono ?_;rintro e w' ⟨rfl,rfl⟩)
   go_round
   case rel=>exact ⟨k+1,by omega,rfl,by go_num⟩
   case measure=>simp [intOf];omega
  ·obtain rfl:k=m:=by omega
   go_wp2_with (go_at_call 60;refine (bad60 _ _ HM.out).mono ?_;rintro e w' ⟨rfl,rfl⟩)
   go_ret
   exact ⟨rfl,rfl⟩
theorem contains_no (A : Option Addr) (c : Nat) (l : List Int) (w : World) (hr : Kd.C (Kd.int .i64) w A l.length l) (h : ∀ i : Nat, i < l.length → badLen (rd l i) = false) :
  Calls Try.prog 59 #[.slice A l.length c,.func (.func 60) #[] #[]] w fun e w'=>e=.returned (.bool false)∧w=w':=by
 have HR:=Aside0.mk hr
 have HH:=Aside0.mk h
 clear hr h
 go_enter Try.func59,Try.ntmps59
 go_wp2_with (go_at_call 88;refine (index_none A c l _ HR.out HH.out).mono ?_;rintro e w' ⟨rfl,rfl⟩)
 go_ret
 exact ⟨rfl,rfl⟩
theorem first_bad (l:List Int) (n:Nat):(∀ i:Nat,i < n → badLen (rd l i)=false) ∨ ∃ m,m < n∧badLen (rd l m)=true∧∀ i:Nat,i < m → badLen (rd l i)=false:=by
 induction n with
 |zero=>exact .inl fun i hi=>absurd hi (Nat.not_lt_zero i)
 |succ n ih =>
  rcases ih with h | ⟨m,h0,h1,h2⟩
  ·cases hb:badLen (rd l n) with
   |false =>
    refine .inl fun i hi=>?_
    rcases Nat.lt_or_ge i n with h' | h'
    ·exact h i h'
    ·obtain rfl:i=n:=by omega
     exact hb
   |true=>exact .inr ⟨n,by omega,hb,h⟩
  ·exact .inr ⟨m,by omega,h1,h2⟩
theorem contains_yes (A : Option Addr) (c : Nat) (l : List Int) (w : World) (hr : Kd.C (Kd.int .i64) w A l.length l) (h : ¬ ∀ i : Nat, i < l.length → badLen (rd l i) = false) :
  Calls Try.prog 59 #[.slice A l.length c,.func (.func 60) #[] #[]] w fun e w'=>e=.returned (.bool true)∧w=w':=by
 rcases first_bad l l.length with h' | ⟨m,h0,h1,h2⟩
 ·exact absurd h' h
 have HR:=Aside0.mk hr
 have H1:=Aside0.mk h1
 have H2:=Aside0.mk h2
 have hm:=Kd.C_max hr
 clear hr h h1 h2
 go_enter Try.func59,Try.ntmps59
 go_wp2_with (go_at_call 88;refine (index_some A c l _ HR.out m h0 H1.out H2.out).mono ?_;rintro e w' ⟨rfl,rfl⟩)
 go_ret
 exact ⟨rfl,rfl⟩
end Go.Proofs.Ytpbhkdamkbopkaa.Ext
set_option linter.unusedSimpArgs false
set_option linter.unusedVariables false
namespace Go.Proofs.Ytpbhkdamkbopkaa.Ext
/-- How many of l are n. -/
def cnt (l:List Int) (n:Nat):Int:=((l.filter fun x=>decide (x=(n:Int))).length:Int)
/-- How many there are of each,0 to 15;with and without the noughts. -/
def cntsAll (l:List Int):List Int:=(List.range 16).map (cnt l)
def cnts (l:List Int):List Int:=(cntsAll l).set 0 0
/-- What is left of 2^15 ahead of length n,and how many codes there are. -/
def roomN (cs:List Int):Nat → Int
 |0=>32768
 |n+1=>roomN cs n - cs.getD n 0*2 ^ (15 - n)
def manyN (cs:List Int):Nat → Int
 |0=>0
 |n+1=>manyN cs n+cs.getD n 0
/-- The places among the first k of l that hold n. -/
def idxN (l:List Int) (n:Nat) (k:Nat):List Int:=((List.range k).filter fun i=>decide (l.getD i 0=(n:Int))).map Int.ofNat
/-- The symbols of the lengths 1 to n - 1,in order. -/
def symsN (l:List Int):Nat → List Int
 |0=>[]
 |n+1=>symsN l n ++ idxN l (n+1) l.length
def syms (l:List Int):List Int:=symsN l 15
def okL (l:List Int):Bool:=l.all fun n=>decide (0≤n) && decide (n≤15)
def badSum (l:List Int):Bool :=
 let r:=roomN (cnts l) 16
 let m:=manyN (cnts l) 16
 decide (r < 0) || (decide (0 < r) && decide (0 < m) && (decide (m ≠ 1) || decide (cnt l 1 ≠ 1)))
/-- The error of lengths. -/
def errOf (l:List Int):Int:=if 320 < l.length then 1 else if okL l=false then 1 else if badSum l=true then 4 else 0
theorem cnt_nonneg (l:List Int) (n:Nat):0≤cnt l n:=Int.natCast_nonneg _
theorem cnt_le (l:List Int) (n:Nat):cnt l n≤l.length:=by
 unfold cnt
 have:=List.length_filter_le (fun x=>decide (x=(n:Int))) l
 omega
theorem cnt_snoc (l:List Int) (x:Int) (n:Nat):cnt (l ++ [x]) n=cnt l n+if x=(n:Int) then 1 else 0:=by
 unfold cnt
 rw [List.filter_append,List.length_append]
 by_cases h:x=(n:Int) <;> simp [List.filter_cons,h]
theorem cntsAll_length (l:List Int):(cntsAll l).length=16:=by simp [cntsAll]
theorem cntsAll_get (l:List Int) (n:Nat) (h:n < 16):(cntsAll l)[n]?=some (cnt l n):=by simp [cntsAll,h]
theorem cnts_length (l:List Int):(cnts l).length=16:=by simp [cnts,cntsAll]
theorem cntsAll_snoc (l:List Int) (x:Nat) (hx:x < 16):cntsAll (l ++ [(x:Int)])=(cntsAll l).set x (cnt l x+1):=by
 apply List.ext_getElem?
 intro i
 by_cases hi:i < 16
 ·rw [cntsAll_get _ _ hi,List.getElem?_set,cnt_snoc]
  by_cases e:x=i
  ·subst e;simp [cntsAll_length,hi]
  ·have e':¬ ((x:Int)=(i:Int)):=by omega
   rw [if_neg e,cntsAll_get _ _ hi];simp [e']
 ·rw [List.getElem?_eq_none (by rw [cntsAll_length];omega),List.getElem?_eq_none (by rw [List.length_set,cntsAll_length];omega)]
theorem cnts_get (l:List Int) (n:Nat) (h:n < 16):(cnts l)[n]?=some (if n=0 then 0 else cnt l n):=by
 unfold cnts
 rw [List.getElem?_set]
 by_cases e:0=n
 ·subst e;simp [cntsAll_length]
 ·rw [if_neg e,cntsAll_get _ _ h,if_neg (by omega)]
theorem cnts_rng (l:List Int) (n:Nat):0≤(cnts l).getD n 0∧(cnts l).getD n 0≤l.length:=by
 rw [List.getD_eq_getElem?_getD]
 by_cases h:n < 16
 ·rw [cnts_get l n h]
  have:=cnt_nonneg l n
  have:=cnt_le l n
  simp only [Option.getD_some]
  split <;> omega
 ·rw [List.getElem?_eq_none (by rw [cnts_length];omega)];simp
theorem take_snoc' (l:List Int) (k:Nat) (h:k < l.length):l.take (k+1)=l.take k ++ [l.getD k 0]:=by
 rw [List.take_succ_eq_append_getElem h];simp [List.getD_eq_getElem?_getD,h]
theorem idxN_succ (l:List Int) (n k:Nat):idxN l n (k+1)=idxN l n k ++ if l.getD k 0=(n:Int) then [(k:Int)] else []:=by
 unfold idxN
 rw [List.range_succ,List.filter_append,List.map_append]
 congr 1
 by_cases h:l.getD k 0=(n:Int)
 ·rw [if_pos h,List.filter_cons_of_pos (by simpa using h)];rfl
 ·rw [if_neg h,List.filter_cons_of_neg (by simpa using h)];rfl
theorem idxN_length (l:List Int) (n k:Nat):(idxN l n k).length≤k:=by
 unfold idxN
 rw [List.length_map]
 have:=List.length_filter_le (fun i=>decide (l.getD i 0=(n:Int))) (List.range k)
 rw [List.length_range] at this
 exact this
theorem symsN_length (l:List Int) (n:Nat):(symsN l n).length≤n*l.length:=by
 induction n with
 |zero=>simp [symsN]
 |succ n ih =>
  have:=idxN_length l (n+1) l.length
  simp only [symsN,List.length_append]
  rw [Nat.succ_mul]
  omega
theorem pow_rng (n:Nat):(1:Int)≤2 ^ (15 - n)∧(2:Int) ^ (15 - n)≤32768:=by
 have h1:2 ^ (15 - n)≤2 ^ 15:=Nat.pow_le_pow_right (by decide) (by omega)
 have h2:1≤2 ^ (15 - n):=Nat.one_le_two_pow
 have e:((2 ^ (15 - n):Nat):Int)=(2:Int) ^ (15 - n):=by rw [Int.natCast_pow];rfl
 rw [← e]
 omega
theorem roomN_rng (cs:List Int) (m:Int) (h:∀ n,0≤cs.getD n 0∧cs.getD n 0≤m) (hm:m≤320) (n:Nat):roomN cs n≤32768∧32768 - (n:Int)*10485760≤roomN cs n:=by
 induction n with
 |zero=>show (32768:Int)≤32768∧32768 - ((0:Nat):Int)*10485760≤(32768:Int);omega
 |succ n ih =>
  have hc:=h n
  have hp:=pow_rng n
  have h1:0≤cs.getD n 0*2 ^ (15 - n):=Int.mul_nonneg hc.1 (by omega)
  have h2:cs.getD n 0*2 ^ (15 - n)≤320*32768:=Int.mul_le_mul (by omega) hp.2 (by omega) (by omega)
  simp only [roomN]
  omega
theorem manyN_rng (cs:List Int) (m:Int) (h:∀ n,0≤cs.getD n 0∧cs.getD n 0≤m) (hm:m≤320) (n:Nat):0≤manyN cs n∧manyN cs n≤n*320:=by
 induction n with
 |zero=>show 0≤(0:Int)∧(0:Int)≤((0:Nat):Int)*320;omega
 |succ n ih =>
  have hc:=h n
  simp only [manyN]
  omega
end Go.Proofs.Ytpbhkdamkbopkaa.Ext
namespace Go.Proofs.Ytpbhkdamkbopkaa.Ext
set_option linter.unusedSimpArgs false
set_option linter.unusedVariables false
open Go.RowKit Go.Proofs.YtpbhkdamkbopkaaW.PrintWords Go.Proofs.YtpbhkdamkbopkaaW.PrintLast Go.Proofs.YtpbhkdamkbopkaaW.PrintMore
/-- A table's cells. -/
def tab (cs:List Int) (v:Value):Array Value:=(cs.map (Value.int .i64) ++ [v]).toArray
def zero16:List Int:=List.replicate 16 0
theorem tab0 (v:Value):tab zero16 v=#[.int .i64 0,.int .i64 0,.int .i64 0,.int .i64 0,.int .i64 0,.int .i64 0,.int .i64 0,.int .i64 0,.int .i64 0,.int .i64 0,.int .i64 0,.int .i64 0,.int .i64 0,.int .i64 0,.int .i64 0,.int .i64 0,v]:=rfl
theorem tab_size (cs:List Int) (v:Value):(tab cs v).size=cs.length+1:=by simp [tab]
theorem tab_one (cs:List Int) (a:Option Addr) (n c:Nat):(tab cs (.slice a n c)).all (·.oneCell')=true:=by
 rw [Array.all_eq_true_iff_forall_mem]
 intro x hx
 simp [tab] at hx
 rcases hx with ⟨y,_,rfl⟩ | rfl <;> rfl
theorem tab_get (cs:List Int) (v:Value) (i:Nat) (h:i < cs.length):(tab cs v)[i]?=some (.int .i64 (cs.getD i 0)):=by
 simp [tab,List.getElem?_append,h,List.getD_eq_getElem?_getD]
theorem tab_last (cs:List Int) (v:Value):(tab cs v)[cs.length]?=some v:=by
 simp [tab,List.getElem?_append]
theorem tab_set (cs:List Int) (v:Value) (i:Nat) (h:i < cs.length) (x:Int):(tab cs v).setIfInBounds i (.int .i64 x)=tab (cs.set i x) v:=by
 simp [tab,List.set_append,h,List.map_set]
theorem tab_setLast (cs:List Int) (v u:Value):(tab cs v).setIfInBounds cs.length u=tab cs u:=by
 simp [tab,List.set_append]
theorem inf3:∃ i,Try.prog.info? 3=some i∧i.size=1:=by
 have h:(Try.prog.info? 3).map (·.size)=some 1:=by kernel_rfl
 cases hq:Try.prog.info? 3 with
 |none=>rw [hq] at h;cases h
 |some i=>rw [hq] at h;exact ⟨i,rfl,by simpa using h⟩
theorem run_isAgg3 (W:World):(isAgg 3).run Try.prog W=.ok false W:=by
 unfold isAgg
 rw [Sem.run_bind,run_underlying Try.underlying3]
 rfl
theorem info26:(Try.prog.info? 26).map (·.size)=some 17:=by kernel_rfl
theorem below_setRow {B:Nat} {w W:World} (h:Below B w W) {g:Nat} (hg:B≤g) (cs:Array Value):Below B w (W.setRow g cs) :=
 ⟨h.os,h.tape,h.output,by have:=h.size;simpa [World.setRow] using this,fun i hi=>by
  rw [← h.block i hi]
  simp only [World.setRow]
  rw [Array.getElem?_modify,if_neg (by omega)]⟩
theorem results_cell_tmp {P : Program} {fn : Func} {p q : Tmp} {ty : TypeId} (h : fn.results = #[.cell p ty, .tmp q]) (tmps : Array Value) (w : World) (g : Nat) (t : TypeId) (cs : Array Value) (fr : Nat × Nat) (d : TypeDesc)
  (hp:tmps.getD p undef=.pointer (some ⟨g,0,none⟩)) (hg:w.heap[g]?=some (.cells cs t fr))
  (hu:P.underlying ty=some d) (hd:(match d with | .struct _ | .array _ _=>true | _=>false)=true) (hi:(P.info? ty).map (·.size)=some cs.size) :
  (results fn tmps).run P w=.ok (.tuple #[.agg cs,tmps.getD q undef]) w:=by
 have hp':tmps[p]?.getD undef=.pointer (some ⟨g,0,none⟩):=by simpa using hp
 simp [results,h,hp',asAddr,run_loadVar_row w g t ty cs fr d hg hu hd hi]
/-- What New answers: the counts,the symbols,the error. -/
def NewIs (w:World) (cs:List Int) (ss:List Int) (er:Int) (e:Ending) (w':World):Prop :=
 ∃ v:Value,e=.returned (.tuple #[.agg (tab cs v),.int .i64 er])∧Kd.R (Kd.int .i64) 3 w' w.heap.size (fun _=>True) v ss∧Below w.heap.size w w'
set_option maxHeartbeats 1000000 in
theorem new_long (A:Option Addr) (c:Nat) (l:List Int) (w:World) (h:320 < l.length):Calls Try.prog 26 #[.slice A l.length c] w (NewIs w zero16 [] 1):=by
 have c1:decide (320 < (l.length:Int))=true:=decide_eq_true (by omega)
 have c2:decide (320 < l.length)=true:=decide_eq_true (by omega)
 clear h
 have hb0:(w.alloc (.cells (tab zero16 (.slice none 0 0)) 26)).heap[w.heap.size]?=some (.cells (tab zero16 (.slice none 0 0)) 26 (0,0)):=heap_alloc_new _ _
 have HB0:=Aside0.mk hb0
 clear hb0
 go_enter Try.func26,Try.ntmps26
 go_wp2_with (refine wpList_store_row rfl 26 _ _ rfl w.heap.size (tab zero16 (.slice none 0 0)) rfl (by rw [tab0];rfl) 26 (tab zero16 (.slice none 0 0)) HB0.out info26 rfl (tab_one _ _ _ _) ?_)
 exact bodyPost_ret (v:=.tuple #[.agg (tab zero16 (.slice none 0 0)),.int .i64 1]) (results_cell_tmp (p:=2) (q:=3) rfl _ _ w.heap.size 26 _ (0,0) _ rfl (setRow_heap _ _ _ _ _ _ HB0.out) Try.underlying26 rfl info26) rfl ⟨_,rfl,Kd.R_nil _ _ _ _ _,below_setRow ((Below.refl _ _).alloc (Nat.le_refl _) _) (Nat.le_refl _) _⟩
set_option maxHeartbeats 1000000 in
theorem new_bad (A : Option Addr) (c : Nat) (l : List Int) (w : World) (hr : Kd.C (Kd.int .i64) w A l.length l) (h : l.length ≤ 320) (hb : ¬ ∀ i : Nat, i < l.length → badLen (rd l i) = false) :
  Calls Try.prog 26 #[.slice A l.length c] w (NewIs w zero16 [] 1):=by
 have c1:decide (320 < (l.length:Int))=false:=decide_eq_false (by omega)
 have c2:decide (320 < l.length)=false:=decide_eq_false (by omega)
 have HR:=Aside0.mk hr
 have HB:=Aside0.mk hb
 have hb0:(w.alloc (.cells (tab zero16 (.slice none 0 0)) 26)).heap[w.heap.size]?=some (.cells (tab zero16 (.slice none 0 0)) 26 (0,0)):=heap_alloc_new _ _
 have HB0:=Aside0.mk hb0
 clear h hr hb hb0
 go_enter Try.func26,Try.ntmps26
 go_wp2_with (first
  |(go_at_call 59;refine (contains_yes A c l _ (Kd.C_alloc HR.out _) HB.out).mono ?_;rintro e w' ⟨rfl,rfl⟩)
  |(refine wpList_store_row rfl 26 _ _ rfl w.heap.size (tab zero16 (.slice none 0 0)) rfl (by rw [tab0];rfl) 26 (tab zero16 (.slice none 0 0)) HB0.out info26 rfl (tab_one _ _ _ _) ?_))
 exact bodyPost_ret (v:=.tuple #[.agg (tab zero16 (.slice none 0 0)),.int .i64 1]) (results_cell_tmp (p:=2) (q:=3) rfl _ _ w.heap.size 26 _ (0,0) _ rfl (setRow_heap _ _ _ _ _ _ HB0.out) Try.underlying26 rfl info26) rfl ⟨_,rfl,Kd.R_nil _ _ _ _ _,below_setRow ((Below.refl _ _).alloc (Nat.le_refl _) _) (Nat.le_refl _) _⟩
/-- What New answers for lengths that may be. -/
def NewPost (l:List Int) (w:World) (e:Ending) (w':World):Prop:=NewIs w (if badSum l=true then zero16 else cnts l) (if badSum l=true then [] else syms l) (if badSum l=true then 4 else 0) e w'
/-- A block that is a table. -/
def Tb (cs:List Int) (v:Value) (g:Nat) (w:World):Prop:=w.heap[g]?=some (.cells (tab cs v) 26 (0,0))
theorem Tb.cell {cs:List Int} {v:Value} {g:Nat} {w:World} (h:Tb cs v g w) (i:Nat) (hi:i < cs.length):w.cell? ⟨g,i,none⟩=some (.int .i64 (cs.getD i 0))∧w.frozen? ⟨g,i,none⟩=false :=
 ⟨by rw [blk_cell h,tab_get _ _ _ hi],blk_frozen h i⟩
theorem Tb.set {cs:List Int} {v:Value} {g:Nat} {w:World} (h:Tb cs v g w) (i:Nat) (hi:i < cs.length) (x:Int):Tb (cs.set i x) v g (w.setCell ⟨g,i,none⟩ (.int .i64 x)):=by
 have:=blk_set h i (.int .i64 x)
 rw [tab_set _ _ _ hi] at this
 exact this
theorem Tb.far {cs:List Int} {v:Value} {g:Nat} {w:World} (h:Tb cs v g w) {p:Addr} (hp:g ≠ p.block) (u:Value):Tb cs v g (w.setCell p u):=blk_far h hp u
theorem Tb.range {cs:List Int} {v:Value} {g:Nat} {w:World} (h:Tb cs v g w):w.rangeAt g 0 (cs.map (Value.int .i64)):=fun j u hj=>by
 rw [List.getElem?_map] at hj
 cases hc:cs[j]? with
 |none=>rw [hc] at hj;cases hj
 |some x =>
  rw [hc] at hj
  have hl:j < cs.length:=(List.getElem?_eq_some_iff.1 hc).1
  rw [Nat.zero_add,(h.cell j hl).1,List.getD_eq_getElem?_getD,hc]
  exact hj
/-- What holds while the symbols are gathered. -/
structure Gather (l:List Int) (w:World) (v:Value) (ss:List Int) (w':World):Prop where
 t1:Tb (cnts l) v (w.heap.size+1) w'
 t0:Tb zero16 (.slice none 0 0) w.heap.size w'
 r:Kd.R (Kd.int .i64) 3 w' w.heap.size (fun _=>True) v ss
 b:Below w.heap.size w w'
theorem Gather.cell {l:List Int} {w:World} {v:Value} {ss:List Int} {w':World} (h:Gather l w v ss w'):w'.cell? ⟨w.heap.size+1,16,none⟩=some v:=by
 have:=tab_last (cnts l) v
 rw [cnts_length] at this
 rw [blk_cell h.t1,this]
theorem Tb.cell16 {l:List Int} {v:Value} {g:Nat} {w':World} (h:Tb (cnts l) v g w'):w'.cell? ⟨g,16,none⟩=some v:=by
 have:=tab_last (cnts l) v
 rw [cnts_length] at this
 rw [blk_cell h,this]
theorem own_ne {w':World} {base g:Nat} {v:Value} {ss cs:List Int} {u:Value} (hr:Kd.R (Kd.int .i64) 3 w' base (fun _=>True) v ss) (ht:Tb cs u g w'):some g ≠ v.ownBlock:=by
 intro he
 obtain ⟨cells,hc⟩:=Kd.R_typed hr g he.symm
 have ht':w'.heap[g]?=some (.cells (tab cs u) 26 (0,0)):=ht
 rw [hc] at ht'
 injection ht' with h'
 injection h' with _ h2
 exact absurd h2 (by decide)
theorem R_setRow {w':World} {base g:Nat} {v:Value} {ss cs:List Int} {u:Value} (hr:Kd.R (Kd.int .i64) 3 w' base (fun _=>True) v ss) (ht:Tb cs u g w') (xs:Array Value):Kd.R (Kd.int .i64) 3 (w'.setRow g xs) base (fun _=>True) v ss:=by
 refine Kd.R_mono (Kd.R_move (Kd.R_bound hr) (fun k hk=>?_)) (fun _ _=>trivial)
 obtain ⟨_,_,_,q,hq,cells,hc⟩:=hk
 have hne:g ≠ k:=by
  rintro rfl
  have ht':w'.heap[g]?=some (.cells (tab cs u) 26 (0,0)):=ht
  rw [hc] at ht'
  injection ht' with h'
  injection h' with _ h2
  subst h2
  revert hq
  decide
 simp only [World.setRow]
 rw [Array.getElem?_modify,if_neg hne]
theorem R_form {w':World} {base:Nat} {ok:Nat → Prop} {v:Value} {ss:List Int} (hr:Kd.R (Kd.int .i64) 3 w' base ok v ss):∃ A n c,v=.slice A n c:=by
 obtain ⟨a,c',e⟩:=Kd.R_slice hr
 exact ⟨a,_,c',e⟩
/-- Behind an append,ahead of its store. -/
theorem Gather.grown {l : List Int} {w : World} {v v1 : Value} {ss ss1 : List Int} {w' w1 : World} (h : Gather l w v ss w') (hg : w'.grownBy w1 v.ownBlock) :
  Tb (cnts l) v (w.heap.size+1) w1∧Tb zero16 (.slice none 0 0) w.heap.size w1 :=
 ⟨blk_grown h.t1 hg (own_ne h.r h.t1),blk_grown h.t0 hg (own_ne h.r h.t0)⟩
theorem Gather.stored {l : List Int} {w : World} {v v1 : Value} {ss1 : List Int} {w1 : World} (h1 : Tb (cnts l) v (w.heap.size + 1) w1) (h0 : Tb zero16 (.slice none 0 0) w.heap.size w1)
  (hr:Kd.R (Kd.int .i64) 3 w1 w.heap.size (fun _=>True) v1 ss1) (hb:Below w.heap.size w w1):Gather l w v1 ss1 (w1.setCell ⟨w.heap.size+1,16,none⟩ v1) where
 t1:=by
  have:=blk_set h1 16 v1
  have e:(tab (cnts l) v).setIfInBounds 16 v1=tab (cnts l) v1:=by have:=tab_setLast (cnts l) v v1;rwa [cnts_length] at this
  rw [e] at this
  exact this
 t0:=h0.far (Nat.ne_of_lt (Nat.lt_succ_self _)) _
 r:=Kd.R_set hr h1 (by decide) 16 v1
 b:=below_set hb (Nat.le_succ _)
theorem info3:(Try.prog.info? 3).map (fun i=>(i.zero,i.size,i.bytes))=some (some (.int .i64 0),1,8):=by kernel_rfl
theorem good_is (l:List Int) (k:Nat) (h:badLen (rd l k)=false):∃ n:Nat,rd l k=n∧n < 16:=by
 simp [badLen] at h
 exact ⟨(rd l k).toNat,by omega,by omega⟩
theorem rd_nat (l:List Int) (k:Nat):rd l k=l.getD k 0:=by unfold rd;rw [Int.toNat_natCast]
set_option maxRecDepth 100000 in
set_option maxHeartbeats 4000000 in
theorem new_main (A : Option Addr) (c : Nat) (l : List Int) (w : World) (hr : Kd.C (Kd.int .i64) w A l.length l) (h : l.length ≤ 320) (hb : ∀ i : Nat, i < l.length → badLen (rd l i) = false) :
  Calls Try.prog 26 #[.slice A l.length c] w (NewPost l w):=by
 have c1:decide (320 < (l.length:Int))=false:=decide_eq_false (by omega)
 have c2:decide (320 < l.length)=false:=decide_eq_false (by omega)
 have HR:=Aside0.mk hr
 have HG:=Aside0.mk hb
 clear hr hb
 have HB:=Aside0.mk (Below.refl w.heap.size w)
 go_enter Try.func26,Try.ntmps26
 go_wp2_with (go_at_call 59;refine (contains_no A c l _ (Kd.C_alloc HR.out _) HG.out).mono ?_;rintro e w' ⟨rfl,rfl⟩)
 go_loopw [24] (fun v24 w'=>∃ k:Nat,k≤l.length∧v24=.int .i64 k∧Aside0 (Tb (cntsAll (l.take k)) (.slice none 0 0) (w.heap.size+1) w')∧Aside0 (Tb zero16 (.slice none 0 0) w.heap.size w')∧Aside0 (Below w.heap.size w w')) (fun v24 _=>l.length - (intOf v24).toNat)
 case atStart=>exact ⟨0,Nat.zero_le _,rfl,⟨heap_alloc2_new _ _ _⟩,⟨heap_alloc2_old _ _ _⟩,⟨below_alloc (below_alloc (Below.refl _ _) _) _⟩⟩
 case round =>
  obtain ⟨k,hk,rfl,HT1,HT0,HBr⟩:=hrel
  by_cases hlt:k < l.length
  ·obtain ⟨ad,ead,hx⟩:=Kd.at_int (Kd.C_below HR.out HBr.out) k (by omega) (by omega)
   cases ead
   obtain ⟨n,en,hn⟩:=good_is l k (HG.out k hlt)
   rw [Int.toNat_natCast,en] at hx
   obtain ⟨hc,hf⟩:=HT1.out.cell n (by rw [cntsAll_length];exact hn)
   rw [List.getD_eq_getElem?_getD,cntsAll_get _ _ hn] at hc
   have hb0:=cnt_nonneg (l.take k) n
   have hb1:cnt (l.take k) n≤320:=Int.le_trans (cnt_le _ _) (by rw [List.length_take];omega)
   have HS:=Aside0.mk (HT1.out.set n (by rw [cntsAll_length];exact hn) (cnt (l.take k) n+1))
   have en':=Aside0.mk en
   clear en
   simp only [Option.getD_some] at hc
   generalize em':cnt (l.take k) n=m at hc hb0 hb1 HS
   have em:=Aside0.mk em'
   clear em'
   go_wp2
   go_roundw
   case rel =>
    refine ⟨k+1,by omega,by go_num,?_,⟨HT0.out.far (Nat.ne_of_lt (Nat.lt_succ_self _)) _⟩,⟨below_set HBr.out (Nat.le_succ _)⟩⟩
    have hs:cntsAll (l.take (k+1))=(cntsAll (l.take k)).set n (m+1):=by
     rw [take_snoc' l k hlt,← rd_nat,en'.out,cntsAll_snoc _ _ hn,em.out]
    exact ⟨by rw [hs];exact HS.out⟩
   case measure=>simp [intOf];omega
  ·obtain rfl:k=l.length:=by omega
   rw [List.take_length] at HT1
   have HS0:=Aside0.mk (HT1.out.set 0 (by rw [cntsAll_length];decide) 0)
   obtain ⟨hc0,hf0⟩:=HT1.out.cell 0 (by rw [cntsAll_length];decide)
   clear c1 c2
   go_wp2_with (refine wpList_load_mid rfl 24 _ rfl (w.heap.size+1) 0 rfl ((cnts l).map (Value.int .i64)) _ (HS0.out.range) Try.underlying24 rfl (by rw [List.length_map,cnts_length];kernel_rfl) ?_)
   have HT:=Aside0.mk (show Tb (cnts l) (.slice none 0 0) (w.heap.size+1) _ from HS0.out)
   have HT0':=Aside0.mk (HT0.out.far (p:=⟨w.heap.size+1,0,none⟩) (Nat.ne_of_lt (Nat.lt_succ_self _)) (.int .i64 0))
   have HB':=Aside0.mk (below_set (g:=w.heap.size+1) (j:=0) (v:=.int .i64 0) HBr.out (Nat.le_succ _))
   clear HS0 HT0 HBr hc0 hf0 HT1
   generalize wr.setCell ⟨w.heap.size+1,0,none⟩ (.int .i64 0)=w1 at HT HT0' HB' ⊢
   go_loop [7,8,40] (fun v7 v8 v40=>∃ n:Nat,n≤16∧v7=.int .i64 (roomN (cnts l) n)∧v8=.int .i64 (manyN (cnts l) n)∧v40=.int .i64 n) (fun _ _ v40=>16 - (intOf v40).toNat)
   case atStart=>exact ⟨0,by decide,rfl,rfl,rfl⟩
   case round =>
    obtain ⟨n,hn,rfl,rfl,rfl⟩:=hrel
    by_cases hlt:n < 16
    ·have hidx : ∀ W, (Instr.index 24 (.agg (List.map (Value.int .i64) (cnts l)).toArray) (.int .i64 n)).run Try.prog W = .ok (.int .i64 ((cnts l).getD n 0)) W := fun W => by
      have h1:0≤(n:Int)∧(n:Int) < (16:Nat):=⟨by omega,by omega⟩
      have h2:(List.map (Value.int .i64) (cnts l)).toArray[n]?=some (.int .i64 ((cnts l).getD n 0)):=by
       simp [List.getD_eq_getElem?_getD,cnts_length,hlt]
      simp only [Instr.index,Sem.run_bind,run_underlying Try.underlying24]
      obtain ⟨i3,e3,s3⟩:=inf3
      simp [asIntOf,sizeOf,typeInfo,part,hlt,e3,s3,run_isAgg3,cnts_length]
      intro hx
      omega
     have hcn:=cnts_rng l n
     have hpw:=pow_rng n
     have hrr:=roomN_rng (cnts l) l.length (cnts_rng l) (by omega) n
     have hmm:=manyN_rng (cnts l) l.length (cnts_rng l) (by omega) n
     have HX:Aside0 (wrap64 (roomN (cnts l) n - wrap64 ((cnts l).getD n 0*2 ^ (15 - n)))=roomN (cnts l) (n+1)∧wrap64 (manyN (cnts l) n+(cnts l).getD n 0)=manyN (cnts l) (n+1)):=by
      have h1:0≤(cnts l).getD n 0*2 ^ (15 - n):=Int.mul_nonneg hcn.1 (by omega)
      have h2:(cnts l).getD n 0*2 ^ (15 - n)≤320*32768:=Int.mul_le_mul (by omega) hpw.2 (by omega) (by omega)
      refine ⟨⟨?_,?_⟩⟩
      ·simp only [roomN]
       generalize (cnts l).getD n 0*2 ^ (15 - n)=y at h1 h2 ⊢
       unfold wrap64;omega
      ·simp only [manyN];unfold wrap64;omega
     clear hcn hpw hrr hmm
     go_wp2
     go_round
     case rel =>
      have:=HX.out
      simp only [List.getD_eq_getElem?_getD] at this
      exact ⟨n+1,by omega,by rw [← this.1],by rw [← this.2],by go_num⟩
     case measure=>simp [intOf];omega
    ·obtain rfl:n=16:=by omega
     clear hlt hn
     obtain ⟨hc1,hf1⟩:=HT.out.cell 1 (by rw [cnts_length];decide)
     rw [List.getD_eq_getElem?_getD,cnts_get _ _ (by decide),if_neg (by decide),Option.getD_some] at hc1
     generalize hR:roomN (cnts l) 16=r
     generalize hM:manyN (cnts l) 16=m
     generalize hC:cnt l 1=c1 at hc1
     have HE:Aside0 (badSum l=(decide (r < 0) || (decide (0 < r) && decide (0 < m) && (decide (m ≠ 1) || decide (c1 ≠ 1))))):=⟨by unfold badSum;rw [hR,hM,hC]⟩
     clear hR hM hC
     go_upto_region 17 with (fail)
     go_cut [73] (fun v73 wx=>v73=.bool (badSum l)∧wx=w1)
     case first =>
      by_cases h1:r < 0
      ·go_wp2_with fail
       go_meet
       exact ⟨by rw [HE.out];simp [h1],rfl⟩
      have h1':0≤r:=by omega
      by_cases h2:0 < r
      ·by_cases h3:0 < m
       ·by_cases h4:m=1
        ·by_cases h5:c1=1
         ·subst h5
          subst h4
          go_wp2_with fail
          go_meet
          exact ⟨by rw [HE.out];simp [h1,h2,h3],rfl⟩
         ·have h5':(c1 != 1)=true:=by simpa using h5
          subst h4
          go_wp2_with fail
          go_meet
          exact ⟨by rw [HE.out];simp [h1,h2,h3,h5],rfl⟩
        ·have h4':(m != 1)=true:=by simpa using h4
         go_wp2_with fail
         go_meet
         exact ⟨by rw [HE.out];simp [h1,h2,h3,h4],rfl⟩
       ·have h3':m≤0:=by omega
        go_wp2_with fail
        go_meet
        exact ⟨by rw [HE.out];simp [h1,h2,h3];omega,rfl⟩
      ·have h2':r≤0:=by omega
       go_wp2_with fail
       go_meet
       exact ⟨by rw [HE.out];simp [h1,h2];omega,rfl⟩
     case rest =>
      obtain ⟨rfl,rfl⟩:=hcut
      clear HE hc1 hf1
      by_cases hbs:badSum l=true
      ·have HBS:=Aside0.mk hbs
       rw [hbs]
       clear hbs
       go_wp2_with (refine wpList_store_row rfl 26 _ _ rfl w.heap.size (tab zero16 (.slice none 0 0)) rfl (by rw [tab0];rfl) 26 (tab zero16 (.slice none 0 0)) HT0'.out info26 rfl (tab_one _ _ _ _) ?_)
       refine bodyPost_ret (v:=.tuple #[.agg (tab zero16 (.slice none 0 0)),.int .i64 4]) (results_cell_tmp (p:=2) (q:=3) rfl _ _ w.heap.size 26 _ (0,0) _ rfl (setRow_heap _ _ _ _ _ _ HT0'.out) Try.underlying26 rfl info26) rfl ?_
       unfold NewPost
       rw [if_pos HBS.out,if_pos HBS.out,if_pos HBS.out]
       exact ⟨_,rfl,Kd.R_nil _ _ _ _ _,below_setRow HB'.out (Nat.le_refl _) _⟩
      ·have hbs':badSum l=false:=by simpa using hbs
       have HBS:=Aside0.mk hbs
       rw [hbs']
       clear hbs hbs'
       have HGa:Aside0 (∃ v,Gather l w v (symsN l 0) wc):=⟨_,HT.out,HT0'.out,Kd.R_nil _ _ _ _ _,HB'.out⟩
       clear HT HT0' HB'
       go_wp2
       go_loopw [11] (fun v11 w'=>∃ n:Nat,n≤15∧v11=.int .i64 ((n:Int)+1)∧Aside0 (∃ v,Gather l w v (symsN l n) w')) (fun v11 _=>16 - (intOf v11).toNat)
       case atStart=>exact ⟨0,by decide,rfl,HGa⟩
       case round =>
        clear HGa
        obtain ⟨n,hn,rfl,HGn⟩:=hrel
        by_cases hlt:n < 15
        ·have hdec:decide ((n:Int)+1≤15)=true:=decide_eq_true (by omega)
         go_wp2
         obtain ⟨wo,rfl⟩:∃ wo:World,wo=wr:=⟨_,rfl⟩
         go_loopw [81] (fun v81 w'=>∃ k:Nat,k≤l.length∧v81=.int .i64 k∧Aside0 (∃ v,Gather l w v (symsN l n ++ idxN l (n+1) k) w')) (fun v81 _=>l.length - (intOf v81).toNat)
         case atStart=>exact ⟨0,Nat.zero_le _,rfl,by rw [show symsN l n ++ idxN l (n+1) 0=symsN l n from List.append_nil _];exact HGn⟩
         case round =>
          clear HGn
          obtain ⟨k,hk,rfl,HGk⟩:=hrel
          by_cases hlk:k < l.length
          ·obtain ⟨v,hv⟩:=HGk.out
           have HV:=Aside0.mk hv
           clear hv HGk
           obtain ⟨ad,ead,hx⟩:=Kd.at_int (Kd.C_below HR.out HV.out.b) k (by omega) (by omega)
           cases ead
           obtain ⟨m,en,hm⟩:=good_is l k (HG.out k hlk)
           rw [Int.toNat_natCast,en] at hx
           have EN:=Aside0.mk en
           clear en
           by_cases hmn:m=n+1
           ·subst hmn
            have hcell:=HV.out.cell
            have hfro:=blk_frozen HV.out.t1 16
            have hlen:(symsN l n ++ idxN l (n+1) k).length≤6000:=by
             have h1:=symsN_length l n
             have h2:=idxN_length l (n+1) k
             have h3:n*l.length≤15*320:=Nat.mul_le_mul (by omega) h
             rw [List.length_append]
             omega
            have HL:=Aside0.mk hlen
            clear hlen
            go_wp2_with ((with_reducible refine gate_builtin (b:=.append) (xs:=#[.tmp 90,.tmp 92]) rfl ?_);at_builtin;refine Kd.R_append (Kd.int .i64) (w0:=w) w.heap.size rfl (.tmp 90) (.tmp 92) 22 3 (.int .i64 0) 8 rfl Try.underlying22 info3 rfl (by decide) (by omega) v (symsN l n ++ idxN l (n+1) k) k [.int .i64 k] (fun _=>True) (fun _=>False) rfl rfl ?aP (fun _ hk=>hk.elim) ?aF ?aO ?aB ?aS ?aL ?_;(case aP=>exact rfl);(case aF=>exact (fun _ _=>trivial));(case aO=>exact HV.out.r);(case aB=>exact HV.out.b);(case aS=>exact below_size HV.out.b);(case aL=>have:=HL.out;omega);intro v1 w2 ho hb hg hat;obtain ⟨A1,n1,ca1,rfl⟩:∃ A n c,v1=.slice A n c:=R_form ho;have hgr:=HV.out.grown (v1:=.nilFunc) (ss1:=[]) hg;have hcell:=hgr.1.cell16;have hfro:=blk_frozen hgr.1 16;have HS:=Aside0.mk (Gather.stored hgr.1 hgr.2 ho hb);clear ho hb hg hat hgr)
            go_roundw
            case rel =>
             refine ⟨k+1,by omega,by go_num,?_⟩
             have hs:symsN l n ++ idxN l (n+1) (k+1)=(symsN l n ++ idxN l (n+1) k) ++ [(k:Int)]:=by
              rw [idxN_succ,← rd_nat,EN.out,if_pos rfl,List.append_assoc]
             rw [hs]
             exact ⟨_,HS.out⟩
            case measure=>simp [intOf];omega
           ·have hne:((m:Int) == (n:Int)+1)=false:=by simp;omega
            have HN:=Aside0.mk hmn
            clear hmn
            go_wp2
            go_roundw
            case rel =>
             refine ⟨k+1,by omega,by go_num,?_⟩
             have hs:symsN l n ++ idxN l (n+1) (k+1)=symsN l n ++ idxN l (n+1) k:=by
              rw [idxN_succ,← rd_nat,EN.out,if_neg (by have:=HN.out;omega),List.append_nil]
             rw [hs]
             exact ⟨_,HV.out⟩
            case measure=>simp [intOf];omega
          ·obtain rfl:k=l.length:=by omega
           go_wp2
           go_roundw
           case rel =>
            refine ⟨n+1,by omega,by go_num,?_⟩
            exact HGk
           case measure=>simp [intOf];omega
        ·obtain rfl:n=15:=by omega
         obtain ⟨v,hv⟩:=HGn.out
         have HV:=Aside0.mk hv
         clear hv HGn
         obtain ⟨va,vn,vc,rfl⟩:∃ a n c,v=.slice a n c:=by obtain ⟨a,c',e⟩:=Kd.R_slice HV.out.r;exact ⟨a,_,c',e⟩
         go_wp2_with (first
          |(refine wpList_load_row rfl 26 _ rfl (w.heap.size+1) rfl 26 (tab (cnts l) (.slice va vn vc)) (0,0) _ HV.out.t1 Try.underlying26 rfl (by rw [tab_size,cnts_length];exact info26) ?_)
          |(refine wpList_store_row rfl 26 _ _ rfl w.heap.size (tab (cnts l) (.slice va vn vc)) rfl rfl 26 (tab zero16 (.slice none 0 0)) HV.out.t0 (by rw [tab_size,cnts_length];exact info26) (by rw [tab_size,tab_size,cnts_length];rfl) (tab_one _ _ _ _) ?_))
         refine bodyPost_ret (v:=.tuple #[.agg (tab (cnts l) (.slice va vn vc)),.int .i64 0]) (results_cell_tmp (p:=2) (q:=3) rfl _ _ w.heap.size 26 _ (0,0) _ rfl (setRow_heap _ _ _ _ _ _ HV.out.t0) Try.underlying26 rfl (by rw [tab_size,cnts_length];exact info26)) rfl ?_
         unfold NewPost
         rw [if_neg HBS.out,if_neg HBS.out,if_neg HBS.out]
         refine ⟨_,rfl,?_,below_setRow HV.out.b (Nat.le_refl _) _⟩
         exact R_setRow HV.out.r HV.out.t0 _
def newCs (l:List Int):List Int:=if errOf l=0 then cnts l else zero16
def newSs (l:List Int):List Int:=if errOf l=0 then syms l else []
theorem bad_is (n:Int):badLen n=false ↔ (decide (0≤n) && decide (n≤15))=true:=by
 simp [badLen]
theorem ok_is (l:List Int):(∀ i:Nat,i < l.length → badLen (rd l i)=false) ↔ okL l=true:=by
 unfold okL
 rw [List.all_eq_true]
 constructor
 ·intro h x hx
  obtain ⟨i,hi,rfl⟩:=List.getElem_of_mem hx
  have:=h i hi
  rw [rd_nat,List.getD_eq_getElem?_getD,List.getElem?_eq_getElem hi,Option.getD_some,bad_is] at this
  exact this
 ·intro h i hi
  rw [rd_nat,List.getD_eq_getElem?_getD,List.getElem?_eq_getElem hi,Option.getD_some,bad_is]
  exact h _ (List.getElem_mem hi)
theorem new_calls (A : Option Addr) (c : Nat) (l : List Int) (w : World) (hr : Kd.C (Kd.int .i64) w A l.length l) :
  Calls Try.prog 26 #[.slice A l.length c] w (NewIs w (newCs l) (newSs l) (errOf l)):=by
 unfold newCs newSs
 by_cases h:320 < l.length
 ·have e:errOf l=1:=by unfold errOf;rw [if_pos h]
  rw [e]
  exact new_long A c l w h
 by_cases hb:∀ i:Nat,i < l.length → badLen (rd l i)=false
 ·have hok:=(ok_is l).1 hb
  refine (new_main A c l w hr (by omega) hb).mono fun e w' hn=>?_
  unfold NewPost at hn
  by_cases hs:badSum l=true
  ·have e:errOf l=4:=by unfold errOf;rw [if_neg h,hok,if_neg (by decide),if_pos hs]
   rw [if_pos hs,if_pos hs,if_pos hs] at hn
   rw [e]
   exact hn
  ·have e:errOf l=0:=by unfold errOf;rw [if_neg h,hok,if_neg (by decide),if_neg hs]
   rw [if_neg hs,if_neg hs,if_neg hs] at hn
   rw [e]
   exact hn
 ·have hok : okL l = false := by
   cases h':okL l with
   |true=>exact absurd ((ok_is l).2 h') hb
   |false=>rfl
  have e:errOf l=1:=by unfold errOf;rw [if_neg h,hok,if_pos rfl]
  rw [e]
  exact new_bad A c l w hr (by omega) hb
theorem newCs_length (l:List Int):(newCs l).length=16:=by
 unfold newCs
 split
 ·exact cnts_length l
 ·rfl
end Go.Proofs.Ytpbhkdamkbopkaa.Ext
set_option linter.unusedSimpArgs false
set_option linter.unusedVariables false
namespace Go.Proofs.Ytpbhkdamkbopkaa.Ext
def cz (l:List Int) (n:Nat):Int:=(cnts l).getD n 0
/-- The first code of length n. -/
def firstC (l:List Int):Nat → Int
 |0=>0
 |n+1=>2*(firstC l n+cz l n)
def rank (l:List Int) (i:Nat):Nat:=(idxN l (l.getD i 0).toNat i).length
def codeAt (l:List Int) (i:Nat):Int:=firstC l (l.getD i 0).toNat+rank l i
def codesOf (l:List Int):List Int:=(List.range l.length).map fun i=>if l.getD i 0≤0 then 0 else codeAt l i
/-- What has been told when the lengths below n are done,and j symbols of n. -/
def codesN (l:List Int) (n j:Nat):List Int:=(List.range l.length).map fun i =>
 if l.getD i 0≤0 then 0 else if l.getD i 0 < n then codeAt l i else if l.getD i 0=n∧rank l i < j then codeAt l i else 0
theorem cz_rng (l:List Int) (n:Nat):0≤cz l n∧cz l n≤l.length:=cnts_rng l n
theorem cz_is (l:List Int) (n:Nat) (h0:1≤n) (h:n < 16):cz l n=cnt l n:=by
 unfold cz
 rw [List.getD_eq_getElem?_getD,cnts_get l n h,if_neg (by omega)]
 rfl
theorem firstC_rng (l:List Int) (h:l.length≤320) (n:Nat):0≤firstC l n∧firstC l n+640≤640*2 ^ n:=by
 induction n with
 |zero=>exact ⟨Int.le_refl _,by simp [firstC]⟩
 |succ n ih =>
  have:=cz_rng l n
  have e:(2:Int) ^ (n+1)=2*2 ^ n:=by rw [Int.pow_succ,Int.mul_comm]
  simp only [firstC]
  rw [e]
  generalize (2:Int) ^ n=p at ih
  omega
theorem firstC_le (l:List Int) (h:l.length≤320) (n:Nat) (hn:n≤16):0≤firstC l n∧firstC l n≤41943040:=by
 have h1:=firstC_rng l h n
 have h2:2 ^ n≤2 ^ 16:=Nat.pow_le_pow_right (by decide) hn
 have e:((2 ^ n:Nat):Int)=(2:Int) ^ n:=by rw [Int.natCast_pow];rfl
 rw [← e] at h1
 omega
theorem idxN_cnt (l:List Int) (n:Nat):∀ k,k≤l.length → ((idxN l n k).length:Int)=cnt (l.take k) n:=by
 intro k
 induction k with
 |zero=>intro _;simp [idxN,cnt]
 |succ k ih =>
  intro hk
  rw [idxN_succ,take_snoc' l k (by omega),cnt_snoc,List.length_append,Int.natCast_add,ih (by omega)]
  by_cases h:l.getD k 0=(n:Int)
  ·rw [if_pos h,if_pos h];rfl
  ·rw [if_neg h,if_neg h];rfl
theorem idxN_cz (l:List Int) (n:Nat) (h0:1≤n) (h:n < 16):((idxN l n l.length).length:Int)=cz l n:=by
 rw [idxN_cnt l n _ (Nat.le_refl _),List.take_length,cz_is l n h0 h]
/-- The j-th place of n. -/
theorem idxN_at (l:List Int) (n:Nat):∀ (k j:Nat) (x:Int),(idxN l n k)[j]?=some x → ∃ i:Nat,x=i∧i < k∧l.getD i 0=n∧(idxN l n i).length=j:=by
 intro k
 induction k with
 |zero=>intro j x h;simp [idxN] at h
 |succ k ih =>
  intro j x h
  rw [idxN_succ] at h
  by_cases hj:j < (idxN l n k).length
  ·rw [List.getElem?_append_left hj] at h
   obtain ⟨i,h1,h2,h3⟩:=ih j x h
   exact ⟨i,h1,by omega,h3⟩
  ·rw [List.getElem?_append_right (by omega)] at h
   by_cases he:l.getD k 0=(n:Int)
   ·rw [if_pos he] at h
    have h1:j - (idxN l n k).length < 1:=by
     have:=(List.getElem?_eq_some_iff.1 h).1
     simpa using this
    rw [show j - (idxN l n k).length=0 by omega] at h
    simp at h
    exact ⟨k,h.symm,by omega,he,by omega⟩
   ·rw [if_neg he] at h;simp at h
theorem idxN_of (l:List Int) (n:Nat):∀ (k i:Nat),i < k → l.getD i 0=n → (idxN l n k)[(idxN l n i).length]?=some (i:Int):=by
 intro k
 induction k with
 |zero=>intro i h;omega
 |succ k ih =>
  intro i hi he
  rw [idxN_succ]
  by_cases h:i < k
  ·have:=ih i h he
   rw [List.getElem?_append_left (List.getElem?_eq_some_iff.1 this).1]
   exact this
  ·obtain rfl:i=k:=by omega
   rw [List.getElem?_append_right (Nat.le_refl _),if_pos he,Nat.sub_self]
   rfl
theorem rank_n (l:List Int) (i n:Nat) (h:l.getD i 0=(n:Int)):rank l i=(idxN l n i).length:=by
 unfold rank;rw [h,Int.toNat_natCast]
/-- The symbol that stands at a place of all. -/
theorem syms_at (l : List Int) (n j : Nat) (m : Nat) (hm : n + 1 ≤ m) (hj : j < (idxN l (n + 1) l.length).length) :
  (symsN l m)[(symsN l n).length+j]?=(idxN l (n+1) l.length)[j]?:=by
 induction m with
 |zero=>omega
 |succ m ih =>
  simp only [symsN]
  by_cases h:m=n
  ·subst h
   rw [List.getElem?_append_right (by omega),Nat.add_sub_cancel_left]
  ·have h1:=ih (by omega)
   have h2:(idxN l (n+1) l.length)[j]?=some ((idxN l (n+1) l.length)[j]):=List.getElem?_eq_getElem hj
   rw [h2] at h1
   rw [List.getElem?_append_left (List.getElem?_eq_some_iff.1 h1).1,h1,h2]
/-- One symbol more. -/
theorem codesN_step (l:List Int) (n j i:Nat) (hn:1≤n) (h:(idxN l n l.length)[j]?=some (i:Int)):(codesN l n j).set i (firstC l n+j)=codesN l n (j+1)∧i < l.length:=by
 obtain ⟨i',e,hi,he,hr⟩:=idxN_at l n _ _ _ h
 obtain rfl:i=i':=by omega
 refine ⟨?_,hi⟩
 apply List.ext_getElem?
 intro q
 rw [List.getElem?_set]
 unfold codesN
 rw [List.length_map,List.length_range]
 by_cases hq:q < l.length
 ·rw [List.getElem?_map,List.getElem?_map,List.getElem?_range hq]
  simp only [Option.map_some]
  by_cases hqi:i=q
  ·subst hqi
   rw [if_pos rfl,if_pos hq,if_neg (by omega),if_neg (by omega),if_pos ⟨he,by rw [rank_n l i n he];omega⟩]
   unfold codeAt
   rw [rank_n l i n he,hr,he,Int.toNat_natCast]
  ·rw [if_neg hqi]
   by_cases h0:l.getD q 0≤0
   ·rw [if_pos h0,if_pos h0]
   rw [if_neg h0,if_neg h0]
   by_cases h1:l.getD q 0 < (n:Int)
   ·rw [if_pos h1,if_pos h1]
   rw [if_neg h1,if_neg h1]
   by_cases h2:l.getD q 0=(n:Int)
   ·have hne : rank l q ≠ j := by
     intro hc
     have:=idxN_of l n l.length q hq h2
     rw [← rank_n l q n h2,hc,h] at this
     injection this with this
     omega
    by_cases h3:rank l q < j
    ·rw [if_pos ⟨h2,h3⟩,if_pos ⟨h2,by omega⟩]
    ·rw [if_neg (by rintro ⟨_,h⟩;omega),if_neg (by rintro ⟨_,h⟩;omega)]
   ·rw [if_neg (fun h=>h2 h.1),if_neg (fun h=>h2 h.1)]
 ·rw [if_neg (by omega),List.getElem?_eq_none (by simp;omega),List.getElem?_eq_none (by simp;omega)]
theorem codesN_end (l:List Int) (n:Nat) (hn:1≤n):codesN l n (idxN l n l.length).length=codesN l (n+1) 0:=by
 unfold codesN
 apply List.map_congr_left
 intro q hq
 rw [List.mem_range] at hq
 by_cases h0:l.getD q 0≤0
 ·rw [if_pos h0,if_pos h0]
 rw [if_neg h0,if_neg h0]
 by_cases h1:l.getD q 0 < (n:Int)
 ·rw [if_pos h1,if_pos (by omega)]
 rw [if_neg h1]
 by_cases h2:l.getD q 0=(n:Int)
 ·have:=idxN_of l n l.length q hq h2
  rw [if_pos ⟨h2,by rw [rank_n l q n h2];exact (List.getElem?_eq_some_iff.1 this).1⟩,if_pos (by omega)]
 ·rw [if_neg (fun h=>h2 h.1),if_neg (by omega),if_neg (by rintro ⟨_,h⟩;omega)]
theorem codesN_start (l:List Int):codesN l 1 0=List.replicate l.length 0:=by
 unfold codesN
 apply List.ext_getElem?
 intro q
 by_cases hq:q < l.length
 ·rw [List.getElem?_map,List.getElem?_range hq,List.getElem?_replicate,if_pos hq]
  simp only [Option.map_some]
  by_cases h0:l.getD q 0≤0
  ·rw [if_pos h0]
  ·rw [if_neg h0,if_neg (by omega),if_neg (by rintro ⟨_,h⟩;omega)]
 ·rw [List.getElem?_eq_none (by simp;omega),List.getElem?_eq_none (by simp;omega)]
theorem codesN_all (l:List Int) (h:okL l=true):codesN l 16 0=codesOf l:=by
 unfold codesN codesOf
 apply List.map_congr_left
 intro q hq
 rw [List.mem_range] at hq
 have hx:l.getD q 0≤15:=by
  unfold okL at h
  rw [List.all_eq_true] at h
  have:=h (l[q]) (List.getElem_mem hq)
  rw [List.getD_eq_getElem?_getD,List.getElem?_eq_getElem hq,Option.getD_some]
  simp at this
  exact this.2
 by_cases h0:l.getD q 0≤0
 ·rw [if_pos h0,if_pos h0]
 ·rw [if_neg h0,if_neg h0,if_pos (by omega)]
theorem codesN_length (l:List Int) (n j:Nat):(codesN l n j).length=l.length:=by simp [codesN]
theorem errOf_ok (l:List Int) (h:errOf l=0):l.length≤320∧okL l=true∧badSum l=false:=by
 unfold errOf at h
 split at h
 ·cases h
 split at h
 ·cases h
 split at h
 ·cases h
 ·rename_i h1 h2 h3
  exact ⟨by omega,by simpa using h2,by simpa using h3⟩
end Go.Proofs.Ytpbhkdamkbopkaa.Ext
namespace Go.Proofs.Ytpbhkdamkbopkaa.Ext
set_option linter.unusedSimpArgs false
set_option linter.unusedVariables false
open Go.RowKit Go.Proofs.YtpbhkdamkbopkaaW.PrintWords Go.Proofs.YtpbhkdamkbopkaaW.PrintLast Go.Proofs.YtpbhkdamkbopkaaW.PrintMore
/-- What Codes answers: the codes,the error. -/
def CodesIs (w:World) (cs:List Int) (er:Int) (e:Ending) (w':World):Prop :=
 ∃ v:Value,e=.returned (.tuple #[v,.int .i64 er])∧Kd.R (Kd.int .i64) 3 w' w.heap.size (fun _=>True) v cs∧Below w.heap.size w w'
set_option maxRecDepth 100000 in
set_option maxHeartbeats 1000000 in
theorem codes_err (A:Option Addr) (c:Nat) (l:List Int) (w:World) (hr:Kd.C (Kd.int .i64) w A l.length l) (h:errOf l ≠ 0):Calls Try.prog 27 #[.slice A l.length c] w (CodesIs w [] (errOf l)):=by
 have HR:=Aside0.mk hr
 have hne:(errOf l != 0)=true:=by simpa using h
 clear hr h
 go_enter Try.func27,Try.ntmps27
 go_wp2_with (first
  |(go_at_call 26;refine (new_calls A c l _ HR.out).mono ?_;rintro e w1 ⟨v,rfl,hrv,hb⟩;have HV:=Aside0.mk hrv;have HB:=Aside0.mk hb;obtain ⟨va,vn,vc,rfl⟩:=R_form hrv;clear hrv hb)
  |(refine wpList_store_row rfl 26 _ _ rfl w1.heap.size (tab (newCs l) (.slice va vn vc)) rfl rfl 26 (tab zero16 (.slice none 0 0)) (heap_alloc_new _ _) (by rw [tab_size,newCs_length];exact info26) (by rw [tab_size,tab_size,newCs_length];rfl) (tab_one _ _ _ _) ?_;rw [World.setRow_alloc_new]))
 go_ret2
 exact ⟨_,rfl,Kd.R_nil _ _ _ _ _,below_alloc HB.out _⟩
theorem cz0 (l:List Int):cz l 0=0:=by unfold cz;rw [List.getD_eq_getElem?_getD,cnts_get l 0 (by decide)];rfl
/-- The codes so far,in the call's own row. -/
structure Laying (w2:World) (v:Value) (xs:List Int) (w':World):Prop where
 r:Kd.R (Kd.int .i64) 3 w' w2.heap.size (fun _=>True) v xs
 b:Below w2.heap.size w2 w'
set_option maxRecDepth 100000 in
set_option maxHeartbeats 4000000 in
theorem codes_main (A:Option Addr) (c:Nat) (l:List Int) (w:World) (hr:Kd.C (Kd.int .i64) w A l.length l) (h:errOf l=0):Calls Try.prog 27 #[.slice A l.length c] w (CodesIs w (codesOf l) 0):=by
 obtain ⟨hlen,hokl,_⟩:=errOf_ok l h
 have e1:newCs l=cnts l:=by unfold newCs;rw [if_pos h]
 have e2:newSs l=syms l:=by unfold newSs;rw [if_pos h]
 have hnew:=fun W (hc:Kd.C (Kd.int .i64) W A l.length l)=>new_calls A c l W hc
 rw [e1,e2,h] at hnew
 have HNEW:=Aside0.mk hnew
 have HOK:=Aside0.mk hokl
 have HR:=Aside0.mk hr
 clear hr h e1 e2 hnew hokl
 go_enter Try.func27,Try.ntmps27
 go_upto_region 4 with (first
  |(go_at_call 26;refine (HNEW.out _ HR.out).mono ?_;rintro e w1 ⟨v,rfl,hrv,hb⟩;have HV:=Aside0.mk hrv;have HB:=Aside0.mk hb;obtain ⟨va,vn,vc,rfl⟩:=R_form hrv;clear hrv hb)
  |(refine wpList_store_row rfl 26 _ _ rfl w1.heap.size (tab (cnts l) (.slice va vn vc)) rfl rfl 26 (tab zero16 (.slice none 0 0)) (heap_alloc_new _ _) (by rw [tab_size,cnts_length];exact info26) (by rw [tab_size,tab_size,cnts_length];rfl) (tab_one _ _ _ _) ?_;rw [World.setRow_alloc_new]))
 obtain ⟨rfl,hvn,hread⟩:=Kd.R_reads' HV.out
 have HRD:=Aside0.mk (Kd.C_alloc hread (.cells (tab (cnts l) (.slice va (syms l).length vc)) 26))
 have HBK:=Aside0.mk (blk_new w1 (.cells (tab (cnts l) (.slice va (syms l).length vc)) 26))
 have HB2:=Aside0.mk (below_alloc HB.out (.cells (tab (cnts l) (.slice va (syms l).length vc)) 26))
 have g4e:∃ g4,g4=w1.heap.size:=⟨_,rfl⟩
 obtain ⟨g4,hg4⟩:=g4e
 rw [← hg4] at HBK ⊢
 clear hg4 hread hvn HV HB
 generalize w1.alloc (.cells (tab (cnts l) (.slice va (syms l).length vc)) 26)=w2 at HRD HBK HB2 ⊢
 go_wp2_with (((with_reducible refine gate_dst (N:=20) rfl ?_);refine Kd.R_make (Kd.int .i64) (w0:=w2) w2.heap.size 3 rfl (N:=20) rfl 22 _ _ rfl (l.length:Int) rfl rfl Try.underlying22 (.int .i64 0) 8 info3 rfl (by decide) (by omega) 0 (ok:=fun _=>True) (okp:=fun _=>True) rfl (fun _ hk=>hk) trivial (Int.natCast_nonneg _) (by rw [Int.toNat_natCast];omega) (Below.refl _ _) (Nat.le_refl _) ?_;intro v3 w3 ho3 hb3 hg3 hn3;have HO:=Aside0.mk (Laying.mk ho3 hb3);clear ho3 hb3 hg3 hn3))
 go_loopw [7,8,9] (fun v7 v8 v9 w'=>∃ m:Nat,m≤15∧v7=.int .i64 (firstC l m+cz l m)∧v8=.int .i64 ((symsN l m).length:Nat)∧v9=.int .i64 ((m:Int)+1)∧Aside0 (Laying w2 v3 (codesN l (m+1) 0) w')) (fun _ _ v9 _=>17 - (intOf v9).toNat)
 case atStart =>
  refine ⟨0,by decide,by rw [cz0];rfl,rfl,rfl,?_⟩
  rw [codesN_start]
  exact HO
 case round =>
  clear HO HNEW
  obtain ⟨m,hm,rfl,rfl,rfl,HO⟩:=hrel
  by_cases hlt:m < 15
  ·have hdec:decide ((m:Int)+1≤15)=true:=decide_eq_true (by omega)
   have hF:=firstC_le l hlen (m+1) (by omega)
   have hF0:=firstC_le l hlen m (by omega)
   have hcm:=cz_rng l m
   have hcn:=cz_rng l (m+1)
   have hFe:firstC l (m+1)=2*(firstC l m+cz l m):=rfl
   have hx:∃ x,x=firstC l m+cz l m:=⟨_,rfl⟩
   obtain ⟨x,ex⟩:=hx
   rw [← ex] at hFe ⊢
   have hx0:0≤x∧x≤20971520:=by omega
   clear ex hF0 hcm
   have hcell:wr.cell? ⟨g4,m+1,none⟩=some (.int .i64 (cz l (m+1))):=by
    rw [blk_cell (blk_below HBK.out HO.out.b),tab_get _ _ _ (by rw [cnts_length];omega)];rfl
   have HIC:=Aside0.mk (idxN_cz l (m+1) (by omega) (by omega))
   generalize eF:firstC l (m+1)=F at hFe hF
   have EF:=Aside0.mk eF
   have HFE:=Aside0.mk hFe
   clear hFe eF
   generalize eC:cz l (m+1)=C at hcell hcn HIC
   have EC:=Aside0.mk eC
   clear eC
   have hml:(symsN l m).length≤4800:=by
    have h1:=symsN_length l m
    have h2:m*l.length≤15*320:=Nat.mul_le_mul (by omega) hlen
    omega
   go_wp2
   obtain ⟨wo,rfl⟩:∃ wo:World,wo=wr:=⟨_,rfl⟩
   go_loopw [7,8,31] (fun v7 v8 v31 w'=>∃ j:Nat,(j:Int)≤C∧v7=.int .i64 (F+j)∧v8=.int .i64 ((symsN l m).length+j:Nat)∧v31=.int .i64 j∧Aside0 (Laying w2 v3 (codesN l (m+1) j) w')) (fun _ _ v31 _=>C.toNat - (intOf v31).toNat)
   case atStart=>exact ⟨0,by simpa using hcn.1,by rw [HFE.out,Int.mul_comm];simp,rfl,rfl,HO⟩
   case round =>
    clear HO
    obtain ⟨j,hj,rfl,rfl,rfl,HO⟩:=hrel
    by_cases hjc:(j:Int) < C
    ·have hji:j < (idxN l (m+1) l.length).length:=by have:=HIC.out;omega
     have hsy:=syms_at l m j 15 (by omega) hji
     have hgx:(idxN l (m+1) l.length)[j]?=some ((idxN l (m+1) l.length)[j]):=List.getElem?_eq_getElem hji
     obtain ⟨i,ei,hi,hi2,hi3⟩:=idxN_at l (m+1) _ _ _ hgx
     rw [ei] at hgx
     have hstep:=codesN_step l (m+1) j i (by omega) hgx
     rw [EF.out] at hstep
     rw [hgx] at hsy
     have HST:=Aside0.mk hstep.1
     have hlt2:=(List.getElem?_eq_some_iff.1 hsy).1
     have hrd:rd (syms l) (((symsN l m).length+j:Nat):Int)=i:=by
      rw [rd_nat,List.getD_eq_getElem?_getD]
      show ((symsN l 15)[(symsN l m).length+j]?).getD 0=i
      rw [hsy];rfl
     obtain ⟨ad,ead,hx⟩:=Kd.at_int (Kd.C_below HRD.out HO.out.b) (((symsN l m).length+j:Nat):Int) (Int.natCast_nonneg _) (by unfold syms;omega)
     rw [hrd,Int.toNat_natCast] at hx
     have hsl:(symsN l m).length+j < (syms l).length:=hlt2
     obtain ⟨go,co,ev,gb,gl,cl,HG⟩:=Kd.R_form HO.out.r (by rw [codesN_length];omega)
     rw [codesN_length] at ev
     subst ev
     subst ead
     have hbk:=blk_below HBK.out HO.out.b
     have hc16:wr.cell? ⟨g4,16,none⟩=some (.slice (some ad) (syms l).length vc):=(show Tb (cnts l) (.slice (some ad) (syms l).length vc) g4 wr from hbk).cell16
     obtain ⟨hxc,hxf⟩:=Kd.R_celln 0 HO.out.r (i:Int) (Int.natCast_nonneg _) (by omega)
     have hput:=Kd.R_putg HO.out.r (i:Int) (F+j)
     rw [Int.toNat_natCast] at hxc hxf hput
     have HPUT:=Aside0.mk hput.1
     clear hput hsy hgx hstep hrd ei hi2 hi3 cl HG gl hbk
     go_wp2
     go_roundw
     case rel =>
      refine ⟨j+1,by omega,by congr 1;omega,by congr 1,by go_num,?_⟩
      exact ⟨⟨by have:=HPUT.out;rw [HST.out] at this;exact this,below_set HO.out.b gb⟩⟩
     case measure=>simp [intOf];omega
    ·have hjC:(j:Int)=C:=by omega
     have HJC:=Aside0.mk hjC
     clear hjc
     have hjd:decide ((j:Int) < C)=false:=decide_eq_false (by omega)
     clear hjC
     go_wp2
     go_roundw
     case rel =>
      have hj1:j=(idxN l (m+1) l.length).length:=by have:=HIC.out;have:=HJC.out;omega
      refine ⟨m+1,by omega,?_,?_,by go_num,?_⟩
      ·rw [EF.out,EC.out,HJC.out]
      ·simp only [symsN,List.length_append]
       rw [← hj1]
      ·have:=codesN_end l (m+1) (by omega)
       rw [← hj1] at this
       rw [← this]
       exact HO
     case measure=>simp [intOf];omega
  ·obtain rfl:m=15:=by omega
   have hdec:decide (((15:Nat):Int)+1≤15)=false:=by decide
   go_wp2
   go_ret2
   refine ⟨_,rfl,?_,?_⟩
   ·have:=HO.out.r
    rw [codesN_all l HOK.out] at this
    exact Kd.R_lower this (below_size HB2.out)
   ·exact below_then HB2.out (below_size HB2.out) HO.out.b
theorem codes_calls (A : Option Addr) (c : Nat) (l : List Int) (w : World) (hr : Kd.C (Kd.int .i64) w A l.length l) :
  Calls Try.prog 27 #[.slice A l.length c] w (CodesIs w (if errOf l=0 then codesOf l else []) (errOf l)):=by
 by_cases h:errOf l=0
 ·rw [if_pos h,h];exact codes_main A c l w hr h
 ·rw [if_neg h];exact codes_err A c l w hr h
end Go.Proofs.Ytpbhkdamkbopkaa.Ext
namespace Go.Proofs.Ytpbhkdamkbopkaa.Ext
set_option linter.unusedSimpArgs false
set_option linter.unusedVariables false
open Go.RowKit Go.Proofs.Ytpbhkdamkbopkaa.PHuffBits Go.Proofs.YtpbhkdamkbopkaaW.PrintWords Go.Proofs.YtpbhkdamkbopkaaW.PrintLast Go.Proofs.YtpbhkdamkbopkaaW.PrintMore
/-- The symbol: d lengths are still to be tried. -/
def nxt (cs ss:List Int) (s:ByteArray):Nat → Int → Int → Int → Int → Option (Int × Int × Int)
 |0,_,_,_,_=>some (0,0,4)
 |d+1,pos,code,first,index =>
  (huff_Bit.f s pos).bind fun p =>
   if p.2=false then some (0,0,2)
   else if 2*code+p.1 < 2*first+cs.getD (15 - d) 0 then
    (if 0≤index+(2*code+p.1) - 2*first∧index+(2*code+p.1) - 2*first < ss.length then some (ss.getD (index+(2*code+p.1) - 2*first).toNat 0,wrap64 (pos+1),0) else none)
   else if index+cs.getD (15 - d) 0=ss.length then some (0,0,4)
   else nxt cs ss s d (wrap64 (pos+1)) (2*code+p.1) (2*first+cs.getD (15 - d) 0) (index+cs.getD (15 - d) 0)
theorem or_01 {x b:Int} (h0:0≤x) (h1:x < 1048576) (hb0:0≤b) (hb1:b≤1):bits .or .i64 (x*2) b=x*2+b :=
 bits_join .i64 40 (by decide) (fun n h₀ h₁=>by rw [IntKind.wrap_i64];omega) 1 _ _ (by omega) (by omega) (by omega) hb0 (by omega) (by omega)
theorem and_1 {x:Int} (h0:0≤x) (h1:x < 1048576):bits .and .i64 x 1=x % 2 :=
 bits_mask .i64 40 (by decide) (fun n h₀ h₁=>by rw [IntKind.wrap_i64];omega) 1 (by decide) x h0 (by omega)
theorem bit_rng {s:ByteArray} {pos:Int} {p:Int × Bool} (h:huff_Bit.f s pos=some p):0≤p.1∧p.1≤1:=by
 unfold huff_Bit.f at h
 split at h
 ·cases h;simp
 split at h
 ·cases h;simp
 split at h
 ·split at h
  ·split at h
   ·injection h with h
    subst h
    have hb:=bt_range s (wrap64 (Int.tdiv pos 8))
    have h8:0≤shr .u8 (bt s (wrap64 (Int.tdiv pos 8))) (Int.tmod pos 8)∧shr .u8 (bt s (wrap64 (Int.tdiv pos 8))) (Int.tmod pos 8)≤255:=by
     unfold shr
     exact ⟨Int.ediv_nonneg hb.1 (Int.le_of_lt (Int.pow_pos (by decide))),Int.le_trans (Int.ediv_le_self _ hb.1) hb.2⟩
    generalize shr .u8 (bt s (wrap64 (Int.tdiv pos 8))) (Int.tmod pos 8)=z at h8
    have e:wrap64 z=z:=by unfold wrap64;omega
    show 0≤bits .and .i64 (wrap64 z) 1∧bits .and .i64 (wrap64 z) 1≤1
    rw [e,and_1 h8.1 (by omega)]
    omega
   ·cases h
  ·cases h
 ·cases h
theorem pstep {P:Int} {d:Nat} (h:P*2 ^ (d+1)=32768) (h1:1≤P):2*P*2 ^ d=32768∧P≤16384:=by
 have e:2*P*2 ^ d=32768:=by rw [← h,Int.pow_succ,Int.mul_comm 2 P,Int.mul_assoc,Int.mul_comm 2]
 have h2:(1:Int)≤2 ^ d:=Int.pow_pos (by decide)
 have h3:2*P*1≤2*P*2 ^ d:=Int.mul_le_mul_of_nonneg_left h2 (by omega)
 exact ⟨e,by omega⟩
theorem next_arg (A : Option Addr) (c : Nat) (cs ss : List Int) (s : ByteArray) (pos : Int) (w : World) (h : pos < 0) :
  Calls Try.prog 30 #[.agg (tab cs (.slice A ss.length c)),.string s,.int .i64 pos] w fun e w'=>e=.returned (.tuple #[.int .i64 0,.int .i64 0,.int .i64 1])∧Below w.heap.size w w':=by
 go_enter Try.func30,Try.ntmps30
 go_wp2
 refine bodyPost_ret (v:=.tuple #[.int .i64 0,.int .i64 0,.int .i64 1]) (by simp [results,Try.results30,go_sem]) rfl ⟨rfl,below_alloc (Below.refl _ _) _⟩
theorem next_none (A : Option Addr) (c : Nat) (cs : List Int) (s : ByteArray) (pos : Int) (w : World) (hl : cs.length = 16) (h : 0 ≤ pos) :
  Calls Try.prog 30 #[.agg (tab cs (.slice A 0 c)),.string s,.int .i64 pos] w fun e w'=>e=.returned (.tuple #[.int .i64 0,.int .i64 0,.int .i64 4])∧Below w.heap.size w w':=by
 have hcell:(w.alloc (.cells (tab cs (.slice A 0 c)) 26)).cell? ⟨w.heap.size,16,none⟩=some (.slice A 0 c):=by
  rw [blk_cell (blk_new _ _),← hl,tab_last]
 go_enter Try.func30,Try.ntmps30
 go_wp2
 refine bodyPost_ret (v:=.tuple #[.int .i64 0,.int .i64 0,.int .i64 4]) (by simp [results,Try.results30,go_sem]) rfl ⟨rfl,below_alloc (Below.refl _ _) _⟩
set_option maxRecDepth 100000 in
set_option maxHeartbeats 4000000 in
theorem next_main (A : Option Addr) (c : Nat) (cs ss : List Int) (s : ByteArray) (pos : Int) (w : World) (hr : Kd.C (Kd.int .i64) w A ss.length ss) (hl : cs.length = 16) (hc : ∀ i : Nat, i < 16 → 0 ≤ cs.getD i 0 ∧ cs.getD i 0 ≤ 320) (hn : 0 < ss.length) (hm : ss.length ≤ 6000)
  (h0:0≤pos) (r1 r2 r3:Int) (h:nxt cs ss s 15 pos 0 0 0=some (r1,r2,r3)) :
  Calls Try.prog 30 #[.agg (tab cs (.slice A ss.length c)),.string s,.int .i64 pos] w fun e w'=>e=.returned (.tuple #[.int .i64 r1,.int .i64 r2,.int .i64 r3])∧Below w.heap.size w w':=by
 have HR:=Aside0.mk hr
 have HC:=Aside0.mk hc
 have HN:=Aside0.mk h
 have hcell:(w.alloc (.cells (tab cs (.slice A ss.length c)) 26)).cell? ⟨w.heap.size,16,none⟩=some (.slice A ss.length c):=by
  rw [blk_cell (blk_new _ _),← hl,tab_last]
 clear hr hc h
 have hnz:((ss.length:Int) == 0)=false:=beq_eq_false_iff_ne.2 (by omega)
 have hnz':decide (pos < 0)=false:=by simp;omega
 have HBl:=Aside0.mk (blk_new w (.cells (tab cs (.slice A ss.length c)) 26))
 have HRa:=Aside0.mk (Kd.C_alloc HR.out (.cells (tab cs (.slice A ss.length c)) 26))
 have HBw:=Aside0.mk (below_alloc (Below.refl w.heap.size w) (.cells (tab cs (.slice A ss.length c)) 26))
 go_enter Try.func30,Try.ntmps30
 go_wp2
 generalize w.alloc (.cells (tab cs (.slice A ss.length c)) 26)=w1 at hcell HBl HRa HBw ⊢
 go_loopw [2, 9, 10, 11, 12] (fun v2 v9 v10 v11 v12 w' => ∃ (d n : Nat) (pos code first index P : Int), n + d = 16 ∧ 1 ≤ n ∧ v2 = .int .i64 pos ∧ v9 = .int .i64 code ∧ v10 = .int .i64 first ∧ v11 = .int .i64 index ∧ v12 = .int .i64 n ∧
   Aside0 (0≤code∧code < P∧0≤first∧first+640≤640*P∧P*2 ^ d=32768∧1≤P∧0≤index∧index≤320*(15 - d))∧Aside0 (nxt cs ss s d pos code first index=some (r1,r2,r3))∧∃ m,w'=w1.drewN m) (fun _ _ _ _ v12 _=>16 - (intOf v12).toNat)
 case atStart=>exact ⟨15,1,pos,0,0,0,1,rfl,by decide,rfl,rfl,rfl,rfl,rfl,⟨by decide⟩,HN,0,rfl⟩
 case round =>
  clear HN hnz hnz' h0
  obtain ⟨d,n,pos,code,first,index,P,hd,hn1,rfl,rfl,rfl,rfl,rfl,HP,HN,m,rfl⟩:=hrel
  cases d with
  |zero =>
   obtain rfl:n=16:=by omega
   have hN:=HN.out
   simp only [nxt,Option.some.injEq,Prod.mk.injEq] at hN
   obtain ⟨rfl,rfl,rfl⟩:=hN
   clear HN
   go_wp2
   refine bodyPost_ret (v:=.tuple #[.int .i64 0,.int .i64 0,.int .i64 4]) (by simp [results,Try.results30,go_sem]) rfl ⟨rfl,pw_below_drewN HBw.out _⟩
  |succ d =>
   have hN0:=HN.out
   clear HN
   simp only [nxt] at hN0
   obtain ⟨⟨b,ok⟩,hb,hN⟩:=Option.bind_eq_some_iff.mp hN0
   clear hN0
   have hbr:=bit_rng hb
   have HBit:=Aside0.mk hb
   clear hb
   cases ok with
   |false =>
    rw [if_pos rfl] at hN
    simp only [Option.some.injEq,Prod.mk.injEq] at hN
    obtain ⟨rfl,rfl,rfl⟩:=hN
    go_wp2_with (go_at_call 34;refine (huff_Bit.calls s pos b false _ HBit.out).mono ?_;rintro e w' ⟨rfl,⟨nd,rfl⟩⟩)
    refine bodyPost_ret (v:=.tuple #[.int .i64 0,.int .i64 0,.int .i64 2]) (by simp [results,Try.results30,go_sem]) rfl ⟨rfl,pw_below_drewN HBw.out _⟩
   |true =>
    rw [if_neg (by simp),show 15 - d=n by omega] at hN
    simp only at hN hbr
    have hcn:=HC.out n (by omega)
    have hcell2:w1.cell? ⟨w.heap.size,n,none⟩=some (.int .i64 (cs.getD n 0)):=by
     rw [blk_cell HBl.out,tab_get _ _ _ (by omega)]
    generalize cs.getD n 0=cn at hN hcn hcell2
    obtain ⟨p0,p1,p2,p3,p4,p5,p6,p7⟩:=HP.out
    obtain ⟨q0,q1⟩:=pstep p4 p5
    have hor:bits .or .i64 (code*2) b=code*2+b:=or_01 p0 (by omega) hbr.1 hbr.2
    have hn15:decide ((n:Int)≤15)=true:=decide_eq_true (by omega)
    have HQ:=Aside0.mk q0
    clear q0 p4
    rw [show 2*code+b=code*2+b by omega,show 2*first=first*2 by omega] at hN
    by_cases hlt:code*2+b < first*2+cn
    ·rw [if_pos hlt] at hN
     have hltd:decide (code*2+b < first*2+cn)=true:=decide_eq_true hlt
     by_cases hin:0≤index+(code*2+b) - first*2∧index+(code*2+b) - first*2 < ss.length
     ·rw [if_pos hin] at hN
      simp only [Option.some.injEq,Prod.mk.injEq] at hN
      obtain ⟨rfl,rfl,rfl⟩:=hN
      obtain ⟨ad,ead,hx⟩:=Kd.at_int HRa.out _ hin.1 hin.2
      cases ead
      obtain ⟨hi0,hi1⟩:=hin
      clear HP
      go_wp2_with (go_at_call 34;refine (huff_Bit.calls s pos b true _ HBit.out).mono ?_;rintro e w' ⟨rfl,⟨nd,rfl⟩⟩)
      refine bodyPost_ret (v:=.tuple #[.int .i64 _,.int .i64 _,.int .i64 0]) (by simp [results,Try.results30,go_sem];exact rfl) rfl ⟨rfl,pw_below_drewN HBw.out _⟩
     ·rw [if_neg hin] at hN;cases hN
    ·rw [if_neg hlt] at hN
     have hltd:decide (code*2+b < first*2+cn)=false:=decide_eq_false hlt
     by_cases heq:index+cn=ss.length
     ·rw [if_pos heq] at hN
      simp only [Option.some.injEq,Prod.mk.injEq] at hN
      obtain ⟨rfl,rfl,rfl⟩:=hN
      have heqd:((index+cn:Int) == (ss.length:Int))=true:=beq_iff_eq.2 heq
      clear heq HP
      go_wp2_with (go_at_call 34;refine (huff_Bit.calls s pos b true _ HBit.out).mono ?_;rintro e w' ⟨rfl,⟨nd,rfl⟩⟩)
      refine bodyPost_ret (v:=.tuple #[.int .i64 0,.int .i64 0,.int .i64 4]) (by simp [results,Try.results30,go_sem]) rfl ⟨rfl,pw_below_drewN HBw.out _⟩
     ·rw [if_neg heq] at hN
      have heqd:((index+cn:Int) == (ss.length:Int))=false:=beq_eq_false_iff_ne.2 heq
      have HN:=Aside0.mk hN
      clear heq HP hN
      go_wp2_with (go_at_call 34;refine (huff_Bit.calls s pos b true _ HBit.out).mono ?_;rintro e w' ⟨rfl,⟨nd,rfl⟩⟩)
      go_roundw
      case rel=>exact ⟨d,n+1,_,_,_,_,2*P,by omega,by omega,rfl,rfl,rfl,rfl,by go_num,⟨by have:=HQ.out;omega⟩,HN,_,rfl⟩
      case measure=>simp [intOf];omega
/-- What Next answers by a table: an error,or a symbol. Nothing is told of tables that no lengths have. -/
def nextOf (cs ss:List Int) (s:ByteArray) (pos:Int):Option (Int × Int × Int) :=
 if pos < 0 then some (0,0,1) else if ss.length=0 then some (0,0,4)
 else if cs.length=16∧ss.length≤6000∧∀ x ∈ cs,0≤x∧x≤320 then nxt cs ss s 15 pos 0 0 0 else none
theorem next_calls (A : Option Addr) (c : Nat) (cs ss : List Int) (s : ByteArray) (pos : Int) (w : World) (hr : Kd.C (Kd.int .i64) w A ss.length ss) (hl : cs.length = 16) (r1 r2 r3 : Int) (h : nextOf cs ss s pos = some (r1, r2, r3)) :
  Calls Try.prog 30 #[.agg (tab cs (.slice A ss.length c)),.string s,.int .i64 pos] w fun e w'=>e=.returned (.tuple #[.int .i64 r1,.int .i64 r2,.int .i64 r3])∧Below w.heap.size w w':=by
 unfold nextOf at h
 by_cases h0:pos < 0
 ·rw [if_pos h0] at h
  simp only [Option.some.injEq,Prod.mk.injEq] at h
  obtain ⟨rfl,rfl,rfl⟩:=h
  exact next_arg A c cs ss s pos w h0
 rw [if_neg h0] at h
 by_cases h1:ss.length=0
 ·rw [if_pos h1] at h
  simp only [Option.some.injEq,Prod.mk.injEq] at h
  obtain ⟨rfl,rfl,rfl⟩:=h
  rw [h1]
  exact next_none A c cs s pos w hl (by omega)
 rw [if_neg h1] at h
 by_cases h2:cs.length=16∧ss.length≤6000∧∀ x ∈ cs,0≤x∧x≤320
 ·rw [if_pos h2] at h
  refine next_main A c cs ss s pos w hr hl (fun i hi=>?_) (by omega) h2.2.1 (by omega) r1 r2 r3 h
  have hi':i < cs.length:=by omega
  rw [List.getD_eq_getElem?_getD,List.getElem?_eq_getElem hi',Option.getD_some]
  exact h2.2.2 _ (List.getElem_mem hi')
 ·rw [if_neg h2] at h;cases h
end Go.Proofs.Ytpbhkdamkbopkaa.Ext
namespace Go.Proofs.Ytpbhkdamkbopkaa.Ext
set_option linter.unusedSimpArgs false
set_option linter.unusedVariables false
open Go.RowKit Go.Proofs.YtpbhkdamkbopkaaW.PrintWords Go.Proofs.YtpbhkdamkbopkaaW.PrintLast Go.Proofs.YtpbhkdamkbopkaaW.PrintMore
section
variable {P:Program} {ops:Array Oper} {rest:List Oper} {o o2:Oper} {a:Act} {Q:Exit → Act → World → Prop}
theorem gate_load {W:World} {t:TypeId} {x:Operand} (_ho:o.op=.load t x) (h:wpList P ops Q (o :: rest) a W):wpList P ops Q (o :: rest) a W:=h
end
end Go.Proofs.Ytpbhkdamkbopkaa.Ext
namespace Go.Proofs.Ytpbhkdamkbopkaa.GAwake04
open Go.RowKit Go.Proofs.YtpbhkdamkbopkaaW.PrintWords Go.Proofs.YtpbhkdamkbopkaaW.PrintLast Go.Proofs.YtpbhkdamkbopkaaW.PrintMore Go.Proofs.Ytpbhkdamkbopkaa.Ext
attribute [local go_sem] max2_int min2_int max_two min_two max_three min_three max_four min_four
set_option linter.unusedVariables false
set_option linter.unusedSimpArgs false
def errW:Option Int → Value
 |none=>.nilIface
 |some c=>.iface 0 (.int .i64 c)
theorem errW_none:errW none=.nilIface:=rfl
theorem errW_some (c:Int):errW (some c)=.iface 0 (.int .i64 c):=rfl
theorem info3:(Try.prog.info? 3).map (fun i=>(i.zero,i.size,i.bytes))=some (some (.int .i64 0),1,8):=by kernel_rfl
end Go.Proofs.Ytpbhkdamkbopkaa.GAwake04
namespace Go.Proofs.Ytpbhkdamkbopkaa.GAwake04
open Go.RowKit Go.Proofs.YtpbhkdamkbopkaaW.PrintWords Go.Proofs.YtpbhkdamkbopkaaW.PrintLast Go.Proofs.YtpbhkdamkbopkaaW.PrintMore Go.Proofs.Ytpbhkdamkbopkaa.Ext
attribute [local go_sem] max2_int min2_int max_two min_two max_three min_three max_four min_four
set_option linter.unusedVariables false
set_option linter.unusedSimpArgs false
def huff_Bit.f (a0:ByteArray) (a1:Int):Option (Int × Bool):=if a1 < 0 then (some (0,false)) else (if a1 ≥ (wrap64 (8*(a0.size:Int))) then (some (0,false)) else (if 0≤(wrap64 (Int.tdiv a1 8)) then (if (wrap64 (Int.tdiv a1 8)) < (a0.size:Int) then (if 0≤(Int.tmod a1 8) then (some (Go.bits .and .i64 (wrap64 (shr .u8 (bt a0 (wrap64 (Int.tdiv a1 8))) (Int.tmod a1 8))) 1,true)) else (none)) else (none)) else (none)))
set_option maxHeartbeats 8000000 in
set_option maxRecDepth 100000 in
theorem huff_Bit.calls (a0 : ByteArray) (a1 : Int) (r1 : Int) (r2 : Bool) (w : World) (h : huff_Bit.f a0 a1 = some (r1, r2)) :
  Calls Try.prog 34 #[.string a0,.int .i64 a1] w fun e w'=>e=.returned (.tuple #[.int .i64 r1,.bool r2])∧Drawn0 w w':=by
 have H:(if a1 < 0 then (some (0,false)) else (if a1 ≥ (wrap64 (8*(a0.size:Int))) then (some (0,false)) else (if 0≤(wrap64 (Int.tdiv a1 8)) then (if (wrap64 (Int.tdiv a1 8)) < (a0.size:Int) then (if 0≤(Int.tmod a1 8) then (some (Go.bits .and .i64 (wrap64 (shr .u8 (bt a0 (wrap64 (Int.tdiv a1 8))) (Int.tmod a1 8))) 1,true)) else (none)) else (none)) else (none))))=some (r1,r2):=h
 clear h
 by_cases c3:a1 < 0
 ·rw [if_pos c3] at H
  have c3b0:decide (a1 < 0)=true:=decide_eq_true c3
  clear c3
  simp only [Option.some.injEq,Prod.mk.injEq] at H
  obtain ⟨rfl,rfl⟩:=H
  go_enter Try.func34,Try.ntmps34
  go_wp2
  go_ret2
  exact ⟨by first | rfl | (simp;done) | (simp [*];done),by repeat (first | exact Drawn0.refl _ | apply Drawn0.step)⟩
 ·rw [if_neg c3] at H
  have c3b0:decide (a1 < 0)=false:=decide_eq_false c3
  clear c3
  by_cases c4:a1 ≥ (wrap64 (8*(a0.size:Int)))
  ·rw [if_pos c4] at H
   have c4b0:decide ((wrap64 (8*(a0.size:Int)))≤a1)=true:=decide_eq_true c4
   clear c4
   simp only [Option.some.injEq,Prod.mk.injEq] at H
   obtain ⟨rfl,rfl⟩:=H
   go_enter Try.func34,Try.ntmps34
   go_wp2
   go_ret2
   exact ⟨by first | rfl | (simp;done) | (simp [*];done),by repeat (first | exact Drawn0.refl _ | apply Drawn0.step)⟩
  ·rw [if_neg c4] at H
   have c4b0:decide ((wrap64 (8*(a0.size:Int)))≤a1)=false:=decide_eq_false c4
   clear c4
   obtain ⟨ji5,hji5⟩:∃ j_:Int,(wrap64 (Int.tdiv a1 8))=j_:=⟨_,rfl⟩
   replace H:(if 0≤(ji5) then (if (ji5) < (a0.size:Int) then (if 0≤(Int.tmod a1 8) then (some (Go.bits .and .i64 (wrap64 (shr .u8 (bt a0 (ji5)) (Int.tmod a1 8))) 1,true)) else (none)) else (none)) else (none))=some (r1,r2):=by first | (rw [hji5] at H;exact H) | (simp only [hji5] at H ⊢;exact H)
   have hji5w:(IntKind.i64.wrap (Int.tdiv a1 8))=ji5:=(i64_w _).trans hji5
   by_cases c6:0≤(ji5)
   ·rw [if_pos c6] at H
    have c6b0:decide (0≤(ji5))=true:=decide_eq_true c6
    clear c6
    by_cases c7:(ji5) < (a0.size:Int)
    ·rw [if_pos c7] at H
     have c7b0:decide ((ji5) < (a0.size:Int))=true:=decide_eq_true c7
     clear c7
     obtain ⟨ji9,hji9⟩:∃ j_:Int,(Int.tmod a1 8)=j_:=⟨_,rfl⟩
     replace H:(if 0≤(ji9) then (some (Go.bits .and .i64 (wrap64 (shr .u8 (bt a0 (ji5)) (ji9))) 1,true)) else (none))=some (r1,r2):=by first | (rw [hji9] at H;exact H) | (simp only [hji9] at H ⊢;exact H)
     by_cases c10:0≤(ji9)
     ·rw [if_pos c10] at H
      have c10b0:=eq_true c10
      have c10b1:decide (0≤(ji9))=true:=decide_eq_true c10
      clear c10
      obtain ⟨ji11,hji11⟩:∃ j_:Int,(shr .u8 (bt a0 (ji5)) (ji9))=j_:=⟨_,rfl⟩
      replace H:(some (Go.bits .and .i64 (wrap64 (ji11)) 1,true))=some (r1,r2):=by first | (rw [hji11] at H;exact H) | (simp only [hji11] at H ⊢;exact H)
      have hji11_:((bt a0 (ji5)) / 2 ^ min (ji9).toNat 8)=ji11:=hji11
      have hji11z:(ji9)≤8 → ((bt a0 (ji5)) / 2 ^ (ji9).toNat)=ji11:=shr_small hji11
      simp only [Option.some.injEq,Prod.mk.injEq] at H
      obtain ⟨rfl,rfl⟩:=H
      have p8:0≤((ji5):Int):=of_decide_eq_true (by first | (with_reducible assumption) | assumption)
      have q8:(ji5) < (a0.size:Int):=of_decide_eq_true (by first | (with_reducible assumption) | assumption)
      have hx8:=bt_at a0 (ji5)
      replace p8:=eq_true p8
      replace q8:=eq_true q8
      go_enter Try.func34,Try.ntmps34
      go_wp2
      go_ret2
      exact ⟨by first | rfl | (simp;done) | (simp only [← hji5,← hji9,← hji11] <;> (first | rfl | simp)) | (simp [*];done),by repeat (first | exact Drawn0.refl _ | apply Drawn0.step)⟩
     ·rw [if_neg c10] at H
      exact absurd H (by simp)
    ·rw [if_neg c7] at H
     exact absurd H (by simp)
   ·rw [if_neg c6] at H
    exact absurd H (by simp)
end Go.Proofs.Ytpbhkdamkbopkaa.GAwake04
namespace Go.Proofs.Ytpbhkdamkbopkaa.GHuff
open Go.RowKit Go.Proofs.YtpbhkdamkbopkaaW.PrintWords Go.Proofs.YtpbhkdamkbopkaaW.PrintLast Go.Proofs.YtpbhkdamkbopkaaW.PrintMore Go.Proofs.Ytpbhkdamkbopkaa.Ext
attribute [local go_sem] max2_int min2_int max_two min_two max_three min_three max_four min_four
set_option linter.unusedVariables false
set_option linter.unusedSimpArgs false
def errW:Option Int → Value
 |none=>.nilIface
 |some c=>.iface 0 (.int .i64 c)
theorem errW_none:errW none=.nilIface:=rfl
theorem errW_some (c:Int):errW (some c)=.iface 0 (.int .i64 c):=rfl
theorem info3:(Try.prog.info? 3).map (fun i=>(i.zero,i.size,i.bytes))=some (some (.int .i64 0),1,8):=by kernel_rfl
theorem info5:(Try.prog.info? 5).map (fun i=>(i.zero,i.size,i.bytes))=some (some (.int .u8 0),1,1):=by kernel_rfl
end Go.Proofs.Ytpbhkdamkbopkaa.GHuff
namespace Go.Proofs.Ytpbhkdamkbopkaa.GHuff
open Go.RowKit Go.Proofs.YtpbhkdamkbopkaaW.PrintWords Go.Proofs.YtpbhkdamkbopkaaW.PrintLast Go.Proofs.YtpbhkdamkbopkaaW.PrintMore Go.Proofs.Ytpbhkdamkbopkaa.Ext
attribute [local go_sem] max2_int min2_int max_two min_two max_three min_three max_four min_four
set_option linter.unusedVariables false
set_option linter.unusedSimpArgs false
def huff_Bit.f (a0:ByteArray) (a1:Int):Option (Int × Bool):=if a1 < 0 then (some (0,false)) else (if a1 ≥ (wrap64 (8*(a0.size:Int))) then (some (0,false)) else (if 0≤(wrap64 (Int.tdiv a1 8)) then (if (wrap64 (Int.tdiv a1 8)) < (a0.size:Int) then (if 0≤(Int.tmod a1 8) then (some (Go.bits .and .i64 (wrap64 (shr .u8 (bt a0 (wrap64 (Int.tdiv a1 8))) (Int.tmod a1 8))) 1,true)) else (none)) else (none)) else (none)))
set_option maxHeartbeats 8000000 in
set_option maxRecDepth 100000 in
theorem huff_Bit.calls (a0 : ByteArray) (a1 : Int) (r1 : Int) (r2 : Bool) (w : World) (h : huff_Bit.f a0 a1 = some (r1, r2)) :
  Calls Try.prog 34 #[.string a0,.int .i64 a1] w fun e w'=>e=.returned (.tuple #[.int .i64 r1,.bool r2])∧Drawn0 w w':=by
 have H:(if a1 < 0 then (some (0,false)) else (if a1 ≥ (wrap64 (8*(a0.size:Int))) then (some (0,false)) else (if 0≤(wrap64 (Int.tdiv a1 8)) then (if (wrap64 (Int.tdiv a1 8)) < (a0.size:Int) then (if 0≤(Int.tmod a1 8) then (some (Go.bits .and .i64 (wrap64 (shr .u8 (bt a0 (wrap64 (Int.tdiv a1 8))) (Int.tmod a1 8))) 1,true)) else (none)) else (none)) else (none))))=some (r1,r2):=h
 clear h
 by_cases c3:a1 < 0
 ·rw [if_pos c3] at H
  have c3b0:decide (a1 < 0)=true:=decide_eq_true c3
  clear c3
  simp only [Option.some.injEq,Prod.mk.injEq] at H
  obtain ⟨rfl,rfl⟩:=H
  go_enter Try.func34,Try.ntmps34
  go_wp2
  go_ret2
  exact ⟨by first | rfl | (simp;done) | (simp [*];done),by repeat (first | exact Drawn0.refl _ | apply Drawn0.step)⟩
 ·rw [if_neg c3] at H
  have c3b0:decide (a1 < 0)=false:=decide_eq_false c3
  clear c3
  by_cases c4:a1 ≥ (wrap64 (8*(a0.size:Int)))
  ·rw [if_pos c4] at H
   have c4b0:decide ((wrap64 (8*(a0.size:Int)))≤a1)=true:=decide_eq_true c4
   clear c4
   simp only [Option.some.injEq,Prod.mk.injEq] at H
   obtain ⟨rfl,rfl⟩:=H
   go_enter Try.func34,Try.ntmps34
   go_wp2
   go_ret2
   exact ⟨by first | rfl | (simp;done) | (simp [*];done),by repeat (first | exact Drawn0.refl _ | apply Drawn0.step)⟩
  ·rw [if_neg c4] at H
   have c4b0:decide ((wrap64 (8*(a0.size:Int)))≤a1)=false:=decide_eq_false c4
   clear c4
   obtain ⟨ji5,hji5⟩:∃ j_:Int,(wrap64 (Int.tdiv a1 8))=j_:=⟨_,rfl⟩
   replace H:(if 0≤(ji5) then (if (ji5) < (a0.size:Int) then (if 0≤(Int.tmod a1 8) then (some (Go.bits .and .i64 (wrap64 (shr .u8 (bt a0 (ji5)) (Int.tmod a1 8))) 1,true)) else (none)) else (none)) else (none))=some (r1,r2):=by first | (rw [hji5] at H;exact H) | (simp only [hji5] at H ⊢;exact H)
   have hji5w:(IntKind.i64.wrap (Int.tdiv a1 8))=ji5:=(i64_w _).trans hji5
   by_cases c6:0≤(ji5)
   ·rw [if_pos c6] at H
    have c6b0:decide (0≤(ji5))=true:=decide_eq_true c6
    clear c6
    by_cases c7:(ji5) < (a0.size:Int)
    ·rw [if_pos c7] at H
     have c7b0:decide ((ji5) < (a0.size:Int))=true:=decide_eq_true c7
     clear c7
     obtain ⟨ji9,hji9⟩:∃ j_:Int,(Int.tmod a1 8)=j_:=⟨_,rfl⟩
     replace H:(if 0≤(ji9) then (some (Go.bits .and .i64 (wrap64 (shr .u8 (bt a0 (ji5)) (ji9))) 1,true)) else (none))=some (r1,r2):=by first | (rw [hji9] at H;exact H) | (simp only [hji9] at H ⊢;exact H)
     by_cases c10:0≤(ji9)
     ·rw [if_pos c10] at H
      have c10b0:=eq_true c10
      have c10b1:decide (0≤(ji9))=true:=decide_eq_true c10
      clear c10
      obtain ⟨ji11,hji11⟩:∃ j_:Int,(shr .u8 (bt a0 (ji5)) (ji9))=j_:=⟨_,rfl⟩
      replace H:(some (Go.bits .and .i64 (wrap64 (ji11)) 1,true))=some (r1,r2):=by first | (rw [hji11] at H;exact H) | (simp only [hji11] at H ⊢;exact H)
      have hji11_:((bt a0 (ji5)) / 2 ^ min (ji9).toNat 8)=ji11:=hji11
      have hji11z:(ji9)≤8 → ((bt a0 (ji5)) / 2 ^ (ji9).toNat)=ji11:=shr_small hji11
      simp only [Option.some.injEq,Prod.mk.injEq] at H
      obtain ⟨rfl,rfl⟩:=H
      have p8:0≤((ji5):Int):=of_decide_eq_true (by first | (with_reducible assumption) | assumption)
      have q8:(ji5) < (a0.size:Int):=of_decide_eq_true (by first | (with_reducible assumption) | assumption)
      have hx8:=bt_at a0 (ji5)
      replace p8:=eq_true p8
      replace q8:=eq_true q8
      go_enter Try.func34,Try.ntmps34
      go_wp2
      go_ret2
      exact ⟨by first | rfl | (simp;done) | (simp only [← hji5,← hji9,← hji11] <;> (first | rfl | simp)) | (simp [*];done),by repeat (first | exact Drawn0.refl _ | apply Drawn0.step)⟩
     ·rw [if_neg c10] at H
      exact absurd H (by simp)
    ·rw [if_neg c7] at H
     exact absurd H (by simp)
   ·rw [if_neg c6] at H
    exact absurd H (by simp)
mutual
def celluloidref04_Error.l0:Nat → List Int → Int → Int → Int → Int → Option (Int)
 |0,_,_,_,_,_=>none
 |k+1,x0,x3,x4,x5,x6=>if x6 < (x0.length:Int) then (if 0≤x6 then (if (rd x0 x6) < 0 then (celluloidref04_Error.j1 k x0 x3 x4 x5 x6 true) else (celluloidref04_Error.j1 k x0 x3 x4 x5 x6 (decide ((rd x0 x6) > 15)))) else (none)) else (if x3=32768 then (some 0) else (if x4=0 then (some 0) else (if x4=1 then (if x5=1 then (some 0) else (some 4)) else (some 4))))
def celluloidref04_Error.j1:Nat → List Int → Int → Int → Int → Int → Bool → Option (Int)
 |0,_,_,_,_,_,_=>none
 |k+1,x0,x3,x4,x5,x6,x29=>if x29=true then (some 1) else (if 0≤x6 then (if x6 < (x0.length:Int) then (if (rd x0 x6) > 0 then (celluloidref04_Error.l1 k x0 x3 (wrap64 (x4+1)) x5 x6 32768 0) else (if (rd x0 x6)=1 then (celluloidref04_Error.l0 k x0 x3 x4 (wrap64 (x5+1)) (wrap64 (x6+1))) else (celluloidref04_Error.l0 k x0 x3 x4 x5 (wrap64 (x6+1))))) else (none)) else (none))
def celluloidref04_Error.l1:Nat → List Int → Int → Int → Int → Int → Int → Int → Option (Int)
 |0,_,_,_,_,_,_,_=>none
 |k+1,x0,x3,x4,x5,x6,x7,x8=>if 0≤x6 then (if x6 < (x0.length:Int) then (if x8 < (rd x0 x6) then (celluloidref04_Error.l1 k x0 x3 x4 x5 x6 (wrap64 (Int.tdiv x7 2)) (wrap64 (x8+1))) else (if (rd x0 x6)=1 then (celluloidref04_Error.l0 k x0 (wrap64 (x3+x7)) x4 (wrap64 (x5+1)) (wrap64 (x6+1))) else (celluloidref04_Error.l0 k x0 (wrap64 (x3+x7)) x4 x5 (wrap64 (x6+1))))) else (none)) else (none)
end
def celluloidref04_Error.f (k:Nat) (l0:List Int):Option (Int):=if (l0.length:Int) > 320 then (some 1) else (celluloidref04_Error.l0 k l0 0 0 0 0)
set_option maxHeartbeats 8000000 in
set_option maxRecDepth 100000 in
theorem celluloidref04_Error.calls (k : Nat) (A0 : Option Addr) (c0 : Nat) (l0 : List Int) (r : Int) (w : World) (hr0 : Kd.C (Kd.int .i64) w A0 l0.length l0) (hc0 : l0.length ≤ c0) (h : celluloidref04_Error.f k l0 = some r) :
  Calls Try.prog 28 #[.slice A0 l0.length c0] w fun e w'=>e=.returned (.int .i64 r)∧Drawn0 w w':=by
 have HR0:=Aside0.mk hr0
 have HC0:=Aside0.mk hc0
 clear hr0 hc0
 have H:(if (l0.length:Int) > 320 then (some 1) else (celluloidref04_Error.l0 k l0 0 0 0 0))=some r:=h
 clear h
 by_cases c2:(l0.length:Int) > 320
 ·rw [if_pos c2] at H
  have c2b0:decide (320 < (l0.length:Int))=true:=decide_eq_true c2
  have c2b1:decide (320 < l0.length)=true:=decide_eq_true (by omega)
  clear c2
  obtain rfl:=Option.some.inj H
  go_enter Try.func28,Try.ntmps28
  go_wp2
  go_ret
  exact ⟨by first | rfl | (simp;done) | (simp [*];done),by repeat (first | exact Drawn0.refl _ | apply Drawn0.step)⟩
 ·rw [if_neg c2] at H
  have c2b0:decide (320 < (l0.length:Int))=false:=decide_eq_false c2
  have c2b1:decide (320 < l0.length)=false:=decide_eq_false (by omega)
  clear c2
  have H':=Aside0.mk H
  clear H
  go_enter Try.func28,Try.ntmps28
  go_wp2
  go_loopg [3,4,5,6] k (fun kq v3 v4 v5 v6 w'=>∃ (x3_1:Int) (x4_1:Int) (x5_1:Int) (x6_1:Int),v3=.int .i64 x3_1∧v4=.int .i64 x4_1∧v5=.int .i64 x5_1∧v6=.int .i64 x6_1∧Aside0 (celluloidref04_Error.l0 kq l0 x3_1 x4_1 x5_1 x6_1=some r)∧Aside0 (kq≤k)∧Drawn0 w w')
  case atStart=>exact ⟨(0),(0),(0),(0),(by first | rfl | (simp;done) | (simp [*];done)),(by first | rfl | (simp;done) | (simp [*];done)),(by first | rfl | (simp;done) | (simp [*];done)),(by first | rfl | (simp;done) | (simp [*];done)),H',⟨Nat.le_refl _⟩,by repeat (first | exact Drawn0.refl _ | apply Drawn0.step)⟩
  case round =>
   clear H'
   try clear c2
   try clear c2b0
   try clear c2b1
   try clear p2
   obtain ⟨x3_1,x4_1,x5_1,x6_1,rfl,rfl,rfl,rfl,HA,HK1,⟨m1,rfl⟩⟩:=hrel
   cases gk with
   |zero=>exact absurd HA.out (by simp [celluloidref04_Error.l0])
   |succ k1 =>
    have H:=HA.out
    clear HA
    simp only [celluloidref04_Error.l0] at H
    by_cases c3:x6_1 < (l0.length:Int)
    ·rw [if_pos c3] at H
     have c3b0:decide (x6_1 < (l0.length:Int))=true:=decide_eq_true c3
     clear c3
     have HC4:=Aside0.mk H
     clear H
     go_upto_region 7 with (fail)
     go_cut [29] (fun v29 wc=>∃ (kq:Nat) (x29_3:Bool),v29=.bool x29_3∧Aside0 (celluloidref04_Error.j1 kq l0 x3_1 x4_1 x5_1 x6_1 x29_3=some r)∧Aside0 (kq≤k1)∧Drawn0 w wc)
     case first =>
      have H:=HC4.out
      clear HC4
      by_cases c5:0≤x6_1
      ·rw [if_pos c5] at H
       have c5b0:decide (0≤x6_1)=true:=decide_eq_true c5
       clear c5
       (first | rw [c5b0] | (simp only [i64_w,i32_w];rw [c5b0]) | skip)
       by_cases c6:(rd l0 x6_1) < 0
       ·rw [if_pos c6] at H
        have c6b0:decide ((rd l0 x6_1) < 0)=true:=decide_eq_true c6
        clear c6
        have H':=Aside0.mk H
        clear H
        have p101:0≤(x6_1:Int):=of_decide_eq_true (by first | (with_reducible assumption) | assumption)
        have q101:x6_1 < (l0.length:Int):=of_decide_eq_true (by first | (with_reducible assumption) | assumption)
        obtain ⟨ad101,e101,hx101_0⟩:=Kd.at_int HR0.out x6_1 p101 q101
        cases e101
        replace p101:=eq_true p101
        replace q101:=eq_true q101
        go_wp2
        go_meet
        case rel=>exact ⟨_,(true),(by first | rfl | (simp;done) | (simp [*];done)),H',⟨by have:=HK1.out;first | omega | exact Nat.le_refl _⟩,by repeat (first | exact Drawn0.refl _ | apply Drawn0.step)⟩
       ·rw [if_neg c6] at H
        have c6b0:decide ((rd l0 x6_1) < 0)=false:=decide_eq_false c6
        clear c6
        have H':=Aside0.mk H
        clear H
        have p101:0≤(x6_1:Int):=of_decide_eq_true (by first | (with_reducible assumption) | assumption)
        have q101:x6_1 < (l0.length:Int):=of_decide_eq_true (by first | (with_reducible assumption) | assumption)
        obtain ⟨ad101,e101,hx101_0⟩:=Kd.at_int HR0.out x6_1 p101 q101
        cases e101
        replace p101:=eq_true p101
        replace q101:=eq_true q101
        have p102:0≤(x6_1:Int):=of_decide_eq_true (by first | (with_reducible assumption) | assumption)
        have q102:x6_1 < (l0.length:Int):=of_decide_eq_true (by first | (with_reducible assumption) | assumption)
        obtain ⟨ad102,e102,hx102_0⟩:=Kd.at_int HR0.out x6_1 p102 q102
        obtain rfl:ad101=ad102:=(by injection e102)
        replace p102:=eq_true p102
        replace q102:=eq_true q102
        go_wp2
        go_meet
        case rel=>exact ⟨_,(decide ((rd l0 x6_1) > 15)),(by first | rfl | (simp;done) | (simp [*];done)),H',⟨by have:=HK1.out;first | omega | exact Nat.le_refl _⟩,by repeat (first | exact Drawn0.refl _ | apply Drawn0.step)⟩
      ·rw [if_neg c5] at H
       exact absurd H (by simp)
     case rest =>
      clear HC4
      try clear p1
      try clear q1
      try clear hx1
      try clear c2
      try clear c2b0
      try clear c2b1
      try clear p2
      try clear c3
      try clear c3b0
      try clear c5
      try clear c5b0
      try clear c6
      try clear c6b0
      try clear hx101_0
      try clear hx102_0
      try clear p101
      try clear p102
      try clear p2
      try clear q101
      try clear q102
      obtain ⟨kq,x29_3,rfl,HA,HJ3,⟨mc3,rfl⟩⟩:=hcut
      cases kq with
      |zero=>exact absurd HA.out (by simp [celluloidref04_Error.j1])
      |succ kj3 =>
       have H:=HA.out
       clear HA
       simp only [celluloidref04_Error.j1] at H
       by_cases c7:x29_3=true
       ·subst c7
        have H1:(some 1)=some r:=by rw [if_pos rfl] at H;exact H
        clear H
        have H:=H1
        clear H1
        obtain rfl:=Option.some.inj H
        go_wp2
        go_ret
        exact ⟨by first | rfl | (simp;done) | (simp [*];done),by repeat (first | exact Drawn0.refl _ | apply Drawn0.step)⟩
       ·replace c7:=Bool.eq_false_iff.mpr c7
        subst c7
        have H1:(if 0≤x6_1 then (if x6_1 < (l0.length:Int) then (if (rd l0 x6_1) > 0 then (celluloidref04_Error.l1 kj3 l0 x3_1 (wrap64 (x4_1+1)) x5_1 x6_1 32768 0) else (if (rd l0 x6_1)=1 then (celluloidref04_Error.l0 kj3 l0 x3_1 x4_1 (wrap64 (x5_1+1)) (wrap64 (x6_1+1))) else (celluloidref04_Error.l0 kj3 l0 x3_1 x4_1 x5_1 (wrap64 (x6_1+1))))) else (none)) else (none))=some r:=by rw [if_neg (show ¬ (false=true) by decide)] at H;exact H
        clear H
        have H:=H1
        clear H1
        by_cases c8:0≤x6_1
        ·rw [if_pos c8] at H
         have c8b0:decide (0≤x6_1)=true:=decide_eq_true c8
         clear c8
         by_cases c9:x6_1 < (l0.length:Int)
         ·rw [if_pos c9] at H
          have c9b0:decide (x6_1 < (l0.length:Int))=true:=decide_eq_true c9
          clear c9
          by_cases c10:(rd l0 x6_1) > 0
          ·rw [if_pos c10] at H
           have c10b0:decide (0 < (rd l0 x6_1))=true:=decide_eq_true c10
           clear c10
           have H':=Aside0.mk H
           clear H
           have p103:0≤(x6_1:Int):=of_decide_eq_true (by first | (with_reducible assumption) | assumption)
           have q103:x6_1 < (l0.length:Int):=of_decide_eq_true (by first | (with_reducible assumption) | assumption)
           obtain ⟨ad103,e103,hx103_0⟩:=Kd.at_int HR0.out x6_1 p103 q103
           cases e103
           replace p103:=eq_true p103
           replace q103:=eq_true q103
           go_wp2
           go_loopg [7,8] kj3 (fun kq v7 v8 w'=>∃ (x7_3:Int) (x8_3:Int),v7=.int .i64 x7_3∧v8=.int .i64 x8_3∧Aside0 (celluloidref04_Error.l1 kq l0 x3_1 (wrap64 (x4_1+1)) x5_1 x6_1 x7_3 x8_3=some r)∧Aside0 (kq≤kj3)∧Drawn0 w w')
           case atStart=>exact ⟨(32768),(0),(by first | rfl | (simp;done) | (simp [*];done)),(by first | rfl | (simp;done) | (simp [*];done)),H',⟨Nat.le_refl _⟩,by repeat (first | exact Drawn0.refl _ | apply Drawn0.step)⟩
           case round =>
            clear H'
            try clear c1
            try clear p1
            try clear q1
            try clear hx1
            try clear c2
            try clear c2b0
            try clear c2b1
            try clear p2
            try clear c3
            try clear c3b0
            try clear c5
            try clear c5b0
            try clear c6
            try clear c6b0
            try clear p6
            try clear c7
            try clear c8
            try clear c8b0
            try clear c9
            try clear c9b0
            try clear c10
            try clear c10b0
            try clear p10
            try clear q10
            try clear hx10
            try clear hx101_0
            try clear hx102_0
            try clear hx103_0
            try clear p1
            try clear p101
            try clear p102
            try clear p103
            try clear p2
            try clear q1
            try clear q101
            try clear q102
            try clear q103
            obtain ⟨x7_3,x8_3,rfl,rfl,HA,HK3,⟨m3,rfl⟩⟩:=hrel
            cases gk with
            |zero=>exact absurd HA.out (by simp [celluloidref04_Error.l1])
            |succ k3 =>
             have H:=HA.out
             clear HA
             simp only [celluloidref04_Error.l1] at H
             by_cases c11:0≤x6_1
             ·rw [if_pos c11] at H
              have c11b0:decide (0≤x6_1)=true:=decide_eq_true c11
              clear c11
              by_cases c12:x6_1 < (l0.length:Int)
              ·rw [if_pos c12] at H
               have c12b0:decide (x6_1 < (l0.length:Int))=true:=decide_eq_true c12
               clear c12
               by_cases c13:x8_3 < (rd l0 x6_1)
               ·rw [if_pos c13] at H
                have c13b0:decide (x8_3 < (rd l0 x6_1))=true:=decide_eq_true c13
                clear c13
                have H':=Aside0.mk H
                clear H
                have p104:0≤(x6_1:Int):=of_decide_eq_true (by first | (with_reducible assumption) | assumption)
                have q104:x6_1 < (l0.length:Int):=of_decide_eq_true (by first | (with_reducible assumption) | assumption)
                obtain ⟨ad104,e104,hx104_0⟩:=Kd.at_int HR0.out x6_1 p104 q104
                obtain rfl:ad103=ad104:=(by injection e104)
                replace p104:=eq_true p104
                replace q104:=eq_true q104
                go_wp2
                go_roundg k3
                case measure=>have:=HK1.out;have:=HJ3.out;have:=HK3.out;omega
                case rel=>exact ⟨(wrap64 (Int.tdiv x7_3 2)),(wrap64 (x8_3+1)),(by first | rfl | (simp;done) | (simp [*];done)),(by first | rfl | (simp;done) | (simp [*];done)),H',⟨by have:=HK1.out;have:=HJ3.out;have:=HK3.out;omega⟩,by repeat (first | exact Drawn0.refl _ | apply Drawn0.step)⟩
               ·rw [if_neg c13] at H
                have c13b0:decide (x8_3 < (rd l0 x6_1))=false:=decide_eq_false c13
                clear c13
                by_cases c14:(rd l0 x6_1)=1
                ·rw [if_pos c14] at H
                 have c14b0:((rd l0 x6_1) == 1)=true:=beq_iff_eq.mpr c14
                 have c14b1:((rd l0 x6_1) != 1)=false:=bne_eq_false_iff_eq.mpr c14
                 clear c14
                 have H':=Aside0.mk H
                 clear H
                 have p104:0≤(x6_1:Int):=of_decide_eq_true (by first | (with_reducible assumption) | assumption)
                 have q104:x6_1 < (l0.length:Int):=of_decide_eq_true (by first | (with_reducible assumption) | assumption)
                 obtain ⟨ad104,e104,hx104_0⟩:=Kd.at_int HR0.out x6_1 p104 q104
                 obtain rfl:ad103=ad104:=(by injection e104)
                 replace p104:=eq_true p104
                 replace q104:=eq_true q104
                 have p105:0≤(x6_1:Int):=of_decide_eq_true (by first | (with_reducible assumption) | assumption)
                 have q105:x6_1 < (l0.length:Int):=of_decide_eq_true (by first | (with_reducible assumption) | assumption)
                 obtain ⟨ad105,e105,hx105_0⟩:=Kd.at_int HR0.out x6_1 p105 q105
                 obtain rfl:ad103=ad105:=(by injection e105)
                 replace p105:=eq_true p105
                 replace q105:=eq_true q105
                 go_wp2
                 go_roundg k3
                 case measure=>have:=HK1.out;have:=HJ3.out;have:=HK3.out;omega
                 case rel=>exact ⟨(wrap64 (x3_1+x7_3)),((wrap64 (x4_1+1))),(wrap64 (x5_1+1)),(wrap64 (x6_1+1)),(by first | rfl | (simp;done) | (simp [*];done)),(by first | rfl | (simp;done) | (simp [*];done)),(by first | rfl | (simp;done) | (simp [*];done)),(by first | rfl | (simp;done) | (simp [*];done)),H',⟨by have:=HK1.out;have:=HJ3.out;have:=HK3.out;omega⟩,by repeat (first | exact Drawn0.refl _ | apply Drawn0.step)⟩
                ·rw [if_neg c14] at H
                 have c14b0:((rd l0 x6_1) == 1)=false:=beq_eq_false_iff_ne.mpr c14
                 have c14b1:((rd l0 x6_1) != 1)=true:=bne_iff_ne.mpr c14
                 have H':=Aside0.mk H
                 clear H
                 have p104:0≤(x6_1:Int):=of_decide_eq_true (by first | (with_reducible assumption) | assumption)
                 have q104:x6_1 < (l0.length:Int):=of_decide_eq_true (by first | (with_reducible assumption) | assumption)
                 obtain ⟨ad104,e104,hx104_0⟩:=Kd.at_int HR0.out x6_1 p104 q104
                 obtain rfl:ad103=ad104:=(by injection e104)
                 replace p104:=eq_true p104
                 replace q104:=eq_true q104
                 have p105:0≤(x6_1:Int):=of_decide_eq_true (by first | (with_reducible assumption) | assumption)
                 have q105:x6_1 < (l0.length:Int):=of_decide_eq_true (by first | (with_reducible assumption) | assumption)
                 obtain ⟨ad105,e105,hx105_0⟩:=Kd.at_int HR0.out x6_1 p105 q105
                 obtain rfl:ad103=ad105:=(by injection e105)
                 replace p105:=eq_true p105
                 replace q105:=eq_true q105
                 go_wp2
                 go_roundg k3
                 case measure=>have:=HK1.out;have:=HJ3.out;have:=HK3.out;omega
                 case rel=>exact ⟨(wrap64 (x3_1+x7_3)),((wrap64 (x4_1+1))),(x5_1),(wrap64 (x6_1+1)),(by first | rfl | (simp;done) | (simp [*];done)),(by first | rfl | (simp;done) | (simp [*];done)),(by first | rfl | (simp;done) | (simp [*];done)),(by first | rfl | (simp;done) | (simp [*];done)),H',⟨by have:=HK1.out;have:=HJ3.out;have:=HK3.out;omega⟩,by repeat (first | exact Drawn0.refl _ | apply Drawn0.step)⟩
              ·rw [if_neg c12] at H
               exact absurd H (by simp)
             ·rw [if_neg c11] at H
              exact absurd H (by simp)
          ·rw [if_neg c10] at H
           have c10b0:decide (0 < (rd l0 x6_1))=false:=decide_eq_false c10
           clear c10
           by_cases c15:(rd l0 x6_1)=1
           ·rw [if_pos c15] at H
            have c15b0:((rd l0 x6_1) == 1)=true:=beq_iff_eq.mpr c15
            have c15b1:((rd l0 x6_1) != 1)=false:=bne_eq_false_iff_eq.mpr c15
            clear c15
            have H':=Aside0.mk H
            clear H
            have p103:0≤(x6_1:Int):=of_decide_eq_true (by first | (with_reducible assumption) | assumption)
            have q103:x6_1 < (l0.length:Int):=of_decide_eq_true (by first | (with_reducible assumption) | assumption)
            obtain ⟨ad103,e103,hx103_0⟩:=Kd.at_int HR0.out x6_1 p103 q103
            cases e103
            replace p103:=eq_true p103
            replace q103:=eq_true q103
            have p106:0≤(x6_1:Int):=of_decide_eq_true (by first | (with_reducible assumption) | assumption)
            have q106:x6_1 < (l0.length:Int):=of_decide_eq_true (by first | (with_reducible assumption) | assumption)
            obtain ⟨ad106,e106,hx106_0⟩:=Kd.at_int HR0.out x6_1 p106 q106
            obtain rfl:ad103=ad106:=(by injection e106)
            replace p106:=eq_true p106
            replace q106:=eq_true q106
            go_wp2
            go_roundg kj3
            case measure=>have:=HK1.out;have:=HJ3.out;omega
            case rel=>exact ⟨(x3_1),(x4_1),(wrap64 (x5_1+1)),(wrap64 (x6_1+1)),(by first | rfl | (simp;done) | (simp [*];done)),(by first | rfl | (simp;done) | (simp [*];done)),(by first | rfl | (simp;done) | (simp [*];done)),(by first | rfl | (simp;done) | (simp [*];done)),H',⟨by have:=HK1.out;have:=HJ3.out;omega⟩,by repeat (first | exact Drawn0.refl _ | apply Drawn0.step)⟩
           ·rw [if_neg c15] at H
            have c15b0:((rd l0 x6_1) == 1)=false:=beq_eq_false_iff_ne.mpr c15
            have c15b1:((rd l0 x6_1) != 1)=true:=bne_iff_ne.mpr c15
            have H':=Aside0.mk H
            clear H
            have p103:0≤(x6_1:Int):=of_decide_eq_true (by first | (with_reducible assumption) | assumption)
            have q103:x6_1 < (l0.length:Int):=of_decide_eq_true (by first | (with_reducible assumption) | assumption)
            obtain ⟨ad103,e103,hx103_0⟩:=Kd.at_int HR0.out x6_1 p103 q103
            cases e103
            replace p103:=eq_true p103
            replace q103:=eq_true q103
            have p106:0≤(x6_1:Int):=of_decide_eq_true (by first | (with_reducible assumption) | assumption)
            have q106:x6_1 < (l0.length:Int):=of_decide_eq_true (by first | (with_reducible assumption) | assumption)
            obtain ⟨ad106,e106,hx106_0⟩:=Kd.at_int HR0.out x6_1 p106 q106
            obtain rfl:ad103=ad106:=(by injection e106)
            replace p106:=eq_true p106
            replace q106:=eq_true q106
            go_wp2
            go_roundg kj3
            case measure=>have:=HK1.out;have:=HJ3.out;omega
            case rel=>exact ⟨(x3_1),(x4_1),(x5_1),(wrap64 (x6_1+1)),(by first | rfl | (simp;done) | (simp [*];done)),(by first | rfl | (simp;done) | (simp [*];done)),(by first | rfl | (simp;done) | (simp [*];done)),(by first | rfl | (simp;done) | (simp [*];done)),H',⟨by have:=HK1.out;have:=HJ3.out;omega⟩,by repeat (first | exact Drawn0.refl _ | apply Drawn0.step)⟩
         ·rw [if_neg c9] at H
          exact absurd H (by simp)
        ·rw [if_neg c8] at H
         exact absurd H (by simp)
    ·rw [if_neg c3] at H
     have c3b0:decide (x6_1 < (l0.length:Int))=false:=decide_eq_false c3
     clear c3
     by_cases c16:x3_1=32768
     ·rw [if_pos c16] at H
      have c16b0:(x3_1 == 32768)=true:=beq_iff_eq.mpr c16
      have c16b1:(x3_1 != 32768)=false:=bne_eq_false_iff_eq.mpr c16
      clear c16
      obtain rfl:=Option.some.inj H
      go_wp2
      go_ret
      exact ⟨by first | rfl | (simp;done) | (simp [*];done),by repeat (first | exact Drawn0.refl _ | apply Drawn0.step)⟩
     ·rw [if_neg c16] at H
      have c16b0:(x3_1 == 32768)=false:=beq_eq_false_iff_ne.mpr c16
      have c16b1:(x3_1 != 32768)=true:=bne_iff_ne.mpr c16
      by_cases c17:x4_1=0
      ·rw [if_pos c17] at H
       have c17b0:(x4_1 == 0)=true:=beq_iff_eq.mpr c17
       have c17b1:(x4_1 != 0)=false:=bne_eq_false_iff_eq.mpr c17
       clear c17
       obtain rfl:=Option.some.inj H
       go_wp2
       go_ret
       exact ⟨by first | rfl | (simp;done) | (simp [*];done),by repeat (first | exact Drawn0.refl _ | apply Drawn0.step)⟩
      ·rw [if_neg c17] at H
       have c17b0:(x4_1 == 0)=false:=beq_eq_false_iff_ne.mpr c17
       have c17b1:(x4_1 != 0)=true:=bne_iff_ne.mpr c17
       by_cases c18:x4_1=1
       ·rw [if_pos c18] at H
        have c18b0:(x4_1 == 1)=true:=beq_iff_eq.mpr c18
        have c18b1:(x4_1 != 1)=false:=bne_eq_false_iff_eq.mpr c18
        clear c18
        by_cases c19:x5_1=1
        ·rw [if_pos c19] at H
         have c19b0:(x5_1 == 1)=true:=beq_iff_eq.mpr c19
         have c19b1:(x5_1 != 1)=false:=bne_eq_false_iff_eq.mpr c19
         clear c19
         obtain rfl:=Option.some.inj H
         go_wp2
         go_ret
         exact ⟨by first | rfl | (simp;done) | (simp [*];done),by repeat (first | exact Drawn0.refl _ | apply Drawn0.step)⟩
        ·rw [if_neg c19] at H
         have c19b0:(x5_1 == 1)=false:=beq_eq_false_iff_ne.mpr c19
         have c19b1:(x5_1 != 1)=true:=bne_iff_ne.mpr c19
         obtain rfl:=Option.some.inj H
         go_wp2
         go_ret
         exact ⟨by first | rfl | (simp;done) | (simp [*];done),by repeat (first | exact Drawn0.refl _ | apply Drawn0.step)⟩
       ·rw [if_neg c18] at H
        have c18b0:(x4_1 == 1)=false:=beq_eq_false_iff_ne.mpr c18
        have c18b1:(x4_1 != 1)=true:=bne_iff_ne.mpr c18
        obtain rfl:=Option.some.inj H
        go_wp2
        go_ret
        exact ⟨by first | rfl | (simp;done) | (simp [*];done),by repeat (first | exact Drawn0.refl _ | apply Drawn0.step)⟩
end Go.Proofs.Ytpbhkdamkbopkaa.GHuff
namespace Go.Proofs.Ytpbhkdamkbopkaa.GHuff
open Go.RowKit Go.Proofs.YtpbhkdamkbopkaaW.PrintWords Go.Proofs.YtpbhkdamkbopkaaW.PrintLast Go.Proofs.YtpbhkdamkbopkaaW.PrintMore Go.Proofs.Ytpbhkdamkbopkaa.Ext
attribute [local go_sem] max2_int min2_int max_two min_two max_three min_three max_four min_four
set_option linter.unusedVariables false
set_option linter.unusedSimpArgs false
mutual
def celluloidref04_Codes.l0:Nat → List Int → List Int → Int → Option (List Int)
 |0,_,_,_=>none
 |k+1,x0,x3,x4=>if x4 < (x0.length:Int) then (if 0≤x4 then (if (rd x0 x4)=0 then (celluloidref04_Codes.l0 k x0 x3 (wrap64 (x4+1))) else (celluloidref04_Codes.l1 k x0 x3 x4 0 0)) else (none)) else (some x3)
def celluloidref04_Codes.l1:Nat → List Int → List Int → Int → Int → Int → Option (List Int)
 |0,_,_,_,_,_=>none
 |k+1,x0,x3,x4,x5,x6=>if x6 < (x0.length:Int) then (if 0≤x6 then (if (rd x0 x6) > 0 then (if 0≤x4 then (if x4 < (x0.length:Int) then (if (rd x0 x6) < (rd x0 x4) then (celluloidref04_Codes.j2 k x0 x3 x4 x5 x6 true) else (if (rd x0 x6)=(rd x0 x4) then (celluloidref04_Codes.j2 k x0 x3 x4 x5 x6 (decide (x6 < x4))) else (celluloidref04_Codes.j2 k x0 x3 x4 x5 x6 false))) else (none)) else (none)) else (celluloidref04_Codes.j2 k x0 x3 x4 x5 x6 false)) else (none)) else (if 0≤x4 then (if x4 < (x0.length:Int) then (celluloidref04_Codes.l3 k x0 x3 x4 x5 (rd x0 x4)) else (none)) else (none))
def celluloidref04_Codes.j2:Nat → List Int → List Int → Int → Int → Int → Bool → Option (List Int)
 |0,_,_,_,_,_,_=>none
 |k+1,x0,x3,x4,x5,x6,x61=>if x61=true then (celluloidref04_Codes.l2 k x0 x3 x4 x5 x6 32768 0) else (celluloidref04_Codes.l1 k x0 x3 x4 x5 (wrap64 (x6+1)))
def celluloidref04_Codes.l2:Nat → List Int → List Int → Int → Int → Int → Int → Int → Option (List Int)
 |0,_,_,_,_,_,_,_=>none
 |k+1,x0,x3,x4,x5,x6,x7,x8=>if 0≤x6 then (if x6 < (x0.length:Int) then (if x8 < (rd x0 x6) then (celluloidref04_Codes.l2 k x0 x3 x4 x5 x6 (wrap64 (Int.tdiv x7 2)) (wrap64 (x8+1))) else (celluloidref04_Codes.l1 k x0 x3 x4 (wrap64 (x5+x7)) (wrap64 (x6+1)))) else (none)) else (none)
def celluloidref04_Codes.l3:Nat → List Int → List Int → Int → Int → Int → Option (List Int)
 |0,_,_,_,_,_=>none
 |k+1,x0,x3,x4,x5,x9=>if x9 < 15 then (celluloidref04_Codes.l3 k x0 x3 x4 (wrap64 (Int.tdiv x5 2)) (wrap64 (x9+1))) else (if 0≤x4 then (if x4 < (x3.length:Int) then (celluloidref04_Codes.l0 k x0 (x3.set (x4:Int).toNat x5) (wrap64 (x4+1))) else (none)) else (none))
end
def celluloidref04_Codes.f (k:Nat) (l0:List Int):Option (List Int):=if 0≤(l0.length:Int) then (if ((l0.length:Int):Int).toNat≤35184372088832 then (celluloidref04_Codes.l0 k l0 (List.replicate ((l0.length:Int):Int).toNat 0) 0) else (none)) else (none)
set_option maxHeartbeats 8000000 in
set_option maxRecDepth 100000 in
theorem celluloidref04_Codes.calls (k : Nat) (A0 : Option Addr) (c0 : Nat) (l0 : List Int) (r : List Int) (w : World) (hr0 : Kd.C (Kd.int .i64) w A0 l0.length l0) (hc0 : l0.length ≤ c0) (h : celluloidref04_Codes.f k l0 = some r) :
  Calls Try.prog 29 #[.slice A0 l0.length c0] w fun e w'=>∃ v0_:Value,e=.returned (v0_)∧Kd.R (Kd.int .i64) 3 w' w.heap.size (fun _=>True) v0_ r∧Below w.heap.size w w':=by
 have HR0:=Aside0.mk hr0
 have HC0:=Aside0.mk hc0
 clear hr0 hc0
 have HB:=Aside0.mk (Below.refl w.heap.size w)
 have H:(if 0≤(l0.length:Int) then (if ((l0.length:Int):Int).toNat≤35184372088832 then (celluloidref04_Codes.l0 k l0 (List.replicate ((l0.length:Int):Int).toNat 0) 0) else (none)) else (none))=some r:=h
 clear h
 by_cases c2:0≤(l0.length:Int)
 ·rw [if_pos c2] at H
  have c2b0:=eq_true c2
  have c2b1:decide (0≤(l0.length:Int))=true:=decide_eq_true c2
  clear c2
  by_cases c3:((l0.length:Int):Int).toNat≤35184372088832
  ·rw [if_pos c3] at H
   have c3b0:=eq_true c3
   have c3b1:decide (((l0.length:Int):Int).toNat≤35184372088832)=true:=decide_eq_true c3
   clear c3
   obtain ⟨y107,hy107⟩:∃ y_:List Int,y_=(List.replicate ((l0.length:Int):Int).toNat 0):=⟨_,rfl⟩
   replace H:(celluloidref04_Codes.l0 k l0 y107 0)=some r:=by first | (rw [hy107];with_reducible exact H) | (have H2_:=(Option.bind_some _ _).symm.trans H;rw [hy107];with_reducible exact H2_) | (have H2_:=(Option.bind_some _ _).symm.trans H;with_reducible exact H2_) | with_reducible exact H | (rw [hy107];exact H) | exact H
   have Ny107:=Aside0.mk hy107
   clear hy107
   have H':=Aside0.mk H
   clear H
   go_enter Try.func29,Try.ntmps29
   go_wp2_with (first | ((with_reducible refine gate_dst (N:=12) rfl ?_);refine Kd.R_make (Kd.int .i64) _ 3 rfl (N:=12) rfl 22 _ _ rfl (l0.length:Int) rfl rfl Try.underlying22 (.int .i64 0) 8 info3 rfl (by decide) (by omega) 0 (ok:=fun _=>True) (okp:=fun _=>True) rfl (fun _ hk=>hk) trivial (of_decide_eq_true (by first | (with_reducible assumption) | assumption)) (Nat.le_trans (Nat.mul_le_mul_right _ (of_decide_eq_true (by first | (with_reducible assumption) | assumption):(l0.length:Int).toNat≤35184372088832)) (by omega)) (Below.refl _ _) (Nat.le_refl _) ?_;intro v108 w4 ho5 hb hg_ hnew_;clear hg_ hnew_;(first | rw [← Ny107.out] at ho5 | (simp only [Int.reduceToNat] at ho5;rw [← Ny107.out] at ho5));have n0_:=Aside0.mk (Kd.R_lower ho5 (below_size (by repeat (first | (with_reducible first | exact HB.out | apply below_alloc | apply pw_below_drewN | apply below_drew1) | exact HB.out))));have n1_:=Aside0.mk (below_step (by repeat (first | (with_reducible first | exact HB.out | apply below_alloc | apply pw_below_drewN | apply below_drew1) | exact HB.out)) hb);clear HB;have HO109:=n0_;have HB:=n1_;clear n0_ n1_;clear hb ho5))
   repeat (go_quiet (first | ((with_reducible refine gate_dst (N:=12) rfl ?_);refine Kd.R_make (Kd.int .i64) _ 3 rfl (N:=12) rfl 22 _ _ rfl (l0.length:Int) rfl rfl Try.underlying22 (.int .i64 0) 8 info3 rfl (by decide) (by omega) 0 (ok:=fun _=>True) (okp:=fun _=>True) rfl (fun _ hk=>hk) trivial (of_decide_eq_true (by first | (with_reducible assumption) | assumption)) (Nat.le_trans (Nat.mul_le_mul_right _ (of_decide_eq_true (by first | (with_reducible assumption) | assumption):(l0.length:Int).toNat≤35184372088832)) (by omega)) (Below.refl _ _) (Nat.le_refl _) ?_;intro v108 w4 ho5 hb hg_ hnew_;clear hg_ hnew_;(first | rw [← Ny107.out] at ho5 | (simp only [Int.reduceToNat] at ho5;rw [← Ny107.out] at ho5));have n0_:=Aside0.mk (Kd.R_lower ho5 (below_size (by repeat (first | (with_reducible first | exact HB.out | apply below_alloc | apply pw_below_drewN | apply below_drew1) | exact HB.out))));have n1_:=Aside0.mk (below_step (by repeat (first | (with_reducible first | exact HB.out | apply below_alloc | apply pw_below_drewN | apply below_drew1) | exact HB.out)) hb);clear HB;have HO109:=n0_;have HB:=n1_;clear n0_ n1_;clear hb ho5));try go_wp2_with (first | ((with_reducible refine gate_dst (N:=12) rfl ?_);refine Kd.R_make (Kd.int .i64) _ 3 rfl (N:=12) rfl 22 _ _ rfl (l0.length:Int) rfl rfl Try.underlying22 (.int .i64 0) 8 info3 rfl (by decide) (by omega) 0 (ok:=fun _=>True) (okp:=fun _=>True) rfl (fun _ hk=>hk) trivial (of_decide_eq_true (by first | (with_reducible assumption) | assumption)) (Nat.le_trans (Nat.mul_le_mul_right _ (of_decide_eq_true (by first | (with_reducible assumption) | assumption):(l0.length:Int).toNat≤35184372088832)) (by omega)) (Below.refl _ _) (Nat.le_refl _) ?_;intro v108 w4 ho5 hb hg_ hnew_;clear hg_ hnew_;(first | rw [← Ny107.out] at ho5 | (simp only [Int.reduceToNat] at ho5;rw [← Ny107.out] at ho5));have n0_:=Aside0.mk (Kd.R_lower ho5 (below_size (by repeat (first | (with_reducible first | exact HB.out | apply below_alloc | apply pw_below_drewN | apply below_drew1) | exact HB.out))));have n1_:=Aside0.mk (below_step (by repeat (first | (with_reducible first | exact HB.out | apply below_alloc | apply pw_below_drewN | apply below_drew1) | exact HB.out)) hb);clear HB;have HO109:=n0_;have HB:=n1_;clear n0_ n1_;clear hb ho5)))
   go_loopg [4] k (fun kq v4 w'=>∃ (x3_1:List Int) (x4_1:Int),v4=.int .i64 x4_1∧Aside0 (celluloidref04_Codes.l0 kq l0 x3_1 x4_1=some r)∧Aside0 (kq≤k)∧Aside0 (Kd.R (Kd.int .i64) 3 w' w.heap.size (fun _=>True) v108 x3_1)∧Aside0 (Below w.heap.size w w'))
   case atStart=>exact ⟨(y107),(0),(by first | rfl | (simp;done) | (simp [*];done)),H',⟨Nat.le_refl _⟩,⟨by (with_reducible repeat (first | apply Kd.R_alloc | apply Kd.R_drewN | apply Kd.R_drew));exact HO109.out⟩,⟨by repeat (first | (with_reducible first | exact HB.out | apply below_alloc | apply pw_below_drewN | apply below_drew1) | exact HB.out)⟩⟩
   case round =>
    clear H'
    clear c2b0 c2b1 c3b0 c3b1
    obtain ⟨x3_1,x4_1,rfl,HA,HK1,HO_3,HB⟩:=hrel
    cases gk with
    |zero=>exact absurd HA.out (by simp [celluloidref04_Codes.l0])
    |succ k1 =>
     have H:=HA.out
     clear HA
     simp only [celluloidref04_Codes.l0] at H
     by_cases c6:x4_1 < (l0.length:Int)
     ·rw [if_pos c6] at H
      have c6b0:decide (x4_1 < (l0.length:Int))=true:=decide_eq_true c6
      clear c6
      by_cases c7:0≤x4_1
      ·rw [if_pos c7] at H
       have c7b0:decide (0≤x4_1)=true:=decide_eq_true c7
       clear c7
       by_cases c8:(rd l0 x4_1)=0
       ·rw [if_pos c8] at H
        have c8b0:((rd l0 x4_1) == 0)=true:=beq_iff_eq.mpr c8
        have c8b1:((rd l0 x4_1) != 0)=false:=bne_eq_false_iff_eq.mpr c8
        clear c8
        have H':=Aside0.mk H
        clear H
        have p110:0≤(x4_1:Int):=of_decide_eq_true (by first | (with_reducible assumption) | assumption)
        have q110:x4_1 < (l0.length:Int):=of_decide_eq_true (by first | (with_reducible assumption) | assumption)
        obtain ⟨ad110,e110,hx110_0⟩:=Kd.at_int HR0.out x4_1 p110 q110
        cases e110
        replace hx110_0:=(HB.out.cell (World.block_lt_of_cell? w _ hx110_0)).trans hx110_0
        replace p110:=eq_true p110
        replace q110:=eq_true q110
        go_wp2
        repeat (go_quiet (fail);try go_wp2)
        go_roundg k1
        case measure=>have:=HK1.out;omega
        case rel=>exact ⟨(x3_1),(wrap64 (x4_1+1)),(by first | rfl | (simp;done) | (simp [*];done)),H',⟨by have:=HK1.out;omega⟩,⟨by (with_reducible repeat (first | apply Kd.R_alloc | apply Kd.R_drewN | apply Kd.R_drew));exact HO_3.out⟩,⟨by repeat (first | (with_reducible first | exact HB.out | apply below_alloc | apply pw_below_drewN | apply below_drew1) | exact HB.out)⟩⟩
       ·rw [if_neg c8] at H
        have c8b0:((rd l0 x4_1) == 0)=false:=beq_eq_false_iff_ne.mpr c8
        have c8b1:((rd l0 x4_1) != 0)=true:=bne_iff_ne.mpr c8
        have H':=Aside0.mk H
        clear H
        have p110:0≤(x4_1:Int):=of_decide_eq_true (by first | (with_reducible assumption) | assumption)
        have q110:x4_1 < (l0.length:Int):=of_decide_eq_true (by first | (with_reducible assumption) | assumption)
        obtain ⟨ad110,e110,hx110_0⟩:=Kd.at_int HR0.out x4_1 p110 q110
        cases e110
        replace hx110_0:=(HB.out.cell (World.block_lt_of_cell? w _ hx110_0)).trans hx110_0
        replace p110:=eq_true p110
        replace q110:=eq_true q110
        go_wp2
        repeat (go_quiet (fail);try go_wp2)
        go_loopg [5,6] k1 (fun kq v5 v6 w'=>∃ (x5_2:Int) (x6_2:Int),v5=.int .i64 x5_2∧v6=.int .i64 x6_2∧Aside0 (celluloidref04_Codes.l1 kq l0 x3_1 x4_1 x5_2 x6_2=some r)∧Aside0 (kq≤k1)∧Aside0 (Kd.R (Kd.int .i64) 3 w' w.heap.size (fun _=>True) v108 x3_1)∧Aside0 (Below w.heap.size w w'))
        case atStart=>exact ⟨(0),(0),(by first | rfl | (simp;done) | (simp [*];done)),(by first | rfl | (simp;done) | (simp [*];done)),H',⟨Nat.le_refl _⟩,⟨by (with_reducible repeat (first | apply Kd.R_alloc | apply Kd.R_drewN | apply Kd.R_drew));exact HO_3.out⟩,⟨by repeat (first | (with_reducible first | exact HB.out | apply below_alloc | apply pw_below_drewN | apply below_drew1) | exact HB.out)⟩⟩
        case round =>
         clear H'
         clear c6b0 c7b0 c8 c8b0 c8b1 hx110_0 p110 q110
         obtain ⟨x5_2,x6_2,rfl,rfl,HA,HK2,HO_3,HB⟩:=hrel
         cases gk with
         |zero=>exact absurd HA.out (by simp [celluloidref04_Codes.l1])
         |succ k2 =>
          have H:=HA.out
          clear HA
          simp only [celluloidref04_Codes.l1] at H
          by_cases c9:x6_2 < (l0.length:Int)
          ·rw [if_pos c9] at H
           have c9b0:decide (x6_2 < (l0.length:Int))=true:=decide_eq_true c9
           clear c9
           have HC10:=Aside0.mk H
           clear H
           go_upto_region 10 with (fail)
           repeat (go_quiet (fail);go_upto_region 10 with (fail))
           go_cut [61] (fun v61 wc=>∃ (kq:Nat) (x61_9:Bool),v61=.bool x61_9∧Aside0 (celluloidref04_Codes.j2 kq l0 x3_1 x4_1 x5_2 x6_2 x61_9=some r)∧Aside0 (kq≤k2)∧Aside0 (Kd.R (Kd.int .i64) 3 wc w.heap.size (fun _=>True) v108 x3_1)∧Aside0 (Below w.heap.size w wc))
           case first =>
            have H:=HC10.out
            clear HC10
            by_cases c11:0≤x6_2
            ·rw [if_pos c11] at H
             have c11b0:decide (0≤x6_2)=true:=decide_eq_true c11
             clear c11
             (first | rw [c11b0] | (simp only [i64_w,i32_w];rw [c11b0]) | skip)
             by_cases c12:(rd l0 x6_2) > 0
             ·rw [if_pos c12] at H
              have c12b0:decide (0 < (rd l0 x6_2))=true:=decide_eq_true c12
              clear c12
              by_cases c13:0≤x4_1
              ·rw [if_pos c13] at H
               have c13b0:decide (0≤x4_1)=true:=decide_eq_true c13
               clear c13
               by_cases c14:x4_1 < (l0.length:Int)
               ·rw [if_pos c14] at H
                have c14b0:decide (x4_1 < (l0.length:Int))=true:=decide_eq_true c14
                clear c14
                by_cases c15:(rd l0 x6_2) < (rd l0 x4_1)
                ·rw [if_pos c15] at H
                 have c15b0:decide ((rd l0 x6_2) < (rd l0 x4_1))=true:=decide_eq_true c15
                 clear c15
                 have H':=Aside0.mk H
                 clear H
                 have p111:0≤(x6_2:Int):=of_decide_eq_true (by first | (with_reducible assumption) | assumption)
                 have q111:x6_2 < (l0.length:Int):=of_decide_eq_true (by first | (with_reducible assumption) | assumption)
                 obtain ⟨ad111,e111,hx111_0⟩:=Kd.at_int HR0.out x6_2 p111 q111
                 obtain rfl:ad110=ad111:=(by injection e111)
                 replace hx111_0:=(HB.out.cell (World.block_lt_of_cell? w _ hx111_0)).trans hx111_0
                 replace p111:=eq_true p111
                 replace q111:=eq_true q111
                 have p112:0≤(x6_2:Int):=of_decide_eq_true (by first | (with_reducible assumption) | assumption)
                 have q112:x6_2 < (l0.length:Int):=of_decide_eq_true (by first | (with_reducible assumption) | assumption)
                 obtain ⟨ad112,e112,hx112_0⟩:=Kd.at_int HR0.out x6_2 p112 q112
                 obtain rfl:ad110=ad112:=(by injection e112)
                 replace hx112_0:=(HB.out.cell (World.block_lt_of_cell? w _ hx112_0)).trans hx112_0
                 replace p112:=eq_true p112
                 replace q112:=eq_true q112
                 have p113:0≤(x4_1:Int):=of_decide_eq_true (by first | (with_reducible assumption) | assumption)
                 have q113:x4_1 < (l0.length:Int):=of_decide_eq_true (by first | (with_reducible assumption) | assumption)
                 obtain ⟨ad113,e113,hx113_0⟩:=Kd.at_int HR0.out x4_1 p113 q113
                 obtain rfl:ad110=ad113:=(by injection e113)
                 replace hx113_0:=(HB.out.cell (World.block_lt_of_cell? w _ hx113_0)).trans hx113_0
                 replace p113:=eq_true p113
                 replace q113:=eq_true q113
                 go_wp2
                 repeat (go_quiet (fail);try go_wp2)
                 go_meet
                 case rel=>exact ⟨_,(true),(by first | rfl | (simp;done) | (simp [*];done)),H',⟨by have:=HK1.out;have:=HK2.out;first | omega | exact Nat.le_refl _⟩,⟨by (with_reducible repeat (first | apply Kd.R_alloc | apply Kd.R_drewN | apply Kd.R_drew));exact HO_3.out⟩,⟨by repeat (first | (with_reducible first | exact HB.out | apply below_alloc | apply pw_below_drewN | apply below_drew1) | exact HB.out)⟩⟩
                ·rw [if_neg c15] at H
                 have c15b0:decide ((rd l0 x6_2) < (rd l0 x4_1))=false:=decide_eq_false c15
                 clear c15
                 by_cases c16:(rd l0 x6_2)=(rd l0 x4_1)
                 ·rw [if_pos c16] at H
                  have c16b0:((rd l0 x6_2) == (rd l0 x4_1))=true:=beq_iff_eq.mpr c16
                  have c16b1:((rd l0 x6_2) != (rd l0 x4_1))=false:=bne_eq_false_iff_eq.mpr c16
                  clear c16
                  have H':=Aside0.mk H
                  clear H
                  have p111:0≤(x6_2:Int):=of_decide_eq_true (by first | (with_reducible assumption) | assumption)
                  have q111:x6_2 < (l0.length:Int):=of_decide_eq_true (by first | (with_reducible assumption) | assumption)
                  obtain ⟨ad111,e111,hx111_0⟩:=Kd.at_int HR0.out x6_2 p111 q111
                  obtain rfl:ad110=ad111:=(by injection e111)
                  replace hx111_0:=(HB.out.cell (World.block_lt_of_cell? w _ hx111_0)).trans hx111_0
                  replace p111:=eq_true p111
                  replace q111:=eq_true q111
                  have p112:0≤(x6_2:Int):=of_decide_eq_true (by first | (with_reducible assumption) | assumption)
                  have q112:x6_2 < (l0.length:Int):=of_decide_eq_true (by first | (with_reducible assumption) | assumption)
                  obtain ⟨ad112,e112,hx112_0⟩:=Kd.at_int HR0.out x6_2 p112 q112
                  obtain rfl:ad110=ad112:=(by injection e112)
                  replace hx112_0:=(HB.out.cell (World.block_lt_of_cell? w _ hx112_0)).trans hx112_0
                  replace p112:=eq_true p112
                  replace q112:=eq_true q112
                  have p113:0≤(x4_1:Int):=of_decide_eq_true (by first | (with_reducible assumption) | assumption)
                  have q113:x4_1 < (l0.length:Int):=of_decide_eq_true (by first | (with_reducible assumption) | assumption)
                  obtain ⟨ad113,e113,hx113_0⟩:=Kd.at_int HR0.out x4_1 p113 q113
                  obtain rfl:ad110=ad113:=(by injection e113)
                  replace hx113_0:=(HB.out.cell (World.block_lt_of_cell? w _ hx113_0)).trans hx113_0
                  replace p113:=eq_true p113
                  replace q113:=eq_true q113
                  have p114:0≤(x6_2:Int):=of_decide_eq_true (by first | (with_reducible assumption) | assumption)
                  have q114:x6_2 < (l0.length:Int):=of_decide_eq_true (by first | (with_reducible assumption) | assumption)
                  obtain ⟨ad114,e114,hx114_0⟩:=Kd.at_int HR0.out x6_2 p114 q114
                  obtain rfl:ad110=ad114:=(by injection e114)
                  replace hx114_0:=(HB.out.cell (World.block_lt_of_cell? w _ hx114_0)).trans hx114_0
                  replace p114:=eq_true p114
                  replace q114:=eq_true q114
                  have p115:0≤(x4_1:Int):=of_decide_eq_true (by first | (with_reducible assumption) | assumption)
                  have q115:x4_1 < (l0.length:Int):=of_decide_eq_true (by first | (with_reducible assumption) | assumption)
                  obtain ⟨ad115,e115,hx115_0⟩:=Kd.at_int HR0.out x4_1 p115 q115
                  obtain rfl:ad110=ad115:=(by injection e115)
                  replace hx115_0:=(HB.out.cell (World.block_lt_of_cell? w _ hx115_0)).trans hx115_0
                  replace p115:=eq_true p115
                  replace q115:=eq_true q115
                  go_wp2
                  repeat (go_quiet (fail);try go_wp2)
                  go_meet
                  case rel=>exact ⟨_,(decide (x6_2 < x4_1)),(by first | rfl | (simp;done) | (simp [*];done)),H',⟨by have:=HK1.out;have:=HK2.out;first | omega | exact Nat.le_refl _⟩,⟨by (with_reducible repeat (first | apply Kd.R_alloc | apply Kd.R_drewN | apply Kd.R_drew));exact HO_3.out⟩,⟨by repeat (first | (with_reducible first | exact HB.out | apply below_alloc | apply pw_below_drewN | apply below_drew1) | exact HB.out)⟩⟩
                 ·rw [if_neg c16] at H
                  have c16b0:((rd l0 x6_2) == (rd l0 x4_1))=false:=beq_eq_false_iff_ne.mpr c16
                  have c16b1:((rd l0 x6_2) != (rd l0 x4_1))=true:=bne_iff_ne.mpr c16
                  have H':=Aside0.mk H
                  clear H
                  have p111:0≤(x6_2:Int):=of_decide_eq_true (by first | (with_reducible assumption) | assumption)
                  have q111:x6_2 < (l0.length:Int):=of_decide_eq_true (by first | (with_reducible assumption) | assumption)
                  obtain ⟨ad111,e111,hx111_0⟩:=Kd.at_int HR0.out x6_2 p111 q111
                  obtain rfl:ad110=ad111:=(by injection e111)
                  replace hx111_0:=(HB.out.cell (World.block_lt_of_cell? w _ hx111_0)).trans hx111_0
                  replace p111:=eq_true p111
                  replace q111:=eq_true q111
                  have p112:0≤(x6_2:Int):=of_decide_eq_true (by first | (with_reducible assumption) | assumption)
                  have q112:x6_2 < (l0.length:Int):=of_decide_eq_true (by first | (with_reducible assumption) | assumption)
                  obtain ⟨ad112,e112,hx112_0⟩:=Kd.at_int HR0.out x6_2 p112 q112
                  obtain rfl:ad110=ad112:=(by injection e112)
                  replace hx112_0:=(HB.out.cell (World.block_lt_of_cell? w _ hx112_0)).trans hx112_0
                  replace p112:=eq_true p112
                  replace q112:=eq_true q112
                  have p113:0≤(x4_1:Int):=of_decide_eq_true (by first | (with_reducible assumption) | assumption)
                  have q113:x4_1 < (l0.length:Int):=of_decide_eq_true (by first | (with_reducible assumption) | assumption)
                  obtain ⟨ad113,e113,hx113_0⟩:=Kd.at_int HR0.out x4_1 p113 q113
                  obtain rfl:ad110=ad113:=(by injection e113)
                  replace hx113_0:=(HB.out.cell (World.block_lt_of_cell? w _ hx113_0)).trans hx113_0
                  replace p113:=eq_true p113
                  replace q113:=eq_true q113
                  have p114:0≤(x6_2:Int):=of_decide_eq_true (by first | (with_reducible assumption) | assumption)
                  have q114:x6_2 < (l0.length:Int):=of_decide_eq_true (by first | (with_reducible assumption) | assumption)
                  obtain ⟨ad114,e114,hx114_0⟩:=Kd.at_int HR0.out x6_2 p114 q114
                  obtain rfl:ad110=ad114:=(by injection e114)
                  replace hx114_0:=(HB.out.cell (World.block_lt_of_cell? w _ hx114_0)).trans hx114_0
                  replace p114:=eq_true p114
                  replace q114:=eq_true q114
                  have p115:0≤(x4_1:Int):=of_decide_eq_true (by first | (with_reducible assumption) | assumption)
                  have q115:x4_1 < (l0.length:Int):=of_decide_eq_true (by first | (with_reducible assumption) | assumption)
                  obtain ⟨ad115,e115,hx115_0⟩:=Kd.at_int HR0.out x4_1 p115 q115
                  obtain rfl:ad110=ad115:=(by injection e115)
                  replace hx115_0:=(HB.out.cell (World.block_lt_of_cell? w _ hx115_0)).trans hx115_0
                  replace p115:=eq_true p115
                  replace q115:=eq_true q115
                  go_wp2
                  repeat (go_quiet (fail);try go_wp2)
                  go_meet
                  case rel=>exact ⟨_,(false),(by first | rfl | (simp;done) | (simp [*];done)),H',⟨by have:=HK1.out;have:=HK2.out;first | omega | exact Nat.le_refl _⟩,⟨by (with_reducible repeat (first | apply Kd.R_alloc | apply Kd.R_drewN | apply Kd.R_drew));exact HO_3.out⟩,⟨by repeat (first | (with_reducible first | exact HB.out | apply below_alloc | apply pw_below_drewN | apply below_drew1) | exact HB.out)⟩⟩
               ·rw [if_neg c14] at H
                exact absurd H (by simp)
              ·rw [if_neg c13] at H
               exact absurd H (by simp)
             ·rw [if_neg c12] at H
              have c12b0:decide (0 < (rd l0 x6_2))=false:=decide_eq_false c12
              clear c12
              have H':=Aside0.mk H
              clear H
              have p111:0≤(x6_2:Int):=of_decide_eq_true (by first | (with_reducible assumption) | assumption)
              have q111:x6_2 < (l0.length:Int):=of_decide_eq_true (by first | (with_reducible assumption) | assumption)
              obtain ⟨ad111,e111,hx111_0⟩:=Kd.at_int HR0.out x6_2 p111 q111
              obtain rfl:ad110=ad111:=(by injection e111)
              replace hx111_0:=(HB.out.cell (World.block_lt_of_cell? w _ hx111_0)).trans hx111_0
              replace p111:=eq_true p111
              replace q111:=eq_true q111
              go_wp2
              repeat (go_quiet (fail);try go_wp2)
              go_meet
              case rel=>exact ⟨_,(false),(by first | rfl | (simp;done) | (simp [*];done)),H',⟨by have:=HK1.out;have:=HK2.out;first | omega | exact Nat.le_refl _⟩,⟨by (with_reducible repeat (first | apply Kd.R_alloc | apply Kd.R_drewN | apply Kd.R_drew));exact HO_3.out⟩,⟨by repeat (first | (with_reducible first | exact HB.out | apply below_alloc | apply pw_below_drewN | apply below_drew1) | exact HB.out)⟩⟩
            ·rw [if_neg c11] at H
             exact absurd H (by simp)
           case rest =>
            clear HC10
            clear c9b0
            obtain ⟨kq,x61_9,rfl,HA,HJ9,HO_3,HB⟩:=hcut
            cases kq with
            |zero=>exact absurd HA.out (by simp [celluloidref04_Codes.j2])
            |succ kj9 =>
             have H:=HA.out
             clear HA
             simp only [celluloidref04_Codes.j2] at H
             by_cases c17:x61_9=true
             ·subst c17
              have H1:(celluloidref04_Codes.l2 kj9 l0 x3_1 x4_1 x5_2 x6_2 32768 0)=some r:=by rw [if_pos rfl] at H;exact H
              clear H
              have H:=H1
              clear H1
              have H':=Aside0.mk H
              clear H
              go_wp2
              repeat (go_quiet (fail);try go_wp2)
              go_loopg [7,8] kj9 (fun kq v7 v8 w'=>∃ (x7_4:Int) (x8_4:Int),v7=.int .i64 x7_4∧v8=.int .i64 x8_4∧Aside0 (celluloidref04_Codes.l2 kq l0 x3_1 x4_1 x5_2 x6_2 x7_4 x8_4=some r)∧Aside0 (kq≤kj9)∧Aside0 (Kd.R (Kd.int .i64) 3 w' w.heap.size (fun _=>True) v108 x3_1)∧Aside0 (Below w.heap.size w w'))
              case atStart=>exact ⟨(32768),(0),(by first | rfl | (simp;done) | (simp [*];done)),(by first | rfl | (simp;done) | (simp [*];done)),H',⟨Nat.le_refl _⟩,⟨by (with_reducible repeat (first | apply Kd.R_alloc | apply Kd.R_drewN | apply Kd.R_drew));exact HO_3.out⟩,⟨by repeat (first | (with_reducible first | exact HB.out | apply below_alloc | apply pw_below_drewN | apply below_drew1) | exact HB.out)⟩⟩
              case round =>
               clear H'
               obtain ⟨x7_4,x8_4,rfl,rfl,HA,HK4,HO_3,HB⟩:=hrel
               cases gk with
               |zero=>exact absurd HA.out (by simp [celluloidref04_Codes.l2])
               |succ k4 =>
                have H:=HA.out
                clear HA
                simp only [celluloidref04_Codes.l2] at H
                by_cases c18:0≤x6_2
                ·rw [if_pos c18] at H
                 have c18b0:decide (0≤x6_2)=true:=decide_eq_true c18
                 clear c18
                 by_cases c19:x6_2 < (l0.length:Int)
                 ·rw [if_pos c19] at H
                  have c19b0:decide (x6_2 < (l0.length:Int))=true:=decide_eq_true c19
                  clear c19
                  by_cases c20:x8_4 < (rd l0 x6_2)
                  ·rw [if_pos c20] at H
                   have c20b0:decide (x8_4 < (rd l0 x6_2))=true:=decide_eq_true c20
                   clear c20
                   have H':=Aside0.mk H
                   clear H
                   have p116:0≤(x6_2:Int):=of_decide_eq_true (by first | (with_reducible assumption) | assumption)
                   have q116:x6_2 < (l0.length:Int):=of_decide_eq_true (by first | (with_reducible assumption) | assumption)
                   obtain ⟨ad116,e116,hx116_0⟩:=Kd.at_int HR0.out x6_2 p116 q116
                   obtain rfl:ad110=ad116:=(by injection e116)
                   replace hx116_0:=(HB.out.cell (World.block_lt_of_cell? w _ hx116_0)).trans hx116_0
                   replace p116:=eq_true p116
                   replace q116:=eq_true q116
                   go_wp2
                   repeat (go_quiet (fail);try go_wp2)
                   go_roundg k4
                   case measure=>have:=HK1.out;have:=HK2.out;have:=HJ9.out;have:=HK4.out;omega
                   case rel=>exact ⟨(wrap64 (Int.tdiv x7_4 2)),(wrap64 (x8_4+1)),(by first | rfl | (simp;done) | (simp [*];done)),(by first | rfl | (simp;done) | (simp [*];done)),H',⟨by have:=HK1.out;have:=HK2.out;have:=HJ9.out;have:=HK4.out;omega⟩,⟨by (with_reducible repeat (first | apply Kd.R_alloc | apply Kd.R_drewN | apply Kd.R_drew));exact HO_3.out⟩,⟨by repeat (first | (with_reducible first | exact HB.out | apply below_alloc | apply pw_below_drewN | apply below_drew1) | exact HB.out)⟩⟩
                  ·rw [if_neg c20] at H
                   have c20b0:decide (x8_4 < (rd l0 x6_2))=false:=decide_eq_false c20
                   clear c20
                   have H':=Aside0.mk H
                   clear H
                   have p116:0≤(x6_2:Int):=of_decide_eq_true (by first | (with_reducible assumption) | assumption)
                   have q116:x6_2 < (l0.length:Int):=of_decide_eq_true (by first | (with_reducible assumption) | assumption)
                   obtain ⟨ad116,e116,hx116_0⟩:=Kd.at_int HR0.out x6_2 p116 q116
                   obtain rfl:ad110=ad116:=(by injection e116)
                   replace hx116_0:=(HB.out.cell (World.block_lt_of_cell? w _ hx116_0)).trans hx116_0
                   replace p116:=eq_true p116
                   replace q116:=eq_true q116
                   go_wp2
                   repeat (go_quiet (fail);try go_wp2)
                   go_roundg k4
                   case measure=>have:=HK1.out;have:=HK2.out;have:=HJ9.out;have:=HK4.out;omega
                   case rel=>exact ⟨(wrap64 (x5_2+x7_4)),(wrap64 (x6_2+1)),(by first | rfl | (simp;done) | (simp [*];done)),(by first | rfl | (simp;done) | (simp [*];done)),H',⟨by have:=HK1.out;have:=HK2.out;have:=HJ9.out;have:=HK4.out;omega⟩,⟨by (with_reducible repeat (first | apply Kd.R_alloc | apply Kd.R_drewN | apply Kd.R_drew));exact HO_3.out⟩,⟨by repeat (first | (with_reducible first | exact HB.out | apply below_alloc | apply pw_below_drewN | apply below_drew1) | exact HB.out)⟩⟩
                 ·rw [if_neg c19] at H
                  exact absurd H (by simp)
                ·rw [if_neg c18] at H
                 exact absurd H (by simp)
             ·replace c17:=Bool.eq_false_iff.mpr c17
              subst c17
              have H1:(celluloidref04_Codes.l1 kj9 l0 x3_1 x4_1 x5_2 (wrap64 (x6_2+1)))=some r:=by rw [if_neg (show ¬ (false=true) by decide)] at H;exact H
              clear H
              have H:=H1
              clear H1
              have H':=Aside0.mk H
              clear H
              go_wp2
              repeat (go_quiet (fail);try go_wp2)
              go_roundg kj9
              case measure=>have:=HK1.out;have:=HK2.out;have:=HJ9.out;omega
              case rel=>exact ⟨(x5_2),(wrap64 (x6_2+1)),(by first | rfl | (simp;done) | (simp [*];done)),(by first | rfl | (simp;done) | (simp [*];done)),H',⟨by have:=HK1.out;have:=HK2.out;have:=HJ9.out;omega⟩,⟨by (with_reducible repeat (first | apply Kd.R_alloc | apply Kd.R_drewN | apply Kd.R_drew));exact HO_3.out⟩,⟨by repeat (first | (with_reducible first | exact HB.out | apply below_alloc | apply pw_below_drewN | apply below_drew1) | exact HB.out)⟩⟩
          ·rw [if_neg c9] at H
           have c9b0:decide (x6_2 < (l0.length:Int))=false:=decide_eq_false c9
           clear c9
           by_cases c21:0≤x4_1
           ·rw [if_pos c21] at H
            have c21b0:decide (0≤x4_1)=true:=decide_eq_true c21
            clear c21
            by_cases c22:x4_1 < (l0.length:Int)
            ·rw [if_pos c22] at H
             have c22b0:decide (x4_1 < (l0.length:Int))=true:=decide_eq_true c22
             clear c22
             have H':=Aside0.mk H
             clear H
             have p117:0≤(x4_1:Int):=of_decide_eq_true (by first | (with_reducible assumption) | assumption)
             have q117:x4_1 < (l0.length:Int):=of_decide_eq_true (by first | (with_reducible assumption) | assumption)
             obtain ⟨ad117,e117,hx117_0⟩:=Kd.at_int HR0.out x4_1 p117 q117
             obtain rfl:ad110=ad117:=(by injection e117)
             replace hx117_0:=(HB.out.cell (World.block_lt_of_cell? w _ hx117_0)).trans hx117_0
             replace p117:=eq_true p117
             replace q117:=eq_true q117
             go_wp2
             repeat (go_quiet (fail);try go_wp2)
             go_loopg [5,9] k2 (fun kq v5 v9 w'=>∃ (x5_3:Int) (x9_3:Int),v5=.int .i64 x5_3∧v9=.int .i64 x9_3∧Aside0 (celluloidref04_Codes.l3 kq l0 x3_1 x4_1 x5_3 x9_3=some r)∧Aside0 (kq≤k2)∧Aside0 (Kd.R (Kd.int .i64) 3 w' w.heap.size (fun _=>True) v108 x3_1)∧Aside0 (Below w.heap.size w w'))
             case atStart=>exact ⟨(x5_2),(rd l0 x4_1),(by first | rfl | (simp;done) | (simp [*];done)),(by first | rfl | (simp;done) | (simp [*];done)),H',⟨Nat.le_refl _⟩,⟨by (with_reducible repeat (first | apply Kd.R_alloc | apply Kd.R_drewN | apply Kd.R_drew));exact HO_3.out⟩,⟨by repeat (first | (with_reducible first | exact HB.out | apply below_alloc | apply pw_below_drewN | apply below_drew1) | exact HB.out)⟩⟩
             case round =>
              clear H'
              clear c9b0 c21b0 c22b0 hx117_0 p117 q117
              obtain ⟨x5_3,x9_3,rfl,rfl,HA,HK3,HO_3,HB⟩:=hrel
              cases gk with
              |zero=>exact absurd HA.out (by simp [celluloidref04_Codes.l3])
              |succ k3 =>
               have H:=HA.out
               clear HA
               simp only [celluloidref04_Codes.l3] at H
               by_cases c23:x9_3 < 15
               ·rw [if_pos c23] at H
                have c23b0:decide (x9_3 < 15)=true:=decide_eq_true c23
                clear c23
                have H':=Aside0.mk H
                clear H
                go_wp2
                repeat (go_quiet (fail);try go_wp2)
                go_roundg k3
                case measure=>have:=HK1.out;have:=HK2.out;have:=HK3.out;omega
                case rel=>exact ⟨(wrap64 (Int.tdiv x5_3 2)),(wrap64 (x9_3+1)),(by first | rfl | (simp;done) | (simp [*];done)),(by first | rfl | (simp;done) | (simp [*];done)),H',⟨by have:=HK1.out;have:=HK2.out;have:=HK3.out;omega⟩,⟨by (with_reducible repeat (first | apply Kd.R_alloc | apply Kd.R_drewN | apply Kd.R_drew));exact HO_3.out⟩,⟨by repeat (first | (with_reducible first | exact HB.out | apply below_alloc | apply pw_below_drewN | apply below_drew1) | exact HB.out)⟩⟩
               ·rw [if_neg c23] at H
                have c23b0:decide (x9_3 < 15)=false:=decide_eq_false c23
                clear c23
                by_cases c24:0≤x4_1
                ·rw [if_pos c24] at H
                 have c24b0:decide (0≤x4_1)=true:=decide_eq_true c24
                 clear c24
                 by_cases c25:x4_1 < (x3_1.length:Int)
                 ·rw [if_pos c25] at H
                  have c25b0:decide (x4_1 < (x3_1.length:Int))=true:=decide_eq_true c25
                  clear c25
                  obtain ⟨y118,hy118⟩:∃ y_:List Int,y_=(x3_1.set (x4_1:Int).toNat x5_3):=⟨_,rfl⟩
                  replace H:(celluloidref04_Codes.l0 k3 l0 y118 (wrap64 (x4_1+1)))=some r:=by first | (rw [hy118];with_reducible exact H) | (have H2_:=(Option.bind_some _ _).symm.trans H;rw [hy118];with_reducible exact H2_) | (have H2_:=(Option.bind_some _ _).symm.trans H;with_reducible exact H2_) | with_reducible exact H | (rw [hy118];exact H) | exact H
                  have Ny118:=Aside0.mk hy118
                  clear hy118
                  have H':=Aside0.mk H
                  clear H
                  have p26:0≤(x4_1:Int):=of_decide_eq_true (by first | (with_reducible assumption) | assumption)
                  have q26:(x4_1:Int) < ((x3_1.length:Int):Int):=of_decide_eq_true (by first | (with_reducible assumption) | assumption)
                  obtain ⟨go26,co26,eo26,gb26,gl26,cl26,HG26⟩:=Kd.R_form HO_3.out (by omega)
                  (first | cases eo26 | (injection eo26 with ea_ en_ ec_;(first | subst ea_ | (injection ea_ with ea_;subst ea_));subst ec_;clear en_))
                  have GB26:=Aside0.mk gb26
                  have GG26:=Aside0.mk HG26
                  clear gb26 gl26 HG26
                  obtain ⟨hx26_0,hf26_0⟩:=Kd.R_celln 0 HO_3.out (x4_1:Int) p26 q26
                  replace p26:=eq_true p26
                  replace q26:=eq_true q26
                  have HP27:=Kd.R_putg HO_3.out (x4_1:Int) x5_3
                  go_wp2_with (first | ((with_reducible refine gate_store (t:=3) (p:=88) rfl ?_);(try (rw [drewN_self wr];generalize hq_:World.drewN wr _=wr;have n0_:=Aside0.mk (Kd.R_at hq_ HO_3.out);have n1_:=Aside0.mk (below_at hq_ HB.out);clear hq_ HO_3 HB;have HO_3:=n0_;have HB:=n1_;clear n0_ n1_;(try (have HP27:=Kd.R_putg HO_3.out (x4_1:Int) x5_3))));refine store_event (t:=3) (p:=88) (v:=?vo_w28) (w1:=(wr.setCell ⟨go26,(x4_1:Int).toNat,none⟩ (.int .i64 x5_3))) ?hg ?ho ?hn ?hr ?_;(case ho=>rfl);(case hg=>rfl);(case hn=>rfl);(case hr=>first | (go_simp;done) | (go_simp;rfl));intro w28 hw;have hg:wr.grownBy w28 (some go26):=(by rw [hw];exact HP27.2);have hp_:Kd.R (Kd.int .i64) 3 w28 w.heap.size (fun _=>True) (.slice (some ⟨go26,0,none⟩) x3_1.length co26) y118:=(by rw [hw,Ny118.out];exact HP27.1);clear HP27;have n0_:=Aside0.mk (hp_);have n1_:=Aside0.mk ((by rw [hw];exact below_set (HB.out) GB26.out:Below w.heap.size w w28));clear HO_3;clear HB;have HO_3:=n0_;have HB:=n1_;clear n0_ n1_;clear hg hw hp_))
                  repeat (go_quiet (first | ((with_reducible refine gate_store (t:=3) (p:=88) rfl ?_);(try (rw [drewN_self wr];generalize hq_:World.drewN wr _=wr;have n0_:=Aside0.mk (Kd.R_at hq_ HO_3.out);have n1_:=Aside0.mk (below_at hq_ HB.out);clear hq_ HO_3 HB;have HO_3:=n0_;have HB:=n1_;clear n0_ n1_;(try (have HP27:=Kd.R_putg HO_3.out (x4_1:Int) x5_3))));refine store_event (t:=3) (p:=88) (v:=?vo_w28) (w1:=(wr.setCell ⟨go26,(x4_1:Int).toNat,none⟩ (.int .i64 x5_3))) ?hg ?ho ?hn ?hr ?_;(case ho=>rfl);(case hg=>rfl);(case hn=>rfl);(case hr=>first | (go_simp;done) | (go_simp;rfl));intro w28 hw;have hg:wr.grownBy w28 (some go26):=(by rw [hw];exact HP27.2);have hp_:Kd.R (Kd.int .i64) 3 w28 w.heap.size (fun _=>True) (.slice (some ⟨go26,0,none⟩) x3_1.length co26) y118:=(by rw [hw,Ny118.out];exact HP27.1);clear HP27;have n0_:=Aside0.mk (hp_);have n1_:=Aside0.mk ((by rw [hw];exact below_set (HB.out) GB26.out:Below w.heap.size w w28));clear HO_3;clear HB;have HO_3:=n0_;have HB:=n1_;clear n0_ n1_;clear hg hw hp_));try go_wp2_with (first | ((with_reducible refine gate_store (t:=3) (p:=88) rfl ?_);(try (rw [drewN_self wr];generalize hq_:World.drewN wr _=wr;have n0_:=Aside0.mk (Kd.R_at hq_ HO_3.out);have n1_:=Aside0.mk (below_at hq_ HB.out);clear hq_ HO_3 HB;have HO_3:=n0_;have HB:=n1_;clear n0_ n1_;(try (have HP27:=Kd.R_putg HO_3.out (x4_1:Int) x5_3))));refine store_event (t:=3) (p:=88) (v:=?vo_w28) (w1:=(wr.setCell ⟨go26,(x4_1:Int).toNat,none⟩ (.int .i64 x5_3))) ?hg ?ho ?hn ?hr ?_;(case ho=>rfl);(case hg=>rfl);(case hn=>rfl);(case hr=>first | (go_simp;done) | (go_simp;rfl));intro w28 hw;have hg:wr.grownBy w28 (some go26):=(by rw [hw];exact HP27.2);have hp_:Kd.R (Kd.int .i64) 3 w28 w.heap.size (fun _=>True) (.slice (some ⟨go26,0,none⟩) x3_1.length co26) y118:=(by rw [hw,Ny118.out];exact HP27.1);clear HP27;have n0_:=Aside0.mk (hp_);have n1_:=Aside0.mk ((by rw [hw];exact below_set (HB.out) GB26.out:Below w.heap.size w w28));clear HO_3;clear HB;have HO_3:=n0_;have HB:=n1_;clear n0_ n1_;clear hg hw hp_)))
                  go_roundg k3
                  case measure=>have:=HK1.out;have:=HK2.out;have:=HK3.out;omega
                  case rel=>exact ⟨(y118),(wrap64 (x4_1+1)),(by first | rfl | (simp;done) | (simp [*];done)),H',⟨by have:=HK1.out;have:=HK2.out;have:=HK3.out;omega⟩,⟨by (with_reducible repeat (first | apply Kd.R_alloc | apply Kd.R_drewN | apply Kd.R_drew));exact HO_3.out⟩,⟨by repeat (first | (with_reducible first | exact HB.out | apply below_alloc | apply pw_below_drewN | apply below_drew1) | exact HB.out)⟩⟩
                 ·rw [if_neg c25] at H
                  exact absurd H (by simp)
                ·rw [if_neg c24] at H
                 exact absurd H (by simp)
            ·rw [if_neg c22] at H
             exact absurd H (by simp)
           ·rw [if_neg c21] at H
            exact absurd H (by simp)
      ·rw [if_neg c7] at H
       exact absurd H (by simp)
     ·rw [if_neg c6] at H
      have c6b0:decide (x4_1 < (l0.length:Int))=false:=decide_eq_false c6
      clear c6
      obtain rfl:=Option.some.inj H
      go_wp2
      repeat (go_quiet (fail);try go_wp2)
      go_ret
      exact ⟨_,by first | rfl | (simp [errW_none,errW_some] <;> rfl) | (simp [*,errW_none,errW_some] <;> rfl),by (with_reducible repeat (first | apply Kd.R_alloc | apply Kd.R_drewN | apply Kd.R_drew));exact HO_3.out,by repeat (first | (with_reducible first | exact HB.out | apply below_alloc | apply pw_below_drewN | apply below_drew1) | exact HB.out)⟩
  ·rw [if_neg c3] at H
   exact absurd H (by simp)
 ·rw [if_neg c2] at H
  exact absurd H (by simp)
end Go.Proofs.Ytpbhkdamkbopkaa.GHuff
namespace Go.Proofs.Ytpbhkdamkbopkaa.GHuff
open Go.RowKit Go.Proofs.YtpbhkdamkbopkaaW.PrintWords Go.Proofs.YtpbhkdamkbopkaaW.PrintLast Go.Proofs.YtpbhkdamkbopkaaW.PrintMore Go.Proofs.Ytpbhkdamkbopkaa.Ext
attribute [local go_sem] max2_int min2_int max_two min_two max_three min_three max_four min_four
set_option linter.unusedVariables false
set_option linter.unusedSimpArgs false
mutual
def celluloidref04_Bit.j0:Nat → ByteArray → Int → Bool → Option (Int)
 |0,_,_,_=>none
 |k+1,x0,x1,x15=>if x15=true then (some (-1)) else (if 0≤(wrap64 (Int.tdiv x1 8)) then (if (wrap64 (Int.tdiv x1 8)) < (x0.size:Int) then (celluloidref04_Bit.l0 k x1 (wrap64 (bt x0 (wrap64 (Int.tdiv x1 8)))) 0) else (none)) else (none))
def celluloidref04_Bit.l0:Nat → Int → Int → Int → Option (Int)
 |0,_,_,_=>none
 |k+1,x1,x5,x6=>if x6 < (Int.tmod x1 8) then (celluloidref04_Bit.l0 k x1 (wrap64 (Int.tdiv x5 2)) (wrap64 (x6+1))) else (some (Int.tmod x5 2))
end
def celluloidref04_Bit.f (k:Nat) (a0:ByteArray) (a1:Int):Option (Int):=if a1 < 0 then (celluloidref04_Bit.j0 k a0 a1 true) else (celluloidref04_Bit.j0 k a0 a1 (decide ((wrap64 (Int.tdiv a1 8)) ≥ (a0.size:Int))))
set_option maxHeartbeats 8000000 in
set_option maxRecDepth 100000 in
theorem celluloidref04_Bit.calls (k : Nat) (a0 : ByteArray) (a1 : Int) (r : Int) (w : World) (h : celluloidref04_Bit.f k a0 a1 = some r) :
  Calls Try.prog 35 #[.string a0,.int .i64 a1] w fun e w'=>e=.returned (.int .i64 r)∧Drawn0 w w':=by
 have H:(if a1 < 0 then (celluloidref04_Bit.j0 k a0 a1 true) else (celluloidref04_Bit.j0 k a0 a1 (decide ((wrap64 (Int.tdiv a1 8)) ≥ (a0.size:Int)))))=some r:=h
 clear h
 have HC3:=Aside0.mk H
 clear H
 go_enter Try.func35,Try.ntmps35
 go_upto_region 1 with (fail)
 go_cut [15] (fun v15 wc=>∃ (kq:Nat) (x15_2:Bool),v15=.bool x15_2∧Aside0 (celluloidref04_Bit.j0 kq a0 a1 x15_2=some r)∧Aside0 (kq≤k)∧Drawn0 w wc)
 case first =>
  have H:=HC3.out
  clear HC3
  by_cases c4:a1 < 0
  ·rw [if_pos c4] at H
   have c4b0:decide (a1 < 0)=true:=decide_eq_true c4
   clear c4
   (first | rw [c4b0] | (simp only [i64_w,i32_w];rw [c4b0]) | skip)
   have H':=Aside0.mk H
   clear H
   go_wp2
   go_meet
   case rel=>exact ⟨_,(true),(by first | rfl | (simp;done) | (simp [*];done)),H',⟨by first | omega | exact Nat.le_refl _⟩,by repeat (first | exact Drawn0.refl _ | apply Drawn0.step)⟩
  ·rw [if_neg c4] at H
   have c4b0:decide (a1 < 0)=false:=decide_eq_false c4
   clear c4
   (first | rw [c4b0] | (simp only [i64_w,i32_w];rw [c4b0]) | skip)
   have H':=Aside0.mk H
   clear H
   go_wp2
   go_meet
   case rel=>exact ⟨_,(decide ((wrap64 (Int.tdiv a1 8)) ≥ (a0.size:Int))),(by first | rfl | (simp;done) | (simp [*];done)),H',⟨by first | omega | exact Nat.le_refl _⟩,by repeat (first | exact Drawn0.refl _ | apply Drawn0.step)⟩
 case rest =>
  clear HC3
  try clear p2
  try clear c3
  try clear c4
  try clear c4b0
  obtain ⟨kq,x15_2,rfl,HA,HJ2,⟨mc2,rfl⟩⟩:=hcut
  cases kq with
  |zero=>exact absurd HA.out (by simp [celluloidref04_Bit.j0])
  |succ kj2 =>
   have H:=HA.out
   clear HA
   simp only [celluloidref04_Bit.j0] at H
   by_cases c5:x15_2=true
   ·subst c5
    have H1:(some (-1))=some r:=by rw [if_pos rfl] at H;exact H
    clear H
    have H:=H1
    clear H1
    obtain rfl:=Option.some.inj H
    go_wp2
    go_ret
    exact ⟨by first | rfl | (simp;done) | (simp [*];done),by repeat (first | exact Drawn0.refl _ | apply Drawn0.step)⟩
   ·replace c5:=Bool.eq_false_iff.mpr c5
    subst c5
    have H1:(if 0≤(wrap64 (Int.tdiv a1 8)) then (if (wrap64 (Int.tdiv a1 8)) < (a0.size:Int) then (celluloidref04_Bit.l0 kj2 a1 (wrap64 (bt a0 (wrap64 (Int.tdiv a1 8)))) 0) else (none)) else (none))=some r:=by rw [if_neg (show ¬ (false=true) by decide)] at H;exact H
    clear H
    have H:=H1
    clear H1
    obtain ⟨ji6,hji6⟩:∃ j_:Int,(wrap64 (Int.tdiv a1 8))=j_:=⟨_,rfl⟩
    replace H:(if 0≤(ji6) then (if (ji6) < (a0.size:Int) then (celluloidref04_Bit.l0 kj2 a1 (wrap64 (bt a0 (ji6))) 0) else (none)) else (none))=some r:=by first | (rw [hji6] at H;exact H) | (simp only [hji6] at H ⊢;exact H)
    have hji6w:(IntKind.i64.wrap (Int.tdiv a1 8))=ji6:=(i64_w _).trans hji6
    by_cases c7:0≤(ji6)
    ·rw [if_pos c7] at H
     have c7b0:decide (0≤(ji6))=true:=decide_eq_true c7
     clear c7
     by_cases c8:(ji6) < (a0.size:Int)
     ·rw [if_pos c8] at H
      have c8b0:decide ((ji6) < (a0.size:Int))=true:=decide_eq_true c8
      clear c8
      have H':=Aside0.mk H
      clear H
      have p9:0≤((ji6):Int):=of_decide_eq_true (by first | (with_reducible assumption) | assumption)
      have q9:(ji6) < (a0.size:Int):=of_decide_eq_true (by first | (with_reducible assumption) | assumption)
      have hx9:=bt_at a0 (ji6)
      replace p9:=eq_true p9
      replace q9:=eq_true q9
      go_wp2
      go_loopg [5,6] kj2 (fun kq v5 v6 w'=>∃ (x5_2:Int) (x6_2:Int),v5=.int .i64 x5_2∧v6=.int .i64 x6_2∧Aside0 (celluloidref04_Bit.l0 kq a1 x5_2 x6_2=some r)∧Aside0 (kq≤kj2)∧Drawn0 w w')
      case atStart=>exact ⟨(wrap64 (bt a0 (ji6))),(0),(by first | rfl | (simp;done) | (simp only [← hji6] <;> (first | rfl | simp)) | (simp [*];done)),(by first | rfl | (simp;done) | (simp [*];done)),H',⟨Nat.le_refl _⟩,by repeat (first | exact Drawn0.refl _ | apply Drawn0.step)⟩
      case round =>
       clear H'
       try clear c2
       try clear p2
       try clear c3
       try clear c4
       try clear c4b0
       try clear c5
       try clear p6
       try clear c7
       try clear c7b0
       try clear c8
       try clear c8b0
       try clear p9
       try clear q9
       try clear hx9
       try clear p2
       try clear p9
       try clear q9
       obtain ⟨x5_2,x6_2,rfl,rfl,HA,HK2,⟨m2,rfl⟩⟩:=hrel
       cases gk with
       |zero=>exact absurd HA.out (by simp [celluloidref04_Bit.l0])
       |succ k2 =>
        have H:=HA.out
        clear HA
        simp only [celluloidref04_Bit.l0] at H
        by_cases c10:x6_2 < (Int.tmod a1 8)
        ·rw [if_pos c10] at H
         have c10b0:decide (x6_2 < (Int.tmod a1 8))=true:=decide_eq_true c10
         clear c10
         have H':=Aside0.mk H
         clear H
         go_wp2
         go_roundg k2
         case measure=>have:=HJ2.out;have:=HK2.out;omega
         case rel=>exact ⟨(wrap64 (Int.tdiv x5_2 2)),(wrap64 (x6_2+1)),(by first | rfl | (simp;done) | (simp [*];done)),(by first | rfl | (simp;done) | (simp [*];done)),H',⟨by have:=HJ2.out;have:=HK2.out;omega⟩,by repeat (first | exact Drawn0.refl _ | apply Drawn0.step)⟩
        ·rw [if_neg c10] at H
         have c10b0:decide (x6_2 < (Int.tmod a1 8))=false:=decide_eq_false c10
         clear c10
         obtain rfl:=Option.some.inj H
         go_wp2
         go_ret
         exact ⟨by first | rfl | (simp;done) | (simp only [← hji6] <;> (first | rfl | simp)) | (simp [*];done),by repeat (first | exact Drawn0.refl _ | apply Drawn0.step)⟩
     ·rw [if_neg c8] at H
      exact absurd H (by simp)
    ·rw [if_neg c7] at H
     exact absurd H (by simp)
end Go.Proofs.Ytpbhkdamkbopkaa.GHuff
