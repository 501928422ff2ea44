/- Parts of the proof, glued by a program of this session (wip/tools/claimfit.py). -/
import Derived.Test.YtpbhkdamkbopkaaMPTF
set_option linter.unusedVariables false
set_option linter.unusedSimpArgs false
set_option linter.unusedSectionVars false
namespace Go.Proofs.Ytpbhkdamkbopkaa.Inf
open Go.RowKit Ext RefP GInfl GHuff YtpbhkdamkbopkaaW.PrintWords YtpbhkdamkbopkaaW.PrintLast YtpbhkdamkbopkaaW.PrintMore
def lx (M F:Int) (l:List Int) (p e:Int):Option (List Int × Int × Int × Int):=if e=0 then (if (l.length:Int) > (wrap64 (M+F)) then ((infl_fail.f e 3).bind fun t97=>some ([],0,p,t97)) else (if 256 < (l.length:Int) then (if (rd l 256)=0 then ((infl_fail.f e 3).bind fun t97=>some ([],0,p,t97)) else (if 0≤M then (if M≤(l.length:Int) then some (l,M,p,e) else none) else none)) else none)) else some ([],0,p,e)
def lL1 (s:ByteArray) (M F:Int) (C SS l:List Int) (p e:Int) (k:Nat):=infl_lengths.l1 k M F (rd C 0) (rd C 1) (rd C 2) (rd C 3) (rd C 4) (rd C 5) (rd C 6) (rd C 7) (rd C 8) (rd C 9) (rd C 10) (rd C 11) (rd C 12) (rd C 13) (rd C 14) (rd C 15) SS l s p e
theorem lL1_step (s:ByteArray) (M F:Int) (C SS l:List Int) (p e:Int) (k:Nat):lL1 s M F C SS l p e (k+1)=if (l.length:Int) < wrap64 (M+F) then (if e=0 then ((infl_next.f k (rd C 0) (rd C 1) (rd C 2) (rd C 3) (rd C 4) (rd C 5) (rd C 6) (rd C 7) (rd C 8) (rd C 9) (rd C 10) (rd C 11) (rd C 12) (rd C 13) (rd C 14) (rd C 15) SS s p e).bind fun t75=>(infl_lengthen.f k s t75.2.1 t75.2.2 l t75.1).bind fun t76=>lL1 s M F C SS t76.1 t76.2.1 t76.2.2 k) else lx M F l p e) else lx M F l p e:=by
 unfold lL1 lx;simp only [infl_lengths.l1]
theorem many_ev {s : ByteArray} {own : List Int} {M F : Int} {R : List Int × Int × Int × Int} (hs : s.size ≤ 17592186044416) (hM : 257 ≤ M) (hM2 : M ≤ 300) (hF : 0 ≤ F) (hF2 : F ≤ 100) : ∀ (K : Nat) (l : List Int) (x : St) (C SS : List Int), Ok s x → (x.e = 0 → errOf own = 0 ∧ C = newCs own ∧ SS = newSs own) → (x.e = 0 → left s x ≤ K) → l.length ≤ 2000 →
  lx M F (many s own (M+F) K l x).1 (many s own (M+F) K l x).2.p (many s own (M+F) K l x).2.e=some R → Ev (lL1 s M F C SS l x.p x.e) R:=by
 intro K
 induction K with
 |zero =>
  intro l x C SS hx hc hk hl h;refine Ev.step (f:=fun _=>some R) (fun k=>?_) (Ev.now _);have he:x.e ≠ 0:=fun h0=>by have:=hk h0;have:=left_pos s x;omega
  rw [lL1_step,if_neg he];have h:lx M F l x.p x.e=some R:=h
  split <;> exact h
 |succ K ih =>
  intro l x C SS hx hc hk hl h;have hw:wrap64 (M+F)=M+F:=wrap_in (by omega) (by omega);unfold many at h;by_cases h1:(l.length:Int) < M+F;rotate_left
  ·rw [if_neg h1] at h;exact Ev.step (f:=fun _=>some R) (fun k=>by rw [lL1_step,hw,if_neg h1];exact h) (Ev.now _)
  rw [if_pos h1] at h;by_cases he:x.e=0;rotate_left
  ·rw [if_neg he] at h;exact Ev.step (f:=fun _=>some R) (fun k=>by rw [lL1_step,hw,if_pos h1,if_neg he];exact h) (Ev.now _)
  rw [if_pos he] at h;obtain ⟨c1,rfl,rfl⟩:=hc he;have E1:=rnext_ev own hs hx (fun _=>c1);have g1:=next_get (m:=(next own s x).1) (y:=(next own s x).2) (by omega) hx (fun _=>c1) rfl;generalize next own s x=n at E1 g1 h;have E2:=lengthen_ev (l:=l) (y:=n.1) hs g1.1 (by omega);have sp:=lengthen_spec (l:=l) (y:=n.1) g1.1;have he2:(lengthen s l n.1 n.2).2.e=0 → n.2.e=0:=lengthen_e;generalize lengthen s l n.1 n.2=q at E2 sp he2 h;refine Ev.step (fun k=>by rw [lL1_step,hw,if_pos h1,if_pos he]) (Ev.bind E1 (Ev.bind E2 (ih q.1 q.2 _ _ sp.1 (fun _=>⟨c1,rfl,rfl⟩) (fun h0=>?_) (by omega) h)));exact left_less (hk he) rfl (Int.le_trans (g1.2.2.2.2.1 (he2 h0)).2.1 sp.2.1) hx.p1
def ORD:List Int:=[16,17,18,0,8,7,9,6,10,5,11,4,12,3,13,2,14,1,15]
theorem ord_at {m i:Nat} (hi:i < m) (hm:m≤19):rd (ORD.take m) (i:Int)=((order.getD i 0:Nat):Int)∧order.getD i 0 < 19:=by
 have:=order_at i (by omega);rw [rd_get,List.getD_eq_getElem?_getD,List.getElem?_take,if_pos hi,← List.getD_eq_getElem?_getD];exact this
theorem own_ev {s : ByteArray} {M F : Int} {m : Nat} {x : St} {own : List Int} {R : List Int × Int × Int × Int} (hs : s.size ≤ 17592186044416) (hm : m ≤ 19) (hx : Ok s x) (ho : own.length = 19)
  (hR:Ev (fun k=>(infl_table.f k (owns s (order.take m) own x).2.e (owns s (order.take m) own x).1).bind fun t57=>lL1 s M F t57.1 t57.2.1 [] (owns s (order.take m) own x).2.p t57.2.2 k) R):∀ (d i:Nat),i+d=m →
  Ev (fun k=>infl_lengths.l0 k M F (owns s (order.take i) own x).1 (ORD.take m) ((ORD.take m).length:Int) (i:Int) s (owns s (order.take i) own x).2.p (owns s (order.take i) own x).2.e) R
 |0,i,h=>by
  obtain rfl:i=m:=by omega
  have hl:(ORD.take i).length=i:=by rw [List.length_take];show min i 19=i;omega
  refine Ev.step (fun k=>?_) hR;simp only [infl_lengths.l0];rw [hl,if_neg (by omega)];rfl
 |d+1,i,h=>by
  have hl:(ORD.take m).length=m:=by rw [List.length_take];show min m 19=m;omega
  obtain ⟨o1,o2⟩:=ord_at (m:=m) (i:=i) (by omega) hm;have hok:=(owns_ok s (order.take i) own x hx).1;have hol:=owns_len s (order.take i) own x;have ih:=own_ev hs hm hx ho hR d (i+1) (by omega);rw [order_take i (by omega),owns_next] at ih;have E:=bits_ev hs hok 3;generalize owns s (order.take i) own x=w at hok hol ih E ⊢;refine Ev.step (fun k=>?_) (Ev.bind (f:=fun k t=>infl_lengths.l0 k M F (w.1.set (order.getD i 0) t.1) (ORD.take m) ((ORD.take m).length:Int) ((i+1:Nat):Int) s t.2.1 t.2.2) E ih);simp only [infl_lengths.l0];rw [hl,if_pos (by omega),if_pos (by omega),if_pos (by omega)]
  congr 1
  funext t
  rw [o1,if_pos (by omega),if_pos (by rw [hol,ho];omega),Int.toNat_natCast,wrap_in (by omega) (by omega)];rfl
theorem lengths_ev {s:ByteArray} {x:St} (hs:s.size≤17592186044416) (hx:Ok s x):∃ row mny,Ev (fun k=>infl_lengths.f k s x.p x.e) (row,mny,(lengths s x).2.2.p,(lengths s x).2.2.e)∧row.take mny.toNat=(lengths s x).1∧row.drop mny.toNat=(lengths s x).2.1:=by
 have g1:=bits_get (n:=5) (k:=5) (m:=(bits s 5 x).1) (y:=(bits s 5 x).2) rfl hx (by decide) rfl;have E1:=bits_ev hs hx 5;unfold lengths;generalize bits s 5 x=a at g1 E1 ⊢;have g2:=bits_get (n:=5) (k:=5) (m:=(bits s 5 a.2).1) (y:=(bits s 5 a.2).2) rfl g1.1 (by decide) rfl;have E2:=bits_ev hs g1.1 5
 dsimp only
 generalize bits s 5 a.2=b at g2 E2 ⊢;have g3:=bits_get (n:=4) (k:=4) (m:=(bits s 4 b.2).1) (y:=(bits s 4 b.2).2) rfl g2.1 (by decide) rfl;have E3:=bits_ev hs g2.1 4;generalize bits s 4 b.2=c at g3 E3 ⊢;have l1:a.1 < 32:=g1.2.2.1;have l2:b.1 < 32:=g2.2.2.1;have l3:c.1 < 16:=g3.2.2.1;have a0:=g1.2.1;have b0:=g2.2.1;have c0:=g3.2.1
 obtain ⟨x1,hx1,ok1,E4⟩:∃ x1:St,(if c.2.e=0∧(a.1+257 > 286 ∨ b.1+1 > 30) then fail c.2 3 else c.2)=x1∧Ok s x1∧∀ R,Ev (fun k=>infl_lengths.j1 k (a.1+257) (b.1+1) (c.1+4) s x1.p x1.e) R → Ev (fun k=>infl_lengths.f k s x.p x.e) R:=by
  have front : ∀ (R : List Int × Int × Int × Int) (t : Bool), (∀ k, (if c.2.e = 0 then (if a.1 + 257 > 286 then infl_lengths.j0 k (a.1 + 257) (b.1 + 1) (c.1 + 4) true s c.2.p c.2.e else infl_lengths.j0 k (a.1 + 257) (b.1 + 1) (c.1 + 4) (decide (b.1 + 1 > 30)) s c.2.p c.2.e) else infl_lengths.j0 k (a.1 + 257) (b.1 + 1) (c.1 + 4) false s c.2.p c.2.e) = infl_lengths.j0 k (a.1 + 257) (b.1 + 1) (c.1 + 4) t s c.2.p c.2.e) →
    Ev (fun k=>infl_lengths.j0 k (a.1+257) (b.1+1) (c.1+4) t s c.2.p c.2.e) R → Ev (fun k=>infl_lengths.f k s x.p x.e) R:=fun R t ht h=>by
   unfold infl_lengths.f;refine Ev.bind E1 (Ev.bind E2 (Ev.bind E3 ?_));refine Ev.congr (fun k=>?_) h
   dsimp only
   rw [wrap_in (n:=a.1+257) (by omega) (by omega),wrap_in (n:=b.1+1) (by omega) (by omega),wrap_in (n:=c.1+4) (by omega) (by omega)];exact ht k
  by_cases q:c.2.e=0∧(a.1+257 > 286 ∨ b.1+1 > 30);rotate_left
  ·refine ⟨c.2,if_neg q,g3.1,fun R h=>front R false (fun k=>?_) ?_⟩
   ·by_cases he:c.2.e=0
    ·rw [if_pos he,if_neg (by omega),decide_eq_false (by omega)]
    ·rw [if_neg he]
   ·exact Ev.step (fun k=>by simp only [infl_lengths.j0];rw [if_neg (by decide)]) h
  refine ⟨fail c.2 3,if_pos q,fail_ok g3.1 (by decide),fun R h=>front R true (fun k=>?_) ?_⟩
  ·rw [if_pos q.1];by_cases q1:a.1+257 > 286
   ·rw [if_pos q1]
   ·rw [if_neg q1,decide_eq_true (by omega)]
  ·rw [fail_p,fail_e_is,if_pos q.1] at h;exact Ev.step (fun k=>by simp only [infl_lengths.j0];rw [if_pos trivial,fail_ev' q.1];rfl) h
 rw [hx1];obtain ⟨m,hm⟩:∃ m:Nat,(c.1+4).toNat=m:=⟨_,rfl⟩;rw [hm]
 have key:∀ R,Ev (fun k=>(infl_table.f k (owns s (order.take m) (List.replicate 19 0) x1).2.e (owns s (order.take m) (List.replicate 19 0) x1).1).bind fun t57=>lL1 s (a.1+257) (b.1+1) t57.1 t57.2.1 [] (owns s (order.take m) (List.replicate 19 0) x1).2.p t57.2.2 k) R → Ev (fun k=>infl_lengths.f k s x.p x.e) R:=fun R h=>by
  refine E4 R (Ev.step (fun k=>?_) (own_ev hs (m:=m) (by omega) ok1 (by simp) h m 0 (by omega)));simp only [infl_lengths.j1];rw [if_pos (by omega),if_pos (by omega),hm];rfl
 have okw:=(owns_ok s (order.take m) (List.replicate 19 0) x1 ok1).1;generalize owns s (order.take m) (List.replicate 19 0) x1=w at key okw ⊢;have ok2:=table_ok okw w.1;have T:=table_ev (x:=w.2) w.1;have hp:(table w.1 w.2).p=w.2.p:=fail_p _ _;have te:(table w.1 w.2).e=0 → w.2.e=0∧errOf w.1=0:=table_e;generalize table w.1 w.2=x2 at ok2 T hp te ⊢
 have fin:∀ R,lx (a.1+257) (b.1+1) (many s w.1 (a.1+257+(b.1+1)) (left s x2) [] x2).1 (many s w.1 (a.1+257+(b.1+1)) (left s x2) [] x2).2.p (many s w.1 (a.1+257+(b.1+1)) (left s x2) [] x2).2.e=some R → Ev (fun k=>infl_lengths.f k s x.p x.e) R:=fun R h=>by
  refine key R (Ev.bind T ?_);rw [← hp];exact many_ev hs (by omega) (by omega) (by omega) (by omega) (left s x2) [] x2 _ _ ok2 (fun h0=>⟨(te h0).2,if_pos (te h0).1,if_pos (te h0).1⟩) (fun _=>Nat.le_refl _) (by simp) h
 have full:=many_full (s:=s) (by omega) w.1 (a.1+257+(b.1+1)) (left s x2) [] x2 ok2 (fun h0=>(te h0).2) (fun _=>Nat.le_refl _);generalize many s w.1 (a.1+257+(b.1+1)) (left s x2) [] x2=z at fin full ⊢;by_cases he:z.2.e=0;rotate_left
 ·rw [if_neg he];exact ⟨[],0,fin _ (by unfold lx;rw [if_neg he]),rfl,rfl⟩
 have fl:=full he;have h257:(257:Int)≤z.1.length:=by omega
 rw [if_pos he];by_cases q:(z.1.length:Int) > a.1+257+(b.1+1) ∨ z.1.getD 256 0=0;rotate_left
 ·rw [if_neg q];refine ⟨z.1,a.1+257,fin _ ?_,rfl,rfl⟩;unfold lx;rw [if_pos he,wrap_in (by omega) (by omega),if_neg (fun h=>q (.inl h)),if_pos (by omega),if_neg (by rw [show rd z.1 256=z.1.getD 256 0 from rd_get z.1 256];exact fun h=>q (.inr h)),if_pos (by omega),if_pos (by omega)]
 rw [if_pos q];refine ⟨[],0,fin _ ?_,rfl,rfl⟩;unfold lx;rw [if_pos he,wrap_in (by omega) (by omega),fail_p,fail_e_is,if_pos he,fail_ev' he];by_cases q1:(z.1.length:Int) > a.1+257+(b.1+1)
 ·rw [if_pos q1];rfl
 ·rw [if_neg q1,if_pos (by omega),if_pos (by rw [show rd z.1 256=z.1.getD 256 0 from rd_get z.1 256];exact q.resolve_left q1)];rfl
end Go.Proofs.Ytpbhkdamkbopkaa.Inf
namespace Go.Proofs.Ytpbhkdamkbopkaa.Wr2
open Go.RowKit Inf YtpbhkdamkbopkaaW.PrintWords
def inflate_Raw.f (a0:ByteArray) (a1:Int):Option (ByteArray × Int × Int):=if a0.size≤17592186044416 then some (raw a0 a1) else none
end Go.Proofs.Ytpbhkdamkbopkaa.Wr2
namespace Go.Proofs.Ytpbhkdamkbopkaa.Inf
open Go.RowKit Ext RefP GInfl GHuff YtpbhkdamkbopkaaW.PrintWords YtpbhkdamkbopkaaW.PrintLast YtpbhkdamkbopkaaW.PrintMore
structure Tb where
 c:List Int
 s:List Int
abbrev nx (k:Nat) (t:Tb) (s:ByteArray) (p e:Int):=infl_next.f k (rd t.c 0) (rd t.c 1) (rd t.c 2) (rd t.c 3) (rd t.c 4) (rd t.c 5) (rd t.c 6) (rd t.c 7) (rd t.c 8) (rd t.c 9) (rd t.c 10) (rd t.c 11) (rd t.c 12) (rd t.c 13) (rd t.c 14) (rd t.c 15) t.s s p e
def cL0 (s:ByteArray) (mx:Int) (A B:Tb) (p:Int) (o:List Int) (e:Int) (k:Nat):=infl_codes.l0 k lenB lenM disB disM (rd A.c 0) (rd A.c 1) (rd A.c 2) (rd A.c 3) (rd A.c 4) (rd A.c 5) (rd A.c 6) (rd A.c 7) (rd A.c 8) (rd A.c 9) (rd A.c 10) (rd A.c 11) (rd A.c 12) (rd A.c 13) (rd A.c 14) (rd A.c 15) A.s (rd B.c 0) (rd B.c 1) (rd B.c 2) (rd B.c 3) (rd B.c 4) (rd B.c 5) (rd B.c 6) (rd B.c 7) (rd B.c 8) (rd B.c 9) (rd B.c 10) (rd B.c 11) (rd B.c 12) (rd B.c 13) (rd B.c 14) (rd B.c 15) B.s s p o mx e
def cL1 (s:ByteArray) (mx:Int) (A B:Tb) (d n i p:Int) (o:List Int) (e:Int) (k:Nat):=infl_codes.l1 k lenB lenM disB disM d n i (rd A.c 0) (rd A.c 1) (rd A.c 2) (rd A.c 3) (rd A.c 4) (rd A.c 5) (rd A.c 6) (rd A.c 7) (rd A.c 8) (rd A.c 9) (rd A.c 10) (rd A.c 11) (rd A.c 12) (rd A.c 13) (rd A.c 14) (rd A.c 15) A.s (rd B.c 0) (rd B.c 1) (rd B.c 2) (rd B.c 3) (rd B.c 4) (rd B.c 5) (rd B.c 6) (rd B.c 7) (rd B.c 8) (rd B.c 9) (rd B.c 10) (rd B.c 11) (rd B.c 12) (rd B.c 13) (rd B.c 14) (rd B.c 15) B.s s p o mx e
def cJ (s:ByteArray) (mx:Int) (A B:Tb) (o:List Int) (n:Int) (t:Int × Int × Int) (k:Nat):Option (List Int × Int × Int) :=
 if 0≤t.1 then (if t.1 < (disB.length:Int) then (if t.1 < (disM.length:Int) then ((infl_bits.f k s t.2.1 t.2.2 (rd disM t.1)).bind fun q=>if q.2.2=0 then (if wrap64 (rd disB t.1+q.1) > (o.length:Int) then ((infl_fail.f q.2.2 3).bind fun z=>cL0 s mx A B q.2.1 o z k) else (if wrap64 ((o.length:Int)+n) > mx then ((infl_fail.f q.2.2 7).bind fun z=>cL0 s mx A B q.2.1 o z k) else cL1 s mx A B (wrap64 (rd disB t.1+q.1)) n 0 q.2.1 o q.2.2 k)) else some (o,q.2.1,q.2.2)) else none) else none) else none
def cF (s:ByteArray) (mx:Int) (A B:Tb) (o:List Int) (i:Int) (a:Int × Int × Int) (k:Nat):Option (List Int × Int × Int) :=
 if 0≤i then (if i < (lenB.length:Int) then (if i < (lenM.length:Int) then ((infl_bits.f k s a.2.1 a.2.2 (rd lenM i)).bind fun m=>(nx k B s m.2.1 m.2.2).bind fun t=>if t.2.2=0 then (if t.1 ≥ 30 then ((infl_fail.f t.2.2 3).bind fun z=>if z=0 then none else some (o,t.2.1,z)) else (if t.2.2=0 then cJ s mx A B o (wrap64 (rd lenB i+m.1)) t k else some (o,t.2.1,t.2.2))) else (if t.2.2=0 then none else some (o,t.2.1,t.2.2))) else none) else none) else none
theorem cL0_step (s:ByteArray) (mx:Int) (A B:Tb) (p:Int) (o:List Int) (e:Int) (k:Nat):cL0 s mx A B p o e (k+1)=if e=0 then ((nx k A s p e).bind fun t=>if t.2.2=0 then (if t.1=256 then some (o,t.2.1,t.2.2) else (if t.1 < 256 then (if (o.length:Int)=mx then ((infl_fail.f t.2.2 7).bind fun z=>some (o,t.2.1,z)) else (if o.length < 140737488355328 then cL0 s mx A B t.2.1 (o ++ [t.1 % 256]) t.2.2 k else none)) else (if t.1 ≥ 286 then ((infl_fail.f t.2.2 3).bind fun z=>some (o,t.2.1,z)) else cF s mx A B o (wrap64 (wrap64 (t.1 - 256) - 1)) t k))) else some (o,t.2.1,t.2.2)) else some (o,p,e):=by
 unfold cL0 cF cJ;simp only [infl_codes.l0];rfl
theorem cL1_step (s:ByteArray) (mx:Int) (A B:Tb) (d n i p:Int) (o:List Int) (e:Int) (k:Nat):cL1 s mx A B d n i p o e (k+1)=if i < n then (if 0≤wrap64 ((o.length:Int) - d) then (if wrap64 ((o.length:Int) - d) < (o.length:Int) then (if o.length < 140737488355328 then cL1 s mx A B d n (wrap64 (i+1)) p (o ++ [rd o (wrap64 ((o.length:Int) - d))]) e k else none) else none) else none) else cL0 s mx A B p o e k:=by
 unfold cL1 cL0;simp only [infl_codes.l1]
theorem again_ev {s:ByteArray} {mx:Int} {A B:Tb} {p e:Int} {o:List Int} {d n:Nat} {R:List Int × Int × Int} (hd:1≤d) (hdo:d≤o.length) (hl:o.length+n≤1000000) (hR:Ev (cL0 s mx A B p (again o d n) e) R):∀ (m i:Nat),i+m=n → Ev (cL1 s mx A B d n i p (again o d i) e) R
 |0,i,h=>by
  obtain rfl:i=n:=by omega
  exact Ev.step (fun k=>by rw [cL1_step,if_neg (by omega)]) hR
 |m+1,i,h=>by
  have hlen:=again_len o d i;refine Ev.step (fun k=>?_) (again_ev hd hdo hl hR m (i+1) (by omega));have e1:wrap64 (((again o d i).length:Int) - (d:Int))=(((again o d i).length - d:Nat):Int):=by rw [wrap_in (by omega) (by omega)];omega
  rw [cL1_step,if_pos (by omega),e1,if_pos (by omega),if_pos (by omega),if_pos (by omega),rd_get,wrap_in (by omega) (by omega)];rfl
theorem back_ev {s:ByteArray} {mx:Int} {A B:Tb} {y:St} (h:y.e ≠ 0) {R:List Int × Int × Int} (hR:(y.o,y.p,y.e)=R):Ev (cL0 s mx A B y.p y.o y.e) R:=by
 subst hR;exact Ev.step (fun k=>by rw [cL0_step,if_neg h]) (Ev.now _)
theorem codes_ev {s : ByteArray} {mx : Int} {la lb : List Int} {A B : Tb} (hs : s.size ≤ 17592186044416) (hm : mx ≤ 262144) : ∀ (K : Nat) (x : St), Ok s x → (x.o.length : Int) ≤ mx → (x.e = 0 → errOf la = 0 ∧ errOf lb = 0 ∧ A = ⟨newCs la, newSs la⟩ ∧ B = ⟨newCs lb, newSs lb⟩) → (x.e = 0 → left s x ≤ K) →
  Ev (cL0 s mx A B x.p x.o x.e) ((codes s mx la lb K x).o,(codes s mx la lb K x).p,(codes s mx la lb K x).e):=by
 intro K
 induction K with
 |zero =>
  intro x hx ho hc hk;have he:x.e ≠ 0:=fun h0=>by have:=hk h0;have:=left_pos s x;omega
  exact back_ev he rfl
 |succ K ih =>
  intro x hx ho hc hk;by_cases he:x.e=0;rotate_left
  ·rw [codes_stop _ _ _ _ _ _ he];exact back_ev he rfl
  obtain ⟨ha,hb,rfl,rfl⟩:=hc he;have aft:=Aft.one (mx:=mx) (by omega) hx la lb he ha hb
  have go:(one s mx la lb x).1=false → Ev (cL0 s mx ⟨newCs la,newSs la⟩ ⟨newCs lb,newSs lb⟩ (one s mx la lb x).2.p (one s mx la lb x).2.o (one s mx la lb x).2.e) ((codes s mx la lb (K+1) x).o,(codes s mx la lb (K+1) x).p,(codes s mx la lb (K+1) x).e):=fun h1=>by
   have:=ih (one s mx la lb x).2 aft.1.ok (aft.1.o ho) (fun _=>⟨ha,hb,rfl,rfl⟩) (fun h0=>left_less (hk he) rfl (aft.2.1 h1 h0) hx.p1)
   have e1:codes s mx la lb (K+1) x=codes s mx la lb K (one s mx la lb x).2:=by
    show (if _ then _ else _)=_;rw [if_pos he,if_neg (by rw [h1];decide)]
   rw [e1];exact this
  have stop:(one s mx la lb x).1=true → codes s mx la lb (K+1) x=(one s mx la lb x).2:=fun h1=>by
   show (if _ then _ else _)=_;rw [if_pos he,if_pos h1]
  have E1:=rnext_ev la hs hx (fun _=>ha);have g1:=next_get (m:=(next la s x).1) (y:=(next la s x).2) (by omega) hx (fun _=>ha) rfl;have lla:=(errOf_ok la ha).1;refine Ev.step (fun k=>by rw [cL0_step,if_pos he]) (Ev.bind E1 ?_);clear aft E1;unfold one at go stop;generalize next la s x=a at g1 go stop ⊢
  dsimp only at go stop ⊢
  by_cases c1:a.2.e=0;rotate_left
  ·simp only [if_neg c1];rw [if_pos (.inl c1)] at stop;rw [stop rfl,← g1.2.2.2.1];exact Ev.now _
  simp only [if_pos c1];by_cases c2:a.1=256
  ·simp only [if_pos c2];rw [if_pos (.inr c2)] at stop;rw [stop rfl,← g1.2.2.2.1];exact Ev.now _
  simp only [if_neg c2];rw [if_neg (by simp [c1,c2])] at go stop;by_cases c3:a.1 < 256
  ·simp only [if_pos c3];rw [if_pos c3] at go stop;rw [g1.2.2.2.1] at go stop;by_cases c4:(x.o.length:Int)=mx
   ·simp only [if_pos c4];rw [if_pos c4] at stop;rw [stop rfl,fail_p,fail_o,fail_e_is,if_pos c1,g1.2.2.2.1];exact Ev.congr (fun k=>by rw [fail_ev' c1];rfl) (Ev.now _)
   ·simp only [if_neg c4];rw [if_neg c4] at go;exact Ev.congr (fun k=>if_pos (by omega)) (go rfl)
  simp only [if_neg c3];rw [if_neg c3] at go stop;by_cases c4:a.1 ≥ 286
  ·simp only [if_pos c4];rw [if_pos c4] at stop;rw [stop rfl,fail_p,fail_o,fail_e_is,if_pos c1,g1.2.2.2.1];exact Ev.congr (fun k=>by rw [fail_ev' c1];rfl) (Ev.now _)
  simp only [if_neg c4];rw [if_neg c4] at go;have go:=go rfl;obtain ⟨q,hq⟩:∃ q:Nat,a.1 - 257=q:=⟨(a.1 - 257).toNat,by omega⟩;have hq29:q < 29:=by omega
  have ei:wrap64 (wrap64 (a.1 - 256) - 1)=(q:Int):=by rw [wrap_in (n:=a.1 - 256) (by omega) (by omega),wrap_in (by omega) (by omega)];omega
  have lr:=len_rng q hq29;rw [ei];unfold far at go;rw [hq,Int.toNat_natCast] at go;obtain ⟨b,hb2,hb3⟩:∃ b:Nat,lenM.getD q 0=(b:Int)∧b≤5:=⟨(lenM.getD q 0).toNat,by omega,by omega⟩;have g2:=bits_get (n:=b) (k:=lenM.getD q 0) (m:=(bits s (lenM.getD q 0) a.2).1) (y:=(bits s (lenM.getD q 0) a.2).2) hb2 g1.1 (by omega) rfl;have E2:=bits_ev hs g1.1 (lenM.getD q 0)
  have e2:∀ k,cF s mx ⟨newCs la,newSs la⟩ ⟨newCs lb,newSs lb⟩ x.o (q:Int) (a.1,a.2.p,a.2.e) k=(infl_bits.f k s a.2.p a.2.e (lenM.getD q 0)).bind fun m=>(nx k ⟨newCs lb,newSs lb⟩ s m.2.1 m.2.2).bind fun t=>if t.2.2=0 then (if t.1 ≥ 30 then ((infl_fail.f t.2.2 3).bind fun z=>if z=0 then none else some (x.o,t.2.1,z)) else (if t.2.2=0 then cJ s mx ⟨newCs la,newSs la⟩ ⟨newCs lb,newSs lb⟩ x.o (wrap64 (lenB.getD q 0+m.1)) t k else some (x.o,t.2.1,t.2.2))) else (if t.2.2=0 then none else some (x.o,t.2.1,t.2.2)):=fun k=>by
   unfold cF;rw [if_pos (by omega),if_pos (by show (q:Int) < 29;omega),if_pos (by show (q:Int) < 29;omega),rd_get,rd_get]
  refine Ev.congr e2 (Ev.bind E2 ?_);have hpb:(2:Int) ^ b≤65536:=(pow_16 b (by omega)).2;have hm0:=g2.2.1;have hm1:=g2.2.2.1;generalize bits s (lenM.getD q 0) a.2=m at g2 go hm0 hm1 ⊢
  dsimp only at go ⊢
  have E3:=rnext_ev lb hs g2.1 (fun _=>hb);have g3:=next_get (m:=(next lb s m.2).1) (y:=(next lb s m.2).2) (by omega) g2.1 (fun _=>hb) rfl;refine Ev.bind E3 ?_;generalize next lb s m.2=d at g3 go ⊢;have od:d.2.o=x.o:=g3.2.2.2.1.trans (g2.2.2.2.1.trans g1.2.2.2.1)
  dsimp only at go ⊢
  by_cases d1:d.2.e=0;rotate_left
  ·simp only [if_neg d1];simp only [if_neg (show ¬ (d.2.e=0∧d.1 ≥ 30) from fun h=>d1 h.1)] at go;rw [if_neg d1] at go;obtain ⟨Kg,hg⟩:=go;have:=hg (Kg+1) (by omega);rw [cL0_step,if_neg d1,od] at this;exact ⟨0,fun _ _=>this⟩
  simp only [if_pos d1];by_cases d2:d.1 ≥ 30
  ·simp only [if_pos d2];simp only [if_pos (show d.2.e=0∧d.1 ≥ 30 from ⟨d1,d2⟩)] at go;rw [if_neg (show ¬ (fail d.2 3).e=0 by rw [fail_e_is,if_pos d1];decide)] at go;refine Ev.congr (f:=fun _=>some (x.o,d.2.p,3)) (fun k=>by rw [fail_ev' d1];simp) ?_;(have hne:(fail d.2 3).e ≠ 0:=by rw [fail_e_is,if_pos d1];decide);obtain ⟨Kg,hg⟩:=go;have:=hg (Kg+1) (by omega);rw [cL0_step,if_neg hne,fail_p,fail_o,fail_e_is,if_pos d1,od] at this;exact ⟨0,fun _ _=>this⟩
  simp only [if_neg d2];simp only [if_neg (show ¬ (d.2.e=0∧d.1 ≥ 30) from fun h=>d2 h.2)] at go;rw [if_pos d1] at go;obtain ⟨r,hr⟩:∃ r:Nat,d.1=r:=⟨d.1.toNat,by have:=g3.2.1;omega⟩;have hr30:r < 30:=by omega
  have dr:=dis_rng r hr30;rw [hr,Int.toNat_natCast] at go;obtain ⟨b',hb2',hb3'⟩:∃ b:Nat,disM.getD r 0=(b:Int)∧b≤13:=⟨(disM.getD r 0).toNat,by omega,by omega⟩;have g4:=bits_get (n:=b') (k:=disM.getD r 0) (m:=(bits s (disM.getD r 0) d.2).1) (y:=(bits s (disM.getD r 0) d.2).2) hb2' g3.1 (by omega) rfl;have E4:=bits_ev hs g3.1 (disM.getD r 0);have hpb':(2:Int) ^ b'≤65536:=(pow_16 b' (by omega)).2
  have e3:∀ k,cJ s mx ⟨newCs la,newSs la⟩ ⟨newCs lb,newSs lb⟩ x.o (wrap64 (lenB.getD q 0+m.1)) (d.1,d.2.p,d.2.e) k=(infl_bits.f k s d.2.p d.2.e (disM.getD r 0)).bind fun q'=>if q'.2.2=0 then (if wrap64 (disB.getD r 0+q'.1) > (x.o.length:Int) then ((infl_fail.f q'.2.2 3).bind fun z=>cL0 s mx ⟨newCs la,newSs la⟩ ⟨newCs lb,newSs lb⟩ q'.2.1 x.o z k) else (if wrap64 ((x.o.length:Int)+wrap64 (lenB.getD q 0+m.1)) > mx then ((infl_fail.f q'.2.2 7).bind fun z=>cL0 s mx ⟨newCs la,newSs la⟩ ⟨newCs lb,newSs lb⟩ q'.2.1 x.o z k) else cL1 s mx ⟨newCs la,newSs la⟩ ⟨newCs lb,newSs lb⟩ (wrap64 (disB.getD r 0+q'.1)) (wrap64 (lenB.getD q 0+m.1)) 0 q'.2.1 x.o q'.2.2 k)) else some (x.o,q'.2.1,q'.2.2):=fun k=>by
   unfold cJ;rw [hr,if_pos (by omega),if_pos (by show (r:Int) < 30;omega),if_pos (by show (r:Int) < 30;omega),rd_get,rd_get]
  refine Ev.congr e3 (Ev.bind E4 ?_);have hn0:=g4.2.1;have hn1:=g4.2.2.1;have oy:=g4.2.2.2.1.trans od;generalize bits s (disM.getD r 0) d.2=y at g4 go hn0 hn1 oy ⊢
  dsimp only at go ⊢
  rw [wrap_in (n:=disB.getD r 0+y.1) (by omega) (by omega),wrap_in (n:=lenB.getD q 0+m.1) (by omega) (by omega),wrap_in (n:=(x.o.length:Int)+(lenB.getD q 0+m.1)) (by omega) (by omega)];by_cases y1:y.2.e=0;rotate_left
  ·simp only [if_neg y1];rw [if_neg y1] at go;obtain ⟨Kg,hg⟩:=go;have:=hg (Kg+1) (by omega);rw [cL0_step,if_neg y1,oy] at this;exact ⟨0,fun _ _=>this⟩
  simp only [if_pos y1];rw [if_pos y1] at go;unfold copy at go;rw [oy] at go;by_cases y2:disB.getD r 0+y.1≤(x.o.length:Int);rotate_left
  ·rw [if_neg y2] at go;simp only [if_pos (show disB.getD r 0+y.1 > (x.o.length:Int) by omega)];rw [fail_p,fail_o,fail_e_is,if_pos y1,oy] at go;exact Ev.congr (fun k=>by rw [fail_ev' y1];rfl) go
  rw [if_pos y2] at go;simp only [if_neg (show ¬ disB.getD r 0+y.1 > (x.o.length:Int) by omega)];by_cases y3:(x.o.length:Int)+(lenB.getD q 0+m.1)≤mx
  ·rw [if_pos y3] at go;simp only [if_neg (show ¬ (x.o.length:Int)+(lenB.getD q 0+m.1) > mx by omega)];have hA:=again_ev (d:=(disB.getD r 0+y.1).toNat) (n:=(lenB.getD q 0+m.1).toNat) (by omega) (by omega) (by omega) go (lenB.getD q 0+m.1).toNat 0 (by omega);rw [show (((disB.getD r 0+y.1).toNat:Nat):Int)=disB.getD r 0+y.1 by omega,show (((lenB.getD q 0+m.1).toNat:Nat):Int)=lenB.getD q 0+m.1 by omega] at hA;exact hA
  ·rw [if_neg y3] at go;simp only [if_pos (show (x.o.length:Int)+(lenB.getD q 0+m.1) > mx by omega)];rw [fail_p,fail_o,fail_e_is,if_pos y1,oy] at go;exact Ev.congr (fun k=>by rw [fail_ev' y1];rfl) go
end Go.Proofs.Ytpbhkdamkbopkaa.Inf
namespace Go.Proofs.Ytpbhkdamkbopkaa.Inf
open Go.RowKit Ext RefP GInfl GHuff YtpbhkdamkbopkaaW.PrintWords YtpbhkdamkbopkaaW.PrintLast YtpbhkdamkbopkaaW.PrintMore
theorem pl0_ev:∀ (d i:Nat),i+d=280 → 144≤i → Ev (fun k=>infl_plain.l0 k (La i) (i:Int)) (plainA,plainB)
 |0,i,h,h0=>by
  obtain rfl:i=280:=by omega
  refine Ev.step (f:=fun _=>some (La 280,List.replicate 32 5)) (fun k=>?_) ?_
  ·simp only [infl_plain.l0];rw [if_neg (by omega),rep_ev (by decide) (by decide)];rfl
  ·rw [La_end];exact Ev.now _
 |d+1,i,h,h0=>by
  refine Ev.step (fun k=>?_) (pl0_ev d (i+1) (by omega) (by omega));have hl:=La_len i;have hs:=La_step i h0 (by omega);simp only [infl_plain.l0];rw [if_pos (by omega),if_pos (by omega),if_pos (by omega),Int.toNat_natCast,wrap_in (by omega) (by omega)];by_cases c:i < 256
  ·rw [if_pos (by omega),if_pos (by rw [List.length_set];omega),List.set_set];rw [if_pos c] at hs;rw [hs];rfl
  ·rw [if_neg (by omega)];rw [if_neg c] at hs;rw [hs];rfl
theorem plain_ev:Ev (fun k=>infl_plain.f k) (plainA,plainB):=by
 refine Ev.congr (fun k=>?_) (pl0_ev 136 144 (by decide) (by decide));unfold infl_plain.f;rw [rep_ev (by decide) (by decide)];show infl_plain.l0 k (List.replicate 288 8) 144=_;rw [La_start];rfl
def bB (s:ByteArray) (mx:Int) (b:Bool) (p:Int) (o:List Int) (e:Int) (la lb:List Int) (k:Nat):Option (Bool × List Int × Int × Int) :=
 (infl_table.f k e la).bind fun t33=>(infl_table.f k t33.2.2 lb).bind fun t36=>(cL0 s mx ⟨t33.1,t33.2.1⟩ ⟨t36.1,t36.2.1⟩ p o t36.2.2 k).bind fun t37=>some (b,t37.1,t37.2.1,t37.2.2)
theorem both_ev {s:ByteArray} {mx:Int} {x:St} (b:Bool) (la lb:List Int) (hs:s.size≤17592186044416) (hm:mx≤262144) (hx:Ok s x) (ho:(x.o.length:Int)≤mx):Ev (bB s mx b x.p x.o x.e la lb) (b,(both s mx la lb x).o,(both s mx la lb x).p,(both s mx la lb x).e):=by
 unfold bB;refine Ev.bind (table_ev la) (Ev.bind (table_ev (x:=table la x) lb) ?_);rw [both_eq];have aft:=(Aft.table (mx:=mx) hx la).trans (Aft.table (table_ok hx la) lb);have hp:(table lb (table la x)).p=x.p:=(fail_p _ _).trans (fail_p _ _);have hoo:(table lb (table la x)).o=x.o:=(fail_o _ _).trans (fail_o _ _)
 have E:=codes_ev (la:=la) (lb:=lb) (A:=⟨if x.e=0 then newCs la else zero16,if x.e=0 then newSs la else []⟩) (B:=⟨if (table la x).e=0 then newCs lb else zero16,if (table la x).e=0 then newSs lb else []⟩) hs hm (left s (table lb (table la x))) (table lb (table la x)) aft.ok (aft.o ho) (fun h0=>by
  have h1:=(table_e h0).1;have h2:=(table_e h1).1;refine ⟨(both_e h0).1,(both_e h0).2,?_,?_⟩
  ·rw [if_pos h2,if_pos h2]
  ·rw [if_pos h1,if_pos h1]) (fun _=>Nat.le_refl _)
 rw [hp,hoo] at E;exact Ev.bind E (Ev.now _)
def bF (s:ByteArray) (mx:Int) (o:List Int) (b:Bool) (t:Int × Int × Int) (k:Nat):Option (Bool × List Int × Int × Int) :=
 if t.1=0 then (if t.2.2=0 then ((infl_stored.f k s t.2.1 o mx t.2.2).bind fun q=>some (b,q.1,q.2.1,q.2.2)) else some (b,o,t.2.1,t.2.2))
 else if t.1=1 then ((infl_plain.f k).bind fun q=>bB s mx b t.2.1 o t.2.2 q.1 q.2 k)
 else if t.1=2 then ((infl_lengths.f k s t.2.1 t.2.2).bind fun q=>bB s mx b q.2.2.1 o q.2.2.2 (q.1.take q.2.1.toNat) (q.1.drop q.2.1.toNat) k)
 else ((infl_fail.f t.2.2 3).bind fun z=>some (b,o,t.2.1,z))
theorem block_is (s:ByteArray) (p:Int) (o:List Int) (mx e:Int) (k:Nat):infl_block.f k s p o mx e=(infl_bits.f k s p e 1).bind fun a=>(infl_bits.f k s a.2.1 a.2.2 2).bind fun t=>bF s mx o (a.1 == 1) t k:=by
 unfold infl_block.f bF;rfl
theorem block_ev {s:ByteArray} {mx:Int} {x:St} (hs:s.size≤17592186044416) (hm:mx≤262144) (hx:Ok s x) (ho:(x.o.length:Int)≤mx):Ev (fun k=>infl_block.f k s x.p x.o mx x.e) ((block s mx x).1,(block s mx x).2.o,(block s mx x).2.p,(block s mx x).2.e):=by
 refine Ev.congr (fun k=>block_is _ _ _ _ _ _) ?_;have g1:=bits_get (n:=1) (k:=1) (m:=(bits s 1 x).1) (y:=(bits s 1 x).2) rfl hx (by decide) rfl;have E1:=bits_ev hs hx 1;refine Ev.bind E1 ?_;clear E1;unfold block;generalize bits s 1 x=a at g1 ⊢;have g2:=bits_get (n:=2) (k:=2) (m:=(bits s 2 a.2).1) (y:=(bits s 2 a.2).2) rfl g1.1 (by decide) rfl;have E2:=bits_ev hs g1.1 2
 dsimp only
 refine Ev.bind E2 ?_;clear E2;generalize bits s 2 a.2=b at g2 ⊢;have bo:b.2.o=x.o:=g2.2.2.2.1.trans g1.2.2.2.1;have ho':(b.2.o.length:Int)≤mx:=by rw [bo];exact ho
 rw [show (a.1 == 1)=decide (a.1=1) from rfl,← bo];unfold bF
 dsimp only
 by_cases c0:b.1=0
 ·simp only [if_pos c0];by_cases d:b.2.e=0
  ·simp only [if_pos d];exact Ev.bind (stored_ev hs g2.1 ho' hm) (Ev.now _)
  ·simp only [if_neg d];exact Ev.now _
 simp only [if_neg c0];by_cases c1:b.1=1
 ·simp only [if_pos c1];exact Ev.bind plain_ev (both_ev _ _ _ hs hm g2.1 ho')
 simp only [if_neg c1];by_cases c2:b.1=2;rotate_left
 ·simp only [if_neg c2];rw [fail_p,fail_o,fail_e_is];exact Ev.congr (fun k=>by rw [fail_ev];rfl) (Ev.now _)
 simp only [if_pos c2];obtain ⟨row,mny,E,e1,e2⟩:=lengths_ev hs g2.1;refine Ev.bind E ?_;have aft:=Aft.lengths (mx:=mx) (by omega) g2.1;have lo:=lengths_o (s:=s) (by omega) g2.1
 dsimp only
 rw [e1,e2,← lo];exact both_ev _ _ _ hs hm aft.ok (aft.o ho')
def fini (x:St):ByteArray × Int × Int:=if x.e=0 then (strOfNums x.o,(x.p+7) / 8,0) else (⟨#[]⟩,0,x.e)
theorem blocks_ev {s:ByteArray} {mx:Int} (hs:s.size≤17592186044416) (hm:mx≤262144):∀ (K:Nat) (x:St),Ok s x → (x.o.length:Int)≤mx → x.e=0 → left s x≤K → Ev (fun k=>infl_Raw.l0 k s x.p x.o mx x.e) (fini (blocks s mx K x)):=by
 intro K
 induction K with
 |zero=>intro x hx ho he hk;have:=left_pos s x;omega
 |succ K ih =>
  intro x hx ho he hk;have aft:=Aft.block (mx:=mx) (s:=s) (by omega) hx;have E:=block_ev hs hm hx ho;have p0:=aft.1.ok.p0;have p1:=aft.1.ok.p1;have less:(block s mx x).2.e=0 → left s (block s mx x).2≤K:=fun h=>left_less hk rfl (aft.2 h) hx.p1;refine Ev.step (fun k=>by simp only [infl_Raw.l0];rfl) (Ev.bind E ?_);show Ev _ (fini (if _ then _ else _));have ho':=aft.1.o ho;have hk':=aft.1.ok;clear E aft;generalize block s mx x=b at less p0 p1 ho' hk' ⊢;have e8:wrap64 (Int.tdiv (wrap64 (b.2.p+7)) 8)=(b.2.p+7) / 8:=by rw [wrap_in (n:=b.2.p+7) (by omega) (by omega),tdiv8 (by omega) (by omega)]
  dsimp only
  rw [e8];by_cases c:b.1=true
  ·simp only [if_pos c];unfold fini;by_cases d:b.2.e=0
   ·simp only [if_pos d];exact Ev.now _
   ·simp only [if_neg d];exact Ev.now _
  simp only [if_neg c];by_cases d:b.2.e=0
  ·simp only [if_pos d];exact ih b.2 hk' ho' d (less d)
  ·simp only [if_neg d];unfold fini;simp only [if_neg d];exact Ev.now _
theorem raw_ev {s:ByteArray} (mx:Int) (hs:s.size≤17592186044416):Ev (fun k=>infl_Raw.f k s mx) (raw s mx):=by
 unfold raw infl_Raw.f;by_cases a:mx < 0
 ·simp only [if_pos a,if_pos (Or.inl a:mx < 0 ∨ mx > 262144)];exact Ev.now _
 ·simp only [if_neg a];by_cases b:mx > 262144
  ·simp only [if_pos b,if_pos (Or.inr b:mx < 0 ∨ mx > 262144)];exact Ev.now _
  ·simp only [if_neg b,if_neg (show ¬ (mx < 0 ∨ mx > 262144) by omega)];exact blocks_ev hs (by omega) (8*s.size+2) ⟨0,[],0⟩ ⟨by decide,by show (0:Int)≤_;omega,by decide⟩ (by show (0:Int)≤mx;omega) rfl (by unfold left;dsimp only;omega)
end Go.Proofs.Ytpbhkdamkbopkaa.Inf
namespace Go.Proofs.Ytpbhkdamkbopkaa.Rs
open Go Go.RowKit Rf YtpbhkdamkbopkaaW.PrintWords Go.Proofs.Ytpbhkdamkbopkaa Ext
variable {O:Orc}
theorem inflate_Raw_sp (a0:ByteArray) (a1:Int) (r:ByteArray × Int × Int) (H:Wr2.inflate_Raw.f a0 a1=some r):Sp (KT:=kt) Try.prog O 44 [c1 (.str a0),c1 (.n a1)] [] (.t [.c (.str r.1),.c (.n r.2.1),.c (.n r.2.2)]) []:=by
 unfold Wr2.inflate_Raw.f at H;by_cases c:a0.size≤17592186044416
 ·rw [if_pos c] at H;obtain ⟨k,hk⟩:=(Inf.raw_ev a1 c).rounds;exact infl_Raw_sp k _ _ _ (hk.trans H)
 ·rw [if_neg c] at H;exact nomatch H
end Go.Proofs.Ytpbhkdamkbopkaa.Rs
namespace Go.Proofs.Ytpbhkdamkbopkaa.GBack2
open Go.RowKit YtpbhkdamkbopkaaW.PrintWords YtpbhkdamkbopkaaW.PrintLast YtpbhkdamkbopkaaW.PrintMore Wr2
def adler_parts.f (a0:Int):Option (Int × Int):=some (Int.tmod (wrap64 (Go.bits .and .u32 ((a0) % 4294967296) 65535)) 65521,(((a0) % 4294967296) / 65536) % 65521)
def adler_More.l0:Nat → ByteArray → Int → Int → Int → Int → Option (Int)
 |0,_,_,_,_,_=>none
 |k+1,x1,x5,x6,x14,x15=>if x15 < x14 then (if 0≤x15 then (if x15 < (x1.size:Int) then (adler_More.l0 k x1 (Int.tmod (wrap64 (x5+(wrap64 (bt x1 x15)))) 65521) (Int.tmod (wrap64 (x6+(Int.tmod (wrap64 (x5+(wrap64 (bt x1 x15)))) 65521))) 65521) x14 (wrap64 (x15+1))) else (none)) else (none)) else (some (Go.bits .or .i64 (wrap64 (x6*65536)) x5))
def adler_More.f (k:Nat) (a0:Int) (a1:ByteArray):Option (Int):=(adler_parts.f a0).bind fun bt103=>(adler_More.l0 k a1 bt103.1 bt103.2 (a1.size:Int) 0)
def adler_Sum.f (k:Nat) (a0:ByteArray):Option (Int):=(adler_More.f k 1 a0).bind fun t105=>(some t105)
def inflate_Open.j0:Nat → ByteArray → Int → Bool → Option (ByteArray × Int)
 |0,_,_,_=>none
 |k+1,x0,x1,x11=>if x11=true then (some ((⟨#[]⟩:ByteArray),1)) else (if (x0.size:Int) < 2 then (some ((⟨#[]⟩:ByteArray),2)) else (if 0 < (x0.size:Int) then (if (Go.bits .and .u8 (bt x0 0) 15)=8 then (if ((bt x0 0) / 16) > 7 then (some ((⟨#[]⟩:ByteArray),3)) else (if 1 < (x0.size:Int) then (if (Int.tmod (Go.bits .or .i64 (wrap64 ((wrap64 (bt x0 0))*256)) (wrap64 (bt x0 1))) 31)=0 then (if (Go.bits .and .u8 (bt x0 1) 32)=0 then (if 2≤(x0.size:Int) then ((inflate_Raw.f (x0.extract 2 x0.size) x1).bind fun bt212=>(if bt212.2.2=0 then (if 0≤(wrap64 (2+bt212.2.1)) then (if (wrap64 (2+bt212.2.1))≤(x0.size:Int) then (if ((x0.extract ((wrap64 (2+bt212.2.1)):Int).toNat x0.size).size:Int) < 4 then (some ((⟨#[]⟩:ByteArray),2)) else (if 0 < ((x0.extract ((wrap64 (2+bt212.2.1)):Int).toNat x0.size).size:Int) then (if 1 < ((x0.extract ((wrap64 (2+bt212.2.1)):Int).toNat x0.size).size:Int) then (if 2 < ((x0.extract ((wrap64 (2+bt212.2.1)):Int).toNat x0.size).size:Int) then (if 3 < ((x0.extract ((wrap64 (2+bt212.2.1)):Int).toNat x0.size).size:Int) then ((adler_Sum.f k bt212.1).bind fun t215=>(if (Go.bits .or .i64 (Go.bits .or .i64 (Go.bits .or .i64 (wrap64 ((wrap64 (bt (x0.extract ((wrap64 (2+bt212.2.1)):Int).toNat x0.size) 0))*16777216)) (wrap64 ((wrap64 (bt (x0.extract ((wrap64 (2+bt212.2.1)):Int).toNat x0.size) 1))*65536))) (wrap64 ((wrap64 (bt (x0.extract ((wrap64 (2+bt212.2.1)):Int).toNat x0.size) 2))*256))) (wrap64 (bt (x0.extract ((wrap64 (2+bt212.2.1)):Int).toNat x0.size) 3)))=t215 then (if ((x0.extract ((wrap64 (2+bt212.2.1)):Int).toNat x0.size).size:Int) > 4 then (some ((⟨#[]⟩:ByteArray),3)) else (some (bt212.1,0))) else (some ((⟨#[]⟩:ByteArray),5)))) else (none)) else (none)) else (none)) else (none))) else (none)) else (none)) else (some ((⟨#[]⟩:ByteArray),bt212.2.2)))) else (none)) else (some ((⟨#[]⟩:ByteArray),3))) else (some ((⟨#[]⟩:ByteArray),3))) else (none))) else (some ((⟨#[]⟩:ByteArray),3))) else (none)))
def inflate_Open.f (k:Nat) (a0:ByteArray) (a1:Int):Option (ByteArray × Int):=if a1 < 0 then (inflate_Open.j0 k a0 a1 true) else (inflate_Open.j0 k a0 a1 (decide (a1 > 262144)))
end Go.Proofs.Ytpbhkdamkbopkaa.GBack2
namespace Go.Proofs.Ytpbhkdamkbopkaa.Rs
open Go Go.RowKit Rf YtpbhkdamkbopkaaW.PrintWords Go.Proofs.Ytpbhkdamkbopkaa GBack2 GPix
set_option maxRecDepth 10000
set_option maxHeartbeats 4000000
variable {O:Orc}
theorem parts_hi (a:Int):(wrap64 (a % 4294967296 / 2 ^ min (Int.toNat 16) IntKind.u32.bits)).tmod 65521=a % 4294967296 / 65536 % 65521:=by
 show (wrap64 (a % 4294967296 / 65536)).tmod 65521=_;rw [show wrap64 (a % 4294967296 / 65536)=a % 4294967296 / 65536 by unfold wrap64;omega,Int.tmod_eq_emod_of_nonneg (by omega)]
theorem adler_parts_sp (a0:Int) (r:Int × Int) (H:adler_parts.f a0=some r):Sp (KT:=kt) Try.prog O 102 [c1 (.n a0)] [] (.t [.c (.n r.1),.c (.n r.2)]) []:=by
 refine Sp.of tok (by kernel_rfl) Try.func102 rfl rfl fun Γ hnp=>?_;unfold adler_parts.f at H;refine WS.seq ?_;refine wrg ?_;refine wr 2 ?_;refine wn ?_;refine WS.seq ?_;refine wrg ?_;refine wr 3 ?_;refine wn ?_;refine WS.seq ?_;refine wrg ?_;refine wr 10 ?_;refine wn ?_;refine WS.ret ?_;cases H;exact ⟨tv,[],_,rfl,(by rw [parts_hi];rfl),tv,rfl,rfl,rfl⟩
theorem adler_More_sp (k:Nat) (a0:Int) (a1:ByteArray) (r:Int) (H:adler_More.f k a0 a1=some r):Sp (KT:=kt) Try.prog O 77 [c1 (.n a0),c1 (.str a1)] [] (c1 (.n r)) []:=by
 refine Sp.of tok (by kernel_rfl) Try.func77 rfl rfl fun Γ hnp=>?_;unfold adler_More.f at H;refine WS.seq ?_;refine wrg ?_;refine wr 1 ?_;refine wn ?_;refine WS.seq ?_;refine wrg ?_;refine wr 1 ?_;obtain ⟨Qa,hbt103,H⟩:=bd H;refine WR.call (adler_parts_sp _ _ hbt103) [] rfl rfl rfl rfl rfl tv rfl rfl rfl rfl rfl ?_;refine wr 5 ?_;refine wn ?_;refine WS.seq ?_;refine WS.seq ?_;refine wrg ?_;refine wr 3 ?_;refine wn ?_;refine WS.block ?_;refine wcut [] [(1,c1 (.str a1)),(5,c1 (.n Qa.1)),(6,c1 (.n Qa.2)),(14,c1 (.n ((a1.size:Int)))),(15,c1 (.n 0)),(0,c1 (.n a0))] [] (n2 rfl (n2 rfl (n2 rfl (n2 rfl (n2 rfl (n2 rfl tv)))))) tv (by rw [hnp];rfl) (fun g=>?_);refine WS.loop (fun k1 ρ h=>∃ (g:Nat → SV) (x5:Int) (x6:Int) (x14:Int) (x15:Int),k1≤k∧ρ=upds g [(1,c1 (.str a1)),(5,c1 (.n x5)),(6,c1 (.n x6)),(14,c1 (.n x14)),(15,c1 (.n x15)),(0,c1 (.n a0))]∧h=[]∧adler_More.l0 k1 a1 x5 x6 x14 x15=some r) ?_ (n:=k) ⟨g,_,_,_,_,Nat.le_refl _,rfl,rfl,H⟩;rintro k ρ h ih1 ⟨g,x5,x6,x14,x15,hkih1,rfl,rfl,H⟩
 rcases k with _ | k
 ·exact nn H
 simp only [adler_More.l0] at H;refine WS.seq ?_;refine wrg ?_;refine wr 1 ?_;refine wn ?_;refine WS.seq ?_;refine WS.cond rfl (fun b2=>?_) (fun b2=>?_)
 ·
  rw [ifP b2] at H;replace b2:=dT b2;refine WS.skip ?_;refine WS.seq ?_;refine WS.block ?_;refine WS.seq ?_;refine wrg ?_;refine wr 2 ?_;refine wn ?_;refine WS.seq ?_;refine wrg ?_;obtain ⟨g3,H⟩:=gd H;obtain ⟨g4,H⟩:=gd H;refine wr 8 ?_;refine wn ?_;refine wrg ?_;refine wr 5 ?_;refine wn ?_;refine wrg ?_;refine wr 2 ?_;refine wn ?_;refine wcut [] [(1,c1 (.str a1)),(5,c1 (.n ((Int.tmod (wrap64 (x5+(wrap64 (bt a1 x15)))) 65521)))),(6,c1 (.n ((Int.tmod (wrap64 (x6+(Int.tmod (wrap64 (x5+(wrap64 (bt a1 x15)))) 65521))) 65521)))),(14,c1 (.n x14)),(15,c1 (.n ((wrap64 (x15+1))))),(0,c1 (.n a0))] [] (n2 rfl (n2 rfl (n2 rfl (n2 rfl (n2 rfl (n2 rfl tv)))))) tv (by rw [hnp];rfl) (fun g=>?_);exact ih1 k (by omega) _ _ ⟨g,_,_,_,_,by omega,rfl,rfl,H⟩
 ·
  rw [ifN b2] at H;replace b2:=dF b2;refine WS.exit ?_;refine WS.seq ?_;refine wrg ?_;refine wr 5 ?_;refine wn ?_;refine WS.ret ?_;cases H;exact ⟨tv,[],_,rfl,rfl,tv,rfl,rfl,rfl⟩
theorem adler_Sum_sp (k:Nat) (a0:ByteArray) (r:Int) (H:adler_Sum.f k a0=some r):Sp (KT:=kt) Try.prog O 48 [c1 (.str a0)] [] (c1 (.n r)) []:=by
 refine Sp.of tok (by kernel_rfl) Try.func48 rfl rfl fun Γ hnp=>?_;unfold adler_Sum.f at H;refine WS.seq ?_;refine wrg ?_;refine wr 1 ?_;refine wn ?_;refine WS.seq ?_;refine wrg ?_;refine wr 1 ?_;obtain ⟨t105,ht105,H⟩:=bd H;refine WR.call (adler_More_sp _ _ _ _ ht105) [] rfl rfl rfl rfl rfl tv rfl rfl rfl rfl rfl ?_;refine wr 1 ?_;refine wn ?_;refine WS.ret ?_;cases H;exact ⟨tv,[],_,rfl,rfl,tv,rfl,rfl,rfl⟩
theorem inflate_Open_sp (k:Nat) (a0:ByteArray) (a1:Int) (r:ByteArray × Int) (H:inflate_Open.f k a0 a1=some r):Sp (KT:=kt) Try.prog O 46 [c1 (.str a0),c1 (.n a1)] [] (.t [.c (.str r.1),.c (.n r.2)]) []:=by
 refine Sp.of tok (by kernel_rfl) Try.func46 rfl rfl fun Γ hnp=>?_;unfold inflate_Open.f at H;refine WS.seq ?_;refine wrg ?_;refine wr 2 ?_;refine wn ?_;refine WS.seq ?_;refine WS.block ?_;refine WS.join (fun ρ h=>∃ k1,∃ (g:Nat → SV) (x11:Bool),k1≤k∧ρ=upds g [(0,c1 (.str a0)),(1,c1 (.n a1)),(11,c1 (.bool x11))]∧h=[]∧inflate_Open.j0 k1 a0 a1 x11=some r) ?_ ?_
 ·
  refine wrg ?_;refine wr 3 ?_;refine WR.split 14 rfl (fun b1=>?_) (fun b1=>?_)
  ·
   replace H:=(ifP b1).symm.trans H;replace b1:=dT b1;refine wr 4 ?_;refine wn ?_;intro kk;refine wcut [] [(0,c1 (.str a0)),(1,c1 (.n a1)),(11,c1 (.bool true))] [] (n2 rfl (n2 rfl (n2 rfl tv))) tv (by rw [hnp];rfl) (fun g=>?_);exact kk _ _ ⟨_,g,_,by omega,rfl,rfl,H⟩
  ·
   replace H:=(ifN b1).symm.trans H;replace b1:=dF b1;refine wr 4 ?_;refine wn ?_;intro kk;refine wcut [] [(0,c1 (.str a0)),(1,c1 (.n a1)),(11,c1 (.bool ((decide (a1 > 262144)))))] [] (n2 rfl (n2 rfl (n2 rfl tv))) tv (by rw [hnp];rfl) (fun g=>?_);exact kk _ _ ⟨_,g,_,by omega,rfl,rfl,H⟩
 rintro ρ h ⟨k,g,x11,hk2,rfl,rfl,H⟩
 rcases k with _ | k
 ·exact nn H
 simp only [inflate_Open.j0] at H;refine WS.cond rfl (fun b3=>?_) (fun b3=>?_)
 ·
  replace H:=(ifB b3).symm.trans H;refine WS.seq ?_;refine wrg ?_;refine wr 2 ?_;refine wn ?_;refine WS.ret ?_;cases H;exact ⟨tv,[],_,rfl,rfl,tv,rfl,rfl,rfl⟩
 ·
  replace H:=(ifBn b3).symm.trans H;refine WS.seq ?_;refine wrg ?_;refine wr 4 ?_;refine wn ?_;refine WS.cond rfl (fun b4=>?_) (fun b4=>?_)
  ·
   replace H:=(ifP b4).symm.trans H;replace b4:=dT b4;refine WS.seq ?_;refine wrg ?_;refine wr 2 ?_;refine wn ?_;refine WS.ret ?_;cases H;exact ⟨tv,[],_,rfl,rfl,tv,rfl,rfl,rfl⟩
  ·
   replace H:=(ifN b4).symm.trans H;replace b4:=dF b4;refine WS.seq ?_;refine wrg ?_;obtain ⟨g5,H⟩:=gd H;refine wr 5 ?_;refine WR.split 27 rfl (fun b6=>?_) (fun b6=>?_)
   ·
    replace H:=(ifX b6).symm.trans H;replace b6:=nT b6;refine wr 24 ?_;refine wn ?_;refine WS.cond rfl (fun _=>?_) (fun h=>nomatch h);refine WS.seq ?_;refine wrg ?_;refine wr 2 ?_;refine wn ?_;refine WS.ret ?_;cases H;exact ⟨tv,[],_,rfl,rfl,tv,rfl,rfl,rfl⟩
   ·
    replace H:=(ifXn b6).symm.trans H;replace b6:=nF b6;refine wr 6 ?_;refine WR.split 33 rfl (fun b8=>?_) (fun b8=>?_)
    ·
     replace H:=(ifP b8).symm.trans H;replace b8:=dT b8;refine wr 18 ?_;refine wn ?_;refine WS.cond rfl (fun _=>?_) (fun h=>nomatch h);refine WS.seq ?_;refine wrg ?_;refine wr 2 ?_;refine wn ?_;refine WS.ret ?_;cases H;exact ⟨tv,[],_,rfl,rfl,tv,rfl,rfl,rfl⟩
    ·
     replace H:=(ifN b8).symm.trans H;replace b8:=dF b8;obtain ⟨g10,H⟩:=gd H;refine wr 12 ?_;refine WR.split 45 rfl (fun b11=>?_) (fun b11=>?_)
     ·
      replace H:=(ifX b11).symm.trans H;replace b11:=nT b11;refine wr 6 ?_;refine wn ?_;refine WS.cond rfl (fun _=>?_) (fun h=>nomatch h);refine WS.seq ?_;refine wrg ?_;refine wr 2 ?_;refine wn ?_;refine WS.ret ?_;cases H;exact ⟨tv,[],_,rfl,rfl,tv,rfl,rfl,rfl⟩
     ·
      replace H:=(ifXn b11).symm.trans H;replace b11:=nF b11;refine wr 6 ?_;refine wn ?_;refine WS.cond rfl (fun b13=>?_) (fun b13=>?_)
      ·
       replace H:=(ifX b13).symm.trans H;replace b13:=nT b13;refine WS.seq ?_;refine wrg ?_;refine wr 2 ?_;refine wn ?_;refine WS.ret ?_;cases H;exact ⟨tv,[],_,rfl,rfl,tv,rfl,rfl,rfl⟩
      ·
       replace H:=(ifXn b13).symm.trans H;replace b13:=nF b13;refine WS.skip ?_;refine WS.seq ?_;refine wrg ?_;obtain ⟨g14,H⟩:=gd H;refine wr 3 ?_;obtain ⟨bt212,hbt212,H⟩:=bd H;refine WR.call (inflate_Raw_sp _ _ _ hbt212) [] rfl rfl rfl rfl rfl tv rfl rfl rfl rfl rfl ?_;refine wr 7 ?_;refine wn ?_;refine WS.seq ?_;refine WS.seq ?_;refine wrg ?_;refine wr 2 ?_;refine wn ?_;refine WS.cond rfl (fun b15=>?_) (fun b15=>?_)
       ·
        replace H:=(ifX b15).symm.trans H;replace b15:=nT b15;refine WS.seq ?_;refine wrg ?_;refine wr 3 ?_;refine wn ?_;refine WS.ret ?_;cases H;exact ⟨tv,[],_,rfl,rfl,tv,rfl,rfl,rfl⟩
       ·
        replace H:=(ifXn b15).symm.trans H;replace b15:=nF b15;refine WS.skip ?_;refine WS.seq ?_;refine wrg ?_;obtain ⟨g16,H⟩:=gd H;obtain ⟨g17,H⟩:=gd H;refine wr 5 ?_;refine wn ?_;refine WS.seq ?_;refine WS.seq ?_;refine wrg ?_;refine wr 3 ?_;refine wn ?_;refine WS.cond rfl (fun b18=>?_) (fun b18=>?_)
        ·
         replace H:=(ifP b18).symm.trans H;replace b18:=dT b18;refine WS.seq ?_;refine wrg ?_;refine wr 2 ?_;refine wn ?_;refine WS.ret ?_;cases H;exact ⟨tv,[],_,rfl,rfl,tv,rfl,rfl,rfl⟩
        ·
         replace H:=(ifN b18).symm.trans H;replace b18:=dF b18;refine WS.skip ?_;refine WS.seq ?_;refine wrg ?_;obtain ⟨g19,H⟩:=gd H;obtain ⟨g20,H⟩:=gd H;obtain ⟨g21,H⟩:=gd H;obtain ⟨g22,H⟩:=gd H;refine wr 19 ?_;refine wn ?_;refine WS.seq ?_;refine WS.block ?_;refine WS.seq ?_;refine wrg ?_;refine wr 2 ?_;obtain ⟨t215,ht215,H⟩:=bd H;refine WR.call (adler_Sum_sp _ _ _ ht215) [] rfl rfl rfl rfl rfl tv rfl rfl rfl rfl rfl ?_;refine wr 2 ?_;refine wn ?_;refine WS.cond rfl (fun b23=>?_) (fun b23=>?_)
         ·
          replace H:=(ifX b23).symm.trans H;replace b23:=nT b23;refine WS.seq ?_;refine wrg ?_;refine wr 2 ?_;refine wn ?_;refine WS.ret ?_;cases H;exact ⟨tv,[],_,rfl,rfl,tv,rfl,rfl,rfl⟩
         ·
          replace H:=(ifXn b23).symm.trans H;replace b23:=nF b23;refine WS.seq ?_;refine wrg ?_;refine wr 4 ?_;refine wn ?_;refine WS.cond rfl (fun b24=>?_) (fun b24=>?_)
          ·
           replace H:=(ifP b24).symm.trans H;replace b24:=dT b24;refine WS.seq ?_;refine wrg ?_;refine wr 2 ?_;refine wn ?_;refine WS.ret ?_;cases H;exact ⟨tv,[],_,rfl,rfl,tv,rfl,rfl,rfl⟩
          ·
           replace H:=(ifN b24).symm.trans H;replace b24:=dF b24;refine WS.skip ?_;refine WS.seq ?_;refine wrg ?_;refine wr 3 ?_;refine wn ?_;refine WS.ret ?_;cases H;exact ⟨tv,[],_,rfl,rfl,tv,rfl,rfl,rfl⟩
end Go.Proofs.Ytpbhkdamkbopkaa.Rs
namespace Go.Proofs.Ytpbhkdamkbopkaa.Rs
open Go Go.RowKit Rf YtpbhkdamkbopkaaW.PrintWords Go.Proofs.Ytpbhkdamkbopkaa GPix
set_option maxRecDepth 10000
set_option maxHeartbeats 4000000
variable {O:Orc}
theorem field_within_sp (k:Nat) (a0:Int) (a1:Int) (l2:List Int) (r:Bool) (H:field_within.f k a0 a1 l2=some r):Sp (KT:=kt) Try.prog O 113 [c1 (.n a0),c1 (.n a1),c1 (.sl 0 l2.length)] [⟨.view 3 l2,0,false⟩] (c1 (.bool r)) [⟨.view 3 l2,0,false⟩]:=by
 refine Sp.of tok (by kernel_rfl) Try.func113 rfl rfl fun Γ hnp=>?_;unfold field_within.f at H;refine WS.seq ?_;refine wrg ?_;refine wr 1 ?_;refine wn ?_;refine WS.seq ?_;refine WS.seq ?_;refine wrg ?_;refine wr 3 ?_;refine wn ?_;refine WS.block ?_;refine wcut [some 0] [(0,c1 (.n a0)),(1,c1 (.n a1)),(9,c1 (.sl 0 l2.length)),(10,c1 (.n ((l2.length:Int)))),(11,c1 (.n 0)),(2,c1 (.sl 0 l2.length))] [⟨.view 3 l2,0,false⟩] (n2 rfl (n2 rfl (n2 rfl (n2 rfl (n2 rfl (n2 rfl tv)))))) (n2 rfl tv) (by rw [hnp];rfl) (fun g=>?_);refine WS.loop (fun k1 ρ h=>∃ (g:Nat → SV) (x10:Int) (x11:Int),k1≤k∧ρ=upds g [(0,c1 (.n a0)),(1,c1 (.n a1)),(9,c1 (.sl 0 l2.length)),(10,c1 (.n x10)),(11,c1 (.n x11)),(2,c1 (.sl 0 l2.length))]∧h=[⟨.view 3 l2,0,false⟩]∧field_within.l0 k1 a0 a1 l2 x10 x11=some r) ?_ (n:=k) ⟨g,_,_,Nat.le_refl _,rfl,rfl,H⟩;rintro k ρ h ih1 ⟨g,x10,x11,hkih1,rfl,rfl,H⟩
 rcases k with _ | k
 ·exact nn H
 simp only [field_within.l0] at H;refine WS.seq ?_;refine wrg ?_;refine wr 1 ?_;refine wn ?_;refine WS.seq ?_;refine WS.cond rfl (fun b2=>?_) (fun b2=>?_)
 ·
  rw [ifP b2] at H;replace b2:=dT b2;refine WS.skip ?_;refine WS.seq ?_;refine WS.block ?_;refine WS.seq ?_;refine wrg ?_;obtain ⟨g3,H⟩:=gd H;obtain ⟨g4,H⟩:=gd H;refine wr 3 ?_;refine wn ?_;refine WS.seq ?_;refine wrg ?_;refine wr 4 ?_;refine WR.split 18 rfl (fun b5=>?_) (fun b5=>?_)
  ·
   rw [ifP b5] at H;replace b5:=dT b5;refine wr 4 ?_;refine wn ?_;refine WS.cond rfl (fun _=>?_) (fun h=>nomatch h);refine WS.seq ?_;refine wrg ?_;refine wr 1 ?_;refine wn ?_;refine WS.ret ?_;cases H;exact ⟨tv,[some 0],_,rfl,rfl,(n2 rfl tv),rfl,rfl,rfl⟩
  ·
   rw [ifN b5] at H;replace b5:=dF b5;refine wr 4 ?_;refine wn ?_;refine WS.cond rfl (fun b7=>?_) (fun b7=>?_)
   ·
    rw [ifP b7] at H;replace b7:=dT b7;refine WS.seq ?_;refine wrg ?_;refine wr 1 ?_;refine wn ?_;refine WS.ret ?_;cases H;exact ⟨tv,[some 0],_,rfl,rfl,(n2 rfl tv),rfl,rfl,rfl⟩
   ·
    rw [ifN b7] at H;replace b7:=dF b7;refine WS.skip ?_;refine wrg ?_;refine wr 2 ?_;refine wn ?_;refine wcut [some 0] [(0,c1 (.n a0)),(1,c1 (.n a1)),(9,c1 (.sl 0 l2.length)),(10,c1 (.n x10)),(11,c1 (.n ((wrap64 (x11+1))))),(2,c1 (.sl 0 l2.length))] [⟨.view 3 l2,0,false⟩] (n2 rfl (n2 rfl (n2 rfl (n2 rfl (n2 rfl (n2 rfl tv)))))) (n2 rfl tv) (by rw [hnp];rfl) (fun g=>?_);exact ih1 k (by omega) _ _ ⟨g,_,_,by omega,rfl,rfl,H⟩
 ·
  rw [ifN b2] at H;replace b2:=dF b2;refine WS.exit ?_;refine WS.seq ?_;refine wrg ?_;refine wr 1 ?_;refine wn ?_;refine WS.ret ?_;cases H;exact ⟨tv,[some 0],_,rfl,rfl,(n2 rfl tv),rfl,rfl,rfl⟩
theorem field_RightRGBA_sp (k:Nat) (Qa:Int) (Qb:Int) (Qc:Int) (Qd:Int) (r:Bool) (H:field_RightRGBA.f k Qa Qb Qc Qd=some r):Sp (KT:=kt) Try.prog O 104 [.v (.agg [.n Qa,.n Qb,.n Qc,.n Qd])] [] (c1 (.bool r)) []:=by
 refine Sp.of tok (by kernel_rfl) Try.func104 rfl rfl fun Γ hnp=>?_;unfold field_RightRGBA.f at H;refine WS.seq ?_;refine wrg ?_;refine wr 2 ?_;refine wn ?_;refine WS.seq ?_;refine wrg ?_;refine wr 9 ?_;obtain ⟨t308,ht308,H⟩:=bd H;refine WR.call (field_within_sp _ _ _ _ _ ht308) [some 1] rfl rfl rfl rfl rfl (n2 rfl tv) rfl rfl rfl rfl rfl ?_;refine wr 1 ?_;refine wn ?_;refine WS.ret ?_;cases H;exact ⟨tv,[],_,rfl,rfl,tv,rfl,rfl,rfl⟩
theorem pixel_faint_sp (k:Nat) (Qa:Int) (Qb:Int) (Qc:Int) (Qd:Int) (r:Bool) (H:pixel_faint.f k Qa Qb Qc Qd=some r):Sp (KT:=kt) Try.prog O 82 [.v (.agg [.n Qa,.n Qb,.n Qc,.n Qd])] [] (c1 (.bool r)) []:=by
 refine Sp.of tok (by kernel_rfl) Try.func82 rfl rfl fun Γ hnp=>?_;unfold pixel_faint.f at H;refine WS.seq ?_;refine wrg ?_;refine wr 2 ?_;refine wn ?_;refine WS.seq ?_;refine wrg ?_;refine wr 1 ?_;obtain ⟨t310,ht310,H⟩:=bd H;refine WR.call (field_RightRGBA_sp _ _ _ _ _ _ ht310) [] rfl rfl rfl rfl rfl tv rfl rfl rfl rfl rfl ?_;refine wr 1 ?_;refine WR.split 5 rfl (fun b1=>?_) (fun b1=>?_)
 ·
  rw [ifB b1] at H;refine wr 12 ?_;refine wn ?_;refine WS.ret ?_;cases H;exact ⟨tv,[],_,rfl,rfl,tv,rfl,rfl,rfl⟩
 ·
  rw [ifBn b1] at H;refine wr 12 ?_;refine wn ?_;refine WS.ret ?_;cases H;exact ⟨tv,[],_,rfl,rfl,tv,rfl,rfl,rfl⟩
theorem pixel_four_sp (a0:ByteArray) (r:Int × Int × Int × Int) (H:pixel_four.f a0=some r):Sp (KT:=kt) Try.prog O 106 [c1 (.str a0)] [] (.v (.agg [.n r.1,.n r.2.1,.n r.2.2.1,.n r.2.2.2])) []:=by
 refine Sp.of tok (by kernel_rfl) Try.func106 rfl rfl fun Γ hnp=>?_;unfold pixel_four.f at H;refine WS.seq ?_;refine wrg ?_;refine wr 1 ?_;refine wn ?_;refine WS.seq ?_;refine wrg ?_;obtain ⟨g1,H⟩:=gd H;obtain ⟨g2,H⟩:=gd H;obtain ⟨g3,H⟩:=gd H;obtain ⟨g4,H⟩:=gd H;refine wr 14 ?_;refine wn ?_;refine WS.ret ?_;cases H;exact ⟨tv,[],_,rfl,rfl,tv,rfl,rfl,rfl⟩
theorem bits_right_sp (Qa:ByteArray) (Qb:Int) (r:Bool) (H:bits_right.f Qa Qb=some r):Sp (KT:=kt) Try.prog O 116 [.v (.agg [.str Qa,.n Qb])] [] (c1 (.bool r)) []:=by
 refine Sp.of tok (by kernel_rfl) Try.func116 rfl rfl fun Γ hnp=>?_;unfold bits_right.f at H;refine WS.seq ?_;refine wrg ?_;refine wr 2 ?_;refine wn ?_;refine WS.seq ?_;refine wrg ?_;refine wr 4 ?_;refine WR.split 6 rfl (fun b1=>?_) (fun b1=>?_)
 ·
  rw [ifP b1] at H;replace b1:=dT b1;refine wr 9 ?_;refine wn ?_;refine WS.ret ?_;cases H;exact ⟨tv,[],_,rfl,rfl,tv,rfl,rfl,rfl⟩
 ·
  rw [ifN b1] at H;replace b1:=dF b1;refine wr 9 ?_;refine wn ?_;refine WS.ret ?_;cases H;exact ⟨tv,[],_,rfl,rfl,tv,rfl,rfl,rfl⟩
theorem bits_Align_sp (Qa:ByteArray) (Qb:Int) (r:ByteArray × Int) (H:bits_Align.f Qa Qb=some r):Sp (KT:=kt) Try.prog O 117 [.v (.agg [.str Qa,.n Qb])] [] (.v (.agg [.str r.1,.n r.2])) []:=by
 refine Sp.of tok (by kernel_rfl) Try.func117 rfl rfl fun Γ hnp=>?_;unfold bits_Align.f at H;refine WS.seq ?_;refine wrg ?_;refine wr 2 ?_;refine wn ?_;refine WS.seq ?_;refine WS.seq ?_;refine wrg ?_;refine wr 1 ?_;obtain ⟨t218,ht218,H⟩:=bd H;refine WR.call (bits_right_sp _ _ _ ht218) [] rfl rfl rfl rfl rfl tv rfl rfl rfl rfl rfl ?_;refine wn ?_;refine WS.cond rfl (fun b1=>?_) (fun b1=>?_)
 ·
  rw [ifB b1] at H;refine wrg ?_;refine wr 7 ?_;refine wn ?_;refine WS.seq ?_;refine wrg ?_;refine wr 2 ?_;refine wn ?_;refine WS.ret ?_;cases H;exact ⟨tv,[],_,rfl,rfl,tv,rfl,rfl,rfl⟩
 ·
  rw [ifBn b1] at H;refine WS.skip ?_;refine WS.seq ?_;refine wrg ?_;refine wr 2 ?_;refine wn ?_;refine WS.ret ?_;cases H;exact ⟨tv,[],_,rfl,rfl,tv,rfl,rfl,rfl⟩
theorem bits_Bytes_sp (k:Nat) (Qc:ByteArray) (Qd:Int) (a1:Int) (r:ByteArray × ByteArray × Int × Int) (H:bits_Bytes.f k Qc Qd a1=some r):Sp (KT:=kt) Try.prog O 114 [.v (.agg [.str Qc,.n Qd]),c1 (.n a1)] [] (.t [.c (.str r.1),.agg [.str r.2.1,.n r.2.2.1],.c (.n r.2.2.2)]) []:=by
 refine Sp.of tok (by kernel_rfl) Try.func114 rfl rfl fun Γ hnp=>?_;unfold bits_Bytes.f at H;refine WS.seq ?_;refine wrg ?_;refine wr 4 ?_;refine wn ?_;refine WS.seq ?_;refine WS.join (fun ρ h=>∃ k1,∃ (g:Nat → SV) (x14:Bool) (Qa:ByteArray) (Qb:Int),k1≤k∧ρ=upds g [(1,c1 (.n a1)),(14,c1 (.bool x14)),(0,.v (.agg [.str Qc,.n Qd])),(2,c1 (.ptr 0 0 0 0)),(5,c1 (.ptr 1 0 0 0))]∧h=[⟨.box [.str Qa,.n Qb],0,true⟩,⟨.box [.str ByteArray.empty,.n 0],1,true⟩]∧bits_Bytes.j0 k1 a1 x14 Qa Qb=some r) ?_ ?_
 ·
  refine wrg ?_;refine wr 1 ?_;obtain ⟨t221,ht221,H⟩:=bd H;refine WR.call (bits_right_sp _ _ _ ht221) [] rfl rfl rfl rfl rfl tv rfl rfl rfl rfl rfl ?_;refine wr 2 ?_;refine WR.split 11 rfl (fun b1=>?_) (fun b1=>?_)
  ·
   rw [ifZ b1] at H;refine wr 3 ?_;refine wn ?_;intro kk;refine wcut [some 0,some 1] [(1,c1 (.n a1)),(14,c1 (.bool true)),(0,.v (.agg [.str Qc,.n Qd])),(2,c1 (.ptr 0 0 0 0)),(5,c1 (.ptr 1 0 0 0))] [⟨.box [.str Qc,.n Qd],0,true⟩,⟨.box [.str ByteArray.empty,.n 0],1,true⟩] (n2 rfl (n2 rfl (n2 rfl (n2 rfl (n2 rfl tv))))) (n2 (rw_ rfl rfl) (n2 (rw_ rfl rfl) tv)) (by rw [hnp];rfl) (fun g=>?_);exact kk _ _ ⟨_,g,_,_,_,by omega,rfl,rfl,H⟩
  ·
   rw [ifZn b1] at H;refine wr 3 ?_;refine wn ?_;intro kk;refine wcut [some 0,some 1] [(1,c1 (.n a1)),(14,c1 (.bool ((decide (a1 < 0))))),(0,.v (.agg [.str Qc,.n Qd])),(2,c1 (.ptr 0 0 0 0)),(5,c1 (.ptr 1 0 0 0))] [⟨.box [.str Qc,.n Qd],0,true⟩,⟨.box [.str ByteArray.empty,.n 0],1,true⟩] (n2 rfl (n2 rfl (n2 rfl (n2 rfl (n2 rfl tv))))) (n2 (rw_ rfl rfl) (n2 (rw_ rfl rfl) tv)) (by rw [hnp];rfl) (fun g=>?_);exact kk _ _ ⟨_,g,_,_,_,by omega,rfl,rfl,H⟩
 rintro ρ h ⟨k,g,x14,Qa,Qb,hk2,rfl,rfl,H⟩
 rcases k with _ | k
 ·exact nn H
 simp only [bits_Bytes.j0] at H;refine WS.cond rfl (fun b3=>?_) (fun b3=>?_)
 ·
  rw [ifB b3] at H;refine WS.seq ?_;refine wrg ?_;refine wr 4 ?_;refine wn ?_;refine WS.ret ?_;cases H;exact ⟨tv,[],_,rfl,rfl,tv,rfl,rfl,rfl⟩
 ·
  rw [ifBn b3] at H;refine WS.skip ?_;refine WS.seq ?_;refine wrg ?_;refine wr 1 ?_;obtain ⟨bt222,hbt222,H⟩:=bd H;refine WR.call (bits_Align_sp _ _ _ hbt222) [] rfl rfl rfl rfl rfl tv rfl rfl rfl rfl rfl ?_;refine wr 3 ?_;refine wn ?_;refine WS.seq ?_;refine WS.seq ?_;refine wrg ?_;refine wr 7 ?_;refine wn ?_;refine WS.cond rfl (fun b4=>?_) (fun b4=>?_)
  ·
   rw [ifP b4] at H;replace b4:=dT b4;refine WS.seq ?_;refine wrg ?_;refine wr 4 ?_;refine wn ?_;refine WS.ret ?_;cases H;exact ⟨tv,[],_,rfl,rfl,tv,rfl,rfl,rfl⟩
  ·
   rw [ifN b4] at H;replace b4:=dF b4;refine WS.skip ?_;refine WS.seq ?_;refine wrg ?_;obtain ⟨g5,H⟩:=gd H;obtain ⟨g6,H⟩:=gd H;obtain ⟨g7,H⟩:=gd H;refine wr 17 ?_;refine wn ?_;refine WS.ret ?_;cases H;exact ⟨tv,[],_,rfl,rfl,tv,rfl,rfl,rfl⟩
theorem bits_Little_sp (k:Nat) (Qc:ByteArray) (Qd:Int) (a1:Int) (r:Int × ByteArray × Int × Int) (H:bits_Little.f k Qc Qd a1=some r):Sp (KT:=kt) Try.prog O 105 [.v (.agg [.str Qc,.n Qd]),c1 (.n a1)] [] (.t [.c (.n r.1),.agg [.str r.2.1,.n r.2.2.1],.c (.n r.2.2.2)]) []:=by
 refine Sp.of tok (by kernel_rfl) Try.func105 rfl rfl fun Γ hnp=>?_;unfold bits_Little.f at H;refine WS.seq ?_;refine wrg ?_;refine wr 4 ?_;refine wn ?_;refine WS.seq ?_;refine WS.join (fun ρ h=>∃ k1,∃ (g:Nat → SV) (x17:Bool) (Qe:ByteArray) (Qf:Int),k1≤k∧ρ=upds g [(1,c1 (.n a1)),(17,c1 (.bool x17)),(0,.v (.agg [.str Qc,.n Qd])),(2,c1 (.ptr 0 0 0 0)),(5,c1 (.ptr 1 0 0 0))]∧h=[⟨.box [.str Qe,.n Qf],0,true⟩,⟨.box [.str ByteArray.empty,.n 0],1,true⟩]∧bits_Little.j0 k1 a1 x17 Qe Qf=some r) ?_ ?_
 ·
  refine wrg ?_;refine wr 3 ?_;refine WR.split 14 rfl (fun b1=>?_) (fun b1=>?_)
  ·
   rw [ifP b1] at H;replace b1:=dT b1;refine wr 3 ?_;refine wn ?_;intro kk;refine wcut [some 0,some 1] [(1,c1 (.n a1)),(17,c1 (.bool true)),(0,.v (.agg [.str Qc,.n Qd])),(2,c1 (.ptr 0 0 0 0)),(5,c1 (.ptr 1 0 0 0))] [⟨.box [.str Qc,.n Qd],0,true⟩,⟨.box [.str ByteArray.empty,.n 0],1,true⟩] (n2 rfl (n2 rfl (n2 rfl (n2 rfl (n2 rfl tv))))) (n2 (rw_ rfl rfl) (n2 (rw_ rfl rfl) tv)) (by rw [hnp];rfl) (fun g=>?_);exact kk _ _ ⟨_,g,_,_,_,by omega,rfl,rfl,H⟩
  ·
   rw [ifN b1] at H;replace b1:=dF b1;refine wr 3 ?_;refine wn ?_;intro kk;refine wcut [some 0,some 1] [(1,c1 (.n a1)),(17,c1 (.bool ((decide (a1 > 4))))),(0,.v (.agg [.str Qc,.n Qd])),(2,c1 (.ptr 0 0 0 0)),(5,c1 (.ptr 1 0 0 0))] [⟨.box [.str Qc,.n Qd],0,true⟩,⟨.box [.str ByteArray.empty,.n 0],1,true⟩] (n2 rfl (n2 rfl (n2 rfl (n2 rfl (n2 rfl tv))))) (n2 (rw_ rfl rfl) (n2 (rw_ rfl rfl) tv)) (by rw [hnp];rfl) (fun g=>?_);exact kk _ _ ⟨_,g,_,_,_,by omega,rfl,rfl,H⟩
 rintro ρ h ⟨k,g,x17,Qe,Qf,hk2,rfl,rfl,H⟩
 rcases k with _ | k
 ·exact nn H
 simp only [bits_Little.j0] at H;refine WS.cond rfl (fun b3=>?_) (fun b3=>?_)
 ·
  rw [ifB b3] at H;refine WS.seq ?_;refine wrg ?_;refine wr 4 ?_;refine wn ?_;refine WS.ret ?_;cases H;exact ⟨tv,[],_,rfl,rfl,tv,rfl,rfl,rfl⟩
 ·
  rw [ifBn b3] at H;refine WS.skip ?_;refine WS.seq ?_;refine wrg ?_;refine wr 2 ?_;obtain ⟨Qg,hbt226,H⟩:=bd H;refine WR.call (bits_Bytes_sp _ _ _ _ _ hbt226) [] rfl rfl rfl rfl rfl tv rfl rfl rfl rfl rfl ?_;refine wr 8 ?_;refine wn ?_;refine WS.seq ?_;refine wrg ?_;refine wr 1 ?_;refine wn ?_;refine WS.seq ?_;refine WS.seq ?_;refine wrg ?_;refine wr 4 ?_;refine wn ?_;refine WS.block ?_;refine wcut [some 1,some 2] [(7,c1 (.str Qg.1)),(9,c1 (.n Qg.2.2.2)),(10,c1 (.n 0)),(11,c1 (.n ((wrap64 ((Qg.1.size:Int) - 1))))),(0,.v (.agg [.str Qc,.n Qd])),(1,c1 (.n a1)),(5,c1 (.ptr 0 0 0 0)),(8,c1 (.ptr 1 0 0 0))] [⟨.box [.str ByteArray.empty,.n 0],0,true⟩,⟨.box [.str Qg.2.1,.n Qg.2.2.1],1,true⟩] (n2 rfl (n2 rfl (n2 rfl (n2 rfl (n2 rfl (n2 rfl (n2 rfl (n2 rfl tv)))))))) (n2 (rw_ rfl rfl) (n2 (rw_ rfl rfl) tv)) (by rw [hnp];rfl) (fun g=>?_);refine WS.loop (fun k1 ρ h=>∃ (g:Nat → SV) (x7:ByteArray) (x9:Int) (x10:Int) (x11:Int) (Qa:ByteArray) (Qb:Int),k1≤k∧ρ=upds g [(7,c1 (.str x7)),(9,c1 (.n x9)),(10,c1 (.n x10)),(11,c1 (.n x11)),(0,.v (.agg [.str Qc,.n Qd])),(1,c1 (.n a1)),(5,c1 (.ptr 0 0 0 0)),(8,c1 (.ptr 1 0 0 0))]∧h=[⟨.box [.str ByteArray.empty,.n 0],0,true⟩,⟨.box [.str Qa,.n Qb],1,true⟩]∧bits_Little.l0 k1 x7 x9 x10 x11 Qa Qb=some r) ?_ (n:=k) ⟨g,_,_,_,_,_,_,Nat.le_refl _,rfl,rfl,H⟩;rintro k ρ h ih4 ⟨g,x7,x9,x10,x11,Qa,Qb,hkih4,rfl,rfl,H⟩
  rcases k with _ | k
  ·exact nn H
  simp only [bits_Little.l0] at H;refine WS.seq ?_;refine WS.seq ?_;refine wrg ?_;refine wr 2 ?_;refine wn ?_;refine WS.cond rfl (fun b5=>?_) (fun b5=>?_)
  ·
   rw [ifP b5] at H;replace b5:=dT b5;refine WS.skip ?_;refine WS.seq ?_;refine WS.block ?_;refine wrg ?_;obtain ⟨g6,H⟩:=gd H;obtain ⟨g7,H⟩:=gd H;refine wr 8 ?_;refine wn ?_;refine wrg ?_;refine wr 3 ?_;refine wn ?_;refine wcut [some 0,some 1] [(7,c1 (.str x7)),(9,c1 (.n x9)),(10,c1 (.n ((Go.bits .or .i64 (wrap64 (x10*256)) (wrap64 (bt x7 x11)))))),(11,c1 (.n ((wrap64 (x11 - 1))))),(0,.v (.agg [.str Qc,.n Qd])),(1,c1 (.n a1)),(5,c1 (.ptr 0 0 0 0)),(8,c1 (.ptr 1 0 0 0))] [⟨.box [.str ByteArray.empty,.n 0],0,true⟩,⟨.box [.str Qa,.n Qb],1,true⟩] (n2 rfl (n2 rfl (n2 rfl (n2 rfl (n2 rfl (n2 rfl (n2 rfl (n2 rfl tv)))))))) (n2 (rw_ rfl rfl) (n2 (rw_ rfl rfl) tv)) (by rw [hnp];rfl) (fun g=>?_);exact ih4 k (by omega) _ _ ⟨g,_,_,_,_,_,_,by omega,rfl,rfl,H⟩
  ·
   rw [ifN b5] at H;replace b5:=dF b5;refine WS.exit ?_;refine WS.seq ?_;refine wrg ?_;refine wr 6 ?_;refine wn ?_;refine WS.ret ?_;cases H;exact ⟨tv,[],_,rfl,rfl,tv,rfl,rfl,rfl⟩
end Go.Proofs.Ytpbhkdamkbopkaa.Rs
namespace Go.Proofs.Ytpbhkdamkbopkaa.Rs
open Go Go.RowKit Rf YtpbhkdamkbopkaaW.PrintWords Go.Proofs.Ytpbhkdamkbopkaa GPix
set_option maxRecDepth 10000
set_option maxHeartbeats 4000000
variable {O:Orc}
theorem pixel_numbered_sp (k:Nat) (a0:ByteArray) (a1:Int) (a2:Int) (a3:Int) (r:List S89 × Bool) (H:pixel_numbered.f k a0 a1 a2 a3=some r):Sp (KT:=kt) Try.prog O 84 [c1 (.str a0),c1 (.n a1),c1 (.n a2),c1 (.n a3)] [] (.t [.c (.sl 0 r.1.length),.c (.bool r.2)]) [⟨.own 89 r.1,0,true⟩]:=by
 refine Sp.of tok (by kernel_rfl) Try.func84 rfl rfl fun Γ hnp=>?_;unfold pixel_numbered.f at H;refine WS.seq ?_;refine wrg ?_;refine wr 2 ?_;refine wn ?_;refine WS.seq ?_;refine wrg ?_;refine wr 5 ?_;refine wn ?_;refine WS.seq ?_;refine WS.seq ?_;refine wrg ?_;refine wr 9 ?_;refine wn ?_;refine WS.cond rfl (fun b1=>?_) (fun b1=>?_)
 ·
  rw [ifX b1] at H;replace b1:=nT b1;refine WS.seq ?_;refine wrg ?_;refine wr 2 ?_;refine wn ?_;refine WS.ret ?_;cases H;exact ⟨tv,[none],_,rfl,rfl,(n2 rfl tv),rfl,rfl,rfl⟩
 ·
  rw [ifXn b1] at H;replace b1:=nF b1;refine WS.skip ?_;refine WS.seq ?_;refine wrg ?_;refine wr 1 ?_;refine wn ?_;refine WS.seq ?_;refine WS.seq ?_;refine wrg ?_;refine wr 2 ?_;refine wn ?_;refine WS.block ?_;refine wcut [none] [(0,c1 (.str a0)),(1,c1 (.n a1)),(2,c1 (.n a2)),(10,c1 (.n ((wrap64 ((wrap64 (Int.tdiv (wrap64 (a2+3)) 4))*4))))),(11,c1 (.sl 0 (([]:List (S89))).length)),(28,c1 (.n a3)),(29,c1 (.n 0)),(3,c1 (.n a3))] [⟨.own 89 ((([]:List (S89))):List S89),0,true⟩] (n2 rfl (n2 rfl (n2 rfl (n2 rfl (n2 rfl (n2 rfl (n2 rfl (n2 rfl tv)))))))) (n2 rfl tv) (by rw [hnp];rfl) (fun g=>?_);refine WS.loop (fun k1 ρ h=>∃ (g:Nat → SV) (x10:Int) (x11:List (S89)) (x28:Int) (x29:Int),k1≤k∧ρ=upds g [(0,c1 (.str a0)),(1,c1 (.n a1)),(2,c1 (.n a2)),(10,c1 (.n x10)),(11,c1 (.sl 0 x11.length)),(28,c1 (.n x28)),(29,c1 (.n x29)),(3,c1 (.n a3))]∧h=[⟨.own 89 x11,0,true⟩]∧pixel_numbered.l0 k1 a0 a1 a2 x10 x11 x28 x29=some r) ?_ (n:=k) ⟨g,_,_,_,_,Nat.le_refl _,rfl,rfl,H⟩;rintro k ρ h ih2 ⟨g,x10,x11,x28,x29,hkih2,rfl,rfl,H⟩
  rcases k with _ | k
  ·exact nn H
  simp only [pixel_numbered.l0] at H;refine WS.seq ?_;refine wrg ?_;refine wr 1 ?_;refine wn ?_;refine WS.seq ?_;refine WS.cond rfl (fun b3=>?_) (fun b3=>?_)
  ·
   rw [ifP b3] at H;replace b3:=dT b3;refine WS.skip ?_;refine WS.seq ?_;refine WS.block ?_;refine WS.seq ?_;refine wrg ?_;refine wr 2 ?_;refine wn ?_;refine WS.seq ?_;refine wrg ?_;refine wr 2 ?_;refine wn ?_;refine WS.block ?_;refine wcut [some 0] [(0,c1 (.str a0)),(1,c1 (.n a1)),(2,c1 (.n a2)),(10,c1 (.n x10)),(11,c1 (.sl 0 x11.length)),(12,c1 (.n x29)),(28,c1 (.n x28)),(29,c1 (.n x29)),(32,c1 (.n a2)),(33,c1 (.n 0)),(3,c1 (.n a3))] [⟨.own 89 x11,0,true⟩] (n2 rfl (n2 rfl (n2 rfl (n2 rfl (n2 rfl (n2 rfl (n2 rfl (n2 rfl (n2 rfl (n2 rfl (n2 rfl tv))))))))))) (n2 (rw_ rfl rfl) tv) (by rw [hnp];rfl) (fun g=>?_);refine WS.loop (fun k1 ρ h=>∃ (g:Nat → SV) (x10:Int) (x11:List (S89)) (x12:Int) (x28:Int) (x29:Int) (x32:Int) (x33:Int),k1≤k∧ρ=upds g [(0,c1 (.str a0)),(1,c1 (.n a1)),(2,c1 (.n a2)),(10,c1 (.n x10)),(11,c1 (.sl 0 x11.length)),(12,c1 (.n x12)),(28,c1 (.n x28)),(29,c1 (.n x29)),(32,c1 (.n x32)),(33,c1 (.n x33)),(3,c1 (.n a3))]∧h=[⟨.own 89 x11,0,true⟩]∧pixel_numbered.l1 k1 a0 a1 a2 x10 x11 x12 x28 x29 x32 x33=some r) ?_ (n:=k) ⟨g,_,_,_,_,_,_,_,Nat.le_refl _,rfl,rfl,H⟩;rintro k ρ h ih4 ⟨g,x10,x11,x12,x28,x29,x32,x33,hkih4,rfl,rfl,H⟩
   rcases k with _ | k
   ·exact nn H
   simp only [pixel_numbered.l1] at H;refine WS.seq ?_;refine wrg ?_;refine wr 1 ?_;refine wn ?_;refine WS.seq ?_;refine WS.cond rfl (fun b5=>?_) (fun b5=>?_)
   ·
    rw [ifP b5] at H;replace b5:=dT b5;refine WS.skip ?_;refine WS.seq ?_;refine WS.block ?_;refine WS.seq ?_;refine wrg ?_;refine wr 2 ?_;refine wn ?_;refine WS.seq ?_;refine wrg ?_;obtain ⟨g6,H⟩:=gd H;obtain ⟨g7,H⟩:=gd H;refine wr 12 ?_;refine wn ?_;refine WS.seq ?_;refine WS.seq ?_;refine wrg ?_;refine wr 3 ?_;refine wn ?_;refine WS.cond rfl (fun b8=>?_) (fun b8=>?_)
    ·
     rw [ifP b8] at H;replace b8:=dT b8;refine WS.seq ?_;refine wrg ?_;refine wr 2 ?_;refine wn ?_;refine WS.ret ?_;cases H;exact ⟨tv,[none],_,rfl,rfl,(n2 rfl tv),rfl,rfl,rfl⟩
    ·
     rw [ifN b8] at H;replace b8:=dF b8;refine WS.skip ?_;refine wrg ?_;obtain ⟨g9,H⟩:=gd H;obtain ⟨g10,H⟩:=gd H;obtain ⟨g11,H⟩:=gd H;refine wr 8 ?_;obtain ⟨Qa,hbt255,H⟩:=bd H;refine WR.call (pixel_four_sp _ _ hbt255) [] rfl rfl rfl rfl rfl tv rfl rfl rfl rfl rfl ?_;obtain ⟨g12,H⟩:=gd H;refine wr 3 ?_;refine wn ?_;refine wrg ?_;refine wr 2 ?_;refine wn ?_;refine wcut [some 2] [(0,c1 (.str a0)),(1,c1 (.n a1)),(2,c1 (.n a2)),(10,c1 (.n x10)),(11,c1 (.sl 0 ((x11 ++ [(⟨Qa.1,Qa.2.1,Qa.2.2.1,Qa.2.2.2⟩:S89)])).length)),(12,c1 (.n x12)),(28,c1 (.n x28)),(29,c1 (.n x29)),(32,c1 (.n x32)),(33,c1 (.n ((wrap64 (x33+1))))),(3,c1 (.n a3))] [⟨.own 89 (((x11 ++ [(⟨Qa.1,Qa.2.1,Qa.2.2.1,Qa.2.2.2⟩:S89)])):List S89),0,true⟩] (n2 rfl (n2 rfl (n2 rfl (n2 rfl (n2 rfl (n2 rfl (n2 rfl (n2 rfl (n2 rfl (n2 rfl (n2 rfl tv))))))))))) (n2 (rw_ rfl rfl) tv) (by rw [hnp];rfl) (fun g=>?_);exact ih4 k (by omega) _ _ ⟨g,_,_,_,_,_,_,_,by omega,rfl,rfl,H⟩
   ·
    rw [ifN b5] at H;replace b5:=dF b5;refine WS.exit ?_;refine wrg ?_;refine wr 2 ?_;refine wn ?_;refine wcut [some 0] [(0,c1 (.str a0)),(1,c1 (.n a1)),(2,c1 (.n a2)),(10,c1 (.n x10)),(11,c1 (.sl 0 x11.length)),(28,c1 (.n x28)),(29,c1 (.n ((wrap64 (x29+1))))),(3,c1 (.n a3))] [⟨.own 89 x11,0,true⟩] (n2 rfl (n2 rfl (n2 rfl (n2 rfl (n2 rfl (n2 rfl (n2 rfl (n2 rfl tv)))))))) (n2 (rw_ rfl rfl) tv) (by rw [hnp];rfl) (fun g=>?_);exact ih2 k (by omega) _ _ ⟨g,_,_,_,_,by omega,rfl,rfl,H⟩
  ·
   rw [ifN b3] at H;replace b3:=dF b3;refine WS.exit ?_;refine WS.seq ?_;refine wrg ?_;refine wr 3 ?_;refine wn ?_;refine WS.ret ?_;cases H;exact ⟨tv,[some 0],_,rfl,rfl,(n2 (rw_ rfl rfl) tv),rfl,rfl,rfl⟩
theorem pixel_plain_sp (k:Nat) (a0:ByteArray) (a1:Int) (r:List S89 × Bool) (H:pixel_plain.f k a0 a1=some r):Sp (KT:=kt) Try.prog O 85 [c1 (.str a0),c1 (.n a1)] [] (.t [.c (.sl 0 r.1.length),.c (.bool r.2)]) [⟨.own 89 r.1,0,true⟩]:=by
 refine Sp.of tok (by kernel_rfl) Try.func85 rfl rfl fun Γ hnp=>?_;unfold pixel_plain.f at H;refine WS.seq ?_;refine wrg ?_;refine wr 2 ?_;refine wn ?_;refine WS.seq ?_;refine WS.seq ?_;refine wrg ?_;refine wr 5 ?_;refine wn ?_;refine WS.cond rfl (fun b1=>?_) (fun b1=>?_)
 ·
  rw [ifX b1] at H;replace b1:=nT b1;refine WS.seq ?_;refine wrg ?_;refine wr 2 ?_;refine wn ?_;refine WS.ret ?_;cases H;exact ⟨tv,[none],_,rfl,rfl,(n2 rfl tv),rfl,rfl,rfl⟩
 ·
  rw [ifXn b1] at H;replace b1:=nF b1;refine WS.skip ?_;refine WS.seq ?_;refine wrg ?_;refine wr 1 ?_;refine wn ?_;refine WS.seq ?_;refine WS.seq ?_;refine wrg ?_;refine wr 2 ?_;refine wn ?_;refine WS.block ?_;refine wcut [none] [(0,c1 (.str a0)),(6,c1 (.sl 0 (([]:List (S89))).length)),(14,c1 (.n a1)),(15,c1 (.n 0)),(1,c1 (.n a1))] [⟨.own 89 ((([]:List (S89))):List S89),0,true⟩] (n2 rfl (n2 rfl (n2 rfl (n2 rfl (n2 rfl tv))))) (n2 rfl tv) (by rw [hnp];rfl) (fun g=>?_);refine WS.loop (fun k1 ρ h=>∃ (g:Nat → SV) (x6:List (S89)) (x14:Int) (x15:Int),k1≤k∧ρ=upds g [(0,c1 (.str a0)),(6,c1 (.sl 0 x6.length)),(14,c1 (.n x14)),(15,c1 (.n x15)),(1,c1 (.n a1))]∧h=[⟨.own 89 x6,0,true⟩]∧pixel_plain.l0 k1 a0 x6 x14 x15=some r) ?_ (n:=k) ⟨g,_,_,_,Nat.le_refl _,rfl,rfl,H⟩;rintro k ρ h ih2 ⟨g,x6,x14,x15,hkih2,rfl,rfl,H⟩
  rcases k with _ | k
  ·exact nn H
  simp only [pixel_plain.l0] at H;refine WS.seq ?_;refine wrg ?_;refine wr 1 ?_;refine wn ?_;refine WS.seq ?_;refine WS.cond rfl (fun b3=>?_) (fun b3=>?_)
  ·
   rw [ifP b3] at H;replace b3:=dT b3;refine WS.skip ?_;refine WS.seq ?_;refine WS.block ?_;refine WS.seq ?_;refine wrg ?_;refine wr 2 ?_;refine wn ?_;refine WS.seq ?_;refine wrg ?_;obtain ⟨g4,H⟩:=gd H;obtain ⟨g5,H⟩:=gd H;obtain ⟨g6,H⟩:=gd H;obtain ⟨g7,H⟩:=gd H;obtain ⟨g8,H⟩:=gd H;obtain ⟨g9,H⟩:=gd H;refine wr 8 ?_;refine wn ?_;refine wrg ?_;refine wr 6 ?_;obtain ⟨Qa,hbt262,H⟩:=bd H;refine WR.call (pixel_four_sp _ _ hbt262) [] rfl rfl rfl rfl rfl tv rfl rfl rfl rfl rfl ?_;obtain ⟨g10,H⟩:=gd H;refine wr 3 ?_;refine wn ?_;refine wrg ?_;refine wr 2 ?_;refine wn ?_;refine wcut [some 2] [(0,c1 (.str a0)),(6,c1 (.sl 0 ((x6 ++ [(⟨Qa.1,Qa.2.1,Qa.2.2.1,Qa.2.2.2⟩:S89)])).length)),(14,c1 (.n x14)),(15,c1 (.n ((wrap64 (x15+1))))),(1,c1 (.n a1))] [⟨.own 89 (((x6 ++ [(⟨Qa.1,Qa.2.1,Qa.2.2.1,Qa.2.2.2⟩:S89)])):List S89),0,true⟩] (n2 rfl (n2 rfl (n2 rfl (n2 rfl (n2 rfl tv))))) (n2 (rw_ rfl rfl) tv) (by rw [hnp];rfl) (fun g=>?_);exact ih2 k (by omega) _ _ ⟨g,_,_,_,by omega,rfl,rfl,H⟩
  ·
   rw [ifN b3] at H;replace b3:=dF b3;refine WS.exit ?_;refine WS.seq ?_;refine wrg ?_;refine wr 3 ?_;refine wn ?_;refine WS.ret ?_;cases H;exact ⟨tv,[some 0],_,rfl,rfl,(n2 (rw_ rfl rfl) tv),rfl,rfl,rfl⟩
end Go.Proofs.Ytpbhkdamkbopkaa.Rs
namespace Go.Proofs.Ytpbhkdamkbopkaa.Rs
open Go Go.RowKit Rf YtpbhkdamkbopkaaW.PrintWords Go.Proofs.Ytpbhkdamkbopkaa GPix
set_option maxRecDepth 10000
set_option maxHeartbeats 4000000
variable {O:Orc}
theorem pixel_head_sp (k:Nat) (Qg:ByteArray) (Qh:Int) (r:Int × Int × Int × List S89 × Int × ByteArray × Int) (H:pixel_head.f k Qg Qh=some r):Sp (KT:=kt) Try.prog O 83 [.v (.agg [.str Qg,.n Qh])] [] (.t [.agg [.n r.1,.n r.2.1,.n r.2.2.1,.sl 0 r.2.2.2.1.length],.c (.n r.2.2.2.2.1),.c (.str r.2.2.2.2.2.1),.c (.n r.2.2.2.2.2.2)]) [⟨.own 89 r.2.2.2.1,0,true⟩]:=by
 refine Sp.of tok (by kernel_rfl) Try.func83 rfl rfl fun Γ hnp=>?_;unfold pixel_head.f at H;refine WS.seq ?_;refine wrg ?_;refine wr 5 ?_;refine wn ?_;refine WS.seq ?_;refine wrg ?_;refine wr 1 ?_;refine wn ?_;refine WS.seq ?_;refine wrg ?_;refine wr 2 ?_;refine wn ?_;refine WS.seq ?_;refine wrg ?_;refine wr 1 ?_;refine wn ?_;refine WS.seq ?_;refine WS.seq ?_;refine wrg ?_;refine wr 1 ?_;obtain ⟨Qi,hbt234,H⟩:=bd H;refine WR.call (bits_Little_sp _ _ _ _ _ hbt234) [] rfl rfl rfl rfl rfl tv rfl rfl rfl rfl rfl ?_;refine wr 8 ?_;refine wn ?_;refine WS.seq ?_;refine wrg ?_;refine wr 2 ?_;refine wn ?_;refine WS.cond rfl (fun b1=>?_) (fun b1=>?_)
 ·
  rw [ifX b1] at H;replace b1:=nT b1;refine WS.seq ?_;refine wrg ?_;refine wr 6 ?_;refine wn ?_;refine WS.ret ?_;cases H;exact ⟨tv,[none],_,rfl,rfl,(n2 rfl tv),rfl,rfl,rfl⟩
 ·
  rw [ifXn b1] at H;replace b1:=nF b1;refine WS.skip ?_;refine WS.seq ?_;refine WS.seq ?_;refine wrg ?_;refine wr 1 ?_;obtain ⟨Qa,hbt238,H⟩:=bd H;refine WR.call (bits_Little_sp _ _ _ _ _ hbt238) [] rfl rfl rfl rfl rfl tv rfl rfl rfl rfl rfl ?_;refine wr 7 ?_;refine wn ?_;refine WS.seq ?_;refine wrg ?_;refine wr 2 ?_;refine wn ?_;refine WS.cond rfl (fun b2=>?_) (fun b2=>?_)
  ·
   rw [ifX b2] at H;replace b2:=nT b2;refine WS.seq ?_;refine wrg ?_;refine wr 6 ?_;refine wn ?_;refine WS.ret ?_;cases H;exact ⟨tv,[none],_,rfl,rfl,(n2 rfl tv),rfl,rfl,rfl⟩
  ·
   rw [ifXn b2] at H;replace b2:=nF b2;refine WS.skip ?_;refine WS.seq ?_;refine WS.join (fun ρ h=>∃ k1,∃ (g:Nat → SV) (x7:Int) (x8:Int) (x36:Bool) (Qb:ByteArray) (Qc:Int) (Qd:Int) (Qe:Int) (Qf:Int),k1≤k∧ρ=upds g [(7,c1 (.n x7)),(8,c1 (.n x8)),(36,c1 (.bool x36)),(0,.v (.agg [.str Qg,.n Qh])),(1,c1 (.ptr 0 0 0 0)),(2,c1 (.ptr 1 0 0 0)),(6,c1 (.ptr 2 0 0 0))]∧h=[⟨.box [.str Qb,.n Qc],0,true⟩,⟨.box [.n 0,.n 0,.n 0,.nils],1,true⟩,⟨.box [.n Qd,.n Qe,.n Qf,.nils],2,true⟩]∧pixel_head.j0 k1 x7 x8 x36 Qb Qc Qd Qe Qf=some r) ?_ ?_
   ·
    refine wrg ?_;refine wr 3 ?_;refine WR.split 33 rfl (fun b3=>?_) (fun b3=>?_)
    ·
     rw [ifX b3] at H;replace b3:=nT b3;refine wr 3 ?_;refine wn ?_;intro kk;refine wcut [some 0,some 1,some 2] [(7,c1 (.n Qa.1)),(8,c1 (.n 0)),(36,c1 (.bool ((Qa.1 != 5)))),(0,.v (.agg [.str Qg,.n Qh])),(1,c1 (.ptr 0 0 0 0)),(2,c1 (.ptr 1 0 0 0)),(6,c1 (.ptr 2 0 0 0))] [⟨.box [.str Qa.2.1,.n Qa.2.2.1],0,true⟩,⟨.box [.n 0,.n 0,.n 0,.nils],1,true⟩,⟨.box [.n Qi.1,.n 0,.n 0,.nils],2,true⟩] (n2 rfl (n2 rfl (n2 rfl (n2 rfl (n2 rfl (n2 rfl (n2 rfl tv))))))) (n2 (rw_ rfl rfl) (n2 (rw_ rfl rfl) (n2 (rw_ rfl rfl) tv))) (by rw [hnp];rfl) (fun g=>?_);exact kk _ _ ⟨_,g,_,_,_,_,_,_,_,_,by omega,rfl,rfl,H⟩
    ·
     rw [ifXn b3] at H;replace b3:=nF b3;refine wr 3 ?_;refine wn ?_;intro kk;refine wcut [some 0,some 1,some 2] [(7,c1 (.n Qa.1)),(8,c1 (.n 0)),(36,c1 (.bool false)),(0,.v (.agg [.str Qg,.n Qh])),(1,c1 (.ptr 0 0 0 0)),(2,c1 (.ptr 1 0 0 0)),(6,c1 (.ptr 2 0 0 0))] [⟨.box [.str Qa.2.1,.n Qa.2.2.1],0,true⟩,⟨.box [.n 0,.n 0,.n 0,.nils],1,true⟩,⟨.box [.n Qi.1,.n 0,.n 0,.nils],2,true⟩] (n2 rfl (n2 rfl (n2 rfl (n2 rfl (n2 rfl (n2 rfl (n2 rfl tv))))))) (n2 (rw_ rfl rfl) (n2 (rw_ rfl rfl) (n2 (rw_ rfl rfl) tv))) (by rw [hnp];rfl) (fun g=>?_);exact kk _ _ ⟨_,g,_,_,_,_,_,_,_,_,by omega,rfl,rfl,H⟩
   rintro ρ h ⟨k,g,x7,x8,x36,Qb,Qc,Qd,Qe,Qf,hk4,rfl,rfl,H⟩
   rcases k with _ | k
   ·exact nn H
   simp only [pixel_head.j0] at H;refine WS.cond rfl (fun b5=>?_) (fun b5=>?_)
   ·
    rw [ifB b5] at H;refine WS.seq ?_;refine wrg ?_;refine wr 5 ?_;refine wn ?_;refine WS.ret ?_;cases H;exact ⟨tv,[none],_,rfl,rfl,(n2 rfl tv),rfl,rfl,rfl⟩
   ·
    rw [ifBn b5] at H;refine WS.skip ?_;refine WS.seq ?_;refine WS.seq ?_;refine wrg ?_;refine wr 1 ?_;obtain ⟨bt242,hbt242,H⟩:=bd H;refine WR.call (bits_Little_sp _ _ _ _ _ hbt242) [] rfl rfl rfl rfl rfl tv rfl rfl rfl rfl rfl ?_;refine wr 8 ?_;refine wn ?_;refine WS.seq ?_;refine wrg ?_;refine wr 2 ?_;refine wn ?_;refine WS.cond rfl (fun b6=>?_) (fun b6=>?_)
    ·
     rw [ifX b6] at H;replace b6:=nT b6;refine WS.seq ?_;refine wrg ?_;refine wr 6 ?_;refine wn ?_;refine WS.ret ?_;cases H;exact ⟨tv,[none],_,rfl,rfl,(n2 rfl tv),rfl,rfl,rfl⟩
    ·
     rw [ifXn b6] at H;replace b6:=nF b6;refine WS.skip ?_;refine WS.seq ?_;refine WS.seq ?_;refine wrg ?_;refine wr 1 ?_;obtain ⟨bt246,hbt246,H⟩:=bd H;refine WR.call (bits_Little_sp _ _ _ _ _ hbt246) [] rfl rfl rfl rfl rfl tv rfl rfl rfl rfl rfl ?_;refine wr 8 ?_;refine wn ?_;refine WS.seq ?_;refine wrg ?_;refine wr 2 ?_;refine wn ?_;refine WS.cond rfl (fun b7=>?_) (fun b7=>?_)
     ·
      rw [ifX b7] at H;replace b7:=nT b7;refine WS.seq ?_;refine wrg ?_;refine wr 6 ?_;refine wn ?_;refine WS.ret ?_;cases H;exact ⟨tv,[none],_,rfl,rfl,(n2 rfl tv),rfl,rfl,rfl⟩
     ·
      rw [ifXn b7] at H;replace b7:=nF b7;refine WS.skip ?_;refine WS.seq ?_;refine WS.seq ?_;refine wrg ?_;refine wr 2 ?_;refine wn ?_;refine WS.cond rfl (fun b8=>?_) (fun b8=>?_)
      ·
       rw [ifE b8] at H;replace b8:=eq_of_beq b8;refine WS.seq ?_;refine WS.seq ?_;refine wrg ?_;refine wr 1 ?_;obtain ⟨bt250,hbt250,H⟩:=bd H;refine WR.call (bits_Little_sp _ _ _ _ _ hbt250) [] rfl rfl rfl rfl rfl tv rfl rfl rfl rfl rfl ?_;refine wr 7 ?_;refine wn ?_;refine WS.seq ?_;refine wrg ?_;refine wr 2 ?_;refine wn ?_;refine WS.cond rfl (fun b9=>?_) (fun b9=>?_)
       ·
        rw [ifX b9] at H;replace b9:=nT b9;refine WS.seq ?_;refine wrg ?_;refine wr 6 ?_;refine wn ?_;refine WS.ret ?_;cases H;exact ⟨tv,[none],_,rfl,rfl,(n2 rfl tv),rfl,rfl,rfl⟩
       ·
        rw [ifXn b9] at H;replace b9:=nF b9;refine WS.skip ?_;refine wrg ?_;refine wr 3 ?_;refine wn ?_;refine WS.seq ?_;refine WS.seq ?_;refine wrg ?_;refine wr 7 ?_;refine WR.split 80 rfl (fun b10=>?_) (fun b10=>?_)
        ·
         rw [ifP b10] at H;replace b10:=dT b10;refine wr 7 ?_;refine wn ?_;refine WS.cond rfl (fun _=>?_) (fun h=>nomatch h);refine WS.seq ?_;refine wrg ?_;refine wr 5 ?_;refine wn ?_;refine WS.ret ?_;cases H;exact ⟨tv,[none],_,rfl,rfl,(n2 rfl tv),rfl,rfl,rfl⟩
        ·
         rw [ifN b10] at H;replace b10:=dF b10;refine wr 7 ?_;refine wn ?_;refine WS.cond rfl (fun b12=>?_) (fun b12=>?_)
         ·
          rw [ifP b12] at H;replace b12:=dT b12;refine WS.seq ?_;refine wrg ?_;refine wr 5 ?_;refine wn ?_;refine WS.ret ?_;cases H;exact ⟨tv,[none],_,rfl,rfl,(n2 rfl tv),rfl,rfl,rfl⟩
         ·
          rw [ifN b12] at H;replace b12:=dF b12;refine WS.skip ?_;refine WS.seq ?_;refine wrg ?_;obtain ⟨g13,H⟩:=gd H;obtain ⟨g14,H⟩:=gd H;refine wr 12 ?_;refine wn ?_;refine WS.ret ?_;cases H;exact ⟨tv,[none],_,rfl,rfl,(n2 rfl tv),rfl,rfl,rfl⟩
      ·
       rw [ifEn b8] at H;replace b8:=bF b8;refine WS.skip ?_;refine WS.seq ?_;refine WS.seq ?_;refine wrg ?_;refine wr 7 ?_;refine WR.split 80 rfl (fun b15=>?_) (fun b15=>?_)
       ·
        rw [ifP b15] at H;replace b15:=dT b15;refine wr 7 ?_;refine wn ?_;refine WS.cond rfl (fun _=>?_) (fun h=>nomatch h);refine WS.seq ?_;refine wrg ?_;refine wr 5 ?_;refine wn ?_;refine WS.ret ?_;cases H;exact ⟨tv,[none],_,rfl,rfl,(n2 rfl tv),rfl,rfl,rfl⟩
       ·
        rw [ifN b15] at H;replace b15:=dF b15;refine wr 7 ?_;refine wn ?_;refine WS.cond rfl (fun b17=>?_) (fun b17=>?_)
        ·
         rw [ifP b17] at H;replace b17:=dT b17;refine WS.seq ?_;refine wrg ?_;refine wr 5 ?_;refine wn ?_;refine WS.ret ?_;cases H;exact ⟨tv,[none],_,rfl,rfl,(n2 rfl tv),rfl,rfl,rfl⟩
        ·
         rw [ifN b17] at H;replace b17:=dF b17;refine WS.skip ?_;refine WS.seq ?_;refine wrg ?_;obtain ⟨g18,H⟩:=gd H;obtain ⟨g19,H⟩:=gd H;refine wr 12 ?_;refine wn ?_;refine WS.ret ?_;cases H;exact ⟨tv,[none],_,rfl,rfl,(n2 rfl tv),rfl,rfl,rfl⟩
end Go.Proofs.Ytpbhkdamkbopkaa.Rs
namespace Go.Proofs.Ytpbhkdamkbopkaa.PR
open Go.RowKit GPix YtpbhkdamkbopkaaW.PrintWords
def pix_no.f (a0_0:Int) (a0_1:Int) (a0_2:Int) (a0_3:Int):Option (Bool):=(pixel_faint.f 6 a0_0 a0_1 a0_2 a0_3).bind fun t4=>(some (!t4))
def pix_idx.l0:Nat → List S89 → Int → Int → Option (Int)
 |0,_,_,_=>none
 |k+1,x0,x7,x8=>if x8 < x7 then (if 0≤x8 then (if x8 < (x0.length:Int) then ((pix_no.f (rd_T89 x0 x8).f0 (rd_T89 x0 x8).f1 (rd_T89 x0 x8).f2 (rd_T89 x0 x8).f3).bind fun t16=>(if t16=true then (some (x8)) else (pix_idx.l0 k x0 x7 (wrap64 (x8+1))))) else (none)) else (none)) else (some (-1))
def pix_idx.f (k:Nat) (l0:List S89):Option (Int):=pix_idx.l0 k l0 (l0.length:Int) 0
def pix_has.f (k:Nat) (l0:List S89):Option (Bool):=(pix_idx.f k l0).bind fun t7=>(some (decide (t7 ≥ 0)))
def pixel_Right.f (k:Nat) (a0_0:Int) (a0_1:Int) (a0_2:Int) (l0_3:List S89):Option (Bool):=if a0_0 ≥ 0 then (if a0_0 < 65536 then (if a0_1 ≥ 1 then (if a0_1≤64 then (if a0_2 ≥ 1 then (if a0_2≤64 then (if (l0_3.length:Int)=(wrap64 (a0_1*a0_2)) then ((pix_has.f k l0_3).bind fun t45=>(some (!t45))) else (some (false))) else (some (false))) else (some (false))) else (some (false))) else (some (false))) else (some (false))) else (some (false))
end Go.Proofs.Ytpbhkdamkbopkaa.PR
namespace Go.Proofs.Ytpbhkdamkbopkaa.GPixb
open Go.RowKit GPix PR GBack2 YtpbhkdamkbopkaaW.PrintWords
def pixel_Take.f (k:Nat) (a0:ByteArray):Option (Int × Int × Int × (List (S89)) × Int):=(pixel_head.f k a0 0).bind fun bt231=>(if bt231.2.2.2.2.2.2=0 then ((inflate_Open.f k bt231.2.2.2.2.2.1 262144).bind fun bt241=>(if bt241.2=0 then (if bt231.2.2.2.2.1 > 0 then ((pixel_numbered.f k bt241.1 bt231.2.2.2.2.1 bt231.2.1 bt231.2.2.1).bind fun bt243=>(if bt243.2=true then ((pixel_Right.f k bt231.1 bt231.2.1 bt231.2.2.1 bt243.1).bind fun t247=>(if t247=true then (some (bt231.1,bt231.2.1,bt231.2.2.1,bt243.1,0)) else (some (0,0,0,([]:List (S89)),3)))) else (some (0,0,0,([]:List (S89)),3)))) else ((pixel_plain.f k bt241.1 (wrap64 (bt231.2.1*bt231.2.2.1))).bind fun bt248=>(if bt248.2=true then ((pixel_Right.f k bt231.1 bt231.2.1 bt231.2.2.1 bt248.1).bind fun t252=>(if t252=true then (some (bt231.1,bt231.2.1,bt231.2.2.1,bt248.1,0)) else (some (0,0,0,([]:List (S89)),3)))) else (some (0,0,0,([]:List (S89)),3))))) else (some (0,0,0,([]:List (S89)),bt241.2)))) else (some (0,0,0,([]:List (S89)),bt231.2.2.2.2.2.2)))
def pixel_Pixel.f (k:Nat) (a0_0:Int) (a0_1:Int) (a0_2:Int) (l0_3:List (S89)) (a1:Int) (a2:Int):Option (Int × Int × Int × Int):=(pixel_Right.f k a0_0 a0_1 a0_2 l0_3).bind fun t255=>(if t255=true then (if a1 < 0 then (some (0,0,0,0)) else (if a2 < 0 then (some (0,0,0,0)) else (if a1 ≥ a0_1 then (some (0,0,0,0)) else (if a2 ≥ a0_2 then (some (0,0,0,0)) else (if 0≤(wrap64 ((wrap64 (a2*a0_1))+a1)) then (if (wrap64 ((wrap64 (a2*a0_1))+a1)) < (l0_3.length:Int) then (some ((rd_T89 l0_3 (wrap64 ((wrap64 (a2*a0_1))+a1))).f0,(rd_T89 l0_3 (wrap64 ((wrap64 (a2*a0_1))+a1))).f1,(rd_T89 l0_3 (wrap64 ((wrap64 (a2*a0_1))+a1))).f2,(rd_T89 l0_3 (wrap64 ((wrap64 (a2*a0_1))+a1))).f3)) else (none)) else (none)))))) else (some (0,0,0,0)))
end Go.Proofs.Ytpbhkdamkbopkaa.GPixb
namespace Go.Proofs.Ytpbhkdamkbopkaa.Rs
open Go Go.RowKit Rf YtpbhkdamkbopkaaW.PrintWords Go.Proofs.Ytpbhkdamkbopkaa PR GPixb GPix
set_option maxRecDepth 10000
set_option maxHeartbeats 4000000
variable {O:Orc}
theorem pix_no_sp (Qa:Int) (Qb:Int) (Qc:Int) (Qd:Int) (r:Bool) (H:pix_no.f Qa Qb Qc Qd=some r):Sp (KT:=kt) Try.prog O 81 [.v (.agg [.n Qa,.n Qb,.n Qc,.n Qd])] [] (c1 (.bool r)) []:=by
 refine Sp.of tok (by kernel_rfl) Try.func81 rfl rfl fun Γ hnp=>?_;unfold pix_no.f at H;refine WS.seq ?_;refine wrg ?_;refine wr 2 ?_;refine wn ?_;refine WS.seq ?_;refine wrg ?_;refine wr 1 ?_;obtain ⟨t4,ht4,H⟩:=bd H;refine WR.call (pixel_faint_sp _ _ _ _ _ _ ht4) [] rfl rfl rfl rfl rfl tv rfl rfl rfl rfl rfl ?_;refine wr 2 ?_;refine wn ?_;refine WS.ret ?_;cases H;exact ⟨tv,[],_,rfl,rfl,tv,rfl,rfl,rfl⟩
theorem pix_idx_sp (k:Nat) (l0:List S89) (r:Int) (H:pix_idx.f k l0=some r):Sp (KT:=kt) Try.prog O 103 [c1 (.sl 0 l0.length),.f 81 [] []] [⟨.view 89 l0,0,false⟩] (c1 (.n r)) [⟨.view 89 l0,0,false⟩]:=by
 refine Sp.of tok (by kernel_rfl) Try.func103 rfl rfl fun Γ hnp=>?_;unfold pix_idx.f at H;refine WS.seq ?_;refine wrg ?_;refine wr 1 ?_;refine wn ?_;refine WS.seq ?_;refine WS.seq ?_;refine wrg ?_;refine wr 3 ?_;refine wn ?_;refine WS.block ?_;refine wcut [some 0] [(0,c1 (.sl 0 l0.length)),(7,c1 (.n ((l0.length:Int)))),(8,c1 (.n 0)),(1,.f 81 [] [])] [⟨.view 89 l0,0,false⟩] (n2 rfl (n2 rfl (n2 rfl (n2 rfl tv)))) (n2 rfl tv) (by rw [hnp];rfl) (fun g=>?_);refine WS.loop (fun k1 ρ h=>∃ (g:Nat → SV) (x7:Int) (x8:Int),k1≤k∧ρ=upds g [(0,c1 (.sl 0 l0.length)),(7,c1 (.n x7)),(8,c1 (.n x8)),(1,.f 81 [] [])]∧h=[⟨.view 89 l0,0,false⟩]∧pix_idx.l0 k1 l0 x7 x8=some r) ?_ (n:=k) ⟨g,_,_,Nat.le_refl _,rfl,rfl,H⟩;rintro k ρ h ih1 ⟨g,x7,x8,hkih1,rfl,rfl,H⟩
 rcases k with _ | k
 ·exact nn H
 simp only [pix_idx.l0] at H;refine WS.seq ?_;refine wrg ?_;refine wr 1 ?_;refine wn ?_;refine WS.seq ?_;refine WS.cond rfl (fun b2=>?_) (fun b2=>?_)
 ·
  rw [ifP b2] at H;replace b2:=dT b2;refine WS.skip ?_;refine WS.seq ?_;refine WS.block ?_;refine WS.seq ?_;refine wrg ?_;refine wr 2 ?_;refine wn ?_;refine WS.seq ?_;refine wrg ?_;obtain ⟨g3,H⟩:=gd H;obtain ⟨g4,H⟩:=gd H;refine wr 5 ?_;obtain ⟨t16,ht16,H⟩:=bd H;refine WR.call (pix_no_sp _ _ _ _ _ ht16) [] rfl rfl rfl rfl rfl tv rfl rfl rfl rfl rfl ?_;refine wn ?_;refine WS.cond rfl (fun b5=>?_) (fun b5=>?_)
  ·
   rw [ifB b5] at H;refine WS.seq ?_;refine wrg ?_;refine wr 2 ?_;refine wn ?_;refine WS.ret ?_;cases H;exact ⟨tv,[some 0],_,rfl,rfl,(n2 rfl tv),rfl,rfl,rfl⟩
  ·
   rw [ifBn b5] at H;refine WS.skip ?_;refine wrg ?_;refine wr 2 ?_;refine wn ?_;refine wcut [some 0] [(0,c1 (.sl 0 l0.length)),(7,c1 (.n x7)),(8,c1 (.n ((wrap64 (x8+1))))),(1,.f 81 [] [])] [⟨.view 89 l0,0,false⟩] (n2 rfl (n2 rfl (n2 rfl (n2 rfl tv)))) (n2 rfl tv) (by rw [hnp];rfl) (fun g=>?_);exact ih1 k (by omega) _ _ ⟨g,_,_,by omega,rfl,rfl,H⟩
 ·
  rw [ifN b2] at H;replace b2:=dF b2;refine WS.exit ?_;refine WS.seq ?_;refine wrg ?_;refine wr 1 ?_;refine wn ?_;refine WS.ret ?_;cases H;exact ⟨tv,[some 0],_,rfl,rfl,(n2 rfl tv),rfl,rfl,rfl⟩
theorem pix_has_sp (k:Nat) (l0:List S89) (r:Bool) (H:pix_has.f k l0=some r):Sp (KT:=kt) Try.prog O 80 [c1 (.sl 0 l0.length),.f 81 [] []] [⟨.view 89 l0,0,false⟩] (c1 (.bool r)) [⟨.view 89 l0,0,false⟩]:=by
 refine Sp.of tok (by kernel_rfl) Try.func80 rfl rfl fun Γ hnp=>?_;unfold pix_has.f at H;refine WS.seq ?_;refine wrg ?_;refine wr 1 ?_;refine wn ?_;refine WS.seq ?_;refine wrg ?_;refine wr 2 ?_;obtain ⟨t7,ht7,H⟩:=bd H;refine WR.call (pix_idx_sp _ _ _ ht7) [some 0] rfl rfl rfl rfl rfl (n2 rfl tv) rfl rfl rfl rfl rfl ?_;refine wr 2 ?_;refine wn ?_;refine WS.ret ?_;cases H;exact ⟨tv,[some 0],_,rfl,rfl,(n2 rfl tv),rfl,rfl,rfl⟩
theorem pixel_Right_sp (k:Nat) (Qb:Int) (Qc:Int) (Qd:Int) (Qa:List S89) (r:Bool) (H:pixel_Right.f k Qb Qc Qd Qa=some r):Sp (KT:=kt) Try.prog O 53 [.v (.agg [.n Qb,.n Qc,.n Qd,.sl 0 Qa.length])] [⟨.view 89 Qa,0,false⟩] (c1 (.bool r)) [⟨.view 89 Qa,0,false⟩]:=by
 refine Sp.of tok (by kernel_rfl) Try.func53 rfl rfl fun Γ hnp=>?_;unfold pixel_Right.f at H;refine WS.seq ?_;refine wrg ?_;refine wr 2 ?_;refine wn ?_;refine WS.seq ?_;refine wrg ?_;refine wr 4 ?_;refine WR.split 6 rfl (fun b1=>?_) (fun b1=>?_)
 ·
  rw [ifP b1] at H;replace b1:=dT b1;refine wr 5 ?_;refine WR.split 11 rfl (fun b2=>?_) (fun b2=>?_)
  ·
   rw [ifP b2] at H;replace b2:=dT b2;refine wr 5 ?_;refine WR.split 16 rfl (fun b3=>?_) (fun b3=>?_)
   ·
    rw [ifP b3] at H;replace b3:=dT b3;refine wr 5 ?_;refine WR.split 21 rfl (fun b4=>?_) (fun b4=>?_)
    ·
     rw [ifP b4] at H;replace b4:=dT b4;refine wr 5 ?_;refine WR.split 26 rfl (fun b5=>?_) (fun b5=>?_)
     ·
      rw [ifP b5] at H;replace b5:=dT b5;refine wr 5 ?_;refine WR.split 31 rfl (fun b6=>?_) (fun b6=>?_)
      ·
       rw [ifP b6] at H;replace b6:=dT b6;refine wr 11 ?_;refine WR.split 42 rfl (fun b7=>?_) (fun b7=>?_)
       ·
        rw [ifE b7] at H;replace b7:=eq_of_beq b7;refine wr 2 ?_;obtain ⟨t45,ht45,H⟩:=bd H;refine WR.call (pix_has_sp _ _ _ ht45) [some 0] rfl rfl rfl rfl rfl (n2 rfl tv) rfl rfl rfl rfl rfl ?_;refine wr 3 ?_;refine wn ?_;refine WS.ret ?_;cases H;exact ⟨tv,[some 0],_,rfl,rfl,(n2 rfl tv),rfl,rfl,rfl⟩
       ·
        rw [ifEn b7] at H;replace b7:=bF b7;refine wr 6 ?_;refine wn ?_;refine WS.ret ?_;cases H;exact ⟨tv,[some 0],_,rfl,rfl,(n2 rfl tv),rfl,rfl,rfl⟩
      ·
       rw [ifN b6] at H;replace b6:=dF b6;refine wr 17 ?_;refine wn ?_;refine WS.ret ?_;cases H;exact ⟨tv,[some 0],_,rfl,rfl,(n2 rfl tv),rfl,rfl,rfl⟩
     ·
      rw [ifN b5] at H;replace b5:=dF b5;refine wr 22 ?_;refine wn ?_;refine WS.ret ?_;cases H;exact ⟨tv,[some 0],_,rfl,rfl,(n2 rfl tv),rfl,rfl,rfl⟩
    ·
     rw [ifN b4] at H;replace b4:=dF b4;refine wr 27 ?_;refine wn ?_;refine WS.ret ?_;cases H;exact ⟨tv,[some 0],_,rfl,rfl,(n2 rfl tv),rfl,rfl,rfl⟩
   ·
    rw [ifN b3] at H;replace b3:=dF b3;refine wr 32 ?_;refine wn ?_;refine WS.ret ?_;cases H;exact ⟨tv,[some 0],_,rfl,rfl,(n2 rfl tv),rfl,rfl,rfl⟩
  ·
   rw [ifN b2] at H;replace b2:=dF b2;refine wr 37 ?_;refine wn ?_;refine WS.ret ?_;cases H;exact ⟨tv,[some 0],_,rfl,rfl,(n2 rfl tv),rfl,rfl,rfl⟩
 ·
  rw [ifN b1] at H;replace b1:=dF b1;refine wr 42 ?_;refine wn ?_;refine WS.ret ?_;cases H;exact ⟨tv,[some 0],_,rfl,rfl,(n2 rfl tv),rfl,rfl,rfl⟩
theorem pixel_Take_sp (k:Nat) (a0:ByteArray) (r:Int × Int × Int × List S89 × Int) (H:pixel_Take.f k a0=some r):Sp (KT:=kt) Try.prog O 54 [c1 (.str a0)] [] (.t [.agg [.n r.1,.n r.2.1,.n r.2.2.1,.sl 0 r.2.2.2.1.length],.c (.n r.2.2.2.2)]) [⟨.own 89 r.2.2.2.1,0,true⟩]:=by
 refine Sp.of tok (by kernel_rfl) Try.func54 rfl rfl fun Γ hnp=>?_;unfold pixel_Take.f at H;refine WS.seq ?_;refine wrg ?_;refine wr 2 ?_;refine wn ?_;refine WS.seq ?_;refine wrg ?_;refine wr 2 ?_;obtain ⟨bt231,hbt231,H⟩:=bd H;refine WR.call (pixel_head_sp _ _ _ _ hbt231) [] rfl rfl rfl rfl rfl tv rfl rfl rfl rfl rfl ?_;refine wr 10 ?_;refine wn ?_;refine WS.seq ?_;refine WS.seq ?_;refine wrg ?_;refine wr 2 ?_;refine wn ?_;refine WS.cond rfl (fun b1=>?_) (fun b1=>?_)
 ·
  rw [ifX b1] at H;replace b1:=nT b1;refine WS.seq ?_;refine wrg ?_;refine wr 4 ?_;refine wn ?_;refine WS.ret ?_;cases H;exact ⟨tv,[none],_,rfl,rfl,(n2 rfl tv),rfl,rfl,rfl⟩
 ·
  rw [ifXn b1] at H;replace b1:=nF b1;refine WS.skip ?_;refine WS.seq ?_;refine wrg ?_;refine wr 1 ?_;obtain ⟨bt241,hbt241,H⟩:=bd H;refine WR.call (inflate_Open_sp _ _ _ _ hbt241) [] rfl rfl rfl rfl rfl tv rfl rfl rfl rfl rfl ?_;refine wr 5 ?_;refine wn ?_;refine WS.seq ?_;refine WS.seq ?_;refine wrg ?_;refine wr 2 ?_;refine wn ?_;refine WS.cond rfl (fun b2=>?_) (fun b2=>?_)
  ·
   rw [ifX b2] at H;replace b2:=nT b2;refine WS.seq ?_;refine wrg ?_;refine wr 4 ?_;refine wn ?_;refine WS.ret ?_;cases H;exact ⟨tv,[none],_,rfl,rfl,(n2 rfl tv),rfl,rfl,rfl⟩
  ·
   rw [ifXn b2] at H;replace b2:=nF b2;refine WS.skip ?_;refine WS.seq ?_;refine wrg ?_;refine wr 1 ?_;refine wn ?_;refine WS.seq ?_;refine WS.seq ?_;refine wrg ?_;refine wr 2 ?_;refine wn ?_;refine WS.cond rfl (fun b3=>?_) (fun b3=>?_)
   ·
    rw [ifP b3] at H;replace b3:=dT b3;refine wrg ?_;refine wr 6 ?_;obtain ⟨bt243,hbt243,H⟩:=bd H;refine WR.call (pixel_numbered_sp _ _ _ _ _ _ hbt243) [] rfl rfl rfl rfl rfl tv rfl rfl rfl rfl rfl ?_;refine wr 6 ?_;refine wn ?_;refine WS.seq ?_;refine WS.seq ?_;refine wrg ?_;refine wr 3 ?_;refine WR.split 57 rfl (fun b4=>?_) (fun b4=>?_)
    ·
     rw [ifZ b4] at H;refine wr 4 ?_;refine wn ?_;refine WS.cond rfl (fun _=>?_) (fun h=>nomatch h);refine WS.seq ?_;refine wrg ?_;refine wr 3 ?_;refine wn ?_;refine WS.ret ?_;cases H;exact ⟨tv,[none],_,rfl,rfl,(n2 rfl tv),rfl,rfl,rfl⟩
    ·
     rw [ifZn b4] at H;refine wr 1 ?_;obtain ⟨t247,ht247,H⟩:=bd H;refine WR.call (pixel_Right_sp _ _ _ _ _ _ ht247) [some 3] rfl rfl rfl rfl rfl (n2 rfl tv) rfl rfl rfl rfl rfl ?_;refine wr 2 ?_;refine wn ?_;refine WS.cond rfl (fun b6=>?_) (fun b6=>?_)
     ·
      rw [ifZ b6] at H;refine WS.seq ?_;refine wrg ?_;refine wr 3 ?_;refine wn ?_;refine WS.ret ?_;cases H;exact ⟨tv,[none],_,rfl,rfl,(n2 rfl tv),rfl,rfl,rfl⟩
     ·
      rw [ifZn b6] at H;refine WS.skip ?_;refine WS.seq ?_;refine wrg ?_;refine wr 3 ?_;refine wn ?_;refine WS.ret ?_;cases H;exact ⟨tv,[some 3],_,rfl,rfl,(n2 (rw_ rfl rfl) tv),rfl,rfl,rfl⟩
   ·
    rw [ifN b3] at H;replace b3:=dF b3;refine wrg ?_;refine wr 6 ?_;obtain ⟨bt248,hbt248,H⟩:=bd H;refine WR.call (pixel_plain_sp _ _ _ _ hbt248) [] rfl rfl rfl rfl rfl tv rfl rfl rfl rfl rfl ?_;refine wr 6 ?_;refine wn ?_;refine WS.seq ?_;refine WS.seq ?_;refine wrg ?_;refine wr 3 ?_;refine WR.split 57 rfl (fun b7=>?_) (fun b7=>?_)
    ·
     rw [ifZ b7] at H;refine wr 4 ?_;refine wn ?_;refine WS.cond rfl (fun _=>?_) (fun h=>nomatch h);refine WS.seq ?_;refine wrg ?_;refine wr 3 ?_;refine wn ?_;refine WS.ret ?_;cases H;exact ⟨tv,[none],_,rfl,rfl,(n2 rfl tv),rfl,rfl,rfl⟩
    ·
     rw [ifZn b7] at H;refine wr 1 ?_;obtain ⟨t252,ht252,H⟩:=bd H;refine WR.call (pixel_Right_sp _ _ _ _ _ _ ht252) [some 3] rfl rfl rfl rfl rfl (n2 rfl tv) rfl rfl rfl rfl rfl ?_;refine wr 2 ?_;refine wn ?_;refine WS.cond rfl (fun b9=>?_) (fun b9=>?_)
     ·
      rw [ifZ b9] at H;refine WS.seq ?_;refine wrg ?_;refine wr 3 ?_;refine wn ?_;refine WS.ret ?_;cases H;exact ⟨tv,[none],_,rfl,rfl,(n2 rfl tv),rfl,rfl,rfl⟩
     ·
      rw [ifZn b9] at H;refine WS.skip ?_;refine WS.seq ?_;refine wrg ?_;refine wr 3 ?_;refine wn ?_;refine WS.ret ?_;cases H;exact ⟨tv,[some 3],_,rfl,rfl,(n2 (rw_ rfl rfl) tv),rfl,rfl,rfl⟩
theorem pixel_Pixel_sp (k:Nat) (Qb:Int) (Qc:Int) (Qd:Int) (Qa:List (S89)) (a1:Int) (a2:Int) (r:Int × Int × Int × Int) (H:pixel_Pixel.f k Qb Qc Qd Qa a1 a2=some r):Sp (KT:=kt) Try.prog O 58 [.v (.agg [.n Qb,.n Qc,.n Qd,.sl 0 Qa.length]),c1 (.n a1),c1 (.n a2)] [⟨.view 89 Qa,0,false⟩] (.v (.agg [.n r.1,.n r.2.1,.n r.2.2.1,.n r.2.2.2])) [⟨.view 89 Qa,0,false⟩]:=by
 refine Sp.of tok (by kernel_rfl) Try.func58 rfl rfl fun Γ hnp=>?_;unfold pixel_Pixel.f at H;refine WS.seq ?_;refine wrg ?_;refine wr 2 ?_;refine wn ?_;refine WS.seq ?_;refine WS.seq ?_;refine wrg ?_;refine wr 1 ?_;obtain ⟨t255,ht255,H⟩:=bd H;refine WR.call (pixel_Right_sp _ _ _ _ _ _ ht255) [some 0] rfl rfl rfl rfl rfl (n2 rfl tv) rfl rfl rfl rfl rfl ?_;refine wr 2 ?_;refine WR.split 10 rfl (fun b1=>?_) (fun b1=>?_)
 ·
  rw [ifZ b1] at H;refine wr 19 ?_;refine wn ?_;refine WS.cond rfl (fun _=>?_) (fun h=>nomatch h);refine WS.seq ?_;refine wrg ?_;refine wr 2 ?_;refine wn ?_;refine WS.ret ?_;cases H;exact ⟨tv,[some 0],_,rfl,rfl,(n2 rfl tv),rfl,rfl,rfl⟩
 ·
  rw [ifZn b1] at H;refine wr 4 ?_;refine WR.split 14 rfl (fun b3=>?_) (fun b3=>?_)
  ·
   rw [ifP b3] at H;replace b3:=dT b3;refine wr 15 ?_;refine wn ?_;refine WS.cond rfl (fun _=>?_) (fun h=>nomatch h);refine WS.seq ?_;refine wrg ?_;refine wr 2 ?_;refine wn ?_;refine WS.ret ?_;cases H;exact ⟨tv,[some 0],_,rfl,rfl,(n2 rfl tv),rfl,rfl,rfl⟩
  ·
   rw [ifN b3] at H;replace b3:=dF b3;refine wr 4 ?_;refine WR.split 18 rfl (fun b5=>?_) (fun b5=>?_)
   ·
    rw [ifP b5] at H;replace b5:=dT b5;refine wr 11 ?_;refine wn ?_;refine WS.cond rfl (fun _=>?_) (fun h=>nomatch h);refine WS.seq ?_;refine wrg ?_;refine wr 2 ?_;refine wn ?_;refine WS.ret ?_;cases H;exact ⟨tv,[some 0],_,rfl,rfl,(n2 rfl tv),rfl,rfl,rfl⟩
   ·
    rw [ifN b5] at H;replace b5:=dF b5;refine wr 6 ?_;refine WR.split 24 rfl (fun b7=>?_) (fun b7=>?_)
    ·
     rw [ifP b7] at H;replace b7:=dT b7;refine wr 5 ?_;refine wn ?_;refine WS.cond rfl (fun _=>?_) (fun h=>nomatch h);refine WS.seq ?_;refine wrg ?_;refine wr 2 ?_;refine wn ?_;refine WS.ret ?_;cases H;exact ⟨tv,[some 0],_,rfl,rfl,(n2 rfl tv),rfl,rfl,rfl⟩
    ·
     rw [ifN b7] at H;replace b7:=dF b7;refine wr 5 ?_;refine wn ?_;refine WS.cond rfl (fun b9=>?_) (fun b9=>?_)
     ·
      rw [ifP b9] at H;replace b9:=dT b9;refine WS.seq ?_;refine wrg ?_;refine wr 2 ?_;refine wn ?_;refine WS.ret ?_;cases H;exact ⟨tv,[some 0],_,rfl,rfl,(n2 rfl tv),rfl,rfl,rfl⟩
     ·
      rw [ifN b9] at H;replace b9:=dF b9;refine WS.skip ?_;refine WS.seq ?_;refine wrg ?_;obtain ⟨g10,H⟩:=gd H;obtain ⟨g11,H⟩:=gd H;refine wr 11 ?_;refine wn ?_;refine WS.ret ?_;cases H;exact ⟨tv,[some 0],_,rfl,rfl,(n2 rfl tv),rfl,rfl,rfl⟩
end Go.Proofs.Ytpbhkdamkbopkaa.Rs
namespace Go.Proofs.Ytpbhkdamkbopkaa.Rf
open Go
structure PV (μ:Mu) (h:Nat → Option AObj) (w:World) (μ':Mu) (h':Nat → Option AObj) (w':World):Prop where
 ext:Ext μ μ'
 rel:Rel μ' h' w'
 os:w'.os=w.os
 tape:w'.tape=w.tape
 output:w'.output=w.output
 size:w.heap.size≤w'.heap.size
 fr:∀ β,β < w.heap.size → ¬ Tch μ h β → w'.heap[β]?=w.heap[β]?
 tch:∀ β,β < w.heap.size → Tch μ' h' β → Tch μ h β
theorem PV.refl {μ:Mu} {h:Nat → Option AObj} {w:World} (R:Rel μ h w):PV μ h w μ h w:=⟨Ext.refl μ,R,rfl,rfl,rfl,Nat.le_refl _,fun _ _ _=>rfl,fun _ _ h=>h⟩
theorem PV.trans {μ μ1 μ2:Mu} {h h1 h2:Nat → Option AObj} {w w1 w2:World} (p:PV μ h w μ1 h1 w1) (k:PV μ1 h1 w1 μ2 h2 w2):PV μ h w μ2 h2 w2 where
 ext:=p.ext.trans k.ext
 rel:=k.rel
 os:=k.os.trans p.os
 tape:=k.tape.trans p.tape
 output:=k.output.trans p.output
 size:=Nat.le_trans p.size k.size
 fr β hb ht:=(k.fr β (Nat.lt_of_lt_of_le hb p.size) fun t=>ht (p.tch β hb t)).trans (p.fr β hb ht)
 tch β hb t:=p.tch β hb (k.tch β (Nat.lt_of_lt_of_le hb p.size) t)
theorem Rel.congr {μ:Mu} {h h':Nat → Option AObj} {w:World} (R:Rel μ h w) (e:∀ b,μ b ≠ none → h' b=h b):Rel μ h' w :=
 R.keep (Nat.le_refl _) fun b o hb ho _=>⟨(e b hb).symm.trans ho,fun _ _=>rfl⟩
theorem Tch.congr {μ:Mu} {h h':Nat → Option AObj} {β:Nat} (t:Tch μ h β) (e:∀ b,μ b ≠ none → h' b=h b):Tch μ h' β:=by
 obtain ⟨b,m,e1,e2,e3⟩:=t;refine ⟨b,m,e1,e2,?_⟩;rw [e b (by rw [e1];simp)];exact e3
theorem PV.congr {μ μ':Mu} {h h1 h1':Nat → Option AObj} {w w':World} (p:PV μ h w μ' h1 w') (e:∀ b,μ' b ≠ none → h1' b=h1 b):PV μ h w μ' h1' w' :=
 ⟨p.ext,p.rel.congr e,p.os,p.tape,p.output,p.size,p.fr,fun β hb t=>p.tch β hb (t.congr fun b hb=>(e b hb).symm)⟩
def over (h' h:Nat → Option AObj):Nat → Option AObj:=fun b=>match h' b with | some o=>some o | none=>h b
theorem over_some {h' h:Nat → Option AObj} {b:Nat} {o:AObj} (e:h' b=some o):over h' h b=some o:=by unfold over;rw [e]
theorem over_none {h' h:Nat → Option AObj} {b:Nat} (e:h' b=none):over h' h b=h b:=by unfold over;rw [e]
theorem live_of {h:Nat → Option AObj} {b:Nat} {o:AObj} (e:h b=some o) (hd:o ≠ .dead):live h b:=by
 cases o with
 |row r=>exact .inl ⟨r,e⟩
 |map es c=>exact .inr (.inl ⟨es,c,e⟩)
 |iter i s n l=>exact .inr (.inr ⟨i,s,n,l,e⟩)
 |dead=>exact absurd rfl hd
theorem live_obj {h:Nat → Option AObj} {b:Nat} (l:live h b):∃ o,h b=some o∧o ≠ .dead:=by
 rcases l with ⟨r,e⟩ | ⟨es,c,e⟩ | ⟨i,s,n,l,e⟩
 ·exact ⟨_,e,by simp⟩
 ·exact ⟨_,e,by simp⟩
 ·exact ⟨_,e,by simp⟩
theorem sub_rel {μ:Mu} {h:Nat → Option AObj} {w:World} {Λ:AW} (R:Rel μ h w) (sub:∀ b,μ b ≠ none → Λ.heap.get b=none ∨ Λ.heap.get b=h b):Rel μ Λ.heap.get w :=
 R.keep (Nat.le_refl _) fun b o hb ho _=>by
  rcases sub b hb with e | e
  ·rw [e] at ho;cases ho
  ·exact ⟨e.symm.trans ho,fun _ _=>rfl⟩
theorem PV.merge {μ μ':Mu} {h:Nat → Option AObj} {w w':World} {Λ Λ':AW} (R:Rel μ h w) (sub:∀ b,μ b ≠ none → Λ.heap.get b=none ∨ Λ.heap.get b=h b) (p:Post μ Λ w μ' Λ' w') (wf:WF Λ) (st:AStep Λ Λ'):PV μ h w μ' (over Λ'.heap.get h) w':=by
 have old:∀ b m,μ' b=some m → Λ'.heap.get b=none → μ b=some m∧Λ.heap.get b=none:=fun b m e e0=>by
  have hl:Λ.heap.get b=none:=by
   cases q:Λ.heap.get b with
   |none=>rfl
   |some o=>exact absurd e0 (st.dom b (by rw [q];simp))
  rcases p.fresh b m e with q | ⟨q1,q2⟩
  ·exact ⟨q,hl⟩
  ·exact absurd e0 (st.fill b q1 q2)
 have up:∀ β,Tch μ Λ.heap.get β → Tch μ h β:=fun β ⟨b,m,e1,e2,e3⟩=>by
  refine ⟨b,m,e1,e2,?_⟩
  rcases sub b (by rw [e1];simp) with q | q
  ·rw [q] at e3;rcases e3 with ⟨r,x,_⟩ | ⟨_,_,x⟩ | ⟨_,_,_,_,x⟩ <;> cases x
  ·rw [← q];exact e3
 have stays:∀ b m o,μ b=some m → Λ.heap.get b=none → h b=some o → o ≠ .dead → ¬ Tch μ Λ.heap.get m.blk:=fun b m o e e0 ho hd t=>by
  obtain ⟨b2,m2,f1,f2,f3⟩:=t
  obtain ⟨o2,g1,g2⟩:∃ o2,Λ.heap.get b2=some o2∧o2 ≠ .dead:=by
   rcases f3 with ⟨r,x,_⟩ | ⟨es,c,x⟩ | ⟨i,s,n,l,x⟩
   ·exact ⟨_,x,by simp⟩
   ·exact ⟨_,x,by simp⟩
   ·exact ⟨_,x,by simp⟩
  have g3:h b2=some o2:=by
   rcases sub b2 (by rw [f1];simp) with q | q
   ·rw [q] at g1;cases g1
   ·rw [← q];exact g1
  have:=R.inj b2 b m2 m f1 e (live_of g3 g2) (live_of ho hd) f2;subst this;rw [e0] at g1;cases g1
 have cell:∀ b m o,μ' b=some m → Λ'.heap.get b=none → h b=some o → o ≠ .dead → μ b=some m∧w'.heap[m.blk]?=w.heap[m.blk]?:=fun b m o e e0 ho hd=>by
  obtain ⟨q1,q2⟩:=old b m e e0;exact ⟨q1,p.fr _ (R.blk b m q1) (stays b m o q1 q2 ho hd)⟩
 have pick:∀ b o,over Λ'.heap.get h b=some o → Λ'.heap.get b=some o ∨ (Λ'.heap.get b=none∧h b=some o):=fun b o e=>by
  cases q:Λ'.heap.get b with
  |some o'=>rw [over_some q] at e;cases e;exact .inl rfl
  |none=>rw [over_none q] at e;exact .inr ⟨rfl,e⟩
 refine ⟨p.ext,⟨p.rel.blk,?_,?_,?_,?_⟩,p.os,p.tape,p.output,p.size,fun β hb ht=>p.fr β hb fun t=>ht (up β t),?_⟩
 ·intro b m r e hr
  rcases pick b _ hr with q | ⟨q,q2⟩
  ·exact p.rel.row b m r e q
  ·obtain ⟨q3,q4⟩:=cell b m _ e q q2 (by simp);obtain ⟨a2,C,t,fz,a3,a4,a5,a6⟩:=R.row b m r q3 q2;exact ⟨a2,C,t,fz,by rw [q4];exact a3,a4,a5,fun i v hi hv=>(a6 i v hi hv).imp fun v' q=>⟨q.1,q.2.mono p.ext⟩⟩
 ·intro b m es c e hr
  rcases pick b _ hr with q | ⟨q,q2⟩
  ·exact p.rel.map b m es c e q
  ·obtain ⟨q3,q4⟩:=cell b m _ e q q2 (by simp);obtain ⟨es',a1,a2⟩:=R.map b m es c q3 q2;exact ⟨es',by rw [q4];exact a1,a2.mono p.ext⟩
 ·intro b m im s n l e hr
  rcases pick b _ hr with q | ⟨q,q2⟩
  ·exact p.rel.iter b m im s n l e q
  ·obtain ⟨q3,q4⟩:=cell b m _ e q q2 (by simp);obtain ⟨mm,a1,a2⟩:=R.iter b m im s n l q3 q2;exact ⟨mm,p.ext _ _ a1,by rw [q4];exact a2⟩
 ·-- one of the part and one of the rest have not one block
  have apart:∀ b1 b2 m1 m2 o1 o2,μ' b1=some m1 → μ' b2=some m2 → Λ'.heap.get b1=some o1 → o1 ≠ .dead → Λ'.heap.get b2=none → h b2=some o2 → o2 ≠ .dead → m1.blk ≠ m2.blk:=fun b1 b2 m1 m2 o1 o2 e1 e2 g1 d1 g2 g3 d2 hb=>by
   obtain ⟨q1,q2⟩:=old b2 m2 e2 g2;have hlt:=R.blk b2 m2 q1;by_cases hro:∃ r,o1=.row r∧r.ro=true;rotate_left
   ·have t : Tch μ' Λ'.heap.get m1.blk := by
     refine ⟨b1,m1,e1,rfl,?_⟩;cases o1 with
     |row r => exact .inl ⟨r, g1, by cases q : r.ro with
       |false=>rfl
       |true=>exact absurd ⟨r,rfl,q⟩ hro⟩
     |map es c=>exact .inr (.inl ⟨es,c,g1⟩)
     |iter i s n l=>exact .inr (.inr ⟨i,s,n,l,g1⟩)
     |dead=>exact absurd rfl d1
    rw [hb] at t;exact stays b2 m2 o2 q1 q2 g3 d2 (p.tch _ hlt t)
   obtain ⟨r,rfl,hr⟩:=hro;have s1:=st.ro b1 r g1 hr
   have s2:μ b1=some m1:=by
    rcases p.fresh b1 m1 e1 with q | ⟨q3,q4⟩
    ·exact q
    ·rw [wf b1 q3] at s1;cases s1
   have s3:h b1=some (.row r):=by
    rcases sub b1 (by rw [s2];simp) with q | q
    ·rw [q] at s1;cases s1
    ·rw [← q];exact s1
   have:=R.inj b1 b2 m1 m2 s2 q1 (live_of s3 (by simp)) (live_of g3 d2) hb;subst this;rw [g1] at g2;cases g2
  intro b b' m m' e e' l l' hb;obtain ⟨o,g1,g2⟩:=live_obj l;obtain ⟨o',g1',g2'⟩:=live_obj l'
  rcases pick b o g1 with q | ⟨q,q2⟩ <;> rcases pick b' o' g1' with q' | ⟨q',q2'⟩
  ·exact p.rel.inj b b' m m' e e' (live_of q g2) (live_of q' g2') hb
  ·exact absurd hb (apart b b' m m' o o' e e' q g2 q' q2' g2')
  ·exact absurd hb.symm (apart b' b m' m o' o e' e q' g2' q q2 g2)
  ·exact R.inj b b' m m' (old b m e q).1 (old b' m' e' q').1 (live_of q2 g2) (live_of q2' g2') hb
 ·rintro β hb ⟨b,m,e1,e2,e3⟩;cases q:Λ'.heap.get b with
  |some o =>
   refine up β (p.tch β hb ⟨b,m,e1,e2,?_⟩);rw [over_some q] at e3;rw [q];exact e3
  |none =>
   rw [over_none q] at e3;exact ⟨b,m,(old b m e1 q).1,e2,e3⟩
end Go.Proofs.Ytpbhkdamkbopkaa.Rf
namespace Go.Proofs.Ytpbhkdamkbopkaa.Rf
open Go
variable {P:Program} {A:AW}
theorem k0_spec {ρ:Operand → Value} {o:Oper} {r:Res} (hp:pureOp o.op=true) (h:aop P ρ o A=some r):∃ v,r=.val v A∧∀ B,aop P ρ o B=some (.val v B):=by
  obtain ⟨dst,op,type,pos,after,guard⟩:=o;unfold aop at h ⊢;simp only at h hp ⊢;cases op <;> (try (cases hp;done)) <;> (try simp only at h ⊢)
  case call c =>
    obtain ⟨callee,args,ts⟩:=c;cases callee with
    | value f=>cases hp
    | invoke a b=>cases hp
    | builtin b =>
      cases b <;> (try (cases hp;done)) <;> simp only at h ⊢
      case len =>
        unfold abuiltin at h ⊢;generalize (Array.map ρ args).toList=l at h ⊢
        match l,h with
        | [x],h =>
          simp only [Option.map_eq_some_iff] at h;obtain ⟨v,hv,rfl⟩:=h;exact ⟨v,rfl,fun B=>by simp only [hv];rfl⟩
        | [],h=>cases h
        | _ :: _ :: _,h=>cases h
      case min =>
        unfold abuiltin at h ⊢;generalize (Array.map ρ args).toList=l at h ⊢
        match l,h with
        | v :: l,h =>
          simp only [Option.map_eq_some_iff] at h;obtain ⟨v,hv,rfl⟩:=h;exact ⟨v,rfl,fun B=>by simp only [hv];rfl⟩
        | [],h=>cases h
      unfold abuiltin at h ⊢;generalize (Array.map ρ args).toList=l at h ⊢
      match l,h with
      | v :: l,h =>
        simp only [Option.map_eq_some_iff] at h;obtain ⟨v,hv,rfl⟩:=h;exact ⟨v,rfl,fun B=>by simp only [hv];rfl⟩
      | [],h=>cases h
  case makeFunc fn a b=>cases fn <;> simp only at h ⊢ <;> first | (cases h;done) | (cases h;exact ⟨_,rfl,fun B=>rfl⟩)
  all_goals
    (try simp only [Bool.cond_eq_ite] at h ⊢)
    first
    | (cases h;exact ⟨_,rfl,fun B=>rfl⟩)
    | (simp only [Option.map_eq_some_iff] at h;obtain ⟨v,hv,rfl⟩:=h;exact ⟨v,rfl,fun B=>by simp only [hv];rfl⟩)
    | (repeat' split at h
       all_goals first
         | (cases h;done)
         | (cases h;exact ⟨_,rfl,fun B=>by first | (simp only [*];done) | simp [*]⟩)
         | (simp only [Option.map_eq_some_iff] at h;obtain ⟨v,hv,rfl⟩:=h;exact ⟨v,rfl,fun B=>by simp only [*];first | rfl | simp [*]⟩))
theorem row_at {B:AW} {b:Nat} {r:Row} (h:B.heap.get b=some (.row r)):B.row? b=some r:=by unfold AW.row?;rw [h]
theorem cells_at {B:AW} {a:Addr} {n:Nat} {l:List Value} {r:Row} (h:A.cells? a n=some l) (hr:A.heap.get a.block=some (.row r)) (hB:B.heap.get a.block=some (.row r)):B.cells? a n=some l:=by
 unfold AW.cells? at h ⊢;rw [row_at hr] at h;rw [row_at hB];exact h
theorem cells_row {a:Addr} {n:Nat} {l:List Value} (h:A.cells? a n=some l):∃ r,A.heap.get a.block=some (.row r)∧a.spot=none:=by
 unfold AW.cells? at h
 split at h
 ·rename_i r hs hr;exact ⟨r,nrow_of hr,hs⟩
 ·cases h
theorem load_at {B:AW} {a:Addr} {t:TypeId} {v:Value} (h:A.load P t a=some v):∃ r,A.heap.get a.block=some (.row r)∧a.spot=none∧(B.heap.get a.block=some (.row r) → B.load P t a=some v):=by
 unfold AW.load at h ⊢;cases hl:lay P t with
 |none=>rw [hl] at h;cases h
 |some x =>
  obtain ⟨b,n⟩:=x;rw [hl] at h;cases b with
  |true =>
   simp only at h ⊢;cases hc:A.cells? a n with
   |none=>rw [hc] at h;cases h
   |some l =>
    rw [hc] at h;obtain ⟨r,hr,hs⟩:=cells_row hc;exact ⟨r,hr,hs,fun hB=>by rw [cells_at hc hr hB];exact h⟩
  |false =>
   simp only at h ⊢;cases hc:A.cells? a 1 with
   |none=>rw [hc] at h;cases h
   |some l =>
    rw [hc] at h;obtain ⟨r,hr,hs⟩:=cells_row hc;exact ⟨r,hr,hs,fun hB=>by rw [cells_at hc hr hB];exact h⟩
theorem store_at {a:Addr} {t:TypeId} {v:Value} {A':AW} (h:A.store P t a v=some A'):∃ r o,A.heap.get a.block=some (.row r)∧a.spot=none∧A'=A.turn a.block o∧∀ B:AW,B.heap.get a.block=some (.row r) → B.store P t a v=some (B.turn a.block o):=by
 unfold AW.store at h ⊢;cases hs:sz P t with
 |none=>rw [hs] at h;cases h
 |some n =>
  rw [hs] at h;simp only at h;cases hb:Nat.beq v.cells.size n with
  |false=>rw [hb] at h;cases h
  |true =>
   rw [hb] at h;simp only [cond_true] at h;unfold AW.write at h
   split at h
   ·rename_i r hsp hr;have hr':=nrow_of hr;cases hc:(Nat.ble (a.off+v.cells.toList.length) r.size && !r.ro && v.cells.toList.all flatCell) with
    |false=>rw [hc] at h;cases h
    |true =>
     rw [hc] at h;simp only [cond_true,Option.some.injEq] at h;refine ⟨r,_,hr',hsp,h.symm,fun B hB=>?_⟩;simp only [hs,hb,cond_true];unfold AW.write;rw [row_at hB];simp only [hsp,hc,cond_true]
   ·cases h
def C0 (P:Program) (ρ:Operand → Value) (o:Oper) (A:AW) (r:Res):Prop:=∃ v,r=.val v A∧∀ B,aop P ρ o B=some (.val v B)
def C1 (P:Program) (ρ:Operand → Value) (o:Oper) (A:AW) (r:Res):Prop:=∃ v x,r=.val v (A.new x)∧∀ B:AW,B.next=A.next → aop P ρ o B=some (.val v (B.new x))
def C2 (P:Program) (ρ:Operand → Value) (o:Oper) (A:AW) (r:Res) (b:Nat):Prop:=∃ v rw,r=.val v A∧A.heap.get b=some (.row rw)∧∀ B:AW,B.heap.get b=some (.row rw) → aop P ρ o B=some (.val v B)
def C3 (P:Program) (ρ:Operand → Value) (o:Oper) (A:AW) (r:Res) (b:Nat):Prop:=(∃ y ∈ o.op.operands,∃ a:Addr,ρ y=.pointer (some a)∧a.block=b∧a.spot=none)∧∃ rw x,r=.skip (A.turn b x)∧A.heap.get b=some (.row rw)∧∀ B:AW,B.heap.get b=some (.row rw) → aop P ρ o B=some (.skip (B.turn b x))
def CK (P:Program) (ρ:Operand → Value) (o:Oper) (A:AW) (r:Res):Value → Prop
 |.slice (some a) _ _=>C0 P ρ o A r ∨ C2 P ρ o A r a.block
 |.string _=>C0 P ρ o A r ∨ C1 P ρ o A r
 |_=>C0 P ρ o A r
theorem conv_kinds {ρ : Operand → Value} {s d : TypeId} {q : Value} {o : Oper} {r : Res} (hop : ∀ B, aop P ρ o B = aconv P s d q B) (h : aconv P s d q A = some r) :
  CK P ρ o A r q:=by
 unfold aconv at h
 split at h
 ·rename_i e1 e2;cases h;exact show C0 P ρ o A _ from ⟨_,rfl,fun B=>by rw [hop];simp only [aconv,e1,e2]⟩
 ·rename_i e1 e2;cases h;exact Or.inl ⟨_,rfl,fun B=>by rw [hop];simp only [aconv,e1,e2]⟩
 ·rename_i e b e1 e2
  split at h
  ·rename_i e3;cases h;exact Or.inr ⟨_,_,rfl,fun B hB=>by rw [hop];simp only [aconv,e1,e2,e3,hB];rfl⟩
  ·cases h
 ·rename_i e a len cap e1 e2
  split at h
  ·rename_i e3;cases h;exact show C0 P ρ o A _ from ⟨_,rfl,fun B=>by rw [hop];simp only [aconv,e1,e2,e3]⟩
  ·rename_i a e3;cases hc:A.cells? a len with
   |none=>rw [hc] at h;cases h
   |some l =>
    rw [hc] at h;simp only [Option.map_eq_some_iff] at h;obtain ⟨b,hb,rfl⟩:=h;obtain ⟨r,hr,_⟩:=cells_row hc;refine Or.inr ⟨_,r,rfl,hr,fun B hB=>?_⟩;rw [hop];simp only [aconv,e1,e2,e3,cells_at hc hr hB,hb];rfl
  ·cases h
 ·cases h
theorem kinds {ρ:Operand → Value} {o:Oper} {r:Res} {A2:AW} {k b:Nat} (hk:kindOf ρ o.op A A2=(k,b)) (h:aop P ρ o A=some r):(k=0∧C0 P ρ o A r) ∨ (k=1∧(C0 P ρ o A r ∨ C1 P ρ o A r)) ∨ (k=2∧(C0 P ρ o A r ∨ C2 P ρ o A r b)) ∨ (k=3∧C3 P ρ o A r b) ∨ (k=4∧∀ b,b < A.next → A2.ts.testBit b=false) ∨ (k=5∧b=A2.ts % 2 ^ A.next):=by
 have fin:∀ {k b},kindE A A2=(k,b) → (k=4∧∀ b,b < A.next → A2.ts.testBit b=false) ∨ (k=5∧b=A2.ts % 2 ^ A.next):=fun {k b} e=>by
  unfold kindE at e;cases q:Nat.beq (A2.ts % 2 ^ A.next) 0 with
  |true =>
   rw [q] at e;cases e;refine .inl ⟨rfl,fun b hb=>?_⟩;have:=Nat.testBit_mod_two_pow A2.ts A.next b;rw [Nat.eq_of_beq_eq_true q,Nat.zero_testBit,decide_eq_true hb,Bool.true_and] at this;exact this.symm
  |false=>rw [q] at e;cases e;exact .inr ⟨rfl,rfl⟩
 cases hp:pureOp o.op with
 |true =>
  unfold kindOf at hk;rw [hp] at hk;cases hk;exact .inl ⟨rfl,k0_spec hp h⟩
 |false =>
  unfold kindOf at hk;rw [hp] at hk;simp only [cond_false] at hk;cases ho:o.op
  case alloc t =>
   rw [ho] at hk;cases hk;refine .inr (.inl ⟨rfl,.inr ?_⟩);(have hop:∀ B,aop P ρ o B=(match zeroOf P t with | some z=>bif z.cells.toList.all flatCell then some (.val (.pointer (some ⟨B.next,0,none⟩)) (B.newRow z.cells.toList)) else none | none=>none):=fun B=>by unfold aop;rw [ho];rfl);rw [hop] at h
   split at h
   ·rename_i z hz;simp only [Bool.cond_eq_ite] at h
    split at h
    ·rename_i hc;cases h;exact ⟨_,_,rfl,fun B hB=>by rw [hop,hz];simp only [hc,cond_true,hB];rfl⟩
    ·cases h
   ·cases h
  case box t x =>
   rw [ho] at hk;cases hk;refine .inr (.inl ⟨rfl,.inr ?_⟩);(have hop:∀ B,aop P ρ o B=(bif (ρ x).cells.toList.all flatCell then some (.val (.pointer (some ⟨B.next,0,none⟩)) (B.newRow (ρ x).cells.toList)) else none):=fun B=>by unfold aop;rw [ho]);rw [hop] at h;simp only [Bool.cond_eq_ite] at h
   split at h
   ·rename_i hc;cases h;exact ⟨_,_,rfl,fun B hB=>by rw [hop];simp only [hc,cond_true,hB];rfl⟩
   ·cases h
  case buildSlice t n ps =>
   rw [ho] at hk;cases hk;refine .inr (.inl ⟨rfl,.inr ?_⟩);(have hop:∀ B,aop P ρ o B=abuildSlice P t n (mapN ρ ps).toList B:=fun B=>by unfold aop;rw [ho]);rw [hop] at h;unfold abuildSlice at h;simp only [Bool.cond_eq_ite] at h;(repeat' split at h)
   all_goals first
    |(cases h;done)
    |(cases h;exact ⟨_,_,rfl,fun B hB=>by rw [hop];simp only [abuildSlice, *,Bool.cond_eq_ite,if_true];rfl⟩)
  case makeSlice t l c =>
   rw [ho] at hk;cases hk;refine .inr (.inl ⟨rfl,.inr ?_⟩);(have hop:∀ B,aop P ρ o B=amakeSlice P t (ρ l) (ρ c) B:=fun B=>by unfold aop;rw [ho]);rw [hop] at h;unfold amakeSlice at h;simp only [Bool.cond_eq_ite] at h;(repeat' split at h)
   all_goals first
    |(cases h;done)
    |(cases h;exact ⟨_,_,rfl,fun B hB=>by rw [hop];simp only [amakeSlice, *,Bool.cond_eq_ite,if_true];rfl⟩)
  case makeMap t hint =>
   rw [ho] at hk;cases hk;refine .inr (.inl ⟨rfl,.inr ?_⟩);cases hint with
   |some x=>unfold aop at h;rw [ho] at h;cases h
   |none =>
    (have hop:∀ B,aop P ρ o B=(match P.underlying t with | some (.map _ _)=>some (.val (.map (some B.next)) (B.new (.map [] 0))) | _=>none):=fun B=>by unfold aop;rw [ho];rfl);rw [hop] at h
    split at h
    ·rename_i hu;cases h;exact ⟨_,_,rfl,fun B hB=>by rw [hop,hu];simp only [hB]⟩
    ·cases h
  case load t x =>
   rw [ho] at hk;simp only at hk;(have hop:∀ B,aop P ρ o B=(match ρ x with | .pointer (some a)=>(AW.load P B t a).map (.val · B) | _=>none):=fun B=>by unfold aop;rw [ho];rfl);rw [hop] at h
   split at h
   ·rename_i a ha;rw [ha] at hk;cases hk;simp only [Option.map_eq_some_iff] at h;obtain ⟨v,hv,rfl⟩:=h;obtain ⟨r,hr,hs,hB⟩:=load_at (B:=A) hv;refine .inr (.inr (.inl ⟨rfl,.inr ⟨v,r,rfl,hr,fun B hb=>?_⟩⟩));obtain ⟨r2,hr2,_,hB2⟩:=load_at (B:=B) hv;rw [hr] at hr2;cases hr2;rw [hop,ha];simp only [hB2 hb];rfl
   ·cases h
  case store t x v =>
   rw [ho] at hk;simp only at hk;(have hop:∀ B,aop P ρ o B=(match ρ x with | .pointer (some a)=>(AW.store P B t a (ρ v)).map .skip | _=>none):=fun B=>by unfold aop;rw [ho];rfl);rw [hop] at h
   split at h
   ·rename_i a ha;rw [ha] at hk;cases hk;simp only [Option.map_eq_some_iff] at h;obtain ⟨A',hv,rfl⟩:=h;obtain ⟨r,x2,hr,hs,rfl,hB⟩:=store_at hv;exact .inr (.inr (.inr (.inl ⟨rfl,⟨x,by rw [ho];simp [Op.operands],a,ha,rfl,hs⟩,r,x2,rfl,hr,fun B hb=>by rw [hop,ha];simp only [hB B hb];rfl⟩)))
   ·cases h
  case convert s d x =>
   rw [ho] at hk;simp only at hk;(have hop:∀ B,aop P ρ o B=aconv P s d (ρ x) B:=fun B=>by unfold aop;rw [ho]);rw [hop] at h;have hck:=conv_kinds hop h;clear hop h;generalize ρ x=q at hk hck;(cases q <;> (try simp only at hk))
   case int=>cases hk;exact .inl ⟨rfl,hck⟩
   case string=>cases hk;exact .inr (.inl ⟨rfl,hck⟩)
   case slice a n c =>
    cases a with
    |none=>simp only at hk;cases hk;exact .inl ⟨rfl,hck⟩
    |some a=>simp only at hk;cases hk;exact .inr (.inr (.inl ⟨rfl,hck⟩))
   all_goals (rcases fin hk with q | q <;> first | exact .inr (.inr (.inr (.inr (.inl q)))) | exact .inr (.inr (.inr (.inr (.inr q)))))
  all_goals
   rw [ho] at hk
   rcases fin hk with q | q
   ·exact .inr (.inr (.inr (.inr (.inl q))))
   ·exact .inr (.inr (.inr (.inr (.inr q))))
end Go.Proofs.Ytpbhkdamkbopkaa.Rf
namespace Go.Proofs.Ytpbhkdamkbopkaa.Rf
open Go
theorem fold_bits (acc:List Nat) (i:Nat):∀ (es:List Nat) (m:Nat),(es.foldl (fun m e=>m ||| 2 ^ e ||| acc.getD e 0) m).testBit i=true → m.testBit i=true ∨ ∃ e ∈ es,i=e ∨ (acc.getD e 0).testBit i=true
 |[],m,h=>.inl h
 |e :: es,m,h=>by
  rcases fold_bits acc i es _ h with q | ⟨e',h1,h2⟩
  ·rw [Nat.testBit_or,Nat.testBit_or] at q;simp only [Bool.or_eq_true] at q
   rcases q with (q | q) | q
   ·exact .inl q
   ·rw [Nat.testBit_two_pow] at q;exact .inr ⟨e,by simp,.inl (by have:=of_decide_eq_true q;exact this.symm)⟩
   ·exact .inr ⟨e,by simp,.inr q⟩
  ·exact .inr ⟨e',by simp [h1],h2⟩
theorem masks_pre:∀ (l:List Oper) (i:Nat) (acc:List Nat) (k:Nat),k < acc.length → (masks l i acc).getD k 0=acc.getD k 0
 |[],_,acc,k,_=>rfl
 |o :: l,i,acc,k,h=>by
  unfold masks;rw [masks_pre l _ _ k (by simp;omega)];simp [List.getD_eq_getElem?_getD,List.getElem?_append_left h]
theorem masks_bit:∀ (l:List Oper) (n:Nat) (acc:List Nat) (j i:Nat) (o:Oper),l[j]?=some o → ((masks l n acc).getD (acc.length+j) 0).testBit i=true → ∃ e ∈ edges o,i=e ∨ ((masks l n acc).getD e 0).testBit i=true
 |[],_,_,_,_,_,h,_=>by cases h
 |x :: l,n,acc,0,i,o,h,hb=>by
  simp only [List.getElem?_cons_zero,Option.some.injEq] at h;subst h;have hb':=hb;unfold masks at hb';rw [masks_pre l _ _ _ (by simp)] at hb';simp only [Nat.add_zero,List.getD_eq_getElem?_getD,List.getElem?_append_right (Nat.le_refl _),Nat.sub_self,List.getElem?_cons_zero,Option.getD_some] at hb';have hb2:((edges x).foldl (fun m e=>m ||| 2 ^ e ||| acc.getD e 0) 0).testBit i=true:=by simpa [List.getD_eq_getElem?_getD] using hb'
  rcases fold_bits acc i (edges x) 0 hb2 with q | ⟨e,h1,h2⟩
  ·simp at q
  ·refine ⟨e,h1,h2.imp id fun q=>?_⟩
   have hlt:e < acc.length:=by
    rcases Nat.lt_or_ge e acc.length with h | h
    ·exact h
    ·rw [List.getD_eq_getElem?_getD,List.getElem?_eq_none h] at q;simp at q
   unfold masks;rw [masks_pre l _ _ e (by simp;omega)]
   simpa [List.getD_eq_getElem?_getD,List.getElem?_append_left hlt] using q
 |x :: l,n,acc,j+1,i,o,h,hb=>by
  unfold masks at hb ⊢;have:=masks_bit l (n+1) (acc ++ [(edges x).foldl (fun m e=>m ||| 2 ^ e ||| acc.getD e 0) 0]) j i o (by simpa using h) (by simp only [List.length_append,List.length_cons,List.length_nil];rw [show acc.length+(0+1)+j=acc.length+(j+1) by omega];exact hb);exact this
theorem closed_bit {l:List Oper} {d:Nat → Bool} (hlt:∀ i o,l[i]?=some o → ∀ e ∈ edges o,e < i) (hc:∀ i o,l[i]?=some o → d i=true → ∀ e ∈ edges o,d e=true):∀ (j i:Nat) (o:Oper),l[j]?=some o → (∀ e ∈ edges o,d e=true) → ((masks l 0 []).getD j 0).testBit i=true → d i=true:=by
 intro j
 induction j using Nat.strongRecOn with
 |_ j ih =>
  intro i o ho he hb;obtain ⟨e,h1,h2⟩:=masks_bit l 0 [] j i o ho (by simpa using hb)
  rcases h2 with rfl | h2
  ·exact he _ h1
  ·have hej:=hlt j o ho e h1;have hel:e < l.length:=Nat.lt_trans hej (List.getElem?_eq_some_iff.1 ho).1;have hoe:=List.getElem?_eq_getElem hel;exact ih e hej i _ hoe (hc e _ hoe (he e h1)) h2
section
variable {α:Type} (X:Nat → α) (Wr:Nat → Prop)
open Classical in
noncomputable def cur (d:Nat → Bool):Nat → α
 |0=>X 0
 |m+1=>if d m=true∧Wr m then X (m+1) else cur d m
variable {X Wr} {d:Nat → Bool}
theorem cur_at {n:Nat} (hfr:∀ i,i < n → ¬ Wr i → X (i+1)=X i):∀ j,j≤n → (∀ i,i < j → Wr i → d i=true) → cur X Wr d j=X j
 |0,_,_=>rfl
 |j+1,hj,h=>by
  unfold cur;by_cases hw:Wr j
  ·rw [if_pos ⟨h j (by omega) hw,hw⟩]
  ·rw [if_neg (fun q=>hw q.2),cur_at hfr j (by omega) fun i hi=>h i (by omega),hfr j (by omega) hw]
theorem cur_same {j:Nat}:∀ m,j≤m → (∀ i,j≤i → i < m → d i=true → ¬ Wr i) → cur X Wr d m=cur X Wr d j
 |0,hj,_=>by rw [Nat.le_zero.1 hj]
 |m+1,hj,h=>by
  rcases Nat.lt_or_ge m j with h1 | h1
  ·rw [show j=m+1 by omega]
  ·rw [cur,if_neg (fun q=>h m h1 (by omega) q.1 q.2)];exact cur_same m h1 fun i a b=>h i a (by omega)
def more (d:Nat → Bool) (j:Nat):Nat → Bool:=fun i=>if i=j then true else d i
theorem more_same (d:Nat → Bool) (j:Nat):more d j j=true:=if_pos rfl
theorem more_ne {d:Nat → Bool} {j i:Nat} (h:i ≠ j):more d j i=d i:=if_neg h
theorem cur_up {j:Nat}:∀ m,¬ Wr j → cur X Wr (more d j) m=cur X Wr d m
 |0,_=>rfl
 |m+1,h=>by
  rw [cur,cur,cur_up m h];by_cases hm:m=j
  ·subst hm;rw [if_neg (fun q=>h q.2),if_neg (fun q=>h q.2)]
  ·rw [more_ne hm]
theorem cur_put {j:Nat} (hw:Wr j):∀ m,j < m → (∀ i,j < i → i < m → d i=true → ¬ Wr i) → cur X Wr (more d j) m=X (j+1)
 |0,h,_=>by omega
 |m+1,hj,h=>by
  rw [cur];by_cases hm:m=j
  ·subst hm;rw [more_same,if_pos ⟨rfl,hw⟩]
  ·rw [more_ne hm,if_neg (fun q=>h m (by omega) (by omega) q.1 q.2)];exact cur_put hw m (by omega) fun i a b=>h i a (by omega)
end
end Go.Proofs.Ytpbhkdamkbopkaa.Rf
namespace Go.Proofs.Ytpbhkdamkbopkaa.Rf
open Go
variable {P:Program} {call:Callf} {nt:Nat}
def base (s:St):AW:=⟨s.A.heap,s.A.next,0⟩
def kindAt (ops:Array Oper) (o:Oper) (s:St) (A1:AW):Nat × Nat:=match awanted ops s.tm o with
 |some true=>kindOf (ev s.tm) o.op s.A A1
 |_=>(0,0)
structure Tr1 (P:Program) (call:Callf) (nt:Nat) (ops:Array Oper) (l:List Oper) (S:Nat → St) (K:Nat → Nat × Nat):Prop where
 step:∀ i o,l[i]?=some o → ∃ s1,stepOp P call nt ops o ⟨(S i).tm,base (S i)⟩=some s1∧(S (i+1)).tm=s1.tm∧(S (i+1)).A.heap=s1.A.heap∧(S (i+1)).A.next=s1.A.next∧K i=kindAt ops o (S i) s1.A
theorem runDraw_trace {ops : Array Oper} : ∀ (l : List Oper) (s s' : St) (ks ks' : List (Nat × Nat)), runDraw P call nt ops l s ks = some (s', ks') →
  ∃ (S:Nat → St) (K:Nat → Nat × Nat),S 0=s∧S l.length=s'∧ks'=ks.reverse ++ (List.range l.length).map K∧Tr1 P call nt ops l S K
 |[],s,s',ks,ks',e=>by
  simp only [runDraw,Option.some.injEq,Prod.mk.injEq] at e;obtain ⟨rfl,rfl⟩:=e;exact ⟨fun _=>s,fun _=>(0,0),rfl,rfl,by simp,⟨fun i o h=>by cases h⟩⟩
 |o :: l,s,s',ks,ks',e=>by
  unfold runDraw at e
  split at e
  ·rename_i s1 h1;obtain ⟨S,K,q0,q1,q2,q3⟩:=runDraw_trace l _ s' _ ks' e;refine ⟨fun i=>match i with | 0=>s | i+1=>S i,fun i=>match i with | 0=>kindAt ops o s s1.A | i+1=>K i,rfl,q1,?_,⟨fun i o' h=>?_⟩⟩
   ·rw [q2,List.reverse_cons,List.append_assoc,List.length_cons,List.range_succ_eq_map,List.map_cons,List.map_map];rfl
   ·cases i with
    |zero =>
     simp only [List.getElem?_cons_zero,Option.some.injEq] at h;subst h;refine ⟨s1,h1,?_,?_,?_,rfl⟩ <;> (show (_:_)=_;simp only [q0])
    |succ i=>exact q3.step i o' (by simpa using h)
  ·cases e
def Wt (S:Nat → St) (K:Nat → Nat × Nat) (i b:Nat):Prop:=((K i).1=5∧(K i).2.testBit b=true∧b < (S (i+1)).A.next) ∨ K i=(3,b) ∨ ((S i).A.next≤b∧b < (S (i+1)).A.next)
structure Part (P:Program) (call:Callf) (nt:Nat) (ops:Array Oper) (o:Oper) (S:Nat → St) (K:Nat → Nat × Nat) (j:Nat) (Λ Λ':AW):Prop where
 step:stepOp P call nt ops o ⟨(S j).tm,Λ⟩=some ⟨(S (j+1)).tm,Λ'⟩
 wf:WF Λ
 next:Λ.next=(S j).A.next
 next':Λ'.next=(S (j+1)).A.next
 st:AStep Λ Λ'
 sub:∀ b,Λ.heap.get b=none ∨ (Λ.heap.get b=(S j).A.heap.get b∧(K j=(2,b) ∨ K j=(3,b) ∨ (K j).1=4 ∨ (K j).1=5))
 wr:∀ b,Wt S K j b → Λ'.heap.get b=(S (j+1)).A.heap.get b
 keep:∀ b x,¬ Wt S K j b → Λ'.heap.get b=some x → Λ.heap.get b=some x
 all:(K j).1=5 → ∀ b,Λ.heap.get b=(S j).A.heap.get b
 three:∀ b,K j=(3,b) → ((S j).A.heap.get b ≠ none∧∃ y ∈ o.op.operands,cleanO y=true∧∃ a:Addr,ev (S j).tm y=.pointer (some a)∧a.block=b∧a.spot=none)
 fr:∀ b,¬ Wt S K j b → (S (j+1)).A.heap.get b=(S j).A.heap.get b
 dom:∀ b,(S j).A.heap.get b ≠ none → (S (j+1)).A.heap.get b ≠ none
 zero:(K j).1=0 ∨ (K j).1=2 → (S (j+1)).A.next=(S j).A.next
 small:(K j).1=0 ∨ (K j).1=1 ∨ (K j).1=2 ∨ (K j).1=3 ∨ (K j).1=4 ∨ (K j).1=5
def one (b:Nat) (r:Row) (n:Nat):AW:=⟨Tr.e.set b (.row r),n,0⟩
theorem get_one (b:Nat) (r:Row) (n b2:Nat):(one b r n).heap.get b2=if b2=b then some (.row r) else none:=Tr.get_set _ _ _ _
def nil (n:Nat):AW:=⟨.e,n,0⟩
theorem wf_nil (n:Nat):WF (nil n):=fun _ _=>rfl
theorem wf_one {b n:Nat} {r:Row} (h:b < n):WF (one b r n):=fun b2 h2=>by
 have h2:n≤b2:=h2;rw [get_one,if_neg (by omega)]
theorem stepOp_inv {ops : Array Oper} {o : Oper} {tm : Tr Value} {A : AW} {s1 : St} (e : stepOp P call nt ops o ⟨tm, A⟩ = some s1) :
  (awanted ops tm o=some false∧s1.A=A∧∀ B,stepOp P call nt ops o ⟨tm,B⟩=some ⟨s1.tm,B⟩) ∨
  (awanted ops tm o=some true∧opClean o.op=true∧∃ r,aop P (ev tm) o A=some r∧(∀ v A',r=.val v A' → s1.A=A'∧∀ B B',aop P (ev tm) o B=some (.val v B') → stepOp P call nt ops o ⟨tm,B⟩=some ⟨s1.tm,B'⟩) ∧
   (∀ A',r=.skip A' → s1.A=A'∧∀ B B',aop P (ev tm) o B=some (.skip B') → stepOp P call nt ops o ⟨tm,B⟩=some ⟨s1.tm,B'⟩)):=by
 have e0:=e;unfold stepOp at e
 split at e
 ·rename_i hwt;cases hcl:opClean o.op with
  |false=>rw [hcl] at e;cases e
  |true =>
   rw [hcl] at e;simp only [cond_true] at e;cases ha:aop P (ev tm) o A with
   |none=>rw [ha] at e;cases e
   |some r =>
    rw [ha] at e;refine .inr ⟨hwt,rfl,r,rfl,fun v A' hr=>?_,fun A' hr=>?_⟩
    ·subst hr;simp only [Option.map_eq_some_iff] at e;obtain ⟨tm',htm,rfl⟩:=e;exact ⟨rfl,fun B B' hB=>by unfold stepOp;simp only [hwt,hcl,cond_true,hB,htm];rfl⟩
    ·subst hr;simp only [Option.map_eq_some_iff] at e;obtain ⟨tm',htm,rfl⟩:=e;exact ⟨rfl,fun B B' hB=>by unfold stepOp;simp only [hwt,hcl,cond_true,hB,htm];rfl⟩
 ·rename_i hwt;simp only [Option.map_eq_some_iff] at e;obtain ⟨tm',htm,rfl⟩:=e;exact .inl ⟨hwt,rfl,fun B=>by unfold stepOp;simp only [hwt,htm];rfl⟩
 ·cases e
theorem frame {ops:Array Oper} {l:List Oper} {S:Nat → St} {K:Nat → Nat × Nat} (T:Tr1 P call nt ops l S K) (hm:CM call) {j:Nat} {o:Oper} (ho:l[j]?=some o) (hw:WF (S j).A):∃ Λ Λ',Part P call nt ops o S K j Λ Λ':=by
 obtain ⟨s1,hs1,htm,hhp,hnx,hK⟩:=T.step j o ho;have hwB:WF (base (S j)):=hw;have hst:=stepOp_step hm (s:=⟨(S j).tm,base (S j)⟩) hwB hs1;have e1:(⟨(S (j+1)).tm,s1.A⟩:St)=s1:=by rw [htm]
 have dom0:∀ b,(S j).A.heap.get b ≠ none → (S (j+1)).A.heap.get b ≠ none:=fun b hb=>by rw [hhp];exact hst.dom b hb
 have fr0:((K j).1=4 → ∀ b,b < (base (S j)).next → s1.A.ts.testBit b=false) → ((K j).1=5 → (K j).2=s1.A.ts % 2 ^ (base (S j)).next) → (K j).1=4 ∨ (K j).1=5 → ∀ b,¬ Wt S K j b → s1.A.heap.get b=(S j).A.heap.get b:=fun h4 h5 hk b hnw=>by
  rcases Nat.lt_or_ge b (S (j+1)).A.next with hb | hb
  ·have hb2 : b < (S j).A.next := by
    rcases Nat.lt_or_ge b (S j).A.next with h | h
    ·exact h
    ·exact absurd (.inr (.inr ⟨h,hb⟩)) hnw
   rcases hk with hk | hk
   ·exact hst.keep b hb2 (h4 hk b hb2)
   ·refine hst.keep b hb2 ?_;cases q:s1.A.ts.testBit b with
    |false=>rfl
    |true =>
     refine absurd (.inl ⟨hk,?_,hb⟩) hnw;rw [h5 hk,Nat.testBit_mod_two_pow,q,decide_eq_true (show b < (base (S j)).next from hb2)];rfl
  ·have hn:(S j).A.next≤s1.A.next:=hst.next;rw [hst.wf b (by rw [← hnx];exact hb),hw b (by omega)]
 have whole:((K j).1=4 → ∀ b,b < (base (S j)).next → s1.A.ts.testBit b=false) → ((K j).1=5 → (K j).2=s1.A.ts % 2 ^ (base (S j)).next) → (K j).1=4 ∨ (K j).1=5 → Part P call nt ops o S K j (base (S j)) s1.A:=fun h4 h5 hk=>by
  refine ⟨by rw [e1];exact hs1,hwB,rfl,hnx.symm,hst,fun b=>.inr ⟨rfl,.inr (.inr hk)⟩,fun b _=>by rw [hhp],fun b x hnw hx=>?_,fun _ _=>rfl,fun b hb=>(by rw [hb] at hk;rcases hk with hk | hk <;> cases hk),fun b hnw=>(by rw [hhp];exact fr0 h4 h5 hk b hnw),dom0,fun h=>(by omega),(by omega)⟩;exact (fr0 h4 h5 hk b hnw).symm.trans hx
 rcases stepOp_inv hs1 with ⟨hwt,hA,hall⟩ | ⟨hwt,hcl,r,ha,hval,hskip⟩
 ·have hk:K j=(0,0):=by rw [hK];unfold kindAt;rw [hwt]
  have hN:(S (j+1)).A.next=(S j).A.next:=by rw [hnx,hA];rfl
  refine ⟨nil (S j).A.next,nil (S j).A.next,⟨by rw [htm];exact hall _,wf_nil _,rfl,hN.symm,AStep.refl (wf_nil _),fun b=>.inl rfl,fun b hb=>?_,fun b x _ hx=>hx,fun h=>(by rw [hk] at h;cases h),fun b hb=>(by rw [hk] at hb;cases hb),fun b _=>(by rw [hhp,hA];rfl),dom0,fun _=>hN,.inl (by rw [hk])⟩⟩
  rcases hb with hb | hb | hb
  ·rw [hk] at hb;cases hb.1
  ·rw [hk] at hb;cases hb
  ·omega
 ·have hk:kindOf (ev (S j).tm) o.op (base (S j)) s1.A=K j:=by rw [hK];unfold kindAt;rw [hwt];rfl
  have c0:C0 P (ev (S j).tm) o (base (S j)) r → (K j).1≤2 → ∃ Λ Λ',Part P call nt ops o S K j Λ Λ':=fun ⟨v,hr,hB⟩ hk2=>by
   obtain ⟨h1,h2⟩:=hval v _ hr;(have hN:(S (j+1)).A.next=(S j).A.next:=by rw [hnx,h1];rfl);refine ⟨nil (S j).A.next,nil (S j).A.next,⟨by rw [htm];exact h2 _ _ (hB _),wf_nil _,rfl,hN.symm,AStep.refl (wf_nil _),fun b=>.inl rfl,fun b hb=>?_,fun b x _ hx=>hx,fun h=>(by omega),fun b hb=>(by rw [hb] at hk2;simp at hk2),fun b _=>(by rw [hhp,h1];rfl),dom0,fun _=>hN,(by omega)⟩⟩
   rcases hb with hb | hb | hb
   ·omega
   ·rw [hb] at hk2;simp at hk2
   ·omega
  rcases kinds (k:=(K j).1) (b:=(K j).2) (A2:=s1.A) (by rw [hk]) ha with ⟨hk0,h⟩ | ⟨hk1,h | h⟩ | ⟨hk2,h | h⟩ | ⟨hk3,h⟩ | ⟨hk4,hlow⟩ | hk5
  ·exact c0 h (by omega)
  ·exact c0 h (by omega)
  ·obtain ⟨v,x,hr,hB⟩:=h;obtain ⟨h1,h2⟩:=hval v _ hr;have hs2:=h2 (nil (S j).A.next) _ (hB (nil (S j).A.next) rfl);(have hN:(S (j+1)).A.next=(S j).A.next+1:=by rw [hnx,h1];rfl);have hst2:=stepOp_step hm (s:=⟨(S j).tm,nil (S j).A.next⟩) (wf_nil _) hs2;refine ⟨nil (S j).A.next,(nil (S j).A.next).new x,⟨by rw [htm];exact hs2,wf_nil _,rfl,hN.symm,hst2,fun b=>.inl rfl,fun b hb=>?_,fun b y hnw hy=>?_,fun h=>(by omega),fun b hb=>(by rw [hb] at hk1;simp at hk1),fun b hnw=>?_,dom0,fun h=>(by omega),(by omega)⟩⟩
   ·rcases hb with hb | hb | hb
    ·omega
    ·rw [hb] at hk1;simp at hk1
    ·have hb3:b=(S j).A.next:=by omega
     subst hb3;rw [hhp,h1,nget_new,nget_new];simp [nil,base]
   ·rw [nget_new] at hy
    split at hy
    ·rename_i hb;exact absurd (.inr (.inr ⟨by rw [hb];exact Nat.le_refl _,by rw [hb,hN];exact Nat.lt_succ_self _⟩)) hnw
    ·exact hy
   ·rw [hhp,h1,nget_new]
    split
    ·rename_i hb;exact absurd (.inr (.inr ⟨by rw [hb];exact Nat.le_refl _,by rw [hb,hN];exact Nat.lt_succ_self _⟩)) hnw
    ·rfl
  ·exact c0 h (by omega)
  ·obtain ⟨v,rw_,hr,hrow,hB⟩:=h;obtain ⟨h1,h2⟩:=hval v _ hr
   have hlt:(K j).2 < (S j).A.next:=by
    rcases Nat.lt_or_ge (K j).2 (S j).A.next with h | h
    ·exact h
    ·have:=hwB _ h;rw [this] at hrow;cases hrow
   have hs2:=h2 (one (K j).2 rw_ (S j).A.next) _ (hB _ (by rw [get_one,if_pos rfl]));(have hN:(S (j+1)).A.next=(S j).A.next:=by rw [hnx,h1];rfl);(have hkj:K j=(2,(K j).2):=by rw [← hk2]);refine ⟨one (K j).2 rw_ (S j).A.next,one (K j).2 rw_ (S j).A.next,⟨by rw [htm];exact hs2,wf_one hlt,rfl,hN.symm,AStep.refl (wf_one hlt),fun b=>?_,fun b hb=>?_,fun b x _ hx=>hx,fun h=>(by omega),fun b hb=>(by rw [hb] at hk2;simp at hk2),fun b _=>(by rw [hhp,h1];rfl),dom0,fun _=>hN,(by omega)⟩⟩
   ·rw [get_one];by_cases hb:b=(K j).2
    ·rw [if_pos hb];right;subst hb;exact ⟨hrow.symm,.inl hkj⟩
    ·rw [if_neg hb];exact .inl rfl
   ·rcases hb with hb | hb | hb
    ·omega
    ·rw [hb] at hk2;simp at hk2
    ·omega
  ·obtain ⟨hop,rw_,x,hr,hrow,hB⟩:=h;obtain ⟨h1,h2⟩:=hskip _ hr
   have hlt:(K j).2 < (S j).A.next:=by
    rcases Nat.lt_or_ge (K j).2 (S j).A.next with h | h
    ·exact h
    ·have:=hwB _ h;rw [this] at hrow;cases hrow
   have hs2:=h2 (one (K j).2 rw_ (S j).A.next) _ (hB _ (by rw [get_one,if_pos rfl]));(have hN:(S (j+1)).A.next=(S j).A.next:=by rw [hnx,h1];rfl);(have hkj:K j=(3,(K j).2):=by rw [← hk3]);have hst2:=stepOp_step hm (s:=⟨(S j).tm,one (K j).2 rw_ (S j).A.next⟩) (wf_one hlt) hs2;refine ⟨one (K j).2 rw_ (S j).A.next,(one (K j).2 rw_ (S j).A.next).turn (K j).2 x,⟨by rw [htm];exact hs2,wf_one hlt,rfl,hN.symm,hst2,fun b=>?_,fun b hb=>?_,fun b y hnw hy=>?_,fun h=>(by omega),fun b hb=>?_,fun b hnw=>?_,dom0,fun _=>hN,(by omega)⟩⟩
   ·rw [get_one];by_cases hb:b=(K j).2
    ·rw [if_pos hb];right;subst hb;exact ⟨hrow.symm,.inr (.inl hkj)⟩
    ·rw [if_neg hb];exact .inl rfl
   ·rcases hb with hb | hb | hb
    ·omega
    ·have hb2:b=(K j).2:=by rw [hb]
     subst hb2;rw [hhp,h1,nget_turn,nget_turn,if_pos rfl,if_pos rfl]
    ·omega
   ·rw [nget_turn] at hy
    split at hy
    ·rename_i hb;exact absurd (.inr (.inl (by rw [hb];exact hkj))) hnw
    ·exact hy
   ·have hb2:b=(K j).2:=by rw [hb]
    subst hb2;obtain ⟨y,hy,a,q1,q2,q3⟩:=hop;refine ⟨by rw [show (S j).A.heap.get (K j).2=some (.row rw_) from hrow];simp,y,hy,?_,a,q1,q2,q3⟩;unfold opClean at hcl;rw [List.all_eq_true] at hcl;exact hcl y (by simpa using hy)
   ·rw [hhp,h1,nget_turn]
    split
    ·rename_i hb;exact absurd (.inr (.inl (by rw [hb];exact hkj))) hnw
    ·rfl
  ·exact ⟨_,_,whole (fun _=>hlow) (fun h=>by omega) (.inl hk4)⟩
  ·exact ⟨_,_,whole (fun h=>by omega) (fun _=>hk5.2) (.inr hk5.1)⟩
end Go.Proofs.Ytpbhkdamkbopkaa.Rf
namespace Go.Proofs.Ytpbhkdamkbopkaa.Rf
open Go
variable {P:Program} {call:Callf} {nt:Nat}
theorem free2_five {p q:Nat × Nat} (h:free2 p q=true) (h5:q.1=5):p.1=0 ∨ p.1=2:=by
 obtain ⟨k,f⟩:=p;obtain ⟨m,g⟩:=q;simp only at h5;subst h5;unfold free2 at h
 split at h <;> simp_all <;> omega
def Rd (q:Nat × Nat) (b:Nat):Prop:=q=(2,b) ∨ q=(3,b) ∨ q.1=4 ∨ q.1=5
theorem free2_rd {p q:Nat × Nat} {b:Nat} (h:free2 p q=true) (hp:p=(3,b)) (hq:Rd q b):False:=by
 obtain ⟨m,g⟩:=q;subst hp;unfold free2 at h
 rcases hq with e | e | e | e <;> simp only [Prod.mk.injEq] at e <;> (try obtain ⟨rfl,rfl⟩:=e) <;> (try subst e) <;> revert h <;> simp
theorem free2_rd' {p q:Nat × Nat} {b:Nat} (h:free2 p q=true) (hp:q=(3,b)) (hq:Rd p b):False:=by
 obtain ⟨m,g⟩:=p;subst hp;unfold free2 at h
 rcases hq with e | e | e | e <;> simp only [Prod.mk.injEq] at e <;> (try obtain ⟨rfl,rfl⟩:=e) <;> (try subst e) <;> revert h <;> simp
theorem free2_mask {p q:Nat × Nat} {b:Nat} (h:free2 p q=true) (h5:q.1=5) (hb:q.2.testBit b=true) (hp:Rd p b):False:=by
 obtain ⟨k,f⟩:=p;obtain ⟨m,g⟩:=q;simp only at h5 hb;subst h5;unfold free2 at h
 rcases hp with e | e | e | e <;> simp only [Prod.mk.injEq] at e <;> (try obtain ⟨rfl,rfl⟩:=e) <;> (try subst e) <;> revert h <;> simp [hb]
theorem free2_mask' {p q:Nat × Nat} {b:Nat} (h:free2 p q=true) (h5:p.1=5) (hb:p.2.testBit b=true) (hq:Rd q b):False:=by
 obtain ⟨k,f⟩:=p;obtain ⟨m,g⟩:=q;simp only at h5 hb;subst h5;unfold free2 at h
 rcases hq with e | e | e | e <;> simp only [Prod.mk.injEq] at e <;> (try obtain ⟨rfl,rfl⟩:=e) <;> (try subst e) <;> revert h <;> simp [hb]
theorem Rd.pos {q:Nat × Nat} {b:Nat} (h:Rd q b):q.1 ≠ 0:=by
 rcases h with e | e | e | e <;> rw [e] <;> simp
theorem more_mono {d:Nat → Bool} {j i:Nat} (h:d i=true):more d j i=true:=by
 unfold more;split
 ·rfl
 ·exact h
def bit (l:List Oper) (j i:Nat):Prop:=((masks l 0 []).getD j 0).testBit i=true
def N (S:Nat → St) (i:Nat):Nat:=(S i).A.next
structure DS (P:Program) (call:Callf) (nt:Nat) (ops:Array Oper) (l:List Oper) (S:Nat → St) (K:Nat → Nat × Nat):Prop where
 edge:∀ i o,l[i]?=some o → ∀ e ∈ edges o,e < i
 apart:∀ i j x y,l[i]?=some x → l[j]?=some y → i < j → bit l j i ∨ Oper.apart ops x y=true
 kind:∀ i j,i < j → j < l.length → (K j).1=0 ∨ free2 (K i) (K j)=true ∨ bit l j i
 part:∀ j o,l[j]?=some o → ∃ Λ Λ',Part P call nt ops o S K j Λ Λ'
 mono:∀ i,i < l.length → N S i≤N S (i+1)
 wf:∀ i,i < l.length → WF (S i).A
theorem DS.le {ops:Array Oper} {l:List Oper} {S:Nat → St} {K:Nat → Nat × Nat} (D:DS P call nt ops l S K) {i:Nat}:∀ j,i≤j → j≤l.length → N S i≤N S j
 |0,h,_=>by rw [Nat.le_zero.1 h];exact Nat.le_refl _
 |j+1,h,hj=>by
  rcases Nat.lt_or_ge j i with h1 | h1
  ·rw [show i=j+1 by omega];exact Nat.le_refl _
  ·exact Nat.le_trans (D.le j h1 (by omega)) (D.mono j (by omega))
theorem stepOp_put {ops:Array Oper} {o:Oper} {s s':St} (e:stepOp P call nt ops o s=some s'):∃ v,putD nt s.tm o.dst v=some s'.tm:=by
 unfold stepOp at e
 split at e
 ·split at e
  ·simp only [Option.map_eq_some_iff] at e;obtain ⟨tm,h,rfl⟩:=e;exact ⟨_,h⟩
  ·simp only [Option.map_eq_some_iff] at e;obtain ⟨tm,h,rfl⟩:=e;exact ⟨_,h⟩
  ·split at e
   ·simp only [Option.map_eq_some_iff] at e;obtain ⟨tm,h,rfl⟩:=e;exact ⟨_,h⟩
   ·cases e
  ·cases e
 ·simp only [Option.map_eq_some_iff] at e;obtain ⟨tm,h,rfl⟩:=e;exact ⟨_,h⟩
 ·cases e
theorem putD_ne {tm tm':Tr Value} {d:Option Tmp} {v:Value} (e:putD nt tm d v=some tm') {t:Nat} (h:d ≠ some t):tget tm' t=tget tm t:=by
 unfold putD at e;cases d with
 |none=>simp only [Option.some.injEq] at e;rw [e]
 |some d =>
  simp only at e;cases hb:Nat.blt d nt with
  |false=>rw [hb] at e;cases e
  |true =>
   rw [hb] at e;simp only [cond_true,fV_eq,Option.some.injEq] at e;subst e;rw [tget_set,if_neg (fun q=>h (by rw [q]))]
theorem putD_eq {tm tm':Tr Value} {t:Nat} {v:Value} (e:putD nt tm (some t) v=some tm'):tget tm' t=v∧t < nt:=by
 unfold putD at e;simp only at e;cases hb:Nat.blt t nt with
 |false=>rw [hb] at e;cases e
 |true =>
  rw [hb] at e;simp only [cond_true,fV_eq,Option.some.injEq] at e;subst e;exact ⟨by rw [tget_set,if_pos rfl],blt_lt hb⟩
def dstAt (l:List Oper) (i:Nat):Option Tmp:=(l[i]?).bind (·.dst)
def slot (S:Nat → St) (t:Nat) (i:Nat):Value:=tget (S i).tm t
def ob (S:Nat → St) (b:Nat) (i:Nat):Option AObj:=(S i).A.heap.get b
structure Inv (nt:Nat) (l:List Oper) (S:Nat → St) (K:Nat → Nat × Nat) (μ0:Mu) (h0:Nat → Option AObj) (w0:World) (d:Nat → Bool) (μ:Mu) (h:Nat → Option AObj) (a:Act) (w:World):Prop where
 pv:PV μ0 h0 w0 μ h w
 size:a.tmps.size=nt
 defers:a.defers=[]
 val:∀ t,VR μ (cur (slot S t) (fun i=>dstAt l i=some t) d l.length) (a.tmps.getD t undef)
 hp:∀ b,μ b ≠ none → h b=cur (ob S b) (fun i=>Wt S K i b) d l.length
 dom:∀ b m,μ b=some m → μ0 b=some m ∨ ∃ i,i < l.length∧d i=true∧N S i≤b∧b < N S (i+1)
 closed:∀ i o,l[i]?=some o → d i=true → ∀ e ∈ edges o,d e=true
 three:∀ i b,i < l.length → d i=true → K i=(3,b) → μ b ≠ none
section
variable {ops:Array Oper} {l:List Oper} {S:Nat → St} {K:Nat → Nat × Nat} {μ0:Mu} {h0:Nat → Option AObj} {w0:World} {d:Nat → Bool} {μ:Mu} {h:Nat → Option AObj} {a:Act} {w:World} {j:Nat} {o:Oper}
theorem slot_fr (D:DS P call nt ops l S K) (t:Nat):∀ i,i < l.length → ¬ dstAt l i=some t → slot S t (i+1)=slot S t i:=fun i hi hd=>by
 obtain ⟨Λ,Λ',p⟩:=D.part i _ (List.getElem?_eq_getElem hi);obtain ⟨v,hv⟩:=stepOp_put p.step;exact putD_ne hv (fun q=>hd (by unfold dstAt;rw [List.getElem?_eq_getElem hi];exact q))
theorem ob_fr (D:DS P call nt ops l S K) (b:Nat):∀ i,i < l.length → ¬ Wt S K i b → ob S b (i+1)=ob S b i:=fun i hi hd=>by
 obtain ⟨Λ,Λ',p⟩:=D.part i _ (List.getElem?_eq_getElem hi);exact p.fr b hd
theorem ahead (D:DS P call nt ops l S K) (I:Inv nt l S K μ0 h0 w0 d μ h a w) (ho:l[j]?=some o) (he:∀ e ∈ edges o,d e=true) {i:Nat} (hb:bit l j i):d i=true :=
 closed_bit D.edge I.closed j i o ho he hb
theorem behind (D:DS P call nt ops l S K) (I:Inv nt l S K μ0 h0 w0 d μ h a w) (hd:d j=false) {i:Nat} (hi:i < l.length) (hdi:d i=true) (hb:bit l i j):False:=by
 have:=closed_bit D.edge I.closed i j _ (List.getElem?_eq_getElem hi) (I.closed i _ (List.getElem?_eq_getElem hi) hdi) hb;rw [hd] at this;cases this
theorem slots (D:DS P call nt ops l S K) (I:Inv nt l S K μ0 h0 w0 d μ h a w) (ho:l[j]?=some o) (hd:d j=false) (he:∀ e ∈ edges o,d e=true):∀ t ∈ o.looksAt ops,VR μ (tget (S j).tm t) (a.tmps.getD t undef):=fun t ht=>by
 have hj:j < l.length:=(List.getElem?_eq_some_iff.1 ho).1;have hv:=I.val t;rw [cur_same (j:=j) l.length (Nat.le_of_lt hj) fun i h1 h2 h3 h4=>?_,cur_at (slot_fr D t) j (Nat.le_of_lt hj) fun i h1 h2=>?_] at hv
 ·exact hv
 ·have hi:i < l.length:=by omega
  obtain ⟨x,hx⟩:∃ x,l[i]?=some x:=⟨_,List.getElem?_eq_getElem hi⟩
  rcases D.apart i j x o hx ho h1 with q | q
  ·exact ahead D I ho he q
  ·exact absurd ht ((Oper.apart_spec q).1 t (by unfold dstAt at h2;rw [hx] at h2;exact h2))
 ·obtain ⟨x,hx⟩:∃ x,l[i]?=some x:=⟨_,List.getElem?_eq_getElem h2⟩
  rcases Nat.lt_or_ge j i with h5 | h5
  ·rcases D.apart j i o x ho hx h5 with q | q
   ·exact behind D I hd h2 h3 q
   ·exact (Oper.apart_spec q).2.2 t (by unfold dstAt at h4;rw [hx] at h4;exact h4) ht
  ·rw [show i=j by omega,hd] at h3;cases h3
theorem maker (D:DS P call nt ops l S K) (I:Inv nt l S K μ0 h0 w0 d μ h a w) (hf:∀ b,N S 0≤b → b < N S l.length → μ0 b=none) {b i:Nat} (hb:μ b ≠ none) (hi:i < l.length) (h1:N S i≤b) (h2:b < N S (i+1)):d i=true:=by
 obtain ⟨m,hm⟩:=Option.ne_none_iff_exists'.1 hb
 rcases I.dom b m hm with q | ⟨i',q1,q2,q3,q4⟩
 ·have:=hf b (Nat.le_trans (D.le i (Nat.zero_le _) (Nat.le_of_lt hi)) h1) (Nat.lt_of_lt_of_le h2 (D.le _ hi (Nat.le_refl _)));rw [q] at this;cases this
 ·rcases Nat.lt_trichotomy i i' with h3 | h3 | h3
  ·have:=D.le (i:=i+1) i' h3 (Nat.le_of_lt q1);omega
  ·rw [h3];exact q2
  ·have:=D.le (i:=i'+1) i h3 (Nat.le_of_lt hi);omega
theorem agree (D:DS P call nt ops l S K) (I:Inv nt l S K μ0 h0 w0 d μ h a w) (hf:∀ b,N S 0≤b → b < N S l.length → μ0 b=none) (ho:l[j]?=some o) (hd:d j=false) (he:∀ e ∈ edges o,d e=true) {b:Nat} (hb:μ b ≠ none) (hN:b < N S j) (hr:Rd (K j) b):h b=(S j).A.heap.get b:=by
 have hj:j < l.length:=(List.getElem?_eq_some_iff.1 ho).1;rw [I.hp b hb,cur_same (j:=j) l.length (Nat.le_of_lt hj) fun i h1 h2 h3 h4=>?_,cur_at (ob_fr D b) j (Nat.le_of_lt hj) fun i h1 h2=>?_]
 ·rfl
 ·have hi:i < l.length:=by omega
  rcases h2 with ⟨k5,kb,_⟩ | k3 | ⟨g1,g2⟩
  ·rcases D.kind i j h1 hj with q | q | q
   ·exact absurd q hr.pos
   ·exact (free2_mask' q k5 kb hr).elim
   ·exact ahead D I ho he q
  ·rcases D.kind i j h1 hj with q | q | q
   ·exact absurd q hr.pos
   ·exact (free2_rd q k3 hr).elim
   ·exact ahead D I ho he q
  ·exact maker D I hf hb hi g1 g2
 ·rcases Nat.lt_or_ge j i with h5 | h5
  ·rcases h4 with ⟨k5,kb,_⟩ | k3 | ⟨g1,g2⟩
   ·rcases D.kind j i h5 h2 with q | q | q
    ·omega
    ·exact free2_mask q k5 kb hr
    ·exact behind D I hd h2 h3 q
   ·rcases D.kind j i h5 h2 with q | q | q
    ·rw [k3] at q;cases q
    ·exact free2_rd' q k3 hr
    ·exact behind D I hd h2 h3 q
   ·have:=D.le (i:=j) i h1 (Nat.le_of_lt h2);unfold N at this hN;omega
  ·rw [show i=j by omega,hd] at h3;cases h3
theorem last (D:DS P call nt ops l S K) (I:Inv nt l S K μ0 h0 w0 d μ h a w) (hf:∀ b,N S 0≤b → b < N S l.length → μ0 b=none) (ho:l[j]?=some o) (hd:d j=false) {b:Nat} (hw:Wt S K j b) (h3:K j=(3,b) → b < N S j):∀ i,j < i → i < l.length → d i=true → ¬ Wt S K i b:=fun i h5 h2 hdi h4=>by
 have hj:j < l.length:=(List.getElem?_eq_some_iff.1 ho).1
 have hN:b < N S (j+1):=by
  rcases hw with ⟨_,_,q⟩ | q | ⟨_,q⟩
  ·exact q
  ·exact Nat.lt_of_lt_of_le (h3 q) (D.mono j hj)
  ·exact q
 have hle:=D.le (i:=j+1) i h5 (Nat.le_of_lt h2)
 have h0:¬ ((K j).1=0 ∨ (K j).1=2):=fun q=>by
  rcases hw with ⟨q1,_⟩ | q1 | ⟨q1,q2⟩
  ·omega
  ·rw [q1] at q;rcases q with q | q <;> cases q
  ·obtain ⟨Λ,Λ',p⟩:=D.part j o ho;have:=p.zero q;omega
 rcases h4 with ⟨k5,_⟩ | k3 | ⟨g1,g2⟩
 ·rcases D.kind j i h5 h2 with q | q | q
  ·omega
  ·exact h0 (free2_five q k5)
  ·exact behind D I hd h2 hdi q
 ·rcases hw with ⟨q1,_⟩ | q1 | ⟨q1,q2⟩
  ·rcases D.kind j i h5 h2 with q | q | q
   ·rw [k3] at q;cases q
   ·exact free2_rd' q k3 (.inr (.inr (.inr q1)))
   ·exact behind D I hd h2 hdi q
  ·rcases D.kind j i h5 h2 with q | q | q
   ·rw [k3] at q;cases q
   ·exact free2_rd' q k3 (.inr (.inl q1))
   ·exact behind D I hd h2 hdi q
  ·have:=maker D I hf (I.three i b h2 hdi k3) hj q1 q2;rw [hd] at this;cases this
 ·unfold N at hle hN;omega
theorem step_inv (D : DS P call nt ops l S K) (I : Inv nt l S K μ0 h0 w0 d μ h a w) (hf : ∀ b, N S 0 ≤ b → b < N S l.length → μ0 b = none) (ho : l[j]? = some o) (hd : d j = false) (he : ∀ e ∈ edges o, d e = true) {Λ Λ' : AW} (p : Part P call nt ops o S K j Λ Λ') (sub : ∀ b, μ b ≠ none → Λ.heap.get b = none ∨ Λ.heap.get b = h b)
  {μ':Mu} {v v':Value} {w':World} (hv:VR μ' v v') (hput:putD nt (S j).tm o.dst v=some (S (j+1)).tm) (q:Post μ Λ w μ' Λ' w'):Inv nt l S K μ0 h0 w0 (more d j) μ' (over Λ'.heap.get h) (a.put o.dst v') w':=by
 have hj:j < l.length:=(List.getElem?_eq_some_iff.1 ho).1;have hn:Λ.next=N S j:=p.next;have hn':Λ'.next=N S (j+1):=p.next';refine ⟨I.pv.trans (PV.merge I.pv.rel sub q p.wf p.st),?_,(by cases o.dst <;> exact I.defers),fun t=>?_,fun b hb=>?_,fun b m hm=>?_,fun i x hx hdi e hee=>?_,fun i b hi hdi hk=>?_⟩
 ·cases o.dst with
  |none=>exact I.size
  |some t=>simp [Act.put,I.size]
 ·by_cases ht:o.dst=some t
  ·have hst:dstAt l j=some t:=by unfold dstAt;rw [ho];exact ht
   rw [cur_put (j:=j) hst l.length hj fun i h1 h2 h3 h4=>?_]
   ·rw [ht] at hput;obtain ⟨e1,e2⟩:=putD_eq hput;show VR μ' (tget (S (j+1)).tm t) _;rw [e1,ht];simp only [Act.put,Array.getD_eq_getD_getElem?,Array.getElem?_setIfInBounds,if_true];rw [if_pos (by rw [I.size];exact e2)];exact hv
   ·obtain ⟨x,hx⟩:∃ x,l[i]?=some x:=⟨_,List.getElem?_eq_getElem h2⟩
    rcases D.apart j i o x ho hx h1 with r | r
    ·exact behind D I hd h2 h3 r
    ·exact (Oper.apart_spec r).2.1 t ht (by unfold dstAt at h4;rw [hx] at h4;exact h4)
  ·have hst:¬ dstAt l j=some t:=fun r=>ht (by unfold dstAt at r;rw [ho] at r;exact r);rw [cur_up l.length hst];have:=(I.val t).mono q.ext;cases hdst:o.dst with
   |none=>exact this
   |some t' =>
    have:t' ≠ t:=fun r=>ht (by rw [hdst,r]);simp only [Act.put,Array.getD_eq_getD_getElem?,Array.getElem?_setIfInBounds];rw [if_neg this,← Array.getD_eq_getD_getElem?]
    assumption
 ·have three3 : K j = (3, b) → b < N S j := fun k3 => by
   rcases Nat.lt_or_ge b (N S j) with r | r
   ·exact r
   ·exact absurd (D.wf j hj b r) (p.three b k3).1
  obtain ⟨m,hm⟩:=Option.ne_none_iff_exists'.1 hb;cases e:Λ'.heap.get b with
  |some x =>
   rw [over_some e];by_cases hw:Wt S K j b
   ·rw [cur_put (j:=j) hw l.length hj (last D I hf ho hd hw three3),← e];exact p.wr b hw
   rw [cur_up (j:=j) (Wr:=fun i=>Wt S K i b) l.length hw];have hx:=p.keep b x hw e
   have hmu:μ b ≠ none:=by
    rcases q.fresh b m hm with r | ⟨r,_⟩
    ·rw [r];simp
    ·rw [p.wf b r] at hx;cases hx
   rw [← I.hp b hmu]
   rcases sub b hmu with r | r
   ·rw [hx] at r;cases r
   ·rw [← r,hx]
  |none =>
   rw [over_none e]
   have hmu:μ b ≠ none:=by
    rcases q.fresh b m hm with r | ⟨r1,r2⟩
    ·rw [r];simp
    ·exact absurd e (p.st.fill b r1 r2)
   by_cases hw:Wt S K j b;rotate_left
   ·rw [cur_up (j:=j) (Wr:=fun i=>Wt S K i b) l.length hw];exact I.hp b hmu
   rw [cur_put (j:=j) hw l.length hj (last D I hf ho hd hw three3)];have e1:(S (j+1)).A.heap.get b=none:=(p.wr b hw).symm.trans e;show h b=(S (j+1)).A.heap.get b;rw [e1];have low:¬ (N S j≤b∧b < N S (j+1)):=fun ⟨r1,r2⟩=>p.st.fill b (by rw [hn];exact r1) (by rw [hn'];exact r2) e
   rcases hw with ⟨k5,_,r⟩ | k3 | r
   ·have hlt : b < N S j := by
     rcases Nat.lt_or_ge b (N S j) with r1 | r1
     ·exact r1
     ·exact absurd ⟨r1,r⟩ low
    rw [agree D I hf ho hd he hmu hlt (.inr (.inr (.inr k5))),← p.all k5 b];cases e2:Λ.heap.get b with
    |none=>rfl
    |some x=>exact absurd e (p.st.dom b (by rw [e2];simp))
   ·exact absurd e1 (p.dom b (p.three b k3).1)
   ·exact absurd r low
 ·rcases q.fresh b m hm with r | ⟨r1,r2⟩
  ·rcases I.dom b m r with r | ⟨i,h1,h2,h3,h4⟩
   ·exact .inl r
   ·exact .inr ⟨i,h1,more_mono h2,h3,h4⟩
  ·exact .inr ⟨j,hj,more_same d j,by rw [← hn];exact r1,by rw [← hn'];exact r2⟩
 ·have hde : d e = true := by
   by_cases hij:i=j
   ·subst hij;rw [ho] at hx;cases hx;exact he e hee
   ·rw [more_ne hij] at hdi;exact I.closed i x hx hdi e hee
  exact more_mono hde
 ·by_cases hij:i=j
  ·subst hij;obtain ⟨_,y,hy,hc,aa,h1,h2,h3⟩:=p.three b hk;cases y with
   |tmp t =>
    have hv:=slots D I ho hd he t (by unfold Oper.looksAt;rw [List.mem_append];left;rw [List.mem_filterMap];exact ⟨.tmp t,by simpa using hy,rfl⟩);rw [show tget (S i).tm t=_ from h1] at hv;generalize a.tmps.getD t undef=u at hv;cases hv with
    |ptr ha =>
     cases ha with
     |at_ _ hm=>rw [h2] at hm;rw [q.ext _ _ hm];simp
     |opq hs=>rw [h3] at hs;cases hs
   |const v=>rw [show v=_ from h1] at hc;cases hc
   |global g=>cases h1;cases h3
   |func f=>cases h1
  ·rw [more_ne hij] at hdi;obtain ⟨m,hm⟩:=Option.ne_none_iff_exists'.1 (I.three i b hi hdi hk);rw [q.ext _ _ hm];simp
theorem mem_ready {listed:Array Bool} {i:Nat} (h:i ∈ Region.ready .any ops listed):i < ops.size∧listed.getD i true=false∧∃ o,ops.toList[i]?=some o∧∀ e ∈ edges o,listed.getD e false=true:=by
 unfold Region.ready at h;rw [List.mem_filter,List.mem_range] at h;obtain ⟨h1,h2⟩:=h;simp only [Bool.and_eq_true,Bool.not_eq_true'] at h2;refine ⟨h1,h2.1,ops[i],by simp [h1],fun e he=>?_⟩;have h3:=h2.2;rw [Array.getElem?_eq_getElem h1] at h3;simp only [Option.map_some,Option.getD_some] at h3;rw [Array.all_eq_true'] at h3;unfold edges at he;rw [List.mem_map] at he;obtain ⟨x,hx,rfl⟩:=he;rw [List.mem_filter] at hx;have:=h3 x (by simpa using hx.1);rw [hx.2] at this
 simpa using this
theorem ready_of {listed:Array Bool} {i:Nat} {o:Oper} (h1:i < ops.size) (h2:listed.getD i true=false) (ho:ops.toList[i]?=some o) (he:∀ e ∈ edges o,listed.getD e false=true):i ∈ Region.ready .any ops listed:=by
 unfold Region.ready;rw [List.mem_filter,List.mem_range];refine ⟨h1,?_⟩;simp only [Bool.and_eq_true,Bool.not_eq_true'];refine ⟨h2,?_⟩;rw [show ops[i]?=some o by simpa using ho];simp only [Option.map_some,Option.getD_some];rw [Array.all_eq_true'];intro x hx;cases hb:Region.binds .any x with
 |false=>simp
 |true =>
  have:=he x.on (by unfold edges;rw [List.mem_map];exact ⟨x,by rw [List.mem_filter];exact ⟨by simpa using hx,hb⟩,rfl⟩);simp [this]
theorem all_done {listed:Array Bool} (hz:listed.size=ops.size) (hl:∀ i o,ops.toList[i]?=some o → ∀ e ∈ edges o,e < i) (h:Region.ready .any ops listed=[]):∀ i,i < ops.size → listed.getD i false=true:=by
 intro i
 induction i using Nat.strongRecOn with
 |_ i ih =>
  intro hi;cases hg:listed.getD i false with
  |true=>rfl
  |false =>
   have ho:ops.toList[i]?=some ops[i]:=by simp [hi]
   have:=ready_of (listed:=listed) (o:=ops[i]) hi (by
    (have h1:i < listed.size:=by omega);simp [Array.getD_eq_getD_getElem?,h1] at hg ⊢;exact hg) ho fun e he=>ih e (hl i _ ho e he) (by have:=hl i _ ho e he;omega)
   rw [h] at this;cases this
theorem draw_any (hs : CS P call) (hm : CM call) {Q : Exit → Act → World → Prop} (D : DS P call nt ops ops.toList S K) (hf : ∀ b, N S 0 ≤ b → b < N S ops.toList.length → μ0 b = none)
  (hQ:∀ d μ h a w,(∀ i,i < ops.toList.length → d i=true) → Inv nt ops.toList S K μ0 h0 w0 d μ h a w → Q .normal a w) :
  ∀ (fuel:Nat) (listed:Array Bool) (U:List Nat) (μ:Mu) (h:Nat → Option AObj) (a:Act) (w:World),listed.size=ops.size → U.length≤fuel → (∀ i,i < ops.size → listed.getD i false=false → i ∈ U) →
   Inv nt ops.toList S K μ0 h0 w0 (fun i=>listed.getD i false) μ h a w → wpAny P .any ops Q fuel listed a w
 |0,listed,U,μ,h,a,w,hz,hu,hm,I=>by
  have hU:U=[]:=List.length_eq_zero_iff.1 (Nat.le_zero.1 hu)
  have hd:∀ i,i < ops.size → listed.getD i false=true:=fun i hi=>by
   cases e:listed.getD i false with
   |true=>rfl
   |false=>have:=hm i hi e;rw [hU] at this;cases this
  refine ⟨?_,hQ _ μ h a w (fun i hi=>hd i (by simpa using hi)) I⟩;rw [List.eq_nil_iff_forall_not_mem];intro i hi;obtain ⟨h1,h2,_⟩:=mem_ready hi;have h3:=hd i h1;have h4:i < listed.size:=by omega
  simp [Array.getD_eq_getD_getElem?,h4] at h2 h3;rw [h2] at h3;cases h3
 |fuel+1,listed,U,μ,h,a,w,hz,hu,hmm,I=>by
  refine ⟨fun hr=>hQ _ μ h a w (fun i hi=>all_done hz D.edge hr i (by simpa using hi)) I,fun j hj=>?_⟩;obtain ⟨h1,h2,o,ho,he⟩:=mem_ready hj;have h4:j < listed.size:=by omega
  have hd:listed.getD j false=false:=by simp [Array.getD_eq_getD_getElem?,h4] at h2 ⊢;exact h2
  obtain ⟨Λ,Λ',p⟩:=D.part j o ho
  have sub:∀ b,μ b ≠ none → Λ.heap.get b=none ∨ Λ.heap.get b=h b:=fun b hb=>by
   rcases p.sub b with r | ⟨r1,r2⟩
   ·exact .inl r
   ·rcases Nat.lt_or_ge b (N S j) with r3 | r3
    ·exact .inr (r1.trans (agree D I hf ho hd he hb r3 r2).symm)
    ·exact .inl (p.wf b (by rw [p.next];exact r3))
  have hfr:Fresh μ Λ Λ':=fun b hb hl=>by
   cases e:μ b with
   |none=>rfl
   |some m =>
    have:=maker D I hf (by rw [e];simp) (by simpa using h1) (show N S j≤b by rw [p.next] at hb;exact hb) (by rw [p.next'] at hl;exact hl);rw [hd] at this;cases this
  have hmore:(fun i=>(listed.setIfInBounds j true).getD i false)=more (fun i=>listed.getD i false) j:=by
   funext i
   unfold more;simp only [Array.getD_eq_getD_getElem?,Array.getElem?_setIfInBounds];by_cases hij:i=j
   ·subst hij;simp [h4]
   ·rw [if_neg hij,if_neg (fun r=>hij r.symm)]
  have:=stepOp_sim' hs hm (ops:=ops) (K:=wpAny P .any ops Q fuel (listed.setIfInBounds j true)) (Q:=Q) p.wf (slots D I ho hd he) (sub_rel I.pv.rel sub) p.step hfr fun μ' v v' w' hv hp q=>by
   have hI:=step_inv D I hf ho hd he p sub hv hp q;rw [← hmore] at hI;refine draw_any hs hm D hf hQ fuel _ (U.erase j) μ' _ _ w' (by simp [hz]) ?_ (fun i hi hdi=>?_) hI
   ·rw [List.length_erase_of_mem (hmm j h1 hd)];omega
   ·have hdi':more (fun i=>listed.getD i false) j i=false:=by rw [← hmore];exact hdi
    by_cases hij:i=j
    ·subst hij;rw [more_same] at hdi';cases hdi'
    ·rw [more_ne hij] at hdi';exact (List.mem_erase_of_ne hij).2 (hmm i hi hdi')
  unfold wpOp;rw [show ops[j]?=some o by simpa using ho];simp only
  split
  ·rename_i hwt;rw [if_pos hwt] at this;exact .inl this
  ·rename_i hwt;rw [if_neg hwt] at this;exact this
theorem zip_all {α:Type} {l:List α} {f:α × Nat → Bool} (h:l.zipIdx.all f=true) {i:Nat} {x:α} (hx:l[i]?=some x):f (x,i)=true:=by
 rw [List.all_eq_true] at h;exact h _ (List.mk_mem_zipIdx_iff_getElem?.2 hx)
theorem ds_of {s s' : St} {ks : List (Nat × Nat)} (hm : CM call) (hw : WF s.A) (h1 : drawOk ops = true) (h2 : runDraw P call nt ops ops.toList s [] = some (s', ks)) (h3 : kindsOk (masks ops.toList 0 []) ks = true) :
  ∃ S K,S 0=s∧S ops.toList.length=s'∧DS P call nt ops ops.toList S K:=by
 obtain ⟨S,K,q0,q1,q2,T⟩:=runDraw_trace _ _ _ _ _ h2
 have hk:∀ i,i < ops.toList.length → ks[i]?=some (K i):=fun i hi=>by
  rw [q2];simp at hi;simp [hi]
 have hwf:∀ i,i≤ops.toList.length → WF (S i).A∧∀ k,k < i → N S k≤N S (k+1):=fun i=>by
  induction i with
  |zero=>intro _;rw [q0];exact ⟨hw,fun k h=>absurd h (Nat.not_lt_zero k)⟩
  |succ i ih =>
   intro hi;obtain ⟨w1,w2⟩:=ih (by omega);obtain ⟨s1,hs1,htm,hhp,hnx,_⟩:=T.step i _ (List.getElem?_eq_getElem (show i < ops.toList.length by omega));have hst:=stepOp_step hm (s:=⟨(S i).tm,base (S i)⟩) w1 hs1;refine ⟨fun b hb=>?_,fun k hk=>?_⟩
   ·rw [hhp];exact hst.wf b (by rw [← hnx];exact hb)
   ·rcases Nat.lt_or_ge k i with r | r
    ·exact w2 k r
    ·rw [show k=i by omega];unfold N;rw [hnx];exact hst.next
 unfold drawOk at h1;simp only [Bool.and_eq_true] at h1;refine ⟨S,K,q0,q1,⟨fun i o ho e he=>?_,fun i j x y hx hy hij=>?_,fun i j hij hj=>?_,fun j o ho=>frame T hm ho (hwf j (Nat.le_of_lt (List.getElem?_eq_some_iff.1 ho).1)).1,fun i hi=>(hwf (i+1) hi).2 i (Nat.lt_succ_self i),fun i hi=>(hwf i (Nat.le_of_lt hi)).1⟩⟩
 ·have:=zip_all h1.1 ho;simp only [List.all_eq_true] at this;exact blt_lt (this e he)
 ·have:=zip_all h1.2 hy;have:=zip_all this hx;simp only [Bool.or_eq_true,Bool.not_eq_true'] at this
  rcases this with (r | r) | r
  ·rw [show Nat.blt i j=true by rw [Nat.blt_eq];exact hij] at r;cases r
  ·exact .inl r
  ·exact .inr r
 ·have:=zip_all h3 (hk j hj);simp only [Bool.or_eq_true] at this
  rcases this with r | r
  ·exact .inl (Nat.eq_of_beq_eq_true r)
  ·have:=zip_all r (hk i (by omega));simp only [Bool.or_eq_true,Bool.not_eq_true'] at this
   rcases this with (r | r) | r
   ·rw [show Nat.blt i j=true by rw [Nat.blt_eq];exact hij] at r;cases r
   ·exact .inr (.inl r)
   ·exact .inr (.inr r)
theorem draw_sim (hmix : P.follows .mixedOrders = true) (hs : CS P call) (hm : CM call) {id : Nat} {s s' : St} {Q : Exit → Act → World → Prop} (hw : WF s.A) (ht : TR μ nt s.tm a) (R : Rel μ s.A.heap.get w)
  (e:(bif drawOk ops then match runDraw P call nt ops ops.toList s [] with
   |some (s',ks)=>bif kindsOk (masks ops.toList 0 []) ks then some s' else none
   |none=>none
  else none)=some s') (hf:Fresh μ s.A s'.A)
  (hQ:∀ μ' a' w',TR μ' nt s'.tm a' → Post μ s.A w μ' s'.A w' → Q .normal a' w'):(Code.region id ops true).wp P Q a w:=by
 cases h1:drawOk ops with
 |false=>rw [h1] at e;cases e
 |true =>
  rw [h1] at e;simp only [cond_true] at e
  split at e
  ·rename_i s1 ks h2;cases h3:kindsOk (masks ops.toList 0 []) ks with
   |false=>rw [h3] at e;cases e
   |true =>
    rw [h3] at e;simp only [cond_true,Option.some.injEq] at e;subst e;obtain ⟨S,K,q0,q1,D⟩:=ds_of hm hw h1 h2 h3;subst q0;subst q1;have hP:=post_drew R;refine wp_region_any hmix ?_
    have hd0:(fun i=>(Array.replicate ops.size false).getD i false)=fun _=>false:=by
     funext i
     simp only [Array.getD_eq_getD_getElem?,Array.getElem?_replicate]
     split <;> rfl
    have cur0:∀ {α:Type} (X:Nat → α) (Wr:Nat → Prop) (m:Nat),cur X Wr (fun _=>false) m=X 0:=fun X Wr m=>by
     induction m with
     |zero=>rfl
     |succ m ih=>rw [cur,if_neg (fun r=>by cases r.1),ih]
    refine draw_any hs hm D (μ0:=μ) (h0:=(S 0).A.heap.get) (w0:=w) hf (fun d μ2 h2 a2 w2 hall I=>?_) ops.size _ (List.range ops.size) μ (S 0).A.heap.get a w.drew (by simp) (by simp) (fun i hi _=>List.mem_range.2 hi) ?_
    ·have hsl:∀ t,cur (slot S t) (fun i=>dstAt ops.toList i=some t) d ops.toList.length=tget (S ops.toList.length).tm t:=fun t=>cur_at (slot_fr D t) _ (Nat.le_refl _) fun i hi _=>hall i hi;have hob:∀ b,cur (ob S b) (fun i=>Wt S K i b) d ops.toList.length=(S ops.toList.length).A.heap.get b:=fun b=>cur_at (ob_fr D b) _ (Nat.le_refl _) fun i hi _=>hall i hi;(have pv:=I.pv.congr (h1':=(S ops.toList.length).A.heap.get) fun b hb=>by rw [I.hp b hb,hob]);refine hQ μ2 a2 w2 ⟨I.size,I.defers,fun t=>by rw [← hsl];exact I.val t⟩ ⟨pv.ext,pv.rel,pv.os,pv.tape,pv.output,pv.size,pv.fr,pv.tch,fun b m hm=>?_,D.le _ (Nat.zero_le _) (Nat.le_refl _)⟩
     rcases I.dom b m hm with r | ⟨i,r1,r2,r3,r4⟩
     ·exact .inl r
     ·exact .inr ⟨Nat.le_trans (D.le i (Nat.zero_le _) (Nat.le_of_lt r1)) r3,Nat.lt_of_lt_of_le r4 (D.le (i:=i+1) _ r1 (Nat.le_refl _))⟩
    ·rw [hd0];refine ⟨⟨hP.ext,hP.rel,hP.os,hP.tape,hP.output,hP.size,hP.fr,hP.tch⟩,ht.size,ht.defers,fun t=>by rw [cur0];exact ht.val t,fun b _=>by rw [cur0];rfl,fun b m hm=>.inl hm,fun i o _ r=>(by cases r),fun i b _ r=>(by cases r)⟩
  ·cases e
end
end Go.Proofs.Ytpbhkdamkbopkaa.Rf
namespace Go.Proofs.Ytpbhkdamkbopkaa.Rf
open Go
variable {P:Program} {call:Callf} {nt:Nat}
def exOf:AEx → Exit
 |.normal=>.normal
 |.exit id=>.exit id
 |.ret=>.ret
theorem region_sim (hmix : P.follows .mixedOrders = true) (hs : CS P call) (hm : CM call) {id : Nat} {ops : Array Oper} {draw : Bool} {s s' : St} {μ : Mu} {a : Act} {w : World} {Q : Exit → Act → World → Prop} (hw : WF s.A) (ht : TR μ nt s.tm a) (R : Rel μ s.A.heap.get w) (e : region P call nt ops draw s = some s') (hf : Fresh μ s.A s'.A)
  (hQ:∀ μ' a' w',TR μ' nt s'.tm a' → Post μ s.A w μ' s'.A w' → Q .normal a' w'):(Code.region id ops draw).wp P Q a w:=by
 unfold region at e;cases draw with
 |false =>
  simp only [cond_false] at e;refine wp_region ?_;have:=runOps_sim hs hm (Q:=Q) ops.toList 0 s s' μ a w (by simp) hw ht R e hf hQ;rw [List.range_eq_range']
  simpa using this
 |true =>
  simp only [cond_true] at e;exact draw_sim hmix hs hm hw ht R e hf hQ
def XS (P:Program) (nt:Nat) (f:St → Option (AEx × St)) (c:Code):Prop:=∀ (s:St) (ex:AEx) (s':St) (μ:Mu) (a:Act) (w:World) (Q:Exit → Act → World → Prop),WF s.A → TR μ nt s.tm a → Rel μ s.A.heap.get w → f s=some (ex,s') → Fresh μ s.A s'.A → (∀ μ' a' w',TR μ' nt s'.tm a' → Post μ s.A w μ' s'.A w' → Q (exOf ex) a' w') → c.wp P Q a w
theorem loopN_ne {f:St → Option (AEx × St)}:∀ (k:Nat) (s:St) (ex:AEx) (s':St),loopN f k s=some (ex,s') → ex ≠ .normal
 |0,s,ex,s',e=>by cases e
 |k+1,s,ex,s',e=>by
  unfold loopN at e
  split at e
  ·exact loopN_ne k _ ex s' e
  ·rename_i hne;exact fun q=>by subst q;exact hne _ e
theorem loopN_sim {f : St → Option (AEx × St)} {c : Code} (hstep : ∀ s ex s', WF s.A → f s = some (ex, s') → AStep s.A s'.A) (hsim : XS P nt f c) :
  ∀ (k:Nat) (s:St) (ex:AEx) (s':St) (μ:Mu) (a:Act) (w:World) (Q:Exit → Act → World → Prop),WF s.A → TR μ nt s.tm a → Rel μ s.A.heap.get w → loopN f k s=some (ex,s') → Fresh μ s.A s'.A → (ex ≠ .normal → ∀ μ' a' w',TR μ' nt s'.tm a' → Post μ s.A w μ' s'.A w' → Q (exOf ex) a' w') → ex ≠ .normal∧Code.rounds P c Q k a w
 |0,s,ex,s',μ,a,w,Q,_,_,_,e,_,_=>by cases e
 |k+1,s,ex,s',μ,a,w,Q,hw,ht,R,e,hf,hQ=>by
  unfold loopN at e
  split at e
  ·rename_i s1 h1;have k1:=hstep _ _ _ hw h1;have k2:=loopN_step hstep k s1 ex s' k1.wf e;refine ⟨?_,?_⟩
   ·exact (loopN_ne k s1 ex s' e)
   ·rw [rounds_succ];refine hsim s .normal s1 μ a w _ hw ht R h1 (hf.left k2.next) fun μ1 a1 w1 t1 p1=>?_;exact (loopN_sim hstep hsim k s1 ex s' μ1 a1 w1 Q k1.wf t1 p1.rel e (hf.right p1) fun hne μ2 a2 w2 t2 p2=>hQ hne μ2 a2 w2 t2 (p1.trans p2)).2
  ·rename_i hne;(have hne:ex ≠ .normal:=fun q=>by subst q;exact hne _ e);refine ⟨hne,?_⟩;rw [rounds_succ];refine hsim s ex s' μ a w _ hw ht R e hf fun μ1 a1 w1 t1 p1=>?_;have:=hQ hne μ1 a1 w1 t1 p1;cases ex with
   |normal=>exact absurd rfl hne
   |exit id=>exact this
   |ret=>exact this
theorem exec_sim (hmix:P.follows .mixedOrders=true) (hs:CS P call) (hm:CM call) (L:Nat):∀ (c:Code),XS P nt (exec P call nt L c) c:=by
 intro c
 induction c with
 |skip=>intro s ex s' μ a w Q _ ht R e _ hQ;simp only [exec,Option.some.injEq,Prod.mk.injEq] at e;obtain ⟨rfl,rfl⟩:=e;exact wp_skip (hQ μ a w ht (Post.refl R))
 |label l=>intro s ex s' μ a w Q _ ht R e _ hQ;simp only [exec,Option.some.injEq,Prod.mk.injEq] at e;obtain ⟨rfl,rfl⟩:=e;exact wp_label (hQ μ a w ht (Post.refl R))
 |exit id=>intro s ex s' μ a w Q _ ht R e _ hQ;simp only [exec,Option.some.injEq,Prod.mk.injEq] at e;obtain ⟨rfl,rfl⟩:=e;exact wp_exit (hQ μ a w ht (Post.refl R))
 |ret=>intro s ex s' μ a w Q _ ht R e _ hQ;simp only [exec,Option.some.injEq,Prod.mk.injEq] at e;obtain ⟨rfl,rfl⟩:=e;exact wp_ret (hQ μ a w ht (Post.refl R))
 |region id ops draw =>
  intro s ex s' μ a w Q hw ht R e hf hQ;simp only [exec] at e
  split at e
  ·rename_i s1 h1;simp only [Option.some.injEq,Prod.mk.injEq] at e;obtain ⟨rfl,rfl⟩:=e;exact region_sim hmix hs hm hw ht R h1 hf hQ
  ·cases e
 |seq x y ihx ihy =>
  intro s ex s' μ a w Q hw ht R e hf hQ;simp only [exec] at e;refine wp_seq ?_
  split at e
  ·rename_i s1 h1;have k1:=exec_step hm L x _ _ _ hw h1;have k2:=exec_step hm L y _ _ _ k1.wf e;exact ihx _ _ _ μ a w _ hw ht R h1 (hf.left k2.next) fun μ1 a1 w1 t1 p1=>ihy _ _ _ μ1 a1 w1 _ k1.wf t1 p1.rel e (hf.right p1) fun μ2 a2 w2 t2 p2=>hQ μ2 a2 w2 t2 (p1.trans p2)
  ·rename_i hne;refine ihx _ _ _ μ a w _ hw ht R e hf fun μ1 a1 w1 t1 p1=>?_;have:=hQ μ1 a1 w1 t1 p1;cases ex with
   |normal=>exact absurd e (hne _)
   |exit id=>exact this
   |ret=>exact this
 |cond c x y ihx ihy =>
  intro s ex s' μ a w Q hw ht R e hf hQ;simp only [exec] at e
  have hcl:∀ b,ev s.tm c=.bool b → a.eval c=.bool b:=fun b hb=>by
   cases c with
   |tmp t=>have hv:=ht.val t;rw [show tget s.tm t=_ from hb] at hv;exact hv.bool_inv
   |const v=>exact hb
   |global g=>cases hb
   |func f=>cases hb
  split at e
  ·rename_i h1;exact wp_cond_true (hcl _ h1) (ihx _ _ _ μ a w _ hw ht R e hf hQ)
  ·rename_i h1;exact wp_cond_false (hcl _ h1) (ihy _ _ _ μ a w _ hw ht R e hf hQ)
  ·cases e
 |block id c ih =>
  intro s ex s' μ a w Q hw ht R e hf hQ;simp only [exec] at e;refine wp_block ?_
  split at e
  ·rename_i j s1 h1;simp only [Option.some.injEq,Prod.mk.injEq] at e;obtain ⟨rfl,rfl⟩:=e;refine ih _ _ _ μ a w _ hw ht R h1 hf fun μ1 a1 w1 t1 p1=>?_;have:=hQ μ1 a1 w1 t1 p1;show if j=id then Q .normal a1 w1 else Q (.exit j) a1 w1;cases hj:Nat.beq j id with
   |true=>rw [hj] at this;rw [if_pos (Nat.eq_of_beq_eq_true hj)];exact this
   |false=>rw [hj] at this;rw [if_neg (Nat.ne_of_beq_eq_false hj)];exact this
  ·rename_i hne;refine ih _ _ _ μ a w _ hw ht R e hf fun μ1 a1 w1 t1 p1=>?_;have:=hQ μ1 a1 w1 t1 p1;cases ex with
   |normal=>exact this
   |exit id=>exact absurd e (hne _ _)
   |ret=>exact this
 |loop c ih =>
  intro s ex s' μ a w Q hw ht R e hf hQ;simp only [exec] at e;exact wp_loop_rounds L (loopN_sim (fun s ex s' h e=>exec_step hm L c s ex s' h e) ih L s ex s' μ a w Q hw ht R e hf fun _=>hQ).2
 |scope c ih =>
  intro s ex s' μ a w Q hw ht R e hf hQ;simp only [exec] at e;refine wp_scope_straight (ih _ _ _ μ a w _ hw ht R e hf fun μ1 a1 w1 t1 p1=>?_);have:=hQ μ1 a1 w1 t1 p1;cases ex <;> exact this
 |_=>intro s ex s' μ a w Q hw ht R e;simp only [exec] at e;cases e
theorem results_by (tmps : Array Value) : ∃ g : ResultVar → Sem Value, (∀ t, g (.tmp t) = pure (tmps.getD t undef)) ∧ (∀ b t, g (.cell b t) = asAddr (tmps.getD b undef) >>= fun x => loadVar t x) ∧
  ∀ fn:Func,results fn tmps=fn.results.mapM g >>= fun vs=>pure (if h:vs.size=1 then vs[0] else .tuple vs):=⟨_,fun _=>rfl,fun _ _=>rfl,fun _=>rfl⟩
theorem results_sim {s:St} {μ:Mu} {a:Act} {w:World} (ht:TR μ nt s.tm a) (R:Rel μ s.A.heap.get w) {fn:Func} {v:Value} (e:resultsA P fn s=some v):∃ v',(results fn a.tmps).run P w=.ok v' w∧VR μ v v':=by
 obtain ⟨g,g1,g2,g3⟩:=results_by a.tmps
 have one:∀ (r:ResultVar) (v:Value),results1 P s r=some v → ∃ v',(g r).run P w=.ok v' w∧VR μ v v':=fun r v e=>by
  cases r with
  |tmp t=>simp only [results1,Option.some.injEq] at e;subst e;rw [g1];exact ⟨_,rfl,ht.val t⟩
  |cell b t =>
   rw [g2];simp only [results1] at e
   split at e
   ·rename_i ad h1;have hv:=ht.val b;rw [h1] at hv;generalize a.tmps.getD b undef=u at hv;cases hv with
    |ptr ha =>
     obtain ⟨v',q1,q2⟩:=load_sim R ha e;exact ⟨v',by simp only [asAddr,Sem.run_bind,Sem.run_pure,Result.andThen_ok];exact q1,q2⟩
   ·cases e
 have hl:∀ (rs:List ResultVar) (vs:List Value),rs.mapM (results1 P s)=some vs → ∃ vs',(rs.mapM g).run P w=.ok vs' w∧LR μ vs vs':=by
  intro rs
  induction rs with
  |nil=>intro vs h;simp at h;subst h;exact ⟨[],by simp,LR.nil μ⟩
  |cons r rs ih =>
   intro vs h;rw [List.mapM_cons] at h;simp only [bind,Option.bind_eq_some_iff,pure,Option.some.injEq] at h;obtain ⟨x,h1,xs,h2,rfl⟩:=h;obtain ⟨x',q1,q2⟩:=one _ _ h1;obtain ⟨xs',q3,q4⟩:=ih xs h2;refine ⟨x' :: xs',?_,LR.cons q2 q4⟩;rw [List.mapM_cons];simp only [Sem.run_bind,Sem.run_pure,q1,Result.andThen_ok,q3]
 unfold resultsA at e
 have fin:∀ vs',(fn.results.toList.mapM g).run P w=.ok vs' w → (results fn a.tmps).run P w=.ok (if h:vs'.toArray.size=1 then vs'.toArray[0] else .tuple vs'.toArray) w:=fun vs' h=>by
  rw [g3,Array.mapM_eq_mapM_toList];simp only [Sem.run_bind,Sem.run_map,h,Result.andThen_ok,Sem.run_pure]
 split at e
 ·rename_i u h1;simp only [Option.some.injEq] at e;subst e;obtain ⟨vs',q1,q2⟩:=hl _ _ h1
  obtain ⟨u',rfl⟩:∃ u',vs'=[u']:=by
   have:=q2.1
   match vs',this with
   |[u'],_=>exact ⟨u',rfl⟩
  exact ⟨u',fin _ q1,q2.2 0 _ _ rfl rfl⟩
 ·rename_i l hne h1;simp only [Option.some.injEq] at e;subst e;obtain ⟨vs',q1,q2⟩:=hl _ _ h1;refine ⟨.tuple vs'.toArray,?_,VR.tuple' (by simpa using q2)⟩;rw [fin _ q1,dif_neg];intro h;have h2:l.length=1:=by rw [q2.1];simpa using h
  match l,h2 with
  |[u],_=>exact hne u rfl
 ·cases e
theorem callF_sim (hmix:P.follows .mixedOrders=true) (hs:CS P call) (hm:CM call) (L:Nat):CS P (callF P call L):=by
 intro f args A v A' hw e μ w args' hl R hf;unfold callF at e
 split at e
 ·rename_i fn h1
  split at e
  ·rename_i c h2;cases hle:Nat.ble args.size fn.ntmps with
   |false=>rw [hle] at e;cases e
   |true =>
    rw [hle] at e;simp only [cond_true] at e;(have hsz:args'.size=args.size:=by have:=hl.1;simpa using this.symm);have hle:=Nat.le_of_ble_eq_true hle
    have ht:TR μ fn.ntmps (mkCells args.toList 0 .e) { tmps:=args' ++ Array.replicate (fn.ntmps - args'.size) undef,defers:=[] }:=by
     refine ⟨by simp;omega,rfl,fun t=>?_⟩;unfold tget;rw [get_mkCells];simp only [Nat.zero_le,true_and,Nat.zero_add,Array.length_toList,Nat.sub_zero,Array.getD_eq_getD_getElem?];by_cases hlt:t < args.size
     ·rw [if_pos hlt,Array.getElem?_append_left (by omega)];obtain ⟨x,hx⟩:∃ x,args.toList[t]?=some x:=⟨_,List.getElem?_eq_getElem (by simpa using hlt)⟩;obtain ⟨x',q1,q2⟩:=hl.get hx;rw [hx];rw [show args'[t]?=some x' by simpa using q1];exact q2
     ·rw [if_neg hlt,Array.getElem?_append_right (by omega),Array.getElem?_replicate];have:(Tr.e:Tr Value).get t=none:=rfl;rw [this];show VR μ undef _
      split <;> exact VR.undef μ
    have hx:=exec_sim (nt:=fn.ntmps) hmix hs hm L c;refine calls_of_wp h1 h2 ?_
    split at e
    ·rename_i s h3
     split at e
     ·rename_i u h4;simp only [Option.some.injEq,Prod.mk.injEq] at e;obtain ⟨rfl,rfl⟩:=e;refine hx _ _ _ μ _ w _ hw ht R h3 hf fun μ1 a1 w1 t1 p1=>?_;obtain ⟨v',q1,q2⟩:=results_sim t1 p1.rel h4;exact ⟨t1.defers,v',q1,μ1,v',rfl,q2,p1⟩
     ·cases e
    ·rename_i s h3
     split at e
     ·rename_i u h4;simp only [Option.some.injEq,Prod.mk.injEq] at e;obtain ⟨rfl,rfl⟩:=e;refine hx _ _ _ μ _ w _ hw ht R h3 hf fun μ1 a1 w1 t1 p1=>?_;obtain ⟨v',q1,q2⟩:=results_sim t1 p1.rel h4;exact ⟨t1.defers,v',q1,μ1,v',rfl,q2,p1⟩
     ·cases e
    ·cases e
  ·cases e
 ·cases e
def OS (P:Program) (O:Orf):Prop:=∀ args A v A',WF A → O args A=some (v,A') → ∀ (μ:Mu) (w:World) (args':Array Value),LR μ args.toList args'.toList → Rel μ A.heap.get w → Fresh μ A A' →
 Calls P orcF args' w fun e w'=>∃ μ' v',e=.returned v'∧VR μ' v v'∧Post μ A w μ' A' w'
theorem orc_sim {O:Orf} (hO:OS P O) {c:Callf} (hc:CS P c):CS P (orc O c):=fun f args A v A' h e=>by
 unfold orc at e;cases hf:Nat.beq f orcF with
 |false=>rw [hf] at e;exact hc _ _ _ _ _ h e
 |true =>
  rw [hf,cond_true] at e
  split at e
  ·rename_i r hr;cases e;rw [Nat.eq_of_beq_eq_true hf];exact hO _ _ _ _ h hr
  ·exact hc _ _ _ _ _ h e
theorem noO_sim:OS P noO:=fun _ _ _ _ _ e=>by cases e
theorem runF_sim (hmix:P.follows .mixedOrders=true) {O:Orf} (hm:OM O) (hO:OS P O) (L:Nat):∀ n,CS P (runF P O L n)
 |0=>fun _ _ _ _ _ _ e=>by cases e
 |n+1=>orc_sim hO (callF_sim hmix (runF_sim hmix hm hO L n) (runF_step P hm L n) L)
end Go.Proofs.Ytpbhkdamkbopkaa.Rf
namespace Go.Proofs.Ytpbhkdamkbopkaa.Rs
open Go Go.RowKit Rf YtpbhkdamkbopkaaW.PrintWords Go.Proofs.Ytpbhkdamkbopkaa GPixb GPix
set_option maxRecDepth 10000
set_option maxHeartbeats 4000000
theorem WR.eqs {O : Orc} {Γ : Gh} {h : List (SR kt)} {nt : Nat} {ops : Array Oper} {draw : Bool} {o : Oper} {l : List Oper} {ρ : Nat → SV} {ks : List (Nat × Nat)} {Q : (Nat → SV) → List (SR kt) → Prop} {a b : ByteArray} {x y : Operand} {d : Nat} {ty ty' : TypeId}
  (r:WR Try.prog O nt ops draw Γ l (upd ρ d (c1 (.bool (a.data.toList == b.data.toList)))) h ((0,0) :: ks) Q)
  (ho:o.op=.binOp .eql ty x y ty':=by rfl) (hx:sev ρ x=c1 (.str a):=by rfl) (hy:sev ρ y=c1 (.str b):=by rfl)
  (hg:sguard ρ ops.toList o=some true:=by rfl) (hcl:opClean o.op=true:=by rfl) (hd:o.dst=some d:=by rfl) (hnt:Nat.blt d nt=true:=by rfl):WR Try.prog O nt ops draw Γ (o :: l) ρ h ks Q:=by
 refine WR.step (ρ1:=upd ρ d (c1 (.bool (a.data.toList == b.data.toList)))) (k:=(0,0)) ?_ r
 have:=One.ok (P:=Try.prog) (O:=O) (Γ:=Γ) (nt:=nt) (ops:=ops) (o:=o) (ρ:=ρ) (h:=h) (v:=c1 (.bool (a.data.toList == b.data.toList))) (h1:=h) (k:=(0,0)) hg hcl (fun ν A ρe s dd=>by
  rw [ho];refine OpOk.pure s (u:=.bool (a.data.toList == b.data.toList)) (fun z hz=>?_) rfl rfl;unfold aop;rw [hz];simp only;have h1:=dd x;rw [hx] at h1;have h2:=dd y;rw [hy] at h2;rw [show ρe x=_ from h1,show ρe y=_ from h2];rfl) (fun t q=>by rw [hd] at q;cases q;exact hnt)
 rw [hd] at this;exact this
def awakeS:ByteArray:=⟨#[2,1,5,1,0,1,0,120,156,227,100,100,96,0,0,0,43,0,11]⟩
def hd3:Code → Code
 |.seq a (.seq b (.seq c _))=>.seq a (.seq b c)
 |x=>x
def bod (f:Func):Code:=match f.body with
 |some x=>x
 |none=>.skip
def getP (r:Option (AEx × St)):Option (Value × Value):=match r with
 |some (.normal,s)=>some (tget s.tm 2,tget s.tm 3)
 |_=>none
noncomputable def pre49:Option (AEx × St):=exec Try.prog (cl Try.prog noOrc 60) 55 60 (hd3 (bod Try.f49)) ⟨mkCells [] 0 .e,A0⟩
theorem pre_ev:getP pre49=some (.string awakeS,.int .i64 0):=by kernel_rfl
theorem take_ev:pixel_Take.f 400 awakeS=some (258,1,1,[⟨1,0,0,9⟩],0):=by kernel_rfl
theorem pix_ev:pixel_Pixel.f 400 258 1 1 [⟨1,0,0,9⟩] 0 0=some (1,0,0,9):=by kernel_rfl
theorem X.three {P:Program} {O:Orc} {nt n:Nat} {a b c d:Code} {s s3:St} {Q:AEx → St → Prop} (e:exec P (cl P O n) nt n (.seq a (.seq b c)) s=some (.normal,s3)) (h:X P O nt d s3 Q):X P O nt (.seq a (.seq b (.seq c d))) s Q:=by
 simp only [exec] at e
 split at e
 ·rename_i s1 e1
  split at e
  ·rename_i s2 e2;exact X.seq ⟨n,_,_,e1,X.seq ⟨n,_,_,e2,X.seq ⟨n,_,_,e,h⟩⟩⟩
  ·rename_i q;exact absurd e (q s3)
 ·rename_i q;exact absurd e (q s3)
def Γ0:Gh:=⟨fun _=>False,fun _=>none,0,fun _=>none,fun _=>True⟩
theorem awake_X:X Try.prog noOrc 55 (bod Try.f49) ⟨mkCells [] 0 .e,A0⟩ fun ex s=>ex=.ret∧tget s.tm 0=.bool true:=by
 have hp:=pre_ev;unfold getP at hp
 split at hp
 ·rename_i s3 e3;unfold pre49 at e3;simp only [Option.some.injEq,Prod.mk.injEq] at hp;refine X.three e3 ?_;have hw:WF s3.A:=(exec_step (runF_step Try.prog noO_step 60 60) 60 _ _ _ _ (fun b _=>rfl) e3).wf;have S:SI (KT:=kt) Γ0 (fun _=>none) [] s3.A:=⟨⟨fun i s e=>(by simp at e),fun _ _=>rfl,fun _ _ _ _ e=>(nomatch e),fun i s _ _ e=>(by simp at e),fun i s e=>(by simp at e)⟩,hw,fun b hb=>hb.elim,fun i s _ _ _ e=>(by simp at e),fun j hj=>absurd hj (Nat.not_lt_zero j),Nat.le_refl _,fun _ _=>trivial,fun _ _=>trivial⟩
  have L:SL (fun _=>none) (upds (fun t=>c1 (.raw (tget s3.tm t))) [(2,c1 (.str awakeS)),(3,c1 (.int .i64 0))]) s3.tm:=by
   intro t;by_cases h2:t=2
   ·subst h2;exact hp.1
   by_cases h3:t=3
   ·subst h3;exact hp.2
   show DV _ (bif Nat.beq t 2 then _ else bif Nat.beq t 3 then _ else _) _;rw [Tr.beqf h2,Tr.beqf h3];rfl
  generalize (fun t=>c1 (.raw (tget s3.tm t)))=g at L
  have W:WS Try.prog noOrc 55 Γ0 (match bod Try.f49 with | .seq _ (.seq _ (.seq _ d))=>d | x=>x) (upds g [(2,c1 (.str awakeS)),(3,c1 (.int .i64 0))]) [] (fun ex ρ (_:List (SR kt))=>ex=.ret∧ρ 0=c1 (.bool true)):=by
   refine WS.seq ?_;refine wrg ?_;refine wr 1 ?_;refine WR.call (pixel_Take_sp _ _ _ take_ev) [] rfl rfl rfl rfl rfl trivial rfl rfl rfl rfl rfl ?_;refine wr 6 ?_;refine wn ?_;refine WS.seq ?_;refine wrg ?_;refine wr 4 ?_;refine WR.split 22 rfl (fun b1=>?_) (fun b1=>absurd b1 (by decide));refine wr 2 ?_;refine WR.eqs ?_;refine wr 2 ?_;refine WR.split 27 rfl (fun b2=>?_) (fun b2=>absurd b2 (by decide));refine wr 4 ?_;refine WR.split 31 rfl (fun b3=>?_) (fun b3=>absurd b3 (by decide));refine wr 4 ?_;refine WR.split 35 rfl (fun b4=>?_) (fun b4=>absurd b4 (by decide));refine wr 6 ?_;refine WR.split 41 rfl (fun b5=>?_) (fun b5=>absurd b5 (by decide));refine wr 8 ?_;refine WR.split 49 rfl (fun b6=>?_) (fun b6=>absurd b6 (by decide));refine wr 1 ?_;refine WR.call (pixel_Pixel_sp _ _ _ _ _ _ _ _ pix_ev) [some 0] rfl rfl rfl rfl rfl (And.intro rfl trivial) rfl rfl rfl rfl rfl ?_;refine wr 3 ?_;refine WR.split 54 rfl (fun b7=>?_) (fun b7=>absurd b7 (by decide));refine wr 1 ?_;refine wn ?_;exact WS.ret ⟨rfl,rfl⟩
  refine (W _ _ _ S L).mono fun ex s hf=>?_;obtain ⟨ν,ρ,h,s1,s2,q1,q2⟩:=hf;refine ⟨q1,?_⟩;have:=s2 0;rw [q2] at this;exact this
 ·cases hp
theorem awake_run:∃ n A',runF Try.prog noO (n+1) (n+1) 49 #[] A0=some (.bool true,A'):=by
 obtain ⟨n,ex,s,e,q1,q2⟩:=awake_X;subst q1;refine ⟨n,s.A,?_⟩;show callF Try.prog (runF Try.prog noO (n+1) n) (n+1) 49 #[] A0=_;unfold callF;rw [Try.func49];simp only;rw [show Try.f49.body=some (bod Try.f49) from rfl];simp only;rw [show Nat.ble (#[]:Array Value).size Try.f49.ntmps=true from rfl];simp only [cond_true];rw [show Try.f49.ntmps=55 from rfl];show (match exec Try.prog (runF Try.prog noO (n+1) n) 55 (n+1) (bod Try.f49) ⟨mkCells [] 0 .e,A0⟩ with | some (.normal,s) | some (.ret,s)=>(match resultsA Try.prog Try.f49 s with | some v=>some (v,s.A) | none=>none) | _=>none)=_;rw [show exec Try.prog (runF Try.prog noO (n+1) n) 55 (n+1) (bod Try.f49) ⟨mkCells [] 0 .e,A0⟩=some (.ret,s) from exec_le (runF_le (Nat.le_succ n) (Nat.le_refl n)) (Nat.le_succ n) _ _ _ e];simp only;rw [show resultsA Try.prog Try.f49 s=some (tget s.tm 0) from rfl,q2]
end Go.Proofs.Ytpbhkdamkbopkaa.Rs
namespace Go.Proofs.Ytpbhkdamkbopkaa.GOpn
open Go.RowKit YtpbhkdamkbopkaaW.PrintWords YtpbhkdamkbopkaaW.PrintLast YtpbhkdamkbopkaaW.PrintMore GHuff GInfr
def c03_low.f (a0:Int):Option (Int):=some ((((a0) % 4294967296) % 65536) % 65521)
def c03_high.f (a0:Int):Option (Int):=some ((((a0) % 4294967296) / 65536) % 65521)
def c03_More.l0:Nat → ByteArray → Int → Int → Int → Int → Option (Int)
 |0,_,_,_,_,_=>none
 |k+1,x1,x5,x6,x7,x8=>if x8 < x7 then (if 0≤x8 then (if x8 < (x1.size:Int) then (c03_More.l0 k x1 (wrap64 (x5+(wrap64 (bt x1 x8)))) (Int.tmod (wrap64 (x6+(wrap64 ((wrap64 (bt x1 x8))*(wrap64 (x7 - x8)))))) 65521) x7 (wrap64 (x8+1))) else (none)) else (none)) else (some (wrap64 ((wrap64 ((Int.tmod x6 65521)*65536))+(Int.tmod x5 65521))))
def c03_More.f (k:Nat) (a0:Int) (a1:ByteArray):Option (Int):=(c03_low.f a0).bind fun t201=>((c03_high.f a0).bind fun t202=>(c03_More.l0 k a1 t201 (wrap64 (t202+(wrap64 (((a1.size:Int) % 65521)*t201)))) (a1.size:Int) 0))
def c03_Sum.f (k:Nat) (a0:ByteArray):Option (Int):=(c03_More.f k 1 a0).bind fun t203=>(some t203)
mutual
def c05_Open.j0:Nat → ByteArray → Int → Bool → Option (ByteArray × Int)
 |0,_,_,_=>none
 |k+1,x0,x1,x19=>if x19=true then (some ((⟨#[]⟩:ByteArray),1)) else (if (x0.size:Int) < 2 then (some ((⟨#[]⟩:ByteArray),2)) else (if 0 < (x0.size:Int) then (if 1 < (x0.size:Int) then (if (Int.tmod (wrap64 (bt x0 0)) 16)=8 then (if (wrap64 (Int.tdiv (wrap64 (bt x0 0)) 16)) > 7 then (c05_Open.j1 k x0 x1 true) else (if (Int.tmod (wrap64 ((wrap64 (256*(wrap64 (bt x0 0))))+(wrap64 (bt x0 1)))) 31)=0 then (c05_Open.j1 k x0 x1 ((Int.tmod (wrap64 (Int.tdiv (wrap64 (bt x0 1)) 32)) 2) == 1)) else (c05_Open.j1 k x0 x1 true))) else (c05_Open.j1 k x0 x1 true)) else (none)) else (none)))
def c05_Open.j1:Nat → ByteArray → Int → Bool → Option (ByteArray × Int)
 |0,_,_,_=>none
 |k+1,x0,x1,x50=>if x50=true then (some ((⟨#[]⟩:ByteArray),3)) else (if 2≤(x0.size:Int) then ((c05_Raw.f k (x0.extract 2 x0.size) x1).bind fun bt204=>(if bt204.2.2=0 then (if 0≤(wrap64 (2+bt204.2.1)) then (if (wrap64 (2+bt204.2.1))≤(x0.size:Int) then (if ((x0.extract ((wrap64 (2+bt204.2.1)):Int).toNat x0.size).size:Int) < 4 then (some ((⟨#[]⟩:ByteArray),2)) else (c05_Open.l0 k bt204.1 (x0.extract ((wrap64 (2+bt204.2.1)):Int).toNat x0.size) 0 0)) else (none)) else (none)) else (some ((⟨#[]⟩:ByteArray),bt204.2.2)))) else (none))
def c05_Open.l0:Nat → ByteArray → ByteArray → Int → Int → Option (ByteArray × Int)
 |0,_,_,_,_=>none
 |k+1,x8,x11,x12,x13=>if x13 < 4 then (if 0≤x13 then (if x13 < (x11.size:Int) then (c05_Open.l0 k x8 x11 (wrap64 ((wrap64 (256*x12))+(wrap64 (bt x11 x13)))) (wrap64 (x13+1))) else (none)) else (none)) else ((c03_Sum.f k x8).bind fun t207=>(if x12=t207 then (if (x11.size:Int) > 4 then (some ((⟨#[]⟩:ByteArray),3)) else (some (x8,0))) else (some ((⟨#[]⟩:ByteArray),5))))
end
def c05_Open.f (k:Nat) (a0:ByteArray) (a1:Int):Option (ByteArray × Int):=if a1 < 0 then (c05_Open.j0 k a0 a1 true) else (c05_Open.j0 k a0 a1 (decide (a1 > 262144)))
end Go.Proofs.Ytpbhkdamkbopkaa.GOpn
