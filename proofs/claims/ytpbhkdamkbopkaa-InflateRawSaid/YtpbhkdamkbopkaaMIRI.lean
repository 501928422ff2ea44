/- Parts of the proof, glued by a program of this session (wip/tools/claimfit.py). -/
import Derived.Test.YtpbhkdamkbopkaaMIRH
namespace Go.Proofs.Ytpbhkdamkbopkaa.Inf
set_option linter.unusedSimpArgs false
set_option linter.unusedVariables false
open Go.RowKit Go.Proofs.Ytpbhkdamkbopkaa.Ext Go.Proofs.Ytpbhkdamkbopkaa.GInfr Go.Proofs.Ytpbhkdamkbopkaa.HuM Go.Proofs.YtpbhkdamkbopkaaW.PrintWords Go.Proofs.YtpbhkdamkbopkaaW.PrintLast Go.Proofs.YtpbhkdamkbopkaaW.PrintMore
theorem Length_all:∀ m:Nat,m < 29 → celluloidref05_Length.f 40 (257+(m:Int))=some (lenB.getD m 0,lenM.getD m 0):=by decide +kernel
theorem Distance_all:∀ m:Nat,m < 30 → celluloidref05_Distance.f 40 (m:Int)=some (disB.getD m 0,disM.getD m 0):=by decide +kernel
theorem length_is (m:Nat) (h:m < 29):Ev (fun k=>celluloidref05_Length.f k (257+(m:Int))) (lenB.getD m 0,lenM.getD m 0):=Ev.of (celluloidref05_Length.mono _) (Length_all m h)
theorem distance_is (m:Nat) (h:m < 30):Ev (fun k=>celluloidref05_Distance.f k (m:Int)) (disB.getD m 0,disM.getD m 0):=Ev.of (celluloidref05_Distance.mono _) (Distance_all m h)
theorem run_is {s : ByteArray} {mx p e : Int} {la lb o : List Int} {R : List Int × Int × Int} (d n : Nat) (hd : 1 ≤ d) (hdo : d ≤ o.length) (ho : o.length ≤ 1000000) (hn : n ≤ 1000000)
  (h:Ev (fun k=>celluloidref05_codes.l0 k s mx la lb (again o d n) p e) R) (m:Nat):∀ i:Nat,i+m=n → Ev (fun k=>celluloidref05_codes.l1 k s mx la lb (n:Int) (d:Int) (i:Int) (again o d i) p e) R:=by
 induction m with
 |zero =>
  intro i hi
  obtain rfl:i=n:=by omega
  refine Ev.step (fun k=>?_) h
  simp only [celluloidref05_codes.l1]
  rw [if_neg (by omega)]
 |succ m ih =>
  intro i hi
  have hl:=again_len o d i
  refine Ev.step (fun k=>?_) (ih (i+1) (by omega))
  have hr:rd (again o d i) (((again o d i).length:Int) - d)=(again o d i).getD ((again o d i).length - d) 0:=by
   rw [show ((again o d i).length:Int) - d=(((again o d i).length - d:Nat):Int) by omega];rfl
  simp only [celluloidref05_codes.l1]
  rw [if_pos (by omega),wrap_in (n:=((again o d i).length:Int) - d) (by omega) (by omega),if_pos (by omega),if_pos (by omega),if_pos (by omega),wrap_in (n:=(i:Int)+1) (by omega) (by omega),hr]
  rfl
theorem far_is {s : ByteArray} {mx : Int} {la lb : List Int} {x : St} {o : List Int} {p e y : Int} (hs : s.size ≤ 1000000) (hm : mx ≤ 262144) (hx : Ok s x) (h : Rel x o p e) (he : x.e = 0) (ho : (x.o.length : Int) ≤ mx) (hb : errOf lb = 0) (h0 : 257 ≤ y) (h1 : y < 286) :
  ∃ o' q,Rel (far s mx lb x y) o' q (far s mx lb x y).e∧∀ R,((far s mx lb x y).e=0 → Ev (fun k=>celluloidref05_codes.l0 k s mx la lb o' q 0) R) → ((far s mx lb x y).e ≠ 0 → R=(o',q,(far s mx lb x y).e)) →
   Ev (fun k=>(celluloidref05_Length.f k y).bind fun b64=>(celluloidref05_number.f k s o p e b64.2).bind fun b66=>(celluloidref05_symbol.f k s b66.2.1 b66.2.2.1 b66.2.2.2 lb).bind fun b72=>if b72.2.2.2=0 then (celluloidref05_codes.j4 k s mx la lb (wrap64 (b64.1+b66.1)) b72.1 (decide (b72.1 > 29)) b72.2.1 b72.2.2.1 b72.2.2.2) else (celluloidref05_codes.j4 k s mx la lb (wrap64 (b64.1+b66.1)) b72.1 false b72.2.1 b72.2.2.1 b72.2.2.2)) R:=by
 unfold Inf.far
 obtain ⟨r,hr⟩:∃ r:Nat,(y - 257).toNat=r:=⟨_,rfl⟩
 have hqr:=len_rng r (by omega)
 obtain ⟨n,hn⟩:∃ n:Nat,lenM.getD r 0=(n:Int):=⟨(lenM.getD r 0).toNat,by omega⟩
 have hL:=length_is r (by omega)
 rw [show 257+(r:Int)=y by omega,hn] at hL
 simp only [hr,hn]
 obtain ⟨q1,E1,R1⟩:=number_is n hs hx h (by omega)
 have a1:=Aft.bits (mx:=mx) hx n (by omega) n rfl
 have g1:=bits_get (n:=n) (k:=n) (m:=(Inf.bits s n x).1) (y:=(Inf.bits s n x).2) rfl hx (by omega) rfl
 obtain ⟨q2,E2,R2⟩:=symbol_is lb hs a1.ok R1 (fun _=>hb)
 have a2:=Aft.next (mx:=mx) (by omega) a1.ok lb (fun _=>hb)
 have g2:=next_get (m:=(Inf.next lb s (Inf.bits s n x).2).1) (y:=(Inf.next lb s (Inf.bits s n x).2).2) (by omega) a1.ok (fun _=>hb) rfl
 generalize Inf.bits s n x=m at *
 generalize Inf.next lb s m.2=d at *
 by_cases c:d.2.e=0∧d.1 ≥ 30
 ·rw [if_pos c]
  have e3:(fail d.2 3).e=3:=by unfold fail;rw [if_pos c.1]
  rw [if_neg (by rw [e3];decide),e3]
  refine ⟨o,q2,⟨e3.symm,fun h=>absurd (e3.symm.trans h) (by decide),fun h=>absurd (e3.symm.trans h) (by decide)⟩,fun R _ hR=>?_⟩
  obtain rfl:=hR (by decide)
  refine Ev.bind hL (Ev.bind E1 (Ev.bind E2 ?_))
  refine Ev.congr (fun k=>if_pos c.1) (Ev.step (f:=fun k=>celluloidref05_codes.j5 k s mx la lb (wrap64 (lenB.getD r 0+m.1)) d.1 o q2 3) (fun k=>?_) (Ev.step (f:=fun _=>some (o,q2,3)) (fun k=>?_) (Ev.now _)))
  ·simp only [celluloidref05_codes.j4];rw [if_pos (decide_eq_true (by omega))]
  ·simp only [celluloidref05_codes.j5];rw [if_neg (by decide)]
 ·rw [if_neg c]
  by_cases ce:d.2.e=0
  ·rw [if_pos ce]
   have hd0:=g2.2.1
   have h30:d.1 < 30:=Int.not_le.1 (fun h=>c ⟨ce,h⟩)
   obtain ⟨v,hv⟩:∃ v:Nat,d.1=(v:Int):=⟨d.1.toNat,by omega⟩
   have hdr:=dis_rng v (by omega)
   obtain ⟨n2,hn2⟩:∃ n2:Nat,disM.getD v 0=(n2:Int):=⟨(disM.getD v 0).toNat,by omega⟩
   have hD:=distance_is v (by omega)
   obtain ⟨q3,E3,R3⟩:=number_is n2 hs a2.ok R2 (by omega)
   have g3:=bits_get (n:=n2) (k:=n2) (m:=(Inf.bits s n2 d.2).1) (y:=(Inf.bits s n2 d.2).2) rfl a2.ok (by omega) rfl
   simp only [hv,Int.toNat_natCast,hn2]
   rw [hn2] at hD
   generalize Inf.bits s n2 d.2=u at *
   have hbase : ∀ R, Ev (fun k => if u.2.e = 0 then (if (wrap64 (disB.getD v 0 + u.1)) > (o.length : Int) then (some (o, q3, 3)) else (if (wrap64 ((o.length : Int) + (wrap64 (lenB.getD r 0 + m.1)))) > mx then (some (o, q3, 7)) else (celluloidref05_codes.l1 k s mx la lb (wrap64 (lenB.getD r 0 + m.1)) (wrap64 (disB.getD v 0 + u.1)) 0 o q3 u.2.e))) else (some (o, q3, u.2.e))) R →
     Ev (fun k=>(celluloidref05_Length.f k y).bind fun b64=>(celluloidref05_number.f k s o p e b64.2).bind fun b66=>(celluloidref05_symbol.f k s b66.2.1 b66.2.2.1 b66.2.2.2 lb).bind fun b72=>if b72.2.2.2=0 then (celluloidref05_codes.j4 k s mx la lb (wrap64 (b64.1+b66.1)) b72.1 (decide (b72.1 > 29)) b72.2.1 b72.2.2.1 b72.2.2.2) else (celluloidref05_codes.j4 k s mx la lb (wrap64 (b64.1+b66.1)) b72.1 false b72.2.1 b72.2.2.1 b72.2.2.2)) R:=fun R hR=>by
    refine Ev.bind hL (Ev.bind E1 (Ev.bind E2 ?_))
    refine Ev.congr (fun k=>if_pos ce) (Ev.step (f:=fun k=>celluloidref05_codes.j5 k s mx la lb (wrap64 (lenB.getD r 0+m.1)) (v:Int) o q2 d.2.e) (fun k=>?_) (Ev.step (f:=fun k=>(celluloidref05_Distance.f k (v:Int)).bind fun a=>(celluloidref05_number.f k s o q2 d.2.e a.2).bind fun b=>if b.2.2.2=0 then (if (wrap64 (a.1+b.1)) > (b.2.1.length:Int) then (some (b.2.1,b.2.2.1,3)) else (if (wrap64 ((b.2.1.length:Int)+(wrap64 (lenB.getD r 0+m.1)))) > mx then (some (b.2.1,b.2.2.1,7)) else (celluloidref05_codes.l1 k s mx la lb (wrap64 (lenB.getD r 0+m.1)) (wrap64 (a.1+b.1)) 0 b.2.1 b.2.2.1 b.2.2.2))) else (some (b.2.1,b.2.2.1,b.2.2.2))) (fun k=>?_) (Ev.bind hD (Ev.bind E3 hR))))
    ·simp only [celluloidref05_codes.j4];rw [hv,if_neg (by simp;omega)]
    ·simp only [celluloidref05_codes.j5];rw [if_pos ce]
   have hm1:m.1 < 65536:=by have:=(RefP.pow_16 n (by omega)).2;have:=g1.2.2.1;omega
   have hu1:u.1 < 65536:=by have:=(RefP.pow_16 n2 (by omega)).2;have:=g3.2.2.1;omega
   have hm0:=g1.2.1
   have hu0:=g3.2.1
   have ho1:(o.length:Int)=u.2.o.length ∨ u.2.e ≠ 0:=by
    by_cases cu:u.2.e=0
    ·exact .inl (by rw [R3.o cu])
    ·exact .inr cu
   have ho2:u.2.o=x.o:=by rw [g3.2.2.2.1,g2.2.2.2.1,g1.2.2.2.1]
   rw [wrap_in (n:=lenB.getD r 0+m.1) (by omega) (by omega),wrap_in (n:=disB.getD v 0+u.1) (by omega) (by omega)] at hbase
   obtain ⟨N,hN⟩:∃ N:Nat,lenB.getD r 0+m.1=(N:Int):=⟨(lenB.getD r 0+m.1).toNat,by omega⟩
   obtain ⟨D,hD1⟩:∃ D:Nat,disB.getD v 0+u.1=(D:Int):=⟨(disB.getD v 0+u.1).toNat,by omega⟩
   rw [hN,hD1] at hbase ⊢
   have hNb:N≤70000:=by omega
   have hDb:1≤D∧D≤100000:=by omega
   by_cases cu:u.2.e=0
   ·rw [if_pos cu]
    obtain rfl:=R3.o cu
    obtain rfl:=R3.p cu
    have hlen:(u.2.o.length:Int)≤mx:=by rw [ho2];exact ho
    unfold Inf.copy
    by_cases c1:(D:Int)≤u.2.o.length
    ·rw [if_pos c1]
     by_cases c2:(u.2.o.length:Int)+N≤mx
     ·rw [if_pos c2]
      refine ⟨again u.2.o D N,u.2.p,⟨rfl,fun _=>rfl,fun _=>rfl⟩,fun R hR _=>hbase R ?_⟩
      refine Ev.congr (fun k=>by rw [if_pos cu,if_neg (by omega),wrap_in (n:=(u.2.o.length:Int)+N) (by omega) (by omega),if_neg (by omega),cu]) ?_
      exact run_is D N hDb.1 (by omega) (by omega) (by omega) (hR cu) N 0 (by omega)
     ·rw [if_neg c2]
      have e7:(fail u.2 7).e=7:=by unfold fail;rw [if_pos cu]
      refine ⟨u.2.o,u.2.p,⟨rfl,fun h=>absurd (e7.symm.trans h) (by decide),fun h=>absurd (e7.symm.trans h) (by decide)⟩,fun R _ hR=>hbase R ?_⟩
      obtain rfl:=hR (by rw [e7];decide)
      exact Ev.congr (fun k=>by rw [if_pos cu,if_neg (by omega),wrap_in (n:=(u.2.o.length:Int)+N) (by omega) (by omega),if_pos (by omega),e7]) (Ev.now _)
    ·rw [if_neg c1]
     have e3:(fail u.2 3).e=3:=by unfold fail;rw [if_pos cu]
     refine ⟨u.2.o,u.2.p,⟨rfl,fun h=>absurd (e3.symm.trans h) (by decide),fun h=>absurd (e3.symm.trans h) (by decide)⟩,fun R _ hR=>hbase R ?_⟩
     obtain rfl:=hR (by rw [e3];decide)
     exact Ev.congr (fun k=>by rw [if_pos cu,if_pos (by omega),e3]) (Ev.now _)
   ·rw [if_neg cu]
    refine ⟨o,q3,R3,fun R _ hR=>hbase R ?_⟩
    obtain rfl:=hR cu
    exact Ev.congr (fun k=>if_neg cu) (Ev.now _)
  ·rw [if_neg ce]
   refine ⟨o,q2,R2,fun R _ hR=>?_⟩
   obtain rfl:=hR ce
   refine Ev.bind hL (Ev.bind E1 (Ev.bind E2 ?_))
   refine Ev.congr (fun k=>if_neg ce) (Ev.step (f:=fun k=>celluloidref05_codes.j5 k s mx la lb (wrap64 (lenB.getD r 0+m.1)) d.1 o q2 d.2.e) (fun k=>?_) (Ev.step (f:=fun _=>some (o,q2,d.2.e)) (fun k=>?_) (Ev.now _)))
   ·simp only [celluloidref05_codes.j4];rw [if_neg (by decide)]
   ·simp only [celluloidref05_codes.j5];rw [if_neg ce]
theorem codes_l0 {s : ByteArray} {mx : Int} {la lb : List Int} (hs : s.size ≤ 1000000) (hm : mx ≤ 262144) (ha : errOf la = 0) (hb : errOf lb = 0) : ∀ (k : Nat) (x : St) (o : List Int) (p e : Int), Ok s x → Rel x o p e → (x.o.length : Int) ≤ mx → (x.e = 0 → left s x ≤ k) →
  ∃ o' q,Ev (fun j=>celluloidref05_codes.l0 j s mx la lb o p e) (o',q,(codes s mx la lb k x).e)∧Rel (codes s mx la lb k x) o' q (codes s mx la lb k x).e:=by
 intro k
 induction k with
 |zero =>
  intro x o p e hx h ho hk
  have he:x.e ≠ 0:=fun c=>by have:=hk c;unfold left at this;omega
  rw [codes_stop s mx la lb 0 x he]
  have h':=h.e
  subst h'
  exact ⟨o,p,Ev.step (f:=fun _=>some (o,p,x.e)) (fun j=>by simp only [celluloidref05_codes.l0];rw [if_neg he]) (Ev.now _),h⟩
 |succ k ih =>
  intro x o p e hx h ho hk
  by_cases he:x.e=0
  ·obtain rfl:e=0:=h.e.trans he
   obtain ⟨q1,E1,R1⟩:=symbol_is la hs hx h (fun _=>ha)
   have a1:=Aft.next (mx:=mx) (by omega) hx la (fun _=>ha)
   have g1:=next_get (m:=(Inf.next la s x).1) (y:=(Inf.next la s x).2) (by omega) hx (fun _=>ha) rfl
   have hone:codes s mx la lb (k+1) x=if (one s mx la lb x).1=true then (one s mx la lb x).2 else codes s mx la lb k (one s mx la lb x).2:=by
    show (if x.e=0 then _ else _)=_
    rw [if_pos he]
   have hdef:one s mx la lb x=if (Inf.next la s x).2.e ≠ 0 ∨ (Inf.next la s x).1=256 then (true,(Inf.next la s x).2) else if (Inf.next la s x).1 < 256 then (if ((Inf.next la s x).2.o.length:Int)=mx then (true,fail (Inf.next la s x).2 7) else (false,⟨(Inf.next la s x).2.p,(Inf.next la s x).2.o ++ [(Inf.next la s x).1 % 256],(Inf.next la s x).2.e⟩)) else if (Inf.next la s x).1 ≥ 286 then (true,fail (Inf.next la s x).2 3) else (false,far s mx lb (Inf.next la s x).2 (Inf.next la s x).1):=rfl
   rw [hone,hdef]
   generalize Inf.next la s x=A at *
   have hgo:∀ R,Ev (fun k=>if A.2.e=0 then (celluloidref05_codes.j3 k s mx la lb A.1 (A.1 == 256) o q1 A.2.e) else (celluloidref05_codes.j3 k s mx la lb A.1 true o q1 A.2.e)) R → Ev (fun j=>celluloidref05_codes.l0 j s mx la lb o p 0) R:=fun R hR =>
    Ev.step (f:=fun k=>(celluloidref05_symbol.f k s o p 0 la).bind fun b=>if b.2.2.2=0 then (celluloidref05_codes.j3 k s mx la lb b.1 (b.1 == 256) b.2.1 b.2.2.1 b.2.2.2) else (celluloidref05_codes.j3 k s mx la lb b.1 true b.2.1 b.2.2.1 b.2.2.2)) (fun k=>by simp only [celluloidref05_codes.l0];rw [if_pos trivial]) (Ev.bind E1 hR)
   have htrue:∀ v E,Ev (fun k=>celluloidref05_codes.j3 k s mx la lb v true o q1 E) (o,q1,E):=fun v E=>Ev.step (f:=fun _=>some (o,q1,E)) (fun k=>by simp only [celluloidref05_codes.j3];rw [if_pos trivial]) (Ev.now _)
   by_cases c1:A.2.e ≠ 0 ∨ A.1=256
   ·rw [if_pos c1,if_pos rfl]
    refine ⟨o,q1,hgo _ ?_,R1⟩
    by_cases c:A.2.e=0
    ·have c2:A.1=256:=c1.resolve_left (fun h=>h c)
     exact Ev.congr (fun k=>by rw [if_pos c,c2];rfl) (htrue 256 A.2.e)
    ·exact Ev.congr (fun k=>if_neg c) (htrue A.1 A.2.e)
   ·have c:A.2.e=0:=Decidable.byContradiction (fun h=>c1 (.inl h))
    have c2:A.1 ≠ 256:=fun h=>c1 (.inr h)
    rw [if_neg c1]
    obtain rfl:=R1.o c
    obtain rfl:=R1.p c
    have hlen:(A.2.o.length:Int)≤mx:=a1.o ho
    have hp1:=(g1.2.2.2.2.1 c).2.1
    have hgo2:∀ R,Ev (fun k=>if A.1 < 256 then (if (A.2.o.length:Int) ≥ mx then (some (A.2.o,A.2.p,7)) else (if A.2.o.length < 140737488355328 then (celluloidref05_codes.l0 k s mx la lb (A.2.o ++ [A.1 % 256]) A.2.p 0) else none)) else (if A.1 > 285 then (some (A.2.o,A.2.p,3)) else ((celluloidref05_Length.f k A.1).bind fun b64=>(celluloidref05_number.f k s A.2.o A.2.p A.2.e b64.2).bind fun b66=>(celluloidref05_symbol.f k s b66.2.1 b66.2.2.1 b66.2.2.2 lb).bind fun b72=>if b72.2.2.2=0 then (celluloidref05_codes.j4 k s mx la lb (wrap64 (b64.1+b66.1)) b72.1 (decide (b72.1 > 29)) b72.2.1 b72.2.2.1 b72.2.2.2) else (celluloidref05_codes.j4 k s mx la lb (wrap64 (b64.1+b66.1)) b72.1 false b72.2.1 b72.2.2.1 b72.2.2.2)))) R → Ev (fun j=>celluloidref05_codes.l0 j s mx la lb A.2.o p 0) R:=fun R hR =>
     hgo R (Ev.congr (fun k=>if_pos c) (Ev.step (fun k=>by
      simp only [celluloidref05_codes.j3]
      rw [if_neg (by simpa using c2),c]) hR))
    by_cases c3:A.1 < 256
    ·rw [if_pos c3]
     by_cases c4:(A.2.o.length:Int)=mx
     ·rw [if_pos c4,if_pos rfl]
      have e7:(fail A.2 7).e=7:=by unfold fail;rw [if_pos c]
      exact ⟨A.2.o,A.2.p,hgo2 _ (Ev.congr (fun k=>by rw [if_pos c3,if_pos (by omega),e7]) (Ev.now _)),rfl,fun h=>absurd (e7.symm.trans h) (by decide),fun h=>absurd (e7.symm.trans h) (by decide)⟩
     ·rw [if_neg c4,if_neg (by simp)]
      obtain ⟨o',q,F1,F2⟩:=ih ⟨A.2.p,A.2.o ++ [A.1 % 256],A.2.e⟩ (A.2.o ++ [A.1 % 256]) A.2.p 0 ⟨g1.1.p0,g1.1.p1,g1.1.e⟩ ⟨c.symm,fun _=>rfl,fun _=>rfl⟩ (by simp;omega) (fun _=>left_less (hk he) rfl hp1 hx.p1)
      exact ⟨o',q,hgo2 _ (Ev.congr (fun k=>by rw [if_pos c3,if_neg (by omega),if_pos (by omega)]) F1),F2⟩
    ·rw [if_neg c3]
     by_cases c5:A.1 ≥ 286
     ·rw [if_pos c5,if_pos rfl]
      have e3:(fail A.2 3).e=3:=by unfold fail;rw [if_pos c]
      exact ⟨A.2.o,A.2.p,hgo2 _ (Ev.congr (fun k=>by rw [if_neg c3,if_pos (by omega),e3]) (Ev.now _)),rfl,fun h=>absurd (e3.symm.trans h) (by decide),fun h=>absurd (e3.symm.trans h) (by decide)⟩
     ·rw [if_neg c5,if_neg (by simp)]
      have hy0:257≤A.1:=by omega
      have hy1:A.1 < 286:=by omega
      obtain ⟨o1,q,F1,F2⟩:=far_is (la:=la) hs hm g1.1 R1 c hlen hb hy0 hy1
      have a2:=Aft.far (mx:=mx) (by omega) g1.1 lb hb A.1 hy0 hy1
      obtain ⟨o',q',G1,G2⟩:=ih (far s mx lb A.2 A.1) o1 q (far s mx lb A.2 A.1).e a2.ok F1 (a2.o hlen) (fun _=>left_less (hk he) rfl (Int.le_trans hp1 a2.p) hx.p1)
      by_cases cf:(far s mx lb A.2 A.1).e=0
      ·rw [cf] at G1
       exact ⟨o',q',hgo2 _ (Ev.congr (fun k=>by rw [if_neg c3,if_neg (by omega)]) (F2 _ (fun _=>G1) (fun h0=>absurd cf h0))),G2⟩
      ·rw [codes_stop s mx la lb k _ cf]
       exact ⟨o1,q,hgo2 _ (Ev.congr (fun k=>by rw [if_neg c3,if_neg (by omega)]) (F2 _ (fun h0=>absurd h0 cf) (fun _=>rfl))),F1⟩
  ·rw [codes_stop s mx la lb (k+1) x he]
   have h':=h.e
   subst h'
   exact ⟨o,p,Ev.step (f:=fun _=>some (o,p,x.e)) (fun j=>by simp only [celluloidref05_codes.l0];rw [if_neg he]) (Ev.now _),h⟩
/-- A block's symbols: both lists of lengths are looked at first. -/
theorem codes_is {s : ByteArray} {mx : Int} {la lb o : List Int} {x : St} {p e : Int} (hs : s.size ≤ 1000000) (hm : mx ≤ 262144) (hx : Ok s x) (h : Rel x o p e) (ho : (x.o.length : Int) ≤ mx) :
  ∃ o' q,Ev (fun k=>celluloidref05_codes.f k s o p e mx la lb) (o',q,(both s mx la lb x).e)∧Rel (both s mx la lb x) o' q (both s mx la lb x).e:=by
 have hstop:∀ (y:St) (E:Int) (R:Rel y o p E),y.e ≠ 0 → Ev (fun k=>celluloidref05_codes.l0 k s mx la lb o p E) (o,p,E):=fun y E R hy=>Ev.step (f:=fun _=>some (o,p,E)) (fun j=>by simp only [celluloidref05_codes.l0];rw [if_neg (by rw [R.e];exact hy)]) (Ev.now _)
 have hj1:∀ E R,Ev (fun k=>celluloidref05_codes.l0 k s mx la lb o p E) R → Ev (fun k=>celluloidref05_codes.j1 k s mx la lb o p E) R:=fun E R hR=>Ev.step (fun k=>by simp only [celluloidref05_codes.j1]) hR
 have eB:=RefA.referr_is lb
 have eA:=RefA.referr_is la
 have t1:=Aft.table (mx:=mx) hx la
 have t2:=Aft.table (mx:=mx) t1.ok lb
 unfold both
 by_cases he:x.e=0
 ·obtain rfl:e=0:=h.e.trans he
  have hf:∀ R,Ev (fun k=>celluloidref05_codes.j0 k s mx la lb o p (errOf la)) R → Ev (fun k=>celluloidref05_codes.f k s o p 0 mx la lb) R:=fun R hR=>Ev.congr (fun k=>by unfold celluloidref05_codes.f;rw [if_pos rfl]) (Ev.bind eA hR)
  have tA:table la x=⟨x.p,x.o,errOf la⟩:=by unfold table fail;rw [if_pos he]
  by_cases ca:errOf la=0
  ·have tA':table la x=x:=by rw [tA,ca,← he]
   rw [tA'] at t2 ⊢
   have tB:table lb x=⟨x.p,x.o,errOf lb⟩:=by unfold table fail;rw [if_pos he]
   have hf2:∀ R,Ev (fun k=>celluloidref05_codes.l0 k s mx la lb o p (errOf lb)) R → Ev (fun k=>celluloidref05_codes.f k s o p 0 mx la lb) R:=fun R hR=>hf R (by
    rw [ca]
    exact Ev.step (f:=fun k=>(celluloidref04_Error.f k lb).bind fun t=>celluloidref05_codes.j1 k s mx la lb o p t) (fun k=>by simp only [celluloidref05_codes.j0];rw [if_pos trivial]) (Ev.bind eB (hj1 _ _ hR)))
   by_cases cb:errOf lb=0
   ·have tB':table lb x=x:=by rw [tB,cb,← he]
    rw [tB']
    obtain ⟨o',q,F1,F2⟩:=codes_l0 hs hm ca cb (left s x) x o p 0 hx h ho (fun _=>Nat.le_refl _)
    exact ⟨o',q,hf2 _ (by rw [cb];exact F1),F2⟩
   ·have hR:Rel (table lb x) o p (table lb x).e:=⟨rfl,fun h0=>absurd h0 (by rw [tB];exact cb),fun h0=>absurd h0 (by rw [tB];exact cb)⟩
    have hne:(table lb x).e ≠ 0:=by rw [tB];exact cb
    rw [codes_stop s mx la lb _ _ hne]
    have:=hf2 _ (hstop (table lb x) _ (by rw [tB] at hR ⊢;exact hR) hne)
    exact ⟨o,p,by rw [tB];exact this,hR⟩
  ·have hne:(table la x).e ≠ 0:=by rw [tA];exact ca
   have tB:table lb (table la x)=table la x:=by unfold table;unfold fail;rw [if_neg (by rw [if_pos he];exact ca)]
   rw [tB,codes_stop s mx la lb _ _ hne]
   have hR:Rel (table la x) o p (table la x).e:=⟨rfl,fun h0=>absurd h0 hne,fun h0=>absurd h0 hne⟩
   refine ⟨o,p,?_,hR⟩
   rw [tA]
   exact hf _ (Ev.step (f:=fun k=>celluloidref05_codes.j1 k s mx la lb o p (errOf la)) (fun k=>by simp only [celluloidref05_codes.j0];rw [if_neg ca]) (hj1 _ _ (hstop (table la x) _ (by rw [tA] at hR ⊢;exact hR) hne)))
 ·have tA:table la x=x:=by unfold table fail;rw [if_neg he]
  have tB:table lb x=x:=by unfold table fail;rw [if_neg he]
  rw [tA,tB,codes_stop s mx la lb _ _ he]
  have h':=h.e
  subst h'
  refine ⟨o,p,?_,h⟩
  exact Ev.congr (fun k=>by unfold celluloidref05_codes.f;rw [if_neg he]) (Ev.step (f:=fun k=>celluloidref05_codes.j1 k s mx la lb o p x.e) (fun k=>by simp only [celluloidref05_codes.j0];rw [if_neg he]) (hj1 _ _ (hstop x _ h he)))
end Go.Proofs.Ytpbhkdamkbopkaa.Inf
namespace Go.Proofs.Ytpbhkdamkbopkaa.Inf
set_option linter.unusedSimpArgs false
set_option linter.unusedVariables false
open Go.RowKit Go.Proofs.Ytpbhkdamkbopkaa.Ext Go.Proofs.Ytpbhkdamkbopkaa.GInfr Go.Proofs.Ytpbhkdamkbopkaa.HuM Go.Proofs.YtpbhkdamkbopkaaW.PrintWords Go.Proofs.YtpbhkdamkbopkaaW.PrintLast Go.Proofs.YtpbhkdamkbopkaaW.PrintMore
theorem plain_is:Ev (fun k=>celluloidref05_Plain.f k) (plainA,plainB):=Ev.of celluloidref05_Plain.mono (k:=700) (by decide +kernel)
/-- The places of a code of lengths: one number of 3 bits each. -/
theorem order_rd:∀ i:Nat,i < 19 → rd [16,17,18,0,8,7,9,6,10,5,11,4,12,3,13,2,14,1,15] (i:Int)=((order.getD i 0:Nat):Int)∧order.getD i 0 < 19:=by decide
theorem owns_is {s : ByteArray} {a b c : Int} (hs : s.size ≤ 1000000) (c0 : 0 ≤ c) (c1 : c ≤ 15) (o : List Int) (d : Nat) : ∀ (i : Nat) (own : List Int) (x : St) (p e : Int), i + d = (c + 4).toNat → own.length = 19 → Ok s x → Rel x o p e →
  ∃ p',Rel (owns s ((order.take (c+4).toNat).drop i) own x).2 o p' (owns s ((order.take (c+4).toNat).drop i) own x).2.e∧∀ R,
   Ev (fun k=>if (owns s ((order.take (c+4).toNat).drop i) own x).2.e=0 then ((celluloidref04_Error.f k (owns s ((order.take (c+4).toNat).drop i) own x).1).bind fun t=>celluloidref05_lengths.j3 k s a b (owns s ((order.take (c+4).toNat).drop i) own x).1 o p' t) else celluloidref05_lengths.j3 k s a b (owns s ((order.take (c+4).toNat).drop i) own x).1 o p' (owns s ((order.take (c+4).toNat).drop i) own x).2.e) R →
   Ev (fun k=>celluloidref05_lengths.l0 k s a b c own [16,17,18,0,8,7,9,6,10,5,11,4,12,3,13,2,14,1,15] (i:Int) o p e) R:=by
 induction d with
 |zero =>
  intro i own x p e hi hl hx h
  have h':=h.e
  subst h'
  rw [List.drop_of_length_le (by rw [List.length_take];omega)]
  refine ⟨p,h,fun R hE=>Ev.step (fun k=>?_) hE⟩
  simp only [celluloidref05_lengths.l0,owns]
  rw [wrap_in (n:=c+4) (by omega) (by omega),if_neg (by omega)];rfl
 |succ d ih =>
  intro i own x p e hi hl hx h
  obtain ⟨q1,E1,R1⟩:=number_is 3 hs hx h (by decide)
  obtain ⟨r1,r2⟩:=order_rd i (by omega)
  have g1:=bits_get (n:=3) (k:=3) (m:=(Inf.bits s 3 x).1) (y:=(Inf.bits s 3 x).2) rfl hx (by decide) rfl
  have hdrop:(order.take (c+4).toNat).drop i=order.getD i 0 :: (order.take (c+4).toNat).drop (i+1):=by
   have hlen:i < (order.take (c+4).toNat).length:=by rw [List.length_take];show i < min _ 19;omega
   rw [List.drop_eq_getElem_cons hlen,List.getElem_take]
   congr 1
   rw [List.getD_eq_getElem?_getD,List.getElem?_eq_getElem (show i < order.length from by show i < 19;omega)]
   rfl
  obtain ⟨p',F1,F2⟩:=ih (i+1) (own.set (order.getD i 0) (Inf.bits s 3 x).1) (Inf.bits s 3 x).2 q1 (Inf.bits s 3 x).2.e (by omega) (by rw [List.length_set];exact hl) g1.1 R1
  rw [hdrop]
  refine ⟨p',F1,fun R hE=>?_⟩
  refine Ev.step (f:=fun k=>(celluloidref05_number.f k s o p e 3).bind fun t=>celluloidref05_lengths.l0 k s a b c (own.set (order.getD i 0) t.1) [16,17,18,0,8,7,9,6,10,5,11,4,12,3,13,2,14,1,15] ((i+1:Nat):Int) t.2.1 t.2.2.1 t.2.2.2) (fun k=>?_) (Ev.bind E1 (F2 R hE))
  simp only [celluloidref05_lengths.l0]
  rw [wrap_in (n:=c+4) (by omega) (by omega),if_pos (by omega),if_pos (by omega),if_pos (by show (i:Int) < 19;omega),r1,Int.toNat_natCast,wrap_in (n:=(i:Int)+1) (by omega) (by omega)]
  congr 1
  funext t
  rw [if_pos (by omega),if_pos (by omega)]
  rfl
end Go.Proofs.Ytpbhkdamkbopkaa.Inf
namespace Go.Proofs.Ytpbhkdamkbopkaa.Inf
set_option linter.unusedSimpArgs false
set_option linter.unusedVariables false
open Go.RowKit Go.Proofs.Ytpbhkdamkbopkaa.Ext Go.Proofs.Ytpbhkdamkbopkaa.GInfr Go.Proofs.Ytpbhkdamkbopkaa.HuM Go.Proofs.YtpbhkdamkbopkaaW.PrintWords Go.Proofs.YtpbhkdamkbopkaaW.PrintLast Go.Proofs.YtpbhkdamkbopkaaW.PrintMore
def tail5 (k:Nat) (x0:ByteArray) (x7:Int) (x10 x13:List Int) (x14:Int) (bt325:Int × List Int × Int × Int):Option (List Int × List Int × List Int × Int × Int):=(if bt325.2.2.2=0 then (if bt325.1 < 16 then (if x13.length < 17592186044416 then (celluloidref05_lengths.l1 k x0 x7 x10 (x13 ++ [bt325.1]) x14 bt325.2.1 bt325.2.2.1 bt325.2.2.2) else (none)) else (if bt325.1=16 then (if (x13.length:Int)=0 then (some (([]:List Int),([]:List Int),bt325.2.1,bt325.2.2.1,3)) else (if 0≤(wrap64 ((x13.length:Int) - 1)) then (if (wrap64 ((x13.length:Int) - 1)) < (x13.length:Int) then ((celluloidref05_number.f k x0 bt325.2.1 bt325.2.2.1 bt325.2.2.2 2).bind fun bt335=>(celluloidref05_lengths.j6 k x0 x7 x10 x13 x14 (rd x13 (wrap64 ((x13.length:Int) - 1))) (wrap64 (bt335.1+3)) bt335.2.1 bt335.2.2.1 bt335.2.2.2)) else (none)) else (none))) else (if bt325.1=17 then ((celluloidref05_number.f k x0 bt325.2.1 bt325.2.2.1 bt325.2.2.2 3).bind fun bt341=>(celluloidref05_lengths.j6 k x0 x7 x10 x13 x14 0 (wrap64 (bt341.1+3)) bt341.2.1 bt341.2.2.1 bt341.2.2.2)) else (if bt325.1=18 then ((celluloidref05_number.f k x0 bt325.2.1 bt325.2.2.1 bt325.2.2.2 7).bind fun bt347=>(celluloidref05_lengths.j6 k x0 x7 x10 x13 x14 0 (wrap64 (bt347.1+11)) bt347.2.1 bt347.2.2.1 bt347.2.2.2)) else (celluloidref05_lengths.j6 k x0 x7 x10 x13 x14 0 0 bt325.2.1 bt325.2.2.1 bt325.2.2.2))))) else (celluloidref05_lengths.j8 k x7 x13 x14 bt325.2.1 bt325.2.2.1 bt325.2.2.2))
theorem rep_is {s : ByteArray} {a all p e v : Int} {own o l : List Int} {R : List Int × List Int × List Int × Int × Int} (n : Nat) (hl : l.length + n ≤ 1000000)
  (h:Ev (fun k=>celluloidref05_lengths.l1 k s a own (l ++ List.replicate n v) all o p e) R) (m:Nat):∀ i:Nat,i+m=n → Ev (fun k=>celluloidref05_lengths.l2 k s a own (l ++ List.replicate i v) all v (n:Int) (i:Int) o p e) R:=by
 induction m with
 |zero =>
  intro i hi
  obtain rfl:i=n:=by omega
  refine Ev.step (fun k=>?_) h
  simp only [celluloidref05_lengths.l2]
  rw [if_neg (by omega)]
 |succ m ih =>
  intro i hi
  refine Ev.step (fun k=>?_) (ih (i+1) (by omega))
  simp only [celluloidref05_lengths.l2]
  rw [if_pos (by omega),if_pos (by rw [List.length_append,List.length_replicate];omega),wrap_in (n:=(i:Int)+1) (by omega) (by omega),List.replicate_succ',← List.append_assoc]
  rfl
theorem many_j6 {s : ByteArray} {a all p e v : Int} {own o l : List Int} {R : List Int × List Int × List Int × Int × Int} (n : Nat) (hl : l.length + n ≤ 1000000)
  (h:Ev (fun k=>celluloidref05_lengths.l1 k s a own (l ++ List.replicate n v) all o p e) R):Ev (fun k=>celluloidref05_lengths.j6 k s a own l all v (n:Int) o p e) R:=by
 have h0:=rep_is n hl h n 0 (by omega)
 rw [List.replicate_zero,List.append_nil] at h0
 exact Ev.step (fun k=>by simp only [celluloidref05_lengths.j6];rfl) h0
theorem stop_j8 {a all p e:Int} {o l:List Int} (he:e ≠ 0):Ev (fun k=>celluloidref05_lengths.j8 k a l all o p e) (([]:List Int),([]:List Int),o,p,e) :=
 Ev.step (f:=fun k=>celluloidref05_lengths.j9 k a l false o p e) (fun k=>by simp only [celluloidref05_lengths.j8];rw [if_neg he])
  (Ev.step (f:=fun _=>some (([]:List Int),([]:List Int),o,p,e)) (fun k=>by simp only [celluloidref05_lengths.j9];rw [if_neg (by decide),if_neg he]) (Ev.now _))
theorem out_l1 {s : ByteArray} {a all p e : Int} {own o l : List Int} {R : List Int × List Int × List Int × Int × Int} (hc : e ≠ 0 ∨ ¬ (l.length : Int) < all) (h : Ev (fun k => celluloidref05_lengths.j8 k a l all o p e) R) :
  Ev (fun k=>celluloidref05_lengths.l1 k s a own l all o p e) R:=by
 refine Ev.step (f:=fun k=>celluloidref05_lengths.j5 k s a own l all false o p e) (fun k=>?_) (Ev.step (fun k=>?_) h)
 ·simp only [celluloidref05_lengths.l1]
  by_cases he:e=0
  ·rw [if_pos he,decide_eq_false (hc.resolve_left (fun h=>h he))]
  ·rw [if_neg he]
 ·simp only [celluloidref05_lengths.j5]
  rw [if_neg (by decide)]
theorem in_l1 {s : ByteArray} {a all p : Int} {own o l : List Int} {R : List Int × List Int × List Int × Int × Int} {b : Int × List Int × Int × Int} (hc : (l.length : Int) < all) (E : Ev (fun k => celluloidref05_symbol.f k s o p 0 own) b) (h : Ev (fun k => tail5 k s a own l all b) R) :
  Ev (fun k=>celluloidref05_lengths.l1 k s a own l all o p 0) R:=by
 refine Ev.step (f:=fun k=>celluloidref05_lengths.j5 k s a own l all true o p 0) (fun k=>?_) (Ev.step (f:=fun k=>(celluloidref05_symbol.f k s o p 0 own).bind fun b=>tail5 k s a own l all b) (fun k=>?_) (Ev.bind E h))
 ·simp only [celluloidref05_lengths.l1]
  rw [if_pos trivial,decide_eq_true hc]
 ·simp only [celluloidref05_lengths.j5,tail5]
  rw [if_pos trivial]
theorem many_is {s : ByteArray} {a all : Int} {own : List Int} (hs : s.size ≤ 1000000) (hall : all ≤ 1000) (hown : own.length = 19) : ∀ (k : Nat) (l : List Int) (x : St) (o : List Int) (p e : Int), Ok s x → Rel x o p e → (x.e = 0 → errOf own = 0) → (x.e = 0 → left s x ≤ k) →
  ∃ o' q,Rel (many s own all k l x).2 o' q (many s own all k l x).2.e∧∀ R,((many s own all k l x).2.e=0 → Ev (fun j=>celluloidref05_lengths.j8 j a (many s own all k l x).1 all o' q 0) R) → ((many s own all k l x).2.e ≠ 0 → R=(([]:List Int),([]:List Int),o',q,(many s own all k l x).2.e)) →
   Ev (fun j=>celluloidref05_lengths.l1 j s a own l all o p e) R:=by
 intro k
 induction k with
 |zero =>
  intro l x o p e hx h ho hk
  have he:x.e ≠ 0:=fun c=>by have:=hk c;unfold left at this;omega
  rw [many_stop 0 (.inr he)]
  have h':=h.e
  subst h'
  exact ⟨o,p,h,fun R _ hR=>by rw [hR he];exact out_l1 (.inl he) (stop_j8 he)⟩
 |succ k ih =>
  intro l x o p e hx h ho hk
  by_cases he:x.e=0
  ·obtain rfl:e=0:=h.e.trans he
   by_cases hlen:(l.length:Int) < all
   ·obtain ⟨q1,E1,R1⟩:=symbol_is own hs hx h ho
    have g1:=next_get (m:=(Inf.next own s x).1) (y:=(Inf.next own s x).2) (by omega) hx ho rfl
    have hm:many s own all (k+1) l x=many s own all k (lengthen s l (Inf.next own s x).1 (Inf.next own s x).2).1 (lengthen s l (Inf.next own s x).1 (Inf.next own s x).2).2:=by
     show (if _ then _ else _)=_
     rw [if_pos hlen,if_pos he]
    rw [hm]
    generalize Inf.next own s x=A at *
    by_cases c:A.2.e=0
    ·obtain rfl:=R1.o c
     obtain rfl:=R1.p c
     have hp1:=(g1.2.2.2.2.1 c).2.1
     have hy0:=g1.2.1
     have hy19:A.1 < 19:=by rcases g1.2.2.1 with h1 | h1 <;> omega
     have ho':(z:St) → z.e=0 → errOf own=0:=fun _ _=>ho he
     have lleft:∀ z:St,A.2.p≤z.p → left s z≤k:=fun z hz=>left_less (hk he) rfl (Int.le_trans hp1 hz) hx.p1
     rw [c] at E1
     have hb:∀ R,Ev (fun k=>tail5 k s a own l all (A.1,A.2.o,A.2.p,0)) R → Ev (fun j=>celluloidref05_lengths.l1 j s a own l all A.2.o p 0) R:=fun R hR=>in_l1 hlen E1 hR
     -- a number of bits, then a value so many times
     have hrun : ∀ (v base : Int) (n : Nat), n ≤ 7 → 0 ≤ base → base ≤ 100 → ∃ q2, Ev (fun k => celluloidref05_number.f k s A.2.o A.2.p 0 (n : Int)) ((Inf.bits s n A.2).1, A.2.o, q2, (Inf.bits s n A.2).2.e) ∧
       ∃ o' q,Rel (many s own all k (l ++ List.replicate (base+(Inf.bits s n A.2).1).toNat v) (Inf.bits s n A.2).2).2 o' q (many s own all k (l ++ List.replicate (base+(Inf.bits s n A.2).1).toNat v) (Inf.bits s n A.2).2).2.e ∧
       ∀ R,((many s own all k (l ++ List.replicate (base+(Inf.bits s n A.2).1).toNat v) (Inf.bits s n A.2).2).2.e=0 → Ev (fun j=>celluloidref05_lengths.j8 j a (many s own all k (l ++ List.replicate (base+(Inf.bits s n A.2).1).toNat v) (Inf.bits s n A.2).2).1 all o' q 0) R) →
        ((many s own all k (l ++ List.replicate (base+(Inf.bits s n A.2).1).toNat v) (Inf.bits s n A.2).2).2.e ≠ 0 → R=(([]:List Int),([]:List Int),o',q,(many s own all k (l ++ List.replicate (base+(Inf.bits s n A.2).1).toNat v) (Inf.bits s n A.2).2).2.e)) →
        Ev (fun k=>celluloidref05_lengths.j6 k s a own l all v (wrap64 ((Inf.bits s n A.2).1+base)) A.2.o q2 (Inf.bits s n A.2).2.e) R:=by
      intro v base n hn hb0 hb1
      obtain ⟨q2,E2,R2⟩:=number_is n hs g1.1 R1 (by omega)
      rw [c] at E2
      have g2:=bits_get (n:=n) (k:=n) (m:=(Inf.bits s n A.2).1) (y:=(Inf.bits s n A.2).2) rfl g1.1 (by omega) rfl
      have a2:=Aft.bits (mx:=0) g1.1 n (by omega) n rfl
      generalize Inf.bits s n A.2=B at *
      have hB:B.1 < 200:=by
       have:=(Nat.pow_le_pow_right (n:=2) (by decide) hn:(2:Nat) ^ n≤2 ^ 7)
       have h3:=g2.2.2.1
       have h4:((2:Int) ^ n)=((2 ^ n:Nat):Int):=by rw [Int.natCast_pow];rfl
       omega
      have hB0:=g2.2.1
      obtain ⟨m,hm⟩:∃ m:Nat,base+B.1=(m:Int):=⟨(base+B.1).toNat,by omega⟩
      obtain ⟨o',q,F1,F2⟩:=ih (l ++ List.replicate m v) B.2 A.2.o q2 B.2.e g2.1 R2 (ho' B.2) (fun _=>lleft B.2 a2.p)
      rw [hm,Int.toNat_natCast]
      refine ⟨q2,E2,o',q,F1,fun R h1 h2=>?_⟩
      rw [wrap_in (n:=B.1+base) (by omega) (by omega),Int.add_comm,hm]
      exact many_j6 m (by omega) (F2 R h1 h2)
     by_cases c16:A.1=16
     ·by_cases cl:l.length=0
      ·have hle:lengthen s l A.1 A.2=(l,fail A.2 3):=by unfold lengthen;rw [if_pos c,if_pos c16,if_pos cl]
       have e3:(fail A.2 3).e=3:=by unfold fail;rw [if_pos c]
       rw [hle,many_stop k (.inr (by rw [e3];decide))]
       refine ⟨A.2.o,A.2.p,⟨rfl,fun h0=>absurd (e3.symm.trans h0) (by decide),fun h0=>absurd (e3.symm.trans h0) (by decide)⟩,fun R _ hR=>hb R ?_⟩
       obtain rfl:=hR (by rw [e3];decide)
       exact Ev.congr (fun k=>by unfold tail5;rw [if_pos rfl,if_neg (by show ¬ A.1 < 16;omega),if_pos (show A.1=16 from c16),if_pos (by omega),e3]) (Ev.now _)
      ·have hle:lengthen s l A.1 A.2=(l ++ List.replicate (3+(Inf.bits s 2 A.2).1).toNat (l.getD (l.length - 1) 0),(Inf.bits s 2 A.2).2):=by unfold lengthen;rw [if_pos c,if_pos c16,if_neg cl]
       rw [hle]
       obtain ⟨q2,E2,o',q,F1,F2⟩:=hrun (l.getD (l.length - 1) 0) 3 2 (by decide) (by decide) (by decide)
       refine ⟨o',q,F1,fun R h1 h2=>hb R ?_⟩
       have hrd:rd l ((l.length:Int) - 1)=l.getD (l.length - 1) 0:=by rw [show (l.length:Int) - 1=((l.length - 1:Nat):Int) by omega];rfl
       exact Ev.congr (fun k=>by unfold tail5;rw [if_pos rfl,if_neg (by show ¬ A.1 < 16;omega),if_pos (show A.1=16 from c16),if_neg (by omega),wrap_in (n:=(l.length:Int) - 1) (by omega) (by omega),if_pos (by omega),if_pos (by omega),hrd];rfl) (Ev.bind (f:=fun k b=>celluloidref05_lengths.j6 k s a own l all (l.getD (l.length - 1) 0) (wrap64 (b.1+3)) b.2.1 b.2.2.1 b.2.2.2) E2 (F2 R h1 h2))
     ·by_cases c17:A.1=17
      ·have hle:lengthen s l A.1 A.2=(l ++ List.replicate (3+(Inf.bits s 3 A.2).1).toNat 0,(Inf.bits s 3 A.2).2):=by unfold lengthen;rw [if_pos c,if_neg c16,if_pos c17]
       rw [hle]
       obtain ⟨q2,E2,o',q,F1,F2⟩:=hrun 0 3 3 (by decide) (by decide) (by decide)
       refine ⟨o',q,F1,fun R h1 h2=>hb R ?_⟩
       exact Ev.congr (fun k=>by unfold tail5;rw [if_pos rfl,if_neg (by show ¬ A.1 < 16;omega),if_neg (show ¬ A.1=16 from c16),if_pos (show A.1=17 from c17)];rfl) (Ev.bind (f:=fun k b=>celluloidref05_lengths.j6 k s a own l all 0 (wrap64 (b.1+3)) b.2.1 b.2.2.1 b.2.2.2) E2 (F2 R h1 h2))
      ·by_cases c18:A.1=18
       ·have hle:lengthen s l A.1 A.2=(l ++ List.replicate (11+(Inf.bits s 7 A.2).1).toNat 0,(Inf.bits s 7 A.2).2):=by unfold lengthen;rw [if_pos c,if_neg c16,if_neg c17,if_pos c18]
        rw [hle]
        obtain ⟨q2,E2,o',q,F1,F2⟩:=hrun 0 11 7 (by decide) (by decide) (by decide)
        refine ⟨o',q,F1,fun R h1 h2=>hb R ?_⟩
        exact Ev.congr (fun k=>by unfold tail5;rw [if_pos rfl,if_neg (by show ¬ A.1 < 16;omega),if_neg (show ¬ A.1=16 from c16),if_neg (show ¬ A.1=17 from c17),if_pos (show A.1=18 from c18)];rfl) (Ev.bind (f:=fun k b=>celluloidref05_lengths.j6 k s a own l all 0 (wrap64 (b.1+11)) b.2.1 b.2.2.1 b.2.2.2) E2 (F2 R h1 h2))
       ·have hle:lengthen s l A.1 A.2=(l ++ [A.1],A.2):=by unfold lengthen;rw [if_pos c,if_neg c16,if_neg c17,if_neg c18]
        rw [hle]
        rw [c] at R1
        obtain ⟨o',q,F1,F2⟩:=ih (l ++ [A.1]) A.2 A.2.o A.2.p 0 g1.1 R1 (ho' A.2) (fun _=>lleft A.2 (Int.le_refl _))
        refine ⟨o',q,F1,fun R h1 h2=>hb R ?_⟩
        exact Ev.congr (fun k=>by unfold tail5;rw [if_pos rfl,if_pos (by show A.1 < 16;omega),if_pos (by omega)]) (F2 R h1 h2)
    ·rw [lengthen_same c,many_stop k (.inr c)]
     refine ⟨o,q1,R1,fun R _ hR=>in_l1 hlen E1 ?_⟩
     obtain rfl:=hR c
     exact Ev.congr (fun k=>by unfold tail5;rw [if_neg c]) (stop_j8 c)
   ·rw [many_stop (k+1) (.inl hlen)]
    refine ⟨o,p,by rw [he];exact h,fun R hR _=>out_l1 (.inr hlen) (hR he)⟩
  ·rw [many_stop (k+1) (.inr he)]
   have h':=h.e
   subst h'
   exact ⟨o,p,h,fun R _ hR=>by rw [hR he];exact out_l1 (.inl he) (stop_j8 he)⟩
end Go.Proofs.Ytpbhkdamkbopkaa.Inf
namespace Go.Proofs.Ytpbhkdamkbopkaa.Inf
set_option linter.unusedSimpArgs false
set_option linter.unusedVariables false
open Go.RowKit Go.Proofs.Ytpbhkdamkbopkaa.Ext Go.Proofs.Ytpbhkdamkbopkaa.GInfr Go.Proofs.Ytpbhkdamkbopkaa.HuM Go.Proofs.YtpbhkdamkbopkaaW.PrintWords Go.Proofs.YtpbhkdamkbopkaaW.PrintLast Go.Proofs.YtpbhkdamkbopkaaW.PrintMore
theorem many_full {s:ByteArray} (hs:s.size≤140737488351232) (own:List Int) (all:Int):∀ (k:Nat) (l:List Int) (x:St),Ok s x → (x.e=0 → errOf own=0) → (x.e=0 → left s x≤k) → (many s own all k l x).2.e=0 → all≤((many s own all k l x).1.length:Int):=by
 intro k
 induction k with
 |zero =>
  intro l x hx he hk h
  have h0:x.e=0:=h
  have:=hk h0
  unfold left at this
  omega
 |succ k ih =>
  intro l x hx he hk h
  by_cases hl:(l.length:Int) < all
  ·by_cases hc:x.e=0
   ·have hm : many s own all (k + 1) l x = many s own all k (lengthen s l (Inf.next own s x).1 (Inf.next own s x).2).1 (lengthen s l (Inf.next own s x).1 (Inf.next own s x).2).2 := by
     show (if _ then _ else _)=_
     rw [if_pos hl,if_pos hc]
    rw [hm] at h ⊢
    have g1:=next_get (m:=(Inf.next own s x).1) (y:=(Inf.next own s x).2) hs hx he rfl
    generalize Inf.next own s x=A at *
    exact ih _ _ (lengthen_spec g1.1).1 (fun _=>he hc) (fun h0=>left_less (hk hc) rfl (Int.le_trans (g1.2.2.2.2.1 (lengthen_e h0)).2.1 (lengthen_spec g1.1).2.1) hx.p1) h
   ·rw [many_stop (k+1) (.inr hc)] at h
    exact absurd h hc
  ·rw [many_stop (k+1) (.inl hl)]
   exact Int.not_lt.1 hl
theorem fail_three {x:St} (h:x.e=0):(fail x 3).e=3:=by unfold fail;rw [if_pos h]
theorem rel_three {x:St} (h:x.e=0) (o:List Int) (p:Int):Rel (fail x 3) o p 3 :=
 ⟨(fail_three h).symm,fun h0=>absurd ((fail_three h).symm.trans h0) (by decide),fun h0=>absurd ((fail_three h).symm.trans h0) (by decide)⟩
theorem number5_is {s : ByteArray} {x : St} {o : List Int} {p e : Int} (hs : s.size ≤ 1000000) (hx : Ok s x) (h : Rel x o p e) :
  ∃ q,Ev (fun k=>celluloidref05_number.f k s o p e 5) ((bits s 5 x).1,o,q,(bits s 5 x).2.e)∧Rel (bits s 5 x).2 o q (bits s 5 x).2.e:=number_is 5 hs hx h (by decide)
theorem number4_is {s : ByteArray} {x : St} {o : List Int} {p e : Int} (hs : s.size ≤ 1000000) (hx : Ok s x) (h : Rel x o p e) :
  ∃ q,Ev (fun k=>celluloidref05_number.f k s o p e 4) ((bits s 4 x).1,o,q,(bits s 4 x).2.e)∧Rel (bits s 4 x).2 o q (bits s 4 x).2.e:=number_is 4 hs hx h (by decide)
theorem j0_is {s:ByteArray} {a b c p e:Int} {o:List Int} {R:List Int × List Int × List Int × Int × Int} (t:Bool) (h:Ev (fun k=>celluloidref05_lengths.j1 k s a b c o p (if t=true then 3 else e)) R):Ev (fun k=>celluloidref05_lengths.j0 k s a b c t o p e) R :=
 Ev.step (fun k=>by cases t <;> simp [celluloidref05_lengths.j0]) h
theorem head_is {s : ByteArray} {x : St} {o : List Int} {p e : Int} (hs : s.size ≤ 1000000) (hx : Ok s x) (h : Rel x o p e) :
  ∃ q,let a:=bits s 5 x;let b:=bits s 5 a.2;let c:=bits s 4 b.2;let x1:=if c.2.e=0∧(a.1+257 > 286 ∨ b.1+1 > 30) then fail c.2 3 else c.2
   (0≤a.1∧a.1 < 32)∧(0≤b.1∧b.1 < 32)∧(0≤c.1∧c.1≤15)∧Ok s x1∧Rel x1 o q x1.e∧∀ R,Ev (fun k=>celluloidref05_lengths.j1 k s a.1 b.1 c.1 o q x1.e) R → Ev (fun k=>celluloidref05_lengths.f k s o p e) R:=by
 obtain ⟨q1,E1,R1⟩:=number5_is hs hx h
 have g1:=bits_get (n:=5) (k:=5) (m:=(Inf.bits s 5 x).1) (y:=(Inf.bits s 5 x).2) rfl hx (by decide) rfl
 generalize Inf.bits s 5 x=a at *
 obtain ⟨q2,E2,R2⟩:=number5_is hs g1.1 R1
 have g2:=bits_get (n:=5) (k:=5) (m:=(Inf.bits s 5 a.2).1) (y:=(Inf.bits s 5 a.2).2) rfl g1.1 (by decide) rfl
 generalize hb:Inf.bits s 5 a.2=b at *
 obtain ⟨q3,E3,R3⟩:=number4_is hs g2.1 R2
 have g3:=bits_get (n:=4) (k:=4) (m:=(Inf.bits s 4 b.2).1) (y:=(Inf.bits s 4 b.2).2) rfl g2.1 (by decide) rfl
 generalize hc:Inf.bits s 4 b.2=c at *
 have l1:a.1 < 32:=g1.2.2.1
 have l2:b.1 < 32:=g2.2.2.1
 have l3:c.1 < 16:=g3.2.2.1
 refine ⟨q3,⟨g1.2.1,l1⟩,?_⟩
 simp only [hb,hc]
 refine ⟨⟨g2.2.1,l2⟩,⟨g3.2.1,by omega⟩,?_⟩
 have hf:∀ R,Ev (fun k=>if c.2.e=0 then (if a.1 > 29 then (celluloidref05_lengths.j0 k s a.1 b.1 c.1 true o q3 c.2.e) else (celluloidref05_lengths.j0 k s a.1 b.1 c.1 (decide (b.1 > 29)) o q3 c.2.e)) else (celluloidref05_lengths.j0 k s a.1 b.1 c.1 false o q3 c.2.e)) R → Ev (fun k=>celluloidref05_lengths.f k s o p e) R:=fun R hR=>by
  unfold celluloidref05_lengths.f
  exact Ev.bind E1 (Ev.bind E2 (Ev.bind E3 hR))
 by_cases cc:c.2.e=0∧(a.1+257 > 286 ∨ b.1+1 > 30)
 ·rw [if_pos cc]
  refine ⟨fail_ok g3.1 (by decide),by rw [fail_three cc.1];exact rel_three cc.1 o q3,fun R hR=>hf R ?_⟩
  rw [fail_three cc.1] at hR
  refine Ev.congr (f:=fun k=>celluloidref05_lengths.j0 k s a.1 b.1 c.1 true o q3 c.2.e) (fun k=>?_) (j0_is true hR)
  rw [if_pos cc.1]
  by_cases c29:a.1 > 29
  ·rw [if_pos c29]
  ·rw [if_neg c29,decide_eq_true (by omega)]
 ·rw [if_neg cc]
  refine ⟨g3.1,R3,fun R hR=>hf R ?_⟩
  refine Ev.congr (f:=fun k=>celluloidref05_lengths.j0 k s a.1 b.1 c.1 false o q3 c.2.e) (fun k=>?_) (j0_is false hR)
  by_cases ce:c.2.e=0
  ·have hn:¬ (a.1+257 > 286 ∨ b.1+1 > 30):=fun h=>cc ⟨ce,h⟩
   rw [if_pos ce,if_neg (by omega),decide_eq_false (by omega)]
  ·rw [if_neg ce]
theorem lengths_is {s : ByteArray} {x : St} {o : List Int} {p e : Int} (hs : s.size ≤ 1000000) (hx : Ok s x) (h : Rel x o p e) :
  ∃ row num o' q,Ev (fun k=>celluloidref05_lengths.f k s o p e) (row,num,o',q,(lengths s x).2.2.e)∧Rel (lengths s x).2.2 o' q (lengths s x).2.2.e∧row.take (num.headD 0).toNat=(lengths s x).1∧row.drop (num.headD 0).toNat=(lengths s x).2.1:=by
 obtain ⟨q1,hq⟩:=head_is hs hx h
 unfold Inf.lengths
 simp only at hq ⊢
 generalize Inf.bits s 5 x=a at *
 generalize Inf.bits s 5 a.2=b at *
 generalize Inf.bits s 4 b.2=c at *
 generalize (if c.2.e=0∧(a.1+257 > 286 ∨ b.1+1 > 30) then fail c.2 3 else c.2)=x1 at *
 obtain ⟨⟨a0,a1⟩,⟨b0,b1⟩,⟨c0,c1⟩,ok1,R1,J1⟩:=hq
 obtain ⟨p',F1,F2⟩:=owns_is (a:=a.1) (b:=b.1) hs c0 c1 o (c.1+4).toNat 0 (List.replicate 19 0) x1 q1 x1.e (by omega) (by simp) ok1 R1
 rw [List.drop_zero] at F1 F2
 have hwl:=owns_len s (order.take (c.1+4).toNat) (List.replicate 19 0) x1
 have hwo:=(owns_ok s (order.take (c.1+4).toNat) (List.replicate 19 0) x1 ok1).1
 rw [List.length_replicate] at hwl
 generalize Inf.owns s (order.take (c.1+4).toNat) (List.replicate 19 0) x1=w at *
 have J2:∀ R,Ev (fun k=>celluloidref05_lengths.j3 k s a.1 b.1 w.1 o p' (table w.1 w.2).e) R → Ev (fun k=>celluloidref05_lengths.f k s o p e) R:=fun R hR=>by
  refine J1 R (Ev.step (f:=fun k=>celluloidref05_lengths.l0 k s a.1 b.1 c.1 (List.replicate 19 0) [16,17,18,0,8,7,9,6,10,5,11,4,12,3,13,2,14,1,15] ((0:Nat):Int) o q1 x1.e) (fun k=>?_) (F2 R ?_))
  ·simp only [celluloidref05_lengths.j1]
   rw [if_pos (by decide)]
   rfl
  ·by_cases cw:w.2.e=0
   ·have ht:(table w.1 w.2).e=errOf w.1:=by unfold table fail;rw [if_pos cw]
    rw [ht] at hR
    exact Ev.congr (fun k=>if_pos cw) (Ev.bind (f:=fun k t=>celluloidref05_lengths.j3 k s a.1 b.1 w.1 o p' t) (RefA.referr_is w.1) hR)
   ·have ht:(table w.1 w.2).e=w.2.e:=by unfold table fail;rw [if_neg cw]
    rw [ht] at hR
    exact Ev.congr (fun k=>if_neg cw) hR
 have ok2:Ok s (table w.1 w.2):=table_ok hwo w.1
 have R2:Rel (table w.1 w.2) o p' (table w.1 w.2).e:=⟨rfl,fun h0=>by unfold table;rw [fail_o];exact F1.o (table_e h0).1,fun h0=>by unfold table;rw [fail_p];exact F1.p (table_e h0).1⟩
 have e2:(table w.1 w.2).e=0 → errOf w.1=0:=fun h0=>(table_e h0).2
 generalize table w.1 w.2=x2 at *
 have full:=many_full (s:=s) (by omega) w.1 (a.1+257+(b.1+1)) (left s x2) [] x2 ok2 e2 (fun _=>Nat.le_refl _)
 obtain ⟨o',q,G1,G2⟩:=many_is (a:=a.1) (all:=a.1+257+(b.1+1)) hs (by omega) hwl (left s x2) [] x2 o p' x2.e ok2 R2 e2 (fun _=>Nat.le_refl _)
 generalize many s w.1 (a.1+257+(b.1+1)) (left s x2) [] x2=z at *
 have J3:∀ R,Ev (fun k=>celluloidref05_lengths.l1 k s a.1 w.1 [] (a.1+257+(b.1+1)) o p' x2.e) R → Ev (fun k=>celluloidref05_lengths.f k s o p e) R:=fun R hR=>J2 R (Ev.step (fun k=>by
  simp only [celluloidref05_lengths.j3]
  rw [wrap_in (n:=a.1+b.1) (by omega) (by omega),wrap_in (n:=a.1+b.1+258) (by omega) (by omega),show a.1+b.1+258=a.1+257+(b.1+1) by omega]) hR)
 by_cases cz:z.2.e=0
 ·rw [if_pos cz]
  have hfull:=full cz
  have hrd:rd z.1 256=z.1.getD 256 0:=rfl
  by_cases cf:(z.1.length:Int) > a.1+257+(b.1+1) ∨ z.1.getD 256 0=0
  ·rw [if_pos cf]
   refine ⟨[],[],o',q,J3 _ (G2 _ (fun _=>?_) (fun h0=>absurd cz h0)),by rw [fail_three cz];exact rel_three cz o' q,rfl,rfl⟩
   rw [fail_three cz]
   refine Ev.step (f:=fun k=>celluloidref05_lengths.j9 k a.1 z.1 true o' q 0) (fun k=>?_) (Ev.step (f:=fun _=>some (([]:List Int),([]:List Int),o',q,3)) (fun k=>?_) (Ev.now _))
   ·simp only [celluloidref05_lengths.j8]
    rw [if_pos trivial]
    by_cases cl:(z.1.length:Int)=a.1+257+(b.1+1)
    ·have h0:z.1.getD 256 0=0:=cf.resolve_left (by omega)
     rw [if_pos cl,if_pos (by omega),hrd,h0]
     rfl
    ·rw [if_neg cl]
   ·simp only [celluloidref05_lengths.j9]
    rw [if_pos trivial,if_neg (by decide)]
  ·rw [if_neg cf]
   have hlen:(z.1.length:Int)=a.1+257+(b.1+1):=Int.le_antisymm (Int.not_lt.1 (fun h=>cf (.inl h))) hfull
   have hne:z.1.getD 256 0 ≠ 0:=fun h=>cf (.inr h)
   refine ⟨z.1,[a.1+257],o',q,J3 _ (G2 _ (fun _=>?_) (fun h0=>absurd cz h0)),G1,rfl,rfl⟩
   refine Ev.step (f:=fun k=>celluloidref05_lengths.j9 k a.1 z.1 false o' q 0) (fun k=>?_) (Ev.step (f:=fun _=>some (z.1,[a.1+257],o',q,z.2.e)) (fun k=>?_) (Ev.now _))
   ·simp only [celluloidref05_lengths.j8]
    rw [if_pos trivial,if_pos hlen,if_pos (by omega),hrd,beq_eq_false_iff_ne.mpr hne]
   ·simp only [celluloidref05_lengths.j9]
    rw [if_neg (by decide),if_pos trivial,wrap_in (n:=a.1+257) (by omega) (by omega),if_pos (by omega),if_pos (by omega),cz]
 ·rw [if_neg cz]
  exact ⟨[],[],o',q,J3 _ (G2 _ (fun h0=>absurd h0 cz) (fun _=>rfl)),G1,rfl,rfl⟩
theorem lencodes_is {s : ByteArray} {x : St} {o : List Int} {p e mx : Int} (hs : s.size ≤ 1000000) (hm : mx ≤ 262144) (hx : Ok s x) (h : Rel x o p e) (ho : (x.o.length : Int) ≤ mx) :
  ∃ o' q,Ev (fun k=>celluloidref05_lencodes.f k s o p e mx) (o',q,(both s mx (lengths s x).1 (lengths s x).2.1 (lengths s x).2.2).e)∧Rel (both s mx (lengths s x).1 (lengths s x).2.1 (lengths s x).2.2) o' q (both s mx (lengths s x).1 (lengths s x).2.1 (lengths s x).2.2).e:=by
 obtain ⟨row,num,o1,q1,E,R1,h1,h2⟩:=lengths_is hs hx h
 have a1:=Aft.lengths (mx:=mx) (by omega) hx
 obtain ⟨o',q,E2,R2⟩:=codes_is (la:=(lengths s x).1) (lb:=(lengths s x).2.1) hs hm a1.ok R1 (a1.o ho)
 refine ⟨o',q,?_,R2⟩
 rw [← h1,← h2] at E2
 unfold celluloidref05_lencodes.f
 rw [← h1,← h2]
 exact Ev.bind (f:=fun k q=>celluloidref05_codes.f k s q.2.2.1 q.2.2.2.1 q.2.2.2.2 mx (q.1.take (q.2.1.headD 0).toNat) (q.1.drop (q.2.1.headD 0).toNat)) E E2
/-- What is told at the end. -/
def fin (y:St):ByteArray × Int × Int:=if y.e=0 then (strOfNums y.o,(y.p+7) / 8,0) else (⟨#[]⟩,0,y.e)
theorem stop_raw {s:ByteArray} {mx last p e:Int} {o:List Int} {y:St} (hs:s.size≤1000000) (hy:Ok s y) (h:Rel y o p e) (hl:last ≠ 0 ∨ y.e ≠ 0):Ev (fun k=>celluloidref05_Raw.l0 k s mx last o p e) (fin y):=by
 refine Ev.step (f:=fun k=>celluloidref05_Raw.j2 k s mx false o p e) (fun k=>?_) (Ev.step (f:=fun _=>some (fin y)) (fun k=>?_) (Ev.now _))
 ·simp only [celluloidref05_Raw.l0]
  by_cases c:last=0
  ·rw [if_pos c,beq_eq_false_iff_ne.mpr (by rw [h.e];exact hl.resolve_left (fun h=>h c))]
  ·rw [if_neg c]
 ·simp only [celluloidref05_Raw.j2]
  rw [if_neg (by decide)]
  unfold fin
  by_cases c:y.e=0
  ·have hp:=hy.p0;have hp1:=hy.p1
   obtain rfl:=h.o c
   obtain rfl:=h.p c
   rw [if_pos (h.e.trans c),if_pos c,wrap_in (n:=y.p+7) (by omega) (by omega),Int.tdiv_eq_ediv_of_nonneg (by omega),wrap_in (n:=(y.p+7) / 8) (by omega) (by omega)]
  ·rw [if_neg (fun h0=>c (h.e.symm.trans h0)),if_neg c,h.e]
theorem kind_is {s : ByteArray} {mx last p : Int} {o : List Int} {b : Int × St} (hs : s.size ≤ 1000000) (hm0 : 0 ≤ mx) (hm : mx ≤ 262144) (hb : Ok s b.2) (h : Rel b.2 o p b.2.e) (he : b.2.e = 0) (ho : (b.2.o.length : Int) ≤ mx) (h0 : 0 ≤ b.1) (h4 : b.1 < 4) :
  ∃ y,y=(if b.1=0 then (if b.2.e=0 then stored s mx b.2 else b.2) else if b.1=1 then both s mx plainA plainB b.2 else if b.1=2 then both s mx (lengths s b.2).1 (lengths s b.2).2.1 (lengths s b.2).2.2 else fail b.2 3) ∧
  ∃ o' q,Rel y o' q y.e∧∀ R,Ev (fun k=>celluloidref05_Raw.l0 k s mx last o' q y.e) R →
   Ev (fun k=>if b.1=0 then ((celluloidref05_stored.f k s o p b.2.e mx).bind fun C=>celluloidref05_Raw.j3 k s mx last b.1 C.1 C.2.1 C.2.2) else celluloidref05_Raw.j3 k s mx last b.1 o p b.2.e) R:=by
 have hj4:∀ (o':List Int) (q E:Int) R,b.1 ≠ 2 → b.1 ≠ 3 → Ev (fun k=>celluloidref05_Raw.l0 k s mx last o' q E) R → Ev (fun k=>celluloidref05_Raw.j4 k s mx last b.1 o' q E) R:=fun o' q E R n2 n3 hR =>
  Ev.step (fun k=>by simp only [celluloidref05_Raw.j4];rw [if_neg n2,if_neg n3]) hR
 have hj3:∀ (o':List Int) (q E:Int) R,b.1 ≠ 1 → Ev (fun k=>celluloidref05_Raw.j4 k s mx last b.1 o' q E) R → Ev (fun k=>celluloidref05_Raw.j3 k s mx last b.1 o' q E) R:=fun o' q E R n1 hR =>
  Ev.step (fun k=>by simp only [celluloidref05_Raw.j3];rw [if_neg n1]) hR
 by_cases c0:b.1=0
 ·refine ⟨stored s mx b.2,by rw [if_pos c0,if_pos he],?_⟩
  obtain ⟨o',q,E,R1⟩:=stored_is hs hb h he hm0 hm (by omega)
  refine ⟨o',q,R1,fun R hR=>Ev.congr (fun k=>if_pos c0) (Ev.bind (f:=fun k C=>celluloidref05_Raw.j3 k s mx last b.1 C.1 C.2.1 C.2.2) E ?_)⟩
  exact hj3 _ _ _ _ (by omega) (hj4 _ _ _ _ (by omega) (by omega) hR)
 ·by_cases c1:b.1=1
  ·refine ⟨both s mx plainA plainB b.2,by rw [if_neg c0,if_pos c1],?_⟩
   obtain ⟨o',q,E,R1⟩:=codes_is (la:=plainA) (lb:=plainB) hs hm hb h ho
   refine ⟨o',q,R1,fun R hR=>Ev.congr (fun k=>if_neg c0) (Ev.step (f:=fun k=>(celluloidref05_Plain.f k).bind fun D=>(celluloidref05_codes.f k s o p b.2.e mx D.1 D.2).bind fun C=>celluloidref05_Raw.j4 k s mx last b.1 C.1 C.2.1 C.2.2) (fun k=>?_) (Ev.bind plain_is (Ev.bind (f:=fun k C=>celluloidref05_Raw.j4 k s mx last b.1 C.1 C.2.1 C.2.2) E ?_)))⟩
   ·simp only [celluloidref05_Raw.j3]
    rw [if_pos c1]
   ·exact hj4 _ _ _ _ (by omega) (by omega) hR
  ·by_cases c2:b.1=2
   ·refine ⟨both s mx (lengths s b.2).1 (lengths s b.2).2.1 (lengths s b.2).2.2,by rw [if_neg c0,if_neg c1,if_pos c2],?_⟩
    obtain ⟨o',q,E,R1⟩:=lencodes_is hs hm hb h ho
    refine ⟨o',q,R1,fun R hR=>Ev.congr (fun k=>if_neg c0) (hj3 _ _ _ _ c1 (Ev.step (f:=fun k=>(celluloidref05_lencodes.f k s o p b.2.e mx).bind fun C=>celluloidref05_Raw.l0 k s mx last C.1 C.2.1 C.2.2) (fun k=>?_) (Ev.bind (f:=fun k C=>celluloidref05_Raw.l0 k s mx last C.1 C.2.1 C.2.2) E hR)))⟩
    simp only [celluloidref05_Raw.j4]
    rw [if_pos c2]
    congr 1
    funext C
    rw [if_neg (by omega)]
   ·have c3:b.1=3:=by omega
    refine ⟨fail b.2 3,by rw [if_neg c0,if_neg c1,if_neg c2],?_⟩
    rw [fail_three he]
    refine ⟨o,p,rel_three he o p,fun R hR=>Ev.congr (fun k=>if_neg c0) (hj3 _ _ _ _ c1 (Ev.step (fun k=>?_) hR))⟩
    simp only [celluloidref05_Raw.j4]
    rw [if_neg c2,if_pos c3]
theorem blocks_is {s:ByteArray} {mx:Int} (hs:s.size≤1000000) (hm0:0≤mx) (hm:mx≤262144):∀ (k:Nat) (x:St) (o:List Int) (p:Int),Ok s x → Rel x o p 0 → (x.o.length:Int)≤mx → left s x≤k → Ev (fun j=>celluloidref05_Raw.l0 j s mx 0 o p 0) (fin (blocks s mx k x)):=by
 intro k
 induction k with
 |zero=>intro x o p hx h ho hk;unfold left at hk;omega
 |succ k ih =>
  intro x o p hx h ho hk
  have ab:=Aft.block (mx:=mx) (s:=s) (by omega) hx
  obtain ⟨q1,E1,R1⟩:∃ q,Ev (fun k=>celluloidref05_number.f k s o p 0 1) ((Inf.bits s 1 x).1,o,q,(Inf.bits s 1 x).2.e)∧Rel (Inf.bits s 1 x).2 o q (Inf.bits s 1 x).2.e:=number_is 1 hs hx h (by decide)
  have g1:=bits_get (n:=1) (k:=1) (m:=(Inf.bits s 1 x).1) (y:=(Inf.bits s 1 x).2) rfl hx (by decide) rfl
  obtain ⟨q2,E2,R2⟩:∃ q,Ev (fun k=>celluloidref05_number.f k s o q1 (Inf.bits s 1 x).2.e 2) ((Inf.bits s 2 (Inf.bits s 1 x).2).1,o,q,(Inf.bits s 2 (Inf.bits s 1 x).2).2.e)∧Rel (Inf.bits s 2 (Inf.bits s 1 x).2).2 o q (Inf.bits s 2 (Inf.bits s 1 x).2).2.e:=number_is 2 hs g1.1 R1 (by decide)
  have g2:=bits_get (n:=2) (k:=2) (m:=(Inf.bits s 2 (Inf.bits s 1 x).2).1) (y:=(Inf.bits s 2 (Inf.bits s 1 x).2).2) rfl g1.1 (by decide) rfl
  have gz:(Inf.bits s 2 (Inf.bits s 1 x).2).2.e ≠ 0 → (Inf.bits s 2 (Inf.bits s 1 x).2).1=0:=fun h=>tak_zero h
  have hbl:blocks s mx (k+1) x=if (block s mx x).1=true then (block s mx x).2 else if (block s mx x).2.e=0 then blocks s mx k (block s mx x).2 else (block s mx x).2:=rfl
  have hdef:block s mx x=(decide ((Inf.bits s 1 x).1=1),if (Inf.bits s 2 (Inf.bits s 1 x).2).1=0 then (if (Inf.bits s 2 (Inf.bits s 1 x).2).2.e=0 then stored s mx (Inf.bits s 2 (Inf.bits s 1 x).2).2 else (Inf.bits s 2 (Inf.bits s 1 x).2).2) else if (Inf.bits s 2 (Inf.bits s 1 x).2).1=1 then both s mx plainA plainB (Inf.bits s 2 (Inf.bits s 1 x).2).2 else if (Inf.bits s 2 (Inf.bits s 1 x).2).1=2 then both s mx (lengths s (Inf.bits s 2 (Inf.bits s 1 x).2).2).1 (lengths s (Inf.bits s 2 (Inf.bits s 1 x).2).2).2.1 (lengths s (Inf.bits s 2 (Inf.bits s 1 x).2).2).2.2 else fail (Inf.bits s 2 (Inf.bits s 1 x).2).2 3):=rfl
  rw [hbl]
  rw [hdef] at ab ⊢
  generalize Inf.bits s 1 x=a at *
  generalize Inf.bits s 2 a.2=b at *
  have hgo:∀ R,Ev (fun k=>if b.2.e=0 then (if b.1=0 then ((celluloidref05_stored.f k s o q2 b.2.e mx).bind fun C=>celluloidref05_Raw.j3 k s mx a.1 b.1 C.1 C.2.1 C.2.2) else celluloidref05_Raw.j3 k s mx a.1 b.1 o q2 b.2.e) else some ((⟨#[]⟩:ByteArray),0,b.2.e)) R → Ev (fun j=>celluloidref05_Raw.l0 j s mx 0 o p 0) R:=fun R hR =>
   Ev.step (f:=fun k=>celluloidref05_Raw.j2 k s mx true o p 0) (fun k=>by simp only [celluloidref05_Raw.l0];rw [if_pos trivial];rfl)
    (Ev.step (f:=fun k=>(celluloidref05_number.f k s o p 0 1).bind fun A=>(celluloidref05_number.f k s A.2.1 A.2.2.1 A.2.2.2 2).bind fun B=>if B.2.2.2=0 then (if B.1=0 then ((celluloidref05_stored.f k s B.2.1 B.2.2.1 B.2.2.2 mx).bind fun C=>celluloidref05_Raw.j3 k s mx A.1 B.1 C.1 C.2.1 C.2.2) else celluloidref05_Raw.j3 k s mx A.1 B.1 B.2.1 B.2.2.1 B.2.2.2) else some ((⟨#[]⟩:ByteArray),0,B.2.2.2)) (fun k=>by simp only [celluloidref05_Raw.j2];rw [if_pos trivial]) (Ev.bind E1 (Ev.bind E2 hR)))
  have a2:a.1 < 2:=g1.2.2.1
  have b4:b.1 < 4:=g2.2.2.1
  by_cases cb:b.2.e=0
  ·have ho2:b.2.o=x.o:=g2.2.2.2.1.trans g1.2.2.2.1
   obtain ⟨y,hy,o',q,R3,J⟩:=kind_is (last:=a.1) (p:=q2) (o:=o) hs hm0 hm g2.1 R2 cb (by rw [ho2];exact ho) g2.2.1 b4
   rw [← hy] at ab ⊢
   have hJ:∀ R,Ev (fun k=>celluloidref05_Raw.l0 k s mx a.1 o' q y.e) R → Ev (fun j=>celluloidref05_Raw.l0 j s mx 0 o p 0) R:=fun R hR=>hgo R (Ev.congr (fun k=>if_pos cb) (J R hR))
   by_cases ca:a.1=1
   ·rw [if_pos (decide_eq_true ca)]
    exact hJ _ (stop_raw hs ab.1.ok R3 (.inl (by omega)))
   ·rw [if_neg (by simpa using ca)]
    have ca0:a.1=0:=by have:=g1.2.1;omega
    rw [ca0] at hJ
    by_cases cy:y.e=0
    ·rw [if_pos cy]
     rw [cy] at hJ R3
     exact hJ _ (ih y o' q ab.1.ok R3 (ab.1.o ho) (left_less hk rfl (ab.2 cy) hx.p1))
    ·rw [if_neg cy]
     exact hJ _ (stop_raw hs ab.1.ok R3 (.inr cy))
  ·have c0:=gz cb
   rw [if_pos c0,if_neg cb]
   have hz:(if decide (a.1=1)=true then b.2 else if b.2.e=0 then blocks s mx k b.2 else b.2)=b.2:=by
    rw [if_neg cb];split <;> rfl
   refine (show ∀ z,z=b.2 → Ev (fun j=>celluloidref05_Raw.l0 j s mx 0 o p 0) (fin z) from fun z hz=>?_) _ hz
   rw [hz]
   refine hgo _ (Ev.congr (fun k=>?_) (Ev.now _))
   rw [if_neg cb]
   unfold fin
   rw [if_neg cb]
/-- The reference's reader tells what the program's does. -/
theorem refraw_is (s:ByteArray) (mx:Int) (hs:s.size≤1000000):Ev (fun k=>celluloidref05_Raw.f k s mx) (raw s mx):=by
 unfold raw
 by_cases c:mx < 0 ∨ mx > 262144
 ·rw [if_pos c]
  refine Ev.congr (f:=fun k=>celluloidref05_Raw.j0 k s mx true) (fun k=>?_) (Ev.step (f:=fun _=>some ((⟨#[]⟩:ByteArray),0,1)) (fun k=>?_) (Ev.now _))
  ·unfold celluloidref05_Raw.f
   by_cases c1:mx < 0
   ·rw [if_pos c1]
   ·rw [if_neg c1,decide_eq_true (c.resolve_left c1)]
  ·simp only [celluloidref05_Raw.j0]
   rw [if_pos trivial]
 ·rw [if_neg c]
  have hm0:0≤mx:=Int.not_lt.1 (fun h=>c (.inl h))
  have hm:mx≤262144:=Int.not_lt.1 (fun h=>c (.inr h))
  refine Ev.congr (f:=fun k=>celluloidref05_Raw.j0 k s mx false) (fun k=>?_) (Ev.step (f:=fun k=>celluloidref05_Raw.l0 k s mx 0 [] 0 0) (fun k=>?_) ?_)
  ·unfold celluloidref05_Raw.f
   rw [if_neg (by omega),decide_eq_false (by omega)]
  ·simp only [celluloidref05_Raw.j0]
   rw [if_neg (by decide)]
  ·exact blocks_is hs hm0 hm (8*s.size+2) ⟨0,[],0⟩ [] 0 ⟨by decide,by show (0:Int)≤8*s.size;omega,.inl rfl⟩ ⟨rfl,fun _=>rfl,fun _=>rfl⟩ hm0 (by unfold left;show (8*(s.size:Int)+1 - 0).toNat+1≤_;omega)
end Go.Proofs.Ytpbhkdamkbopkaa.Inf
namespace Go.Proofs.Ytpbhkdamkbopkaa.Pure
open Go.RowKit Go.Proofs.Ytpbhkdamkbopkaa.Ext Go.Proofs.Ytpbhkdamkbopkaa.GInfr Go.Proofs.Ytpbhkdamkbopkaa.Wr2 Go.Proofs.Ytpbhkdamkbopkaa.Inf Go.Proofs.YtpbhkdamkbopkaaW.PrintWords Go.Proofs.YtpbhkdamkbopkaaW.PrintLast
theorem infr_awake20:GEnds.celluloidlaw05_awake.f 20=some true:=by kernel_rfl
theorem infr_awake (k:Nat):GEnds.celluloidlaw05_awake.f (20+k)=some true:=by
 induction k with
 |zero=>exact infr_awake20
 |succ k ih=>exact GEnds.celluloidlaw05_awake.mono _ _ ih
theorem InflateRaw:celluloidlaw05_InflateRaw.Pure:=by
 intro a0 a1 h0 hw
 by_cases c0:(a0.size:Int) > 1024
 ·refine ⟨20,?_⟩
  unfold celluloidlaw05_InflateRaw.f
  rw [if_pos c0,infr_awake20];rfl
 ·obtain ⟨K,hK⟩:=refraw_is a0 a1 (by omega)
  refine ⟨20+K,?_⟩
  have h1:inflate_Raw.f a0 a1=some (raw a0 a1):=by unfold inflate_Raw.f;rw [if_pos (by omega)]
  unfold celluloidlaw05_InflateRaw.f
  rw [if_neg c0,h1,Option.bind_some,(show celluloidref05_Raw.f (20+K) a0 a1=some (raw a0 a1) from hK (20+K) (by omega)),Option.bind_some,if_pos rfl,if_pos rfl,if_pos rfl,infr_awake K];rfl
end Go.Proofs.Ytpbhkdamkbopkaa.Pure
namespace Go.Proofs.Ytpbhkdamkbopkaa.Head
open Go
set_option maxRecDepth 100000
theorem order : Try.prog.initOrder = "harness a7c15820a2cb1018fe4759f7c25c13e6d005c23fb6069a0d0dcc8b91bc198833 cut at celluloid/celluloidlaw04.HuffCodes celluloid/celluloidlaw04.HuffReads celluloid/celluloidlaw04.HuffBack celluloid/celluloidlaw04.HuffFull celluloid/celluloidlaw04.HuffBits celluloid/celluloidlaw06.DeflateRuns celluloid/celluloidlaw06.DeflateFinds celluloid/celluloidlaw06.DeflatePlain celluloid/celluloidlaw06.DeflateRaw celluloid/celluloidlaw05.InflateRaw celluloid/celluloidlaw05.InflateOpens celluloid/celluloidlaw05.InflateStored celluloid/celluloidlaw05.InflateEnds celluloid/celluloidlaw05.InflateBlocks celluloid/celluloidlaw06.DeflateBack celluloid/celluloidlaw06.DeflateLong celluloid/celluloidlaw11.PixelPuts celluloid/celluloidlaw11.PixelTakes celluloid/celluloidlaw11.PixelAgain celluloid/celluloidlaw11.PixelPoints celluloid/celluloidlaw11.PixelTable celluloid/celluloidlaw11.PixelNames" := by kernel_rfl
/-- The signs behind the third word. -/
def rest:List Char:=['a','t',' ','c','e','l','l','u','l','o','i','d','/','c','e','l','l','u','l','o','i','d','l','a','w','0','4','.','H','u','f','f','C','o','d','e','s',' ','c','e','l','l','u','l','o','i','d','/','c','e','l','l','u','l','o','i','d','l','a','w','0','4','.','H','u','f','f','R','e','a','d','s',' ','c','e','l','l','u','l','o','i','d','/','c','e','l','l','u','l','o','i','d','l','a','w','0','4','.','H','u','f','f','B','a','c','k',' ','c','e','l','l','u','l','o','i','d','/','c','e','l','l','u','l','o','i','d','l','a','w','0','4','.','H','u','f','f','F','u','l','l',' ','c','e','l','l','u','l','o','i','d','/','c','e','l','l','u','l','o','i','d','l','a','w','0','4','.','H','u','f','f','B','i','t','s',' ','c','e','l','l','u','l','o','i','d','/','c','e','l','l','u','l','o','i','d','l','a','w','0','6','.','D','e','f','l','a','t','e','R','u','n','s',' ','c','e','l','l','u','l','o','i','d','/','c','e','l','l','u','l','o','i','d','l','a','w','0','6','.','D','e','f','l','a','t','e','F','i','n','d','s',' ','c','e','l','l','u','l','o','i','d','/','c','e','l','l','u','l','o','i','d','l','a','w','0','6','.','D','e','f','l','a','t','e','P','l','a','i','n',' ','c','e','l','l','u','l','o','i','d','/','c','e','l','l','u','l','o','i','d','l','a','w','0','6','.','D','e','f','l','a','t','e','R','a','w',' ','c','e','l','l','u','l','o','i','d','/','c','e','l','l','u','l','o','i','d','l','a','w','0','5','.','I','n','f','l','a','t','e','R','a','w',' ','c','e','l','l','u','l','o','i','d','/','c','e','l','l','u','l','o','i','d','l','a','w','0','5','.','I','n','f','l','a','t','e','O','p','e','n','s',' ','c','e','l','l','u','l','o','i','d','/','c','e','l','l','u','l','o','i','d','l','a','w','0','5','.','I','n','f','l','a','t','e','S','t','o','r','e','d',' ','c','e','l','l','u','l','o','i','d','/','c','e','l','l','u','l','o','i','d','l','a','w','0','5','.','I','n','f','l','a','t','e','E','n','d','s',' ','c','e','l','l','u','l','o','i','d','/','c','e','l','l','u','l','o','i','d','l','a','w','0','5','.','I','n','f','l','a','t','e','B','l','o','c','k','s',' ','c','e','l','l','u','l','o','i','d','/','c','e','l','l','u','l','o','i','d','l','a','w','0','6','.','D','e','f','l','a','t','e','B','a','c','k',' ','c','e','l','l','u','l','o','i','d','/','c','e','l','l','u','l','o','i','d','l','a','w','0','6','.','D','e','f','l','a','t','e','L','o','n','g',' ','c','e','l','l','u','l','o','i','d','/','c','e','l','l','u','l','o','i','d','l','a','w','1','1','.','P','i','x','e','l','P','u','t','s',' ','c','e','l','l','u','l','o','i','d','/','c','e','l','l','u','l','o','i','d','l','a','w','1','1','.','P','i','x','e','l','T','a','k','e','s',' ','c','e','l','l','u','l','o','i','d','/','c','e','l','l','u','l','o','i','d','l','a','w','1','1','.','P','i','x','e','l','A','g','a','i','n',' ','c','e','l','l','u','l','o','i','d','/','c','e','l','l','u','l','o','i','d','l','a','w','1','1','.','P','i','x','e','l','P','o','i','n','t','s',' ','c','e','l','l','u','l','o','i','d','/','c','e','l','l','u','l','o','i','d','l','a','w','1','1','.','P','i','x','e','l','T','a','b','l','e',' ','c','e','l','l','u','l','o','i','d','/','c','e','l','l','u','l','o','i','d','l','a','w','1','1','.','P','i','x','e','l','N','a','m','e','s']
theorem signs:Try.prog.initOrder.toList=['h','a','r','n','e','s','s'] ++ ' ' :: (['a','7','c','1','5','8','2','0','a','2','c','b','1','0','1','8','f','e','4','7','5','9','f','7','c','2','5','c','1','3','e','6','d','0','0','5','c','2','3','f','b','6','0','6','9','a','0','d','0','d','c','c','8','b','9','1','b','c','1','9','8','8','3','3'] ++ ' ' :: (['c','u','t'] ++ ' ' :: rest)):=by rw [order];exact String.toList_ofList
/-- The words: a word,and those behind its space. -/
theorem words_cut (r:List Char):∀ (w:List Char),(∀ c ∈ w,c ≠ ' ') → wordsSigns (w ++ ' ' :: r)=w :: wordsSigns r
 |[],_=>by simp [wordsSigns]
 |c :: w,h=>by
  have ih:=words_cut r w (fun x hx=>h x (List.mem_cons_of_mem _ hx))
  have hc:c ≠ ' ':=h c List.mem_cons_self
  rw [List.cons_append,wordsSigns.eq_3 _ _ hc,ih]
theorem words:behindMainWord (wordsSigns Try.prog.initOrder.toList)=['c','u','t'] :: wordsSigns rest:=by
 rw [signs,words_cut _ _ (by decide),words_cut _ _ (by decide),words_cut _ _ (by decide)]
 have h1 : ((['h', 'a', 'r', 'n', 'e', 's', 's'] == "harness".toList || ['h', 'a', 'r', 'n', 'e', 's', 's'] == "ownmain".toList) && isSumSigns ['a', '7', 'c', '1', '5', '8', '2', '0', 'a', '2', 'c', 'b', '1', '0', '1', '8', 'f', 'e', '4', '7', '5', '9', 'f', '7', 'c', '2', '5', 'c', '1', '3', 'e', '6', 'd', '0', '0', '5', 'c', '2', '3', 'f', 'b', '6', '0', '6', '9', 'a', '0', 'd', '0', 'd', 'c', 'c', '8', 'b', '9', '1', 'b', 'c', '1', '9', '8', '8', '3', '3']) = true := by decide +kernel
 unfold behindMainWord
 simp only [h1,if_true]
theorem g1 : (['c', 'u', 't'] == "gc".toList) = false := by decide +kernel
theorem g2 : (['c', 'u', 't'] == "spec".toList) = false := by decide +kernel
theorem g3 : (['c', 'u', 't'] == "cut".toList) = true := by decide +kernel
theorem g4 : (['c', 'u', 't'] == "carried".toList) = false := by decide +kernel
theorem lifts (rs:List (List Char)):stripLifts liftWords (['c','u','t'] :: rs)=([],['c','u','t'] :: rs):=by
 have h:liftWords.all (fun o=>!(['c','u','t'] == o.toList))=true:=by decide +kernel
 revert h
 generalize liftWords=os
 intro h
 induction os with
 |nil=>rfl
 |cons o os ih =>
  rw [List.all_cons,Bool.and_eq_true,Bool.not_eq_true'] at h
  rw [stripLifts.eq_3,if_neg (by rw [h.1];decide),ih h.2]
theorem make_of (P:Program) (rs:List (List Char)) (h:behindMainWord (wordsSigns P.initOrder.toList)=['c','u','t'] :: rs):P.make=some .cut:=by
 unfold Program.make
 rw [h]
 simp only [g1,g2,g3,Bool.false_or,Bool.true_or,if_true,Bool.false_eq_true,if_false]
theorem final_of (P:Program) (rs:List (List Char)) (h:behindMainWord (wordsSigns P.initOrder.toList)=['c','u','t'] :: rs):P.liftsFinal=false:=by
 unfold Program.liftsFinal Program.headLifts
 rw [h,lifts]
 rfl
theorem enters_of (P:Program) (rs:List (List Char)) (h:behindMainWord (wordsSigns P.initOrder.toList)=['c','u','t'] :: rs) (h1:P.laysLater=false) (h2:P.bearsReflect=false) (h3:P.doorFits []=true):P.mayEnter=true:=by
 unfold Program.mayEnter
 rw [h]
 dsimp only
 rw [lifts,h1,h2,h3]
 rfl
theorem make:Try.prog.make=some .cut:=make_of _ _ words
theorem final:Try.prog.liftsFinal=false:=final_of _ _ words
theorem later:Try.prog.laysLater=false:=by kernel_rfl
theorem reflect:Try.prog.bearsReflect=false:=by kernel_rfl
theorem door:Try.prog.doorFits []=true:=by kernel_rfl
theorem enters:Try.prog.mayEnter=true:=enters_of _ _ words later reflect door
end Go.Proofs.Ytpbhkdamkbopkaa.Head
