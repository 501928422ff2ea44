/- Parts of the proof, glued by a program of this session (wip/tools/claimfit.py). -/
import Derived.Test.YtpbhkdamkbopkaaMPTD
set_option linter.unusedVariables false
set_option linter.unusedSimpArgs false
set_option linter.unusedSectionVars false
namespace Go.Proofs.Ytpbhkdamkbopkaa.Rs
open Go Go.RowKit Rf YtpbhkdamkbopkaaW.PrintWords Go.Proofs.Ytpbhkdamkbopkaa GHuff GInfl GPix
set_option maxRecDepth 10000
set_option maxHeartbeats 4000000
variable {O:Orc}
theorem huff_Bit_sp (a0:ByteArray) (a1:Int) (r:Int × Bool) (H:huff_Bit.f a0 a1=some r):Sp (KT:=kt) Try.prog O 34 [c1 (.str a0),c1 (.n a1)] [] (.t [.c (.n r.1),.c (.bool r.2)]) []:=by
 refine Sp.of tok (by kernel_rfl) Try.func34 rfl rfl fun Γ hnp=>?_;unfold huff_Bit.f at H;refine WS.seq ?_;refine wrg ?_;refine wr 2 ?_;refine wn ?_;refine WS.seq ?_;refine WS.seq ?_;refine wrg ?_;refine wr 3 ?_;refine WR.split 8 rfl (fun b1=>?_) (fun b1=>?_)
 ·
  rw [ifP b1] at H;replace b1:=dT b1;refine wr 6 ?_;refine wn ?_;refine WS.cond rfl (fun _=>?_) (fun h=>nomatch h);refine WS.seq ?_;refine wrg ?_;refine wr 2 ?_;refine wn ?_;refine WS.ret ?_;cases H;exact ⟨tv,[],_,rfl,rfl,tv,rfl,rfl,rfl⟩
 ·
  rw [ifN b1] at H;replace b1:=dF b1;refine wr 6 ?_;refine wn ?_;refine WS.cond rfl (fun b3=>?_) (fun b3=>?_)
  ·
   rw [ifP b3] at H;replace b3:=dT b3;refine WS.seq ?_;refine wrg ?_;refine wr 2 ?_;refine wn ?_;refine WS.ret ?_;cases H;exact ⟨tv,[],_,rfl,rfl,tv,rfl,rfl,rfl⟩
  ·
   rw [ifN b3] at H;replace b3:=dF b3;refine WS.skip ?_;refine WS.seq ?_;refine wrg ?_;obtain ⟨g4,H⟩:=gd H;obtain ⟨g5,H⟩:=gd H;obtain ⟨g6,H⟩:=gd H;refine wr 11 ?_;refine wn ?_;refine WS.ret ?_;cases H;exact ⟨tv,[],_,rfl,rfl,tv,rfl,rfl,rfl⟩
theorem huff_Bits_sp (k:Nat) (a0:ByteArray) (a1:Int) (a2:Int) (r:Int × Int × Int) (H:huff_Bits.f k a0 a1 a2=some r):Sp (KT:=kt) Try.prog O 32 [c1 (.str a0),c1 (.n a1),c1 (.n a2)] [] (.t [.c (.n r.1),.c (.n r.2.1),.c (.n r.2.2)]) []:=by
 refine Sp.of tok (by kernel_rfl) Try.func32 rfl rfl fun Γ hnp=>?_;unfold huff_Bits.f at H;refine WS.seq ?_;refine wrg ?_;refine wr 3 ?_;refine wn ?_;refine WS.seq ?_;refine WS.block ?_;refine WS.join (fun ρ h=>∃ k1,∃ (g:Nat → SV) (x13:Bool),k1≤k∧ρ=upds g [(0,c1 (.str a0)),(1,c1 (.n a1)),(2,c1 (.n a2)),(13,c1 (.bool x13))]∧h=[]∧huff_Bits.j0 k1 a0 a1 a2 x13=some r) ?_ ?_
 ·
  refine wrg ?_;refine wr 3 ?_;refine WR.split 16 rfl (fun b1=>?_) (fun b1=>?_)
  ·
   rw [ifP b1] at H;replace b1:=dT b1;refine wr 8 ?_;refine wn ?_;intro kk;refine wcut [] [(0,c1 (.str a0)),(1,c1 (.n a1)),(2,c1 (.n a2)),(13,c1 (.bool true))] [] (n2 rfl (n2 rfl (n2 rfl (n2 rfl tv)))) tv (by rw [hnp];rfl) (fun g=>?_);exact kk _ _ ⟨_,g,_,by omega,rfl,rfl,H⟩
  ·
   rw [ifN b1] at H;replace b1:=dF b1;refine wr 4 ?_;refine WR.split 20 rfl (fun b2=>?_) (fun b2=>?_)
   ·
    rw [ifP b2] at H;replace b2:=dT b2;refine wr 4 ?_;refine wn ?_;intro kk;refine wcut [] [(0,c1 (.str a0)),(1,c1 (.n a1)),(2,c1 (.n a2)),(13,c1 (.bool true))] [] (n2 rfl (n2 rfl (n2 rfl (n2 rfl tv)))) tv (by rw [hnp];rfl) (fun g=>?_);exact kk _ _ ⟨_,g,_,by omega,rfl,rfl,H⟩
   ·
    rw [ifN b2] at H;replace b2:=dF b2;refine wr 4 ?_;refine wn ?_;intro kk;refine wcut [] [(0,c1 (.str a0)),(1,c1 (.n a1)),(2,c1 (.n a2)),(13,c1 (.bool ((decide (a2 > 16)))))] [] (n2 rfl (n2 rfl (n2 rfl (n2 rfl tv)))) tv (by rw [hnp];rfl) (fun g=>?_);exact kk _ _ ⟨_,g,_,by omega,rfl,rfl,H⟩
 rintro ρ h ⟨k,g,x13,hk3,rfl,rfl,H⟩
 rcases k with _ | k
 ·exact nn H
 simp only [huff_Bits.j0] at H;refine WS.cond rfl (fun b4=>?_) (fun b4=>?_)
 ·
  rw [ifB b4] at H;refine WS.seq ?_;refine wrg ?_;refine wr 3 ?_;refine wn ?_;refine WS.ret ?_;cases H;exact ⟨tv,[],_,rfl,rfl,tv,rfl,rfl,rfl⟩
 ·
  rw [ifBn b4] at H;refine WS.seq ?_;refine wrg ?_;refine wr 8 ?_;refine wn ?_;refine WS.cond rfl (fun b5=>?_) (fun b5=>?_)
  ·
   rw [ifP b5] at H;replace b5:=dT b5;refine WS.seq ?_;refine wrg ?_;refine wr 3 ?_;refine wn ?_;refine WS.ret ?_;cases H;exact ⟨tv,[],_,rfl,rfl,tv,rfl,rfl,rfl⟩
  ·
   rw [ifN b5] at H;replace b5:=dF b5;refine WS.skip ?_;refine WS.seq ?_;refine wrg ?_;refine wr 1 ?_;refine wn ?_;refine WS.seq ?_;refine WS.seq ?_;refine wrg ?_;refine wr 2 ?_;refine wn ?_;refine WS.block ?_;refine wcut [] [(0,c1 (.str a0)),(1,c1 (.n a1)),(2,c1 (.n a2)),(9,c1 (.n 0)),(32,c1 (.n a2)),(33,c1 (.n 0))] [] (n2 rfl (n2 rfl (n2 rfl (n2 rfl (n2 rfl (n2 rfl tv)))))) tv (by rw [hnp];rfl) (fun g=>?_);refine WS.loop (fun k1 ρ h=>∃ (g:Nat → SV) (x9:Int) (x32:Int) (x33:Int),k1≤k∧ρ=upds g [(0,c1 (.str a0)),(1,c1 (.n a1)),(2,c1 (.n a2)),(9,c1 (.n x9)),(32,c1 (.n x32)),(33,c1 (.n x33))]∧h=[]∧huff_Bits.l0 k1 a0 a1 a2 x9 x32 x33=some r) ?_ (n:=k) ⟨g,_,_,_,Nat.le_refl _,rfl,rfl,H⟩;rintro k ρ h ih6 ⟨g,x9,x32,x33,hkih6,rfl,rfl,H⟩
   rcases k with _ | k
   ·exact nn H
   simp only [huff_Bits.l0] at H;refine WS.seq ?_;refine wrg ?_;refine wr 1 ?_;refine wn ?_;refine WS.seq ?_;refine WS.cond rfl (fun b7=>?_) (fun b7=>?_)
   ·
    rw [ifP b7] at H;replace b7:=dT b7;refine WS.skip ?_;refine WS.seq ?_;refine WS.block ?_;refine WS.seq ?_;refine wrg ?_;refine wr 2 ?_;refine wn ?_;refine WS.seq ?_;refine wrg ?_;refine wr 4 ?_;obtain ⟨Qa,hbt226,H⟩:=bd H;refine WR.call (huff_Bit_sp _ _ _ hbt226) [] rfl rfl rfl rfl rfl tv rfl rfl rfl rfl rfl ?_;refine wr 5 ?_;refine wn ?_;refine wrg ?_;obtain ⟨g8,H⟩:=gd H;refine wr 6 ?_;refine wn ?_;refine wrg ?_;refine wr 2 ?_;refine wn ?_;refine wcut [] [(0,c1 (.str a0)),(1,c1 (.n a1)),(2,c1 (.n a2)),(9,c1 (.n ((Go.bits .or .i64 x9 (wrap64 (Qa.1*2 ^ (min (x33).toNat 64))))))),(32,c1 (.n x32)),(33,c1 (.n ((wrap64 (x33+1)))))] [] (n2 rfl (n2 rfl (n2 rfl (n2 rfl (n2 rfl (n2 rfl tv)))))) tv (by rw [hnp];rfl) (fun g=>?_);exact ih6 k (by omega) _ _ ⟨g,_,_,_,by omega,rfl,rfl,H⟩
   ·
    rw [ifN b7] at H;replace b7:=dF b7;refine WS.exit ?_;refine WS.seq ?_;refine wrg ?_;refine wr 7 ?_;refine wn ?_;refine WS.ret ?_;cases H;exact ⟨tv,[],_,rfl,rfl,tv,rfl,rfl,rfl⟩
theorem infl_bad_sp (a0:Int) (r:Bool) (H:infl_bad.f a0=some r):Sp (KT:=kt) Try.prog O 60 [c1 (.n a0)] [] (c1 (.bool r)) []:=by
 refine Sp.of tok (by kernel_rfl) Try.func60 rfl rfl fun Γ hnp=>?_;unfold infl_bad.f at H;refine WS.seq ?_;refine wrg ?_;refine wr 1 ?_;refine wn ?_;refine WS.seq ?_;refine wrg ?_;refine wr 3 ?_;refine WR.split 5 rfl (fun b1=>?_) (fun b1=>?_)
 ·
  rw [ifP b1] at H;replace b1:=dT b1;refine wr 4 ?_;refine wn ?_;refine WS.ret ?_;cases H;exact ⟨tv,[],_,rfl,rfl,tv,rfl,rfl,rfl⟩
 ·
  rw [ifN b1] at H;replace b1:=dF b1;refine wr 4 ?_;refine wn ?_;refine WS.ret ?_;cases H;exact ⟨tv,[],_,rfl,rfl,tv,rfl,rfl,rfl⟩
theorem infl_idx_sp (k:Nat) (l0:List Int) (r:Int) (H:infl_idx.f k l0=some r):Sp (KT:=kt) Try.prog O 88 [c1 (.sl 0 l0.length),.f 60 [] []] [⟨.view 3 l0,0,false⟩] (c1 (.n r)) [⟨.view 3 l0,0,false⟩]:=by
 refine Sp.of tok (by kernel_rfl) Try.func88 rfl rfl fun Γ hnp=>?_;unfold infl_idx.f at H;refine WS.seq ?_;refine wrg ?_;refine wr 1 ?_;refine wn ?_;refine WS.seq ?_;refine WS.seq ?_;refine wrg ?_;refine wr 3 ?_;refine wn ?_;refine WS.block ?_;refine wcut [some 0] [(0,c1 (.sl 0 l0.length)),(7,c1 (.n ((l0.length:Int)))),(8,c1 (.n 0)),(1,.f 60 [] [])] [⟨.view 3 l0,0,false⟩] (n2 rfl (n2 rfl (n2 rfl (n2 rfl tv)))) (n2 rfl tv) (by rw [hnp];rfl) (fun g=>?_);refine WS.loop (fun k1 ρ h=>∃ (g:Nat → SV) (x7:Int) (x8:Int),k1≤k∧ρ=upds g [(0,c1 (.sl 0 l0.length)),(7,c1 (.n x7)),(8,c1 (.n x8)),(1,.f 60 [] [])]∧h=[⟨.view 3 l0,0,false⟩]∧infl_idx.l0 k1 l0 x7 x8=some r) ?_ (n:=k) ⟨g,_,_,Nat.le_refl _,rfl,rfl,H⟩;rintro k ρ h ih1 ⟨g,x7,x8,hkih1,rfl,rfl,H⟩
 rcases k with _ | k
 ·exact nn H
 simp only [infl_idx.l0] at H;refine WS.seq ?_;refine wrg ?_;refine wr 1 ?_;refine wn ?_;refine WS.seq ?_;refine WS.cond rfl (fun b2=>?_) (fun b2=>?_)
 ·
  rw [ifP b2] at H;replace b2:=dT b2;refine WS.skip ?_;refine WS.seq ?_;refine WS.block ?_;refine WS.seq ?_;refine wrg ?_;refine wr 2 ?_;refine wn ?_;refine WS.seq ?_;refine wrg ?_;obtain ⟨g3,H⟩:=gd H;obtain ⟨g4,H⟩:=gd H;refine wr 5 ?_;obtain ⟨t16,ht16,H⟩:=bd H;refine WR.call (infl_bad_sp _ _ ht16) [] rfl rfl rfl rfl rfl tv rfl rfl rfl rfl rfl ?_;refine wn ?_;refine WS.cond rfl (fun b5=>?_) (fun b5=>?_)
  ·
   rw [ifB b5] at H;refine WS.seq ?_;refine wrg ?_;refine wr 2 ?_;refine wn ?_;refine WS.ret ?_;cases H;exact ⟨tv,[some 0],_,rfl,rfl,(n2 rfl tv),rfl,rfl,rfl⟩
  ·
   rw [ifBn b5] at H;refine WS.skip ?_;refine wrg ?_;refine wr 2 ?_;refine wn ?_;refine wcut [some 0] [(0,c1 (.sl 0 l0.length)),(7,c1 (.n x7)),(8,c1 (.n ((wrap64 (x8+1))))),(1,.f 60 [] [])] [⟨.view 3 l0,0,false⟩] (n2 rfl (n2 rfl (n2 rfl (n2 rfl tv)))) (n2 rfl tv) (by rw [hnp];rfl) (fun g=>?_);exact ih1 k (by omega) _ _ ⟨g,_,_,by omega,rfl,rfl,H⟩
 ·
  rw [ifN b2] at H;replace b2:=dF b2;refine WS.exit ?_;refine WS.seq ?_;refine wrg ?_;refine wr 1 ?_;refine wn ?_;refine WS.ret ?_;cases H;exact ⟨tv,[some 0],_,rfl,rfl,(n2 rfl tv),rfl,rfl,rfl⟩
theorem infl_has_sp (k:Nat) (l0:List Int) (r:Bool) (H:infl_has.f k l0=some r):Sp (KT:=kt) Try.prog O 59 [c1 (.sl 0 l0.length),.f 60 [] []] [⟨.view 3 l0,0,false⟩] (c1 (.bool r)) [⟨.view 3 l0,0,false⟩]:=by
 refine Sp.of tok (by kernel_rfl) Try.func59 rfl rfl fun Γ hnp=>?_;unfold infl_has.f at H;refine WS.seq ?_;refine wrg ?_;refine wr 1 ?_;refine wn ?_;refine WS.seq ?_;refine wrg ?_;refine wr 2 ?_;obtain ⟨t7,ht7,H⟩:=bd H;refine WR.call (infl_idx_sp _ _ _ ht7) [some 0] rfl rfl rfl rfl rfl (n2 rfl tv) rfl rfl rfl rfl rfl ?_;refine wr 2 ?_;refine wn ?_;refine WS.ret ?_;cases H;exact ⟨tv,[some 0],_,rfl,rfl,(n2 rfl tv),rfl,rfl,rfl⟩
theorem infl_hNew_sp (k:Nat) (l0:List Int) (r:List Int × List Int × Int) (H:infl_hNew.f k l0=some r):Sp (KT:=kt) Try.prog O 26 [c1 (.sl 0 l0.length)] [⟨.view 3 l0,0,false⟩] (.t [.agg [.n (rd r.1 0),.n (rd r.1 1),.n (rd r.1 2),.n (rd r.1 3),.n (rd r.1 4),.n (rd r.1 5),.n (rd r.1 6),.n (rd r.1 7),.n (rd r.1 8),.n (rd r.1 9),.n (rd r.1 10),.n (rd r.1 11),.n (rd r.1 12),.n (rd r.1 13),.n (rd r.1 14),.n (rd r.1 15),.sl 1 r.2.1.length],.c (.n r.2.2)]) [⟨.view 3 l0,0,false⟩,⟨.own 3 r.2.1,1,true⟩]:=by
 refine Sp.of tok (by kernel_rfl) Try.func26 rfl rfl fun Γ hnp=>?_;unfold infl_hNew.f at H;refine WS.seq ?_;refine wrg ?_;refine wr 2 ?_;refine wn ?_;refine WS.seq ?_;refine WS.seq ?_;refine wrg ?_;refine wr 4 ?_;refine WR.split 17 rfl (fun b1=>?_) (fun b1=>?_)
 ·
  rw [ifP b1] at H;replace b1:=dT b1;refine wr 3 ?_;refine wn ?_;refine WS.cond rfl (fun _=>?_) (fun h=>nomatch h);refine WS.seq ?_;refine wrg ?_;refine wr 3 ?_;refine wn ?_;refine WS.ret ?_;cases H;exact ⟨tv,[some 0,none],_,rfl,rfl,(n2 rfl (n2 rfl tv)),rfl,rfl,rfl⟩
 ·
  rw [ifN b1] at H;replace b1:=dF b1;refine wr 1 ?_;obtain ⟨t19,ht19,H⟩:=bd H;refine WR.call (infl_has_sp _ _ _ ht19) [some 0] rfl rfl rfl rfl rfl (n2 rfl tv) rfl rfl rfl rfl rfl ?_;refine wr 1 ?_;refine wn ?_;refine WS.cond rfl (fun b3=>?_) (fun b3=>?_)
  ·
   rw [ifB b3] at H;refine WS.seq ?_;refine wrg ?_;refine wr 3 ?_;refine wn ?_;refine WS.ret ?_;cases H;exact ⟨tv,[some 0,none],_,rfl,rfl,(n2 rfl (n2 rfl tv)),rfl,rfl,rfl⟩
  ·
   rw [ifBn b3] at H;refine WS.skip ?_;refine WS.seq ?_;refine wrg ?_;refine wr 1 ?_;refine wn ?_;refine WS.seq ?_;refine WS.seq ?_;refine wrg ?_;refine wr 3 ?_;refine wn ?_;refine WS.block ?_;refine wcut [some 0,some 1,some 2] [(0,c1 (.sl 0 l0.length)),(22,c1 (.sl 0 l0.length)),(23,c1 (.n ((l0.length:Int)))),(24,c1 (.n 0)),(2,c1 (.ptr 1 0 0 0)),(4,c1 (.ptr 2 0 0 0))] [⟨.view 3 l0,0,false⟩,⟨.box [.n 0,.n 0,.n 0,.n 0,.n 0,.n 0,.n 0,.n 0,.n 0,.n 0,.n 0,.n 0,.n 0,.n 0,.n 0,.n 0,.nils],1,true⟩,⟨.box [.n 0,.n 0,.n 0,.n 0,.n 0,.n 0,.n 0,.n 0,.n 0,.n 0,.n 0,.n 0,.n 0,.n 0,.n 0,.n 0,.nils],2,true⟩] (n2 rfl (n2 rfl (n2 rfl (n2 rfl (n2 rfl (n2 rfl tv)))))) (n2 rfl (n2 (rw_ rfl rfl) (n2 (rw_ rfl rfl) tv))) (by rw [hnp];rfl) (fun g=>?_);refine WS.loop (fun k1 ρ h=>∃ (g:Nat → SV) (x23:Int) (x24:Int) (Qp:Int) (Qa:Int) (Qb:Int) (Qc:Int) (Qd:Int) (Qe:Int) (Qf:Int) (Qg:Int) (Qh:Int) (Qi:Int) (Qj:Int) (Qk:Int) (Ql:Int) (Qm:Int) (Qn:Int) (Qo:Int),k1≤k∧ρ=upds g [(0,c1 (.sl 0 l0.length)),(22,c1 (.sl 0 l0.length)),(23,c1 (.n x23)),(24,c1 (.n x24)),(2,c1 (.ptr 1 0 0 0)),(4,c1 (.ptr 2 0 0 0))]∧h=[⟨.view 3 l0,0,false⟩,⟨.box [.n 0,.n 0,.n 0,.n 0,.n 0,.n 0,.n 0,.n 0,.n 0,.n 0,.n 0,.n 0,.n 0,.n 0,.n 0,.n 0,.nils],1,true⟩,⟨.box [.n Qp,.n Qa,.n Qb,.n Qc,.n Qd,.n Qe,.n Qf,.n Qg,.n Qh,.n Qi,.n Qj,.n Qk,.n Ql,.n Qm,.n Qn,.n Qo,.nils],2,true⟩]∧infl_hNew.l0 k1 l0 l0 x23 x24 Qp Qa Qb Qc Qd Qe Qf Qg Qh Qi Qj Qk Ql Qm Qn Qo=some r) ?_ (n:=k) ⟨g,_,_,_,_,_,_,_,_,_,_,_,_,_,_,_,_,_,_,Nat.le_refl _,rfl,rfl,H⟩;rintro k ρ h ih4 ⟨g,x23,x24,Qp,Qa,Qb,Qc,Qd,Qe,Qf,Qg,Qh,Qi,Qj,Qk,Ql,Qm,Qn,Qo,hkih4,rfl,rfl,H⟩
   rcases k with _ | k
   ·exact nn H
   simp only [infl_hNew.l0] at H;refine WS.seq ?_;refine wrg ?_;refine wr 1 ?_;refine wn ?_;refine WS.seq ?_;refine WS.cond rfl (fun b5=>?_) (fun b5=>?_)
   ·
    rw [ifP b5] at H;replace b5:=dT b5;refine WS.skip ?_;refine WS.seq ?_;refine WS.block ?_;refine WS.seq ?_;refine wrg ?_;obtain ⟨g6,H⟩:=gd H;obtain ⟨g7,H⟩:=gd H;obtain ⟨g8,H⟩:=gd H;obtain ⟨g9,H⟩:=gd H;refine wr 3 ?_;refine wn ?_;refine wrg ?_;refine wr 8 ?_;refine wn ?_;refine wrg ?_;refine wr 2 ?_;refine wn ?_;refine wcut [some 0,some 1,some 2] [(0,c1 (.sl 0 l0.length)),(22,c1 (.sl 0 l0.length)),(23,c1 (.n x23)),(24,c1 (.n ((wrap64 (x24+1))))),(2,c1 (.ptr 1 0 0 0)),(4,c1 (.ptr 2 0 0 0))] [⟨.view 3 l0,0,false⟩,⟨.box [.n 0,.n 0,.n 0,.n 0,.n 0,.n 0,.n 0,.n 0,.n 0,.n 0,.n 0,.n 0,.n 0,.n 0,.n 0,.n 0,.nils],1,true⟩,⟨.box [.n ((([Qp,Qa,Qb,Qc,Qd,Qe,Qf,Qg,Qh,Qi,Qj,Qk,Ql,Qm,Qn,Qo].set (rd l0 x24).toNat (wrap64 ((rd [Qp,Qa,Qb,Qc,Qd,Qe,Qf,Qg,Qh,Qi,Qj,Qk,Ql,Qm,Qn,Qo] (rd l0 x24))+1))).getD 0 0)),.n ((([Qp,Qa,Qb,Qc,Qd,Qe,Qf,Qg,Qh,Qi,Qj,Qk,Ql,Qm,Qn,Qo].set (rd l0 x24).toNat (wrap64 ((rd [Qp,Qa,Qb,Qc,Qd,Qe,Qf,Qg,Qh,Qi,Qj,Qk,Ql,Qm,Qn,Qo] (rd l0 x24))+1))).getD 1 0)),.n ((([Qp,Qa,Qb,Qc,Qd,Qe,Qf,Qg,Qh,Qi,Qj,Qk,Ql,Qm,Qn,Qo].set (rd l0 x24).toNat (wrap64 ((rd [Qp,Qa,Qb,Qc,Qd,Qe,Qf,Qg,Qh,Qi,Qj,Qk,Ql,Qm,Qn,Qo] (rd l0 x24))+1))).getD 2 0)),.n ((([Qp,Qa,Qb,Qc,Qd,Qe,Qf,Qg,Qh,Qi,Qj,Qk,Ql,Qm,Qn,Qo].set (rd l0 x24).toNat (wrap64 ((rd [Qp,Qa,Qb,Qc,Qd,Qe,Qf,Qg,Qh,Qi,Qj,Qk,Ql,Qm,Qn,Qo] (rd l0 x24))+1))).getD 3 0)),.n ((([Qp,Qa,Qb,Qc,Qd,Qe,Qf,Qg,Qh,Qi,Qj,Qk,Ql,Qm,Qn,Qo].set (rd l0 x24).toNat (wrap64 ((rd [Qp,Qa,Qb,Qc,Qd,Qe,Qf,Qg,Qh,Qi,Qj,Qk,Ql,Qm,Qn,Qo] (rd l0 x24))+1))).getD 4 0)),.n ((([Qp,Qa,Qb,Qc,Qd,Qe,Qf,Qg,Qh,Qi,Qj,Qk,Ql,Qm,Qn,Qo].set (rd l0 x24).toNat (wrap64 ((rd [Qp,Qa,Qb,Qc,Qd,Qe,Qf,Qg,Qh,Qi,Qj,Qk,Ql,Qm,Qn,Qo] (rd l0 x24))+1))).getD 5 0)),.n ((([Qp,Qa,Qb,Qc,Qd,Qe,Qf,Qg,Qh,Qi,Qj,Qk,Ql,Qm,Qn,Qo].set (rd l0 x24).toNat (wrap64 ((rd [Qp,Qa,Qb,Qc,Qd,Qe,Qf,Qg,Qh,Qi,Qj,Qk,Ql,Qm,Qn,Qo] (rd l0 x24))+1))).getD 6 0)),.n ((([Qp,Qa,Qb,Qc,Qd,Qe,Qf,Qg,Qh,Qi,Qj,Qk,Ql,Qm,Qn,Qo].set (rd l0 x24).toNat (wrap64 ((rd [Qp,Qa,Qb,Qc,Qd,Qe,Qf,Qg,Qh,Qi,Qj,Qk,Ql,Qm,Qn,Qo] (rd l0 x24))+1))).getD 7 0)),.n ((([Qp,Qa,Qb,Qc,Qd,Qe,Qf,Qg,Qh,Qi,Qj,Qk,Ql,Qm,Qn,Qo].set (rd l0 x24).toNat (wrap64 ((rd [Qp,Qa,Qb,Qc,Qd,Qe,Qf,Qg,Qh,Qi,Qj,Qk,Ql,Qm,Qn,Qo] (rd l0 x24))+1))).getD 8 0)),.n ((([Qp,Qa,Qb,Qc,Qd,Qe,Qf,Qg,Qh,Qi,Qj,Qk,Ql,Qm,Qn,Qo].set (rd l0 x24).toNat (wrap64 ((rd [Qp,Qa,Qb,Qc,Qd,Qe,Qf,Qg,Qh,Qi,Qj,Qk,Ql,Qm,Qn,Qo] (rd l0 x24))+1))).getD 9 0)),.n ((([Qp,Qa,Qb,Qc,Qd,Qe,Qf,Qg,Qh,Qi,Qj,Qk,Ql,Qm,Qn,Qo].set (rd l0 x24).toNat (wrap64 ((rd [Qp,Qa,Qb,Qc,Qd,Qe,Qf,Qg,Qh,Qi,Qj,Qk,Ql,Qm,Qn,Qo] (rd l0 x24))+1))).getD 10 0)),.n ((([Qp,Qa,Qb,Qc,Qd,Qe,Qf,Qg,Qh,Qi,Qj,Qk,Ql,Qm,Qn,Qo].set (rd l0 x24).toNat (wrap64 ((rd [Qp,Qa,Qb,Qc,Qd,Qe,Qf,Qg,Qh,Qi,Qj,Qk,Ql,Qm,Qn,Qo] (rd l0 x24))+1))).getD 11 0)),.n ((([Qp,Qa,Qb,Qc,Qd,Qe,Qf,Qg,Qh,Qi,Qj,Qk,Ql,Qm,Qn,Qo].set (rd l0 x24).toNat (wrap64 ((rd [Qp,Qa,Qb,Qc,Qd,Qe,Qf,Qg,Qh,Qi,Qj,Qk,Ql,Qm,Qn,Qo] (rd l0 x24))+1))).getD 12 0)),.n ((([Qp,Qa,Qb,Qc,Qd,Qe,Qf,Qg,Qh,Qi,Qj,Qk,Ql,Qm,Qn,Qo].set (rd l0 x24).toNat (wrap64 ((rd [Qp,Qa,Qb,Qc,Qd,Qe,Qf,Qg,Qh,Qi,Qj,Qk,Ql,Qm,Qn,Qo] (rd l0 x24))+1))).getD 13 0)),.n ((([Qp,Qa,Qb,Qc,Qd,Qe,Qf,Qg,Qh,Qi,Qj,Qk,Ql,Qm,Qn,Qo].set (rd l0 x24).toNat (wrap64 ((rd [Qp,Qa,Qb,Qc,Qd,Qe,Qf,Qg,Qh,Qi,Qj,Qk,Ql,Qm,Qn,Qo] (rd l0 x24))+1))).getD 14 0)),.n ((([Qp,Qa,Qb,Qc,Qd,Qe,Qf,Qg,Qh,Qi,Qj,Qk,Ql,Qm,Qn,Qo].set (rd l0 x24).toNat (wrap64 ((rd [Qp,Qa,Qb,Qc,Qd,Qe,Qf,Qg,Qh,Qi,Qj,Qk,Ql,Qm,Qn,Qo] (rd l0 x24))+1))).getD 15 0)),.nils],2,true⟩] (n2 rfl (n2 rfl (n2 rfl (n2 rfl (n2 rfl (n2 rfl tv)))))) (n2 rfl (n2 (rw_ rfl rfl) (n2 (rw_ rfl rfl) tv))) (by rw [hnp];rfl) (fun g=>?_)
    exact ih4 k (by omega) _ _ ⟨g,_,_,_,_,_,_,_,_,_,_,_,_,_,_,_,_,_,_,by omega,rfl,rfl,H⟩
   ·
    rw [ifN b5] at H;replace b5:=dF b5;refine WS.exit ?_;refine WS.seq ?_;refine wrg ?_;refine wr 3 ?_;refine wn ?_;refine WS.seq ?_;refine wrg ?_;refine wr 2 ?_;refine wn ?_;refine WS.seq ?_;refine WS.seq ?_;refine wrg ?_;refine wr 3 ?_;refine wn ?_;refine WS.block ?_;refine wcut [some 0,some 1,some 2] [(0,c1 (.sl 0 l0.length)),(7,c1 (.n 32768)),(8,c1 (.n 0)),(40,c1 (.n 0)),(39,.v (.agg [.n 0,.n Qa,.n Qb,.n Qc,.n Qd,.n Qe,.n Qf,.n Qg,.n Qh,.n Qi,.n Qj,.n Qk,.n Ql,.n Qm,.n Qn,.n Qo])),(2,c1 (.ptr 1 0 0 0)),(4,c1 (.ptr 2 0 0 0))] [⟨.view 3 l0,0,false⟩,⟨.box [.n 0,.n 0,.n 0,.n 0,.n 0,.n 0,.n 0,.n 0,.n 0,.n 0,.n 0,.n 0,.n 0,.n 0,.n 0,.n 0,.nils],1,true⟩,⟨.box [.n 0,.n Qa,.n Qb,.n Qc,.n Qd,.n Qe,.n Qf,.n Qg,.n Qh,.n Qi,.n Qj,.n Qk,.n Ql,.n Qm,.n Qn,.n Qo,.nils],2,true⟩] (n2 rfl (n2 rfl (n2 rfl (n2 rfl (n2 rfl (n2 rfl (n2 rfl tv))))))) (n2 rfl (n2 (rw_ rfl rfl) (n2 (rw_ rfl rfl) tv))) (by rw [hnp];rfl) (fun g=>?_);refine WS.loop (fun k1 ρ h=>∃ (g:Nat → SV) (x7:Int) (x8:Int) (x40:Int) (Qp:Int) (Qa:Int) (Qb:Int) (Qc:Int) (Qd:Int) (Qe:Int) (Qf:Int) (Qg:Int) (Qh:Int) (Qi:Int) (Qj:Int) (Qk:Int) (Ql:Int) (Qm:Int) (Qn:Int) (Qo:Int),k1≤k∧ρ=upds g [(0,c1 (.sl 0 l0.length)),(7,c1 (.n x7)),(8,c1 (.n x8)),(40,c1 (.n x40)),(39,.v (.agg [.n Qp,.n Qa,.n Qb,.n Qc,.n Qd,.n Qe,.n Qf,.n Qg,.n Qh,.n Qi,.n Qj,.n Qk,.n Ql,.n Qm,.n Qn,.n Qo])),(2,c1 (.ptr 1 0 0 0)),(4,c1 (.ptr 2 0 0 0))]∧h=[⟨.view 3 l0,0,false⟩,⟨.box [.n 0,.n 0,.n 0,.n 0,.n 0,.n 0,.n 0,.n 0,.n 0,.n 0,.n 0,.n 0,.n 0,.n 0,.n 0,.n 0,.nils],1,true⟩,⟨.box [.n Qp,.n Qa,.n Qb,.n Qc,.n Qd,.n Qe,.n Qf,.n Qg,.n Qh,.n Qi,.n Qj,.n Qk,.n Ql,.n Qm,.n Qn,.n Qo,.nils],2,true⟩]∧infl_hNew.l1 k1 l0 x7 x8 x40 Qp Qa Qb Qc Qd Qe Qf Qg Qh Qi Qj Qk Ql Qm Qn Qo=some r) ?_ (n:=k) ⟨g,_,_,_,_,_,_,_,_,_,_,_,_,_,_,_,_,_,_,_,Nat.le_refl _,rfl,rfl,H⟩
    rintro k ρ h ih10 ⟨g,x7,x8,x40,Qp,Qa,Qb,Qc,Qd,Qe,Qf,Qg,Qh,Qi,Qj,Qk,Ql,Qm,Qn,Qo,hkih10,rfl,rfl,H⟩
    rcases k with _ | k
    ·exact nn H
    simp only [infl_hNew.l1] at H;refine WS.seq ?_;refine wrg ?_;refine wr 1 ?_;refine wn ?_;refine WS.seq ?_;refine WS.cond rfl (fun b11=>?_) (fun b11=>?_)
    ·
     rw [ifP b11] at H;replace b11:=dT b11;refine WS.skip ?_;refine WS.seq ?_;refine WS.block ?_;refine WS.seq ?_;refine wrg ?_;obtain ⟨g12,H⟩:=gd H;obtain ⟨g13,H⟩:=gd H;obtain ⟨g14,H⟩:=gd H;refine wr 4 ?_;refine wn ?_;refine WS.seq ?_;refine wrg ?_;refine wr 7 ?_;refine wn ?_;refine wrg ?_;refine wr 4 ?_;refine wn ?_;refine wrg ?_;refine wr 2 ?_;refine wn ?_;refine wcut [some 0,some 1,some 2] [(0,c1 (.sl 0 l0.length)),(7,c1 (.n ((wrap64 (x7 - (wrap64 ((rd [Qp,Qa,Qb,Qc,Qd,Qe,Qf,Qg,Qh,Qi,Qj,Qk,Ql,Qm,Qn,Qo] x40)*2 ^ (min (wrap64 (15 - x40)).toNat 64)))))))),(8,c1 (.n ((wrap64 (x8+(rd [Qp,Qa,Qb,Qc,Qd,Qe,Qf,Qg,Qh,Qi,Qj,Qk,Ql,Qm,Qn,Qo] x40)))))),(40,c1 (.n ((wrap64 (x40+1))))),(39,.v (.agg [.n Qp,.n Qa,.n Qb,.n Qc,.n Qd,.n Qe,.n Qf,.n Qg,.n Qh,.n Qi,.n Qj,.n Qk,.n Ql,.n Qm,.n Qn,.n Qo])),(2,c1 (.ptr 1 0 0 0)),(4,c1 (.ptr 2 0 0 0))] [⟨.view 3 l0,0,false⟩,⟨.box [.n 0,.n 0,.n 0,.n 0,.n 0,.n 0,.n 0,.n 0,.n 0,.n 0,.n 0,.n 0,.n 0,.n 0,.n 0,.n 0,.nils],1,true⟩,⟨.box [.n Qp,.n Qa,.n Qb,.n Qc,.n Qd,.n Qe,.n Qf,.n Qg,.n Qh,.n Qi,.n Qj,.n Qk,.n Ql,.n Qm,.n Qn,.n Qo,.nils],2,true⟩] (n2 rfl (n2 rfl (n2 rfl (n2 rfl (n2 rfl (n2 rfl (n2 rfl tv))))))) (n2 rfl (n2 (rw_ rfl rfl) (n2 (rw_ rfl rfl) tv))) (by rw [hnp];rfl) (fun g=>?_);exact ih10 k (by omega) _ _ ⟨g,_,_,_,_,_,_,_,_,_,_,_,_,_,_,_,_,_,_,_,by omega,rfl,rfl,H⟩
    ·
     rw [ifN b11] at H;replace b11:=dF b11;refine WS.exit ?_;refine WS.seq ?_;refine WS.seq ?_;refine wrg ?_;refine wr 3 ?_;refine WR.split 56 rfl (fun b15=>?_) (fun b15=>?_)
     ·
      rw [ifP b15] at H;replace b15:=dT b15;refine wr 17 ?_;refine wn ?_;refine WS.cond rfl (fun _=>?_) (fun h=>nomatch h);refine WS.seq ?_;refine wrg ?_;refine wr 3 ?_;refine wn ?_;refine WS.ret ?_;cases H;exact ⟨tv,[some 0,none],_,rfl,rfl,(n2 rfl (n2 rfl tv)),rfl,rfl,rfl⟩
     ·
      rw [ifN b15] at H;replace b15:=dF b15;refine wr 3 ?_;refine WR.split 59 rfl (fun b17=>?_) (fun b17=>?_)
      ·
       rw [ifP b17] at H;replace b17:=dT b17;refine wr 4 ?_;refine WR.split 63 rfl (fun b18=>?_) (fun b18=>?_)
       ·
        rw [ifP b18] at H;replace b18:=dT b18;refine wr 3 ?_;refine WR.split 66 rfl (fun b19=>?_) (fun b19=>?_)
        ·
         rw [ifX b19] at H;replace b19:=nT b19;refine wr 7 ?_;refine wn ?_;refine WS.cond rfl (fun _=>?_) (fun h=>nomatch h);refine WS.seq ?_;refine wrg ?_;refine wr 3 ?_;refine wn ?_;refine WS.ret ?_;cases H;exact ⟨tv,[some 0,none],_,rfl,rfl,(n2 rfl (n2 rfl tv)),rfl,rfl,rfl⟩
        ·
         rw [ifXn b19] at H;replace b19:=nF b19;refine wr 7 ?_;refine wn ?_;refine WS.cond rfl (fun b21=>?_) (fun b21=>?_)
         ·
          rw [ifX b21] at H;replace b21:=nT b21;refine WS.seq ?_;refine wrg ?_;refine wr 3 ?_;refine wn ?_;refine WS.ret ?_;cases H;exact ⟨tv,[some 0,none],_,rfl,rfl,(n2 rfl (n2 rfl tv)),rfl,rfl,rfl⟩
         ·
          rw [ifXn b21] at H;replace b21:=nF b21;refine WS.skip ?_;refine WS.seq ?_;refine WS.seq ?_;refine wrg ?_;refine wr 1 ?_;refine wn ?_;refine WS.block ?_;refine wcut [some 0,some 1,some 2,none] [(0,c1 (.sl 0 l0.length)),(11,c1 (.n 1)),(2,c1 (.ptr 1 0 0 0)),(4,c1 (.ptr 2 0 0 0))] [⟨.view 3 l0,0,false⟩,⟨.box [.n 0,.n 0,.n 0,.n 0,.n 0,.n 0,.n 0,.n 0,.n 0,.n 0,.n 0,.n 0,.n 0,.n 0,.n 0,.n 0,.nils],1,true⟩,⟨.box [.n Qp,.n Qa,.n Qb,.n Qc,.n Qd,.n Qe,.n Qf,.n Qg,.n Qh,.n Qi,.n Qj,.n Qk,.n Ql,.n Qm,.n Qn,.n Qo,.sl 3 (([]:List Int)).length],2,true⟩,⟨.own 3 ((([]:List Int)):List Int),3,true⟩] (n2 rfl (n2 rfl (n2 rfl (n2 rfl tv)))) (n2 rfl (n2 (rw_ rfl rfl) (n2 (rw_ rfl rfl) (n2 rfl tv)))) (by rw [hnp];rfl) (fun g=>?_);refine WS.loop (fun k1 ρ h=>∃ (g:Nat → SV) (x11:Int) (Qp:Int) (Qa:Int) (Qb:Int) (Qc:Int) (Qd:Int) (Qe:Int) (Qf:Int) (Qg:Int) (Qh:Int) (Qi:Int) (Qj:Int) (Qk:Int) (Ql:Int) (Qm:Int) (Qn:Int) (Qo:Int) (Qq:List Int),k1≤k∧ρ=upds g [(0,c1 (.sl 0 l0.length)),(11,c1 (.n x11)),(2,c1 (.ptr 1 0 0 0)),(4,c1 (.ptr 2 0 0 0))]∧h=[⟨.view 3 l0,0,false⟩,⟨.box [.n 0,.n 0,.n 0,.n 0,.n 0,.n 0,.n 0,.n 0,.n 0,.n 0,.n 0,.n 0,.n 0,.n 0,.n 0,.n 0,.nils],1,true⟩,⟨.box [.n Qp,.n Qa,.n Qb,.n Qc,.n Qd,.n Qe,.n Qf,.n Qg,.n Qh,.n Qi,.n Qj,.n Qk,.n Ql,.n Qm,.n Qn,.n Qo,.sl 3 Qq.length],2,true⟩,⟨.own 3 Qq,3,true⟩]∧infl_hNew.l2 k1 l0 x11 Qp Qa Qb Qc Qd Qe Qf Qg Qh Qi Qj Qk Ql Qm Qn Qo Qq=some r) ?_ (n:=k) ⟨g,_,_,_,_,_,_,_,_,_,_,_,_,_,_,_,_,_,_,Nat.le_refl _,rfl,rfl,H⟩;rintro k ρ h ih22 ⟨g,x11,Qp,Qa,Qb,Qc,Qd,Qe,Qf,Qg,Qh,Qi,Qj,Qk,Ql,Qm,Qn,Qo,Qq,hkih22,rfl,rfl,H⟩
          rcases k with _ | k
          ·exact nn H
          simp only [infl_hNew.l2] at H;refine WS.seq ?_;refine WS.seq ?_;refine wrg ?_;refine wr 2 ?_;refine wn ?_;refine WS.cond rfl (fun b23=>?_) (fun b23=>?_)
          ·
           rw [ifP b23] at H;replace b23:=dT b23;refine WS.skip ?_;refine WS.seq ?_;refine WS.block ?_;refine WS.seq ?_;refine wrg ?_;refine wr 3 ?_;refine wn ?_;refine WS.block ?_;refine wcut [some 0,some 1,some 2,some 3] [(0,c1 (.sl 0 l0.length)),(11,c1 (.n x11)),(79,c1 (.sl 0 l0.length)),(80,c1 (.n ((l0.length:Int)))),(81,c1 (.n 0)),(2,c1 (.ptr 1 0 0 0)),(4,c1 (.ptr 2 0 0 0))] [⟨.view 3 l0,0,false⟩,⟨.box [.n 0,.n 0,.n 0,.n 0,.n 0,.n 0,.n 0,.n 0,.n 0,.n 0,.n 0,.n 0,.n 0,.n 0,.n 0,.n 0,.nils],1,true⟩,⟨.box [.n Qp,.n Qa,.n Qb,.n Qc,.n Qd,.n Qe,.n Qf,.n Qg,.n Qh,.n Qi,.n Qj,.n Qk,.n Ql,.n Qm,.n Qn,.n Qo,.sl 3 Qq.length],2,true⟩,⟨.own 3 Qq,3,true⟩] (n2 rfl (n2 rfl (n2 rfl (n2 rfl (n2 rfl (n2 rfl (n2 rfl tv))))))) (n2 rfl (n2 (rw_ rfl rfl) (n2 (rw_ rfl rfl) (n2 (rw_ rfl rfl) tv)))) (by rw [hnp];rfl) (fun g=>?_);refine WS.loop (fun k1 ρ h=>∃ (g:Nat → SV) (x11:Int) (x80:Int) (x81:Int) (Qp:Int) (Qa:Int) (Qb:Int) (Qc:Int) (Qd:Int) (Qe:Int) (Qf:Int) (Qg:Int) (Qh:Int) (Qi:Int) (Qj:Int) (Qk:Int) (Ql:Int) (Qm:Int) (Qn:Int) (Qo:Int) (Qq:List Int),k1≤k∧ρ=upds g [(0,c1 (.sl 0 l0.length)),(11,c1 (.n x11)),(79,c1 (.sl 0 l0.length)),(80,c1 (.n x80)),(81,c1 (.n x81)),(2,c1 (.ptr 1 0 0 0)),(4,c1 (.ptr 2 0 0 0))]∧h=[⟨.view 3 l0,0,false⟩,⟨.box [.n 0,.n 0,.n 0,.n 0,.n 0,.n 0,.n 0,.n 0,.n 0,.n 0,.n 0,.n 0,.n 0,.n 0,.n 0,.n 0,.nils],1,true⟩,⟨.box [.n Qp,.n Qa,.n Qb,.n Qc,.n Qd,.n Qe,.n Qf,.n Qg,.n Qh,.n Qi,.n Qj,.n Qk,.n Ql,.n Qm,.n Qn,.n Qo,.sl 3 Qq.length],2,true⟩,⟨.own 3 Qq,3,true⟩]∧infl_hNew.l3 k1 l0 x11 l0 x80 x81 Qp Qa Qb Qc Qd Qe Qf Qg Qh Qi Qj Qk Ql Qm Qn Qo Qq=some r) ?_ (n:=k) ⟨g,_,_,_,_,_,_,_,_,_,_,_,_,_,_,_,_,_,_,_,_,Nat.le_refl _,rfl,rfl,H⟩
           rintro k ρ h ih24 ⟨g,x11,x80,x81,Qp,Qa,Qb,Qc,Qd,Qe,Qf,Qg,Qh,Qi,Qj,Qk,Ql,Qm,Qn,Qo,Qq,hkih24,rfl,rfl,H⟩
           rcases k with _ | k
           ·exact nn H
           simp only [infl_hNew.l3] at H;refine WS.seq ?_;refine wrg ?_;refine wr 1 ?_;refine wn ?_;refine WS.seq ?_;refine WS.cond rfl (fun b25=>?_) (fun b25=>?_)
           ·
            rw [ifP b25] at H;replace b25:=dT b25;refine WS.skip ?_;refine WS.seq ?_;refine WS.block ?_;refine WS.seq ?_;refine wrg ?_;obtain ⟨g26,H⟩:=gd H;obtain ⟨g27,H⟩:=gd H;refine wr 5 ?_;refine wn ?_;refine WS.seq ?_;refine wrg ?_;refine wr 3 ?_;refine wn ?_;refine WS.cond rfl (fun b28=>?_) (fun b28=>?_)
            ·
             rw [ifE b28] at H;replace b28:=eq_of_beq b28;refine wrg ?_;obtain ⟨g29,H⟩:=gd H;refine wr 7 ?_;refine wn ?_;refine wrg ?_;refine wr 2 ?_;refine wn ?_;refine wcut [some 0,some 1,some 2,some 5] [(0,c1 (.sl 0 l0.length)),(11,c1 (.n x11)),(79,c1 (.sl 0 l0.length)),(80,c1 (.n x80)),(81,c1 (.n ((wrap64 (x81+1))))),(2,c1 (.ptr 1 0 0 0)),(4,c1 (.ptr 2 0 0 0))] [⟨.view 3 l0,0,false⟩,⟨.box [.n 0,.n 0,.n 0,.n 0,.n 0,.n 0,.n 0,.n 0,.n 0,.n 0,.n 0,.n 0,.n 0,.n 0,.n 0,.n 0,.nils],1,true⟩,⟨.box [.n Qp,.n Qa,.n Qb,.n Qc,.n Qd,.n Qe,.n Qf,.n Qg,.n Qh,.n Qi,.n Qj,.n Qk,.n Ql,.n Qm,.n Qn,.n Qo,.sl 3 ((Qq ++ [x81])).length],2,true⟩,⟨.own 3 (((Qq ++ [x81])):List Int),3,true⟩] (n2 rfl (n2 rfl (n2 rfl (n2 rfl (n2 rfl (n2 rfl (n2 rfl tv))))))) (n2 rfl (n2 (rw_ rfl rfl) (n2 (rw_ rfl rfl) (n2 (rw_ rfl rfl) tv)))) (by rw [hnp];rfl) (fun g=>?_);exact ih24 k (by omega) _ _ ⟨g,_,_,_,_,_,_,_,_,_,_,_,_,_,_,_,_,_,_,_,_,by omega,rfl,rfl,H⟩
            ·
             rw [ifEn b28] at H;replace b28:=bF b28;refine WS.skip ?_;refine wrg ?_;refine wr 2 ?_;refine wn ?_;refine wcut [some 0,some 1,some 2,some 3] [(0,c1 (.sl 0 l0.length)),(11,c1 (.n x11)),(79,c1 (.sl 0 l0.length)),(80,c1 (.n x80)),(81,c1 (.n ((wrap64 (x81+1))))),(2,c1 (.ptr 1 0 0 0)),(4,c1 (.ptr 2 0 0 0))] [⟨.view 3 l0,0,false⟩,⟨.box [.n 0,.n 0,.n 0,.n 0,.n 0,.n 0,.n 0,.n 0,.n 0,.n 0,.n 0,.n 0,.n 0,.n 0,.n 0,.n 0,.nils],1,true⟩,⟨.box [.n Qp,.n Qa,.n Qb,.n Qc,.n Qd,.n Qe,.n Qf,.n Qg,.n Qh,.n Qi,.n Qj,.n Qk,.n Ql,.n Qm,.n Qn,.n Qo,.sl 3 Qq.length],2,true⟩,⟨.own 3 Qq,3,true⟩] (n2 rfl (n2 rfl (n2 rfl (n2 rfl (n2 rfl (n2 rfl (n2 rfl tv))))))) (n2 rfl (n2 (rw_ rfl rfl) (n2 (rw_ rfl rfl) (n2 (rw_ rfl rfl) tv)))) (by rw [hnp];rfl) (fun g=>?_);exact ih24 k (by omega) _ _ ⟨g,_,_,_,_,_,_,_,_,_,_,_,_,_,_,_,_,_,_,_,_,by omega,rfl,rfl,H⟩
           ·
            rw [ifN b25] at H;replace b25:=dF b25;refine WS.exit ?_;refine wrg ?_;refine wr 3 ?_;refine wn ?_;refine wcut [some 0,some 1,some 2,some 3] [(0,c1 (.sl 0 l0.length)),(11,c1 (.n ((wrap64 (x11+1))))),(2,c1 (.ptr 1 0 0 0)),(4,c1 (.ptr 2 0 0 0))] [⟨.view 3 l0,0,false⟩,⟨.box [.n 0,.n 0,.n 0,.n 0,.n 0,.n 0,.n 0,.n 0,.n 0,.n 0,.n 0,.n 0,.n 0,.n 0,.n 0,.n 0,.nils],1,true⟩,⟨.box [.n Qp,.n Qa,.n Qb,.n Qc,.n Qd,.n Qe,.n Qf,.n Qg,.n Qh,.n Qi,.n Qj,.n Qk,.n Ql,.n Qm,.n Qn,.n Qo,.sl 3 Qq.length],2,true⟩,⟨.own 3 Qq,3,true⟩] (n2 rfl (n2 rfl (n2 rfl (n2 rfl tv)))) (n2 rfl (n2 (rw_ rfl rfl) (n2 (rw_ rfl rfl) (n2 (rw_ rfl rfl) tv)))) (by rw [hnp];rfl) (fun g=>?_);exact ih22 k (by omega) _ _ ⟨g,_,_,_,_,_,_,_,_,_,_,_,_,_,_,_,_,_,_,by omega,rfl,rfl,H⟩
          ·
           rw [ifN b23] at H;replace b23:=dF b23;refine WS.exit ?_;refine WS.seq ?_;refine wrg ?_;refine wr 3 ?_;refine wn ?_;refine WS.ret ?_;cases H;exact ⟨tv,[some 0,some 3],_,rfl,rfl,(n2 rfl (n2 (rw_ rfl rfl) tv)),rfl,rfl,rfl⟩
       ·
        rw [ifN b18] at H;replace b18:=dF b18;refine wr 10 ?_;refine wn ?_;refine WS.cond rfl (fun h=>nomatch h) (fun _=>?_);refine WS.skip ?_;refine WS.seq ?_;refine WS.seq ?_;refine wrg ?_;refine wr 1 ?_;refine wn ?_;refine WS.block ?_;refine wcut [some 0,some 1,some 2,none] [(0,c1 (.sl 0 l0.length)),(11,c1 (.n 1)),(2,c1 (.ptr 1 0 0 0)),(4,c1 (.ptr 2 0 0 0))] [⟨.view 3 l0,0,false⟩,⟨.box [.n 0,.n 0,.n 0,.n 0,.n 0,.n 0,.n 0,.n 0,.n 0,.n 0,.n 0,.n 0,.n 0,.n 0,.n 0,.n 0,.nils],1,true⟩,⟨.box [.n Qp,.n Qa,.n Qb,.n Qc,.n Qd,.n Qe,.n Qf,.n Qg,.n Qh,.n Qi,.n Qj,.n Qk,.n Ql,.n Qm,.n Qn,.n Qo,.sl 3 (([]:List Int)).length],2,true⟩,⟨.own 3 ((([]:List Int)):List Int),3,true⟩] (n2 rfl (n2 rfl (n2 rfl (n2 rfl tv)))) (n2 rfl (n2 (rw_ rfl rfl) (n2 (rw_ rfl rfl) (n2 rfl tv)))) (by rw [hnp];rfl) (fun g=>?_);refine WS.loop (fun k1 ρ h=>∃ (g:Nat → SV) (x11:Int) (Qp:Int) (Qa:Int) (Qb:Int) (Qc:Int) (Qd:Int) (Qe:Int) (Qf:Int) (Qg:Int) (Qh:Int) (Qi:Int) (Qj:Int) (Qk:Int) (Ql:Int) (Qm:Int) (Qn:Int) (Qo:Int) (Qq:List Int),k1≤k∧ρ=upds g [(0,c1 (.sl 0 l0.length)),(11,c1 (.n x11)),(2,c1 (.ptr 1 0 0 0)),(4,c1 (.ptr 2 0 0 0))]∧h=[⟨.view 3 l0,0,false⟩,⟨.box [.n 0,.n 0,.n 0,.n 0,.n 0,.n 0,.n 0,.n 0,.n 0,.n 0,.n 0,.n 0,.n 0,.n 0,.n 0,.n 0,.nils],1,true⟩,⟨.box [.n Qp,.n Qa,.n Qb,.n Qc,.n Qd,.n Qe,.n Qf,.n Qg,.n Qh,.n Qi,.n Qj,.n Qk,.n Ql,.n Qm,.n Qn,.n Qo,.sl 3 Qq.length],2,true⟩,⟨.own 3 Qq,3,true⟩]∧infl_hNew.l2 k1 l0 x11 Qp Qa Qb Qc Qd Qe Qf Qg Qh Qi Qj Qk Ql Qm Qn Qo Qq=some r) ?_ (n:=k) ⟨g,_,_,_,_,_,_,_,_,_,_,_,_,_,_,_,_,_,_,Nat.le_refl _,rfl,rfl,H⟩
        rintro k ρ h ih31 ⟨g,x11,Qp,Qa,Qb,Qc,Qd,Qe,Qf,Qg,Qh,Qi,Qj,Qk,Ql,Qm,Qn,Qo,Qq,hkih31,rfl,rfl,H⟩
        rcases k with _ | k
        ·exact nn H
        simp only [infl_hNew.l2] at H;refine WS.seq ?_;refine WS.seq ?_;refine wrg ?_;refine wr 2 ?_;refine wn ?_;refine WS.cond rfl (fun b32=>?_) (fun b32=>?_)
        ·
         rw [ifP b32] at H;replace b32:=dT b32;refine WS.skip ?_;refine WS.seq ?_;refine WS.block ?_;refine WS.seq ?_;refine wrg ?_;refine wr 3 ?_;refine wn ?_;refine WS.block ?_;refine wcut [some 0,some 1,some 2,some 3] [(0,c1 (.sl 0 l0.length)),(11,c1 (.n x11)),(79,c1 (.sl 0 l0.length)),(80,c1 (.n ((l0.length:Int)))),(81,c1 (.n 0)),(2,c1 (.ptr 1 0 0 0)),(4,c1 (.ptr 2 0 0 0))] [⟨.view 3 l0,0,false⟩,⟨.box [.n 0,.n 0,.n 0,.n 0,.n 0,.n 0,.n 0,.n 0,.n 0,.n 0,.n 0,.n 0,.n 0,.n 0,.n 0,.n 0,.nils],1,true⟩,⟨.box [.n Qp,.n Qa,.n Qb,.n Qc,.n Qd,.n Qe,.n Qf,.n Qg,.n Qh,.n Qi,.n Qj,.n Qk,.n Ql,.n Qm,.n Qn,.n Qo,.sl 3 Qq.length],2,true⟩,⟨.own 3 Qq,3,true⟩] (n2 rfl (n2 rfl (n2 rfl (n2 rfl (n2 rfl (n2 rfl (n2 rfl tv))))))) (n2 rfl (n2 (rw_ rfl rfl) (n2 (rw_ rfl rfl) (n2 (rw_ rfl rfl) tv)))) (by rw [hnp];rfl) (fun g=>?_);refine WS.loop (fun k1 ρ h=>∃ (g:Nat → SV) (x11:Int) (x80:Int) (x81:Int) (Qp:Int) (Qa:Int) (Qb:Int) (Qc:Int) (Qd:Int) (Qe:Int) (Qf:Int) (Qg:Int) (Qh:Int) (Qi:Int) (Qj:Int) (Qk:Int) (Ql:Int) (Qm:Int) (Qn:Int) (Qo:Int) (Qq:List Int),k1≤k∧ρ=upds g [(0,c1 (.sl 0 l0.length)),(11,c1 (.n x11)),(79,c1 (.sl 0 l0.length)),(80,c1 (.n x80)),(81,c1 (.n x81)),(2,c1 (.ptr 1 0 0 0)),(4,c1 (.ptr 2 0 0 0))]∧h=[⟨.view 3 l0,0,false⟩,⟨.box [.n 0,.n 0,.n 0,.n 0,.n 0,.n 0,.n 0,.n 0,.n 0,.n 0,.n 0,.n 0,.n 0,.n 0,.n 0,.n 0,.nils],1,true⟩,⟨.box [.n Qp,.n Qa,.n Qb,.n Qc,.n Qd,.n Qe,.n Qf,.n Qg,.n Qh,.n Qi,.n Qj,.n Qk,.n Ql,.n Qm,.n Qn,.n Qo,.sl 3 Qq.length],2,true⟩,⟨.own 3 Qq,3,true⟩]∧infl_hNew.l3 k1 l0 x11 l0 x80 x81 Qp Qa Qb Qc Qd Qe Qf Qg Qh Qi Qj Qk Ql Qm Qn Qo Qq=some r) ?_ (n:=k) ⟨g,_,_,_,_,_,_,_,_,_,_,_,_,_,_,_,_,_,_,_,_,Nat.le_refl _,rfl,rfl,H⟩
         rintro k ρ h ih33 ⟨g,x11,x80,x81,Qp,Qa,Qb,Qc,Qd,Qe,Qf,Qg,Qh,Qi,Qj,Qk,Ql,Qm,Qn,Qo,Qq,hkih33,rfl,rfl,H⟩
         rcases k with _ | k
         ·exact nn H
         simp only [infl_hNew.l3] at H;refine WS.seq ?_;refine wrg ?_;refine wr 1 ?_;refine wn ?_;refine WS.seq ?_;refine WS.cond rfl (fun b34=>?_) (fun b34=>?_)
         ·
          rw [ifP b34] at H;replace b34:=dT b34;refine WS.skip ?_;refine WS.seq ?_;refine WS.block ?_;refine WS.seq ?_;refine wrg ?_;obtain ⟨g35,H⟩:=gd H;obtain ⟨g36,H⟩:=gd H;refine wr 5 ?_;refine wn ?_;refine WS.seq ?_;refine wrg ?_;refine wr 3 ?_;refine wn ?_;refine WS.cond rfl (fun b37=>?_) (fun b37=>?_)
          ·
           rw [ifE b37] at H;replace b37:=eq_of_beq b37;refine wrg ?_;obtain ⟨g38,H⟩:=gd H;refine wr 7 ?_;refine wn ?_;refine wrg ?_;refine wr 2 ?_;refine wn ?_;refine wcut [some 0,some 1,some 2,some 5] [(0,c1 (.sl 0 l0.length)),(11,c1 (.n x11)),(79,c1 (.sl 0 l0.length)),(80,c1 (.n x80)),(81,c1 (.n ((wrap64 (x81+1))))),(2,c1 (.ptr 1 0 0 0)),(4,c1 (.ptr 2 0 0 0))] [⟨.view 3 l0,0,false⟩,⟨.box [.n 0,.n 0,.n 0,.n 0,.n 0,.n 0,.n 0,.n 0,.n 0,.n 0,.n 0,.n 0,.n 0,.n 0,.n 0,.n 0,.nils],1,true⟩,⟨.box [.n Qp,.n Qa,.n Qb,.n Qc,.n Qd,.n Qe,.n Qf,.n Qg,.n Qh,.n Qi,.n Qj,.n Qk,.n Ql,.n Qm,.n Qn,.n Qo,.sl 3 ((Qq ++ [x81])).length],2,true⟩,⟨.own 3 (((Qq ++ [x81])):List Int),3,true⟩] (n2 rfl (n2 rfl (n2 rfl (n2 rfl (n2 rfl (n2 rfl (n2 rfl tv))))))) (n2 rfl (n2 (rw_ rfl rfl) (n2 (rw_ rfl rfl) (n2 (rw_ rfl rfl) tv)))) (by rw [hnp];rfl) (fun g=>?_);exact ih33 k (by omega) _ _ ⟨g,_,_,_,_,_,_,_,_,_,_,_,_,_,_,_,_,_,_,_,_,by omega,rfl,rfl,H⟩
          ·
           rw [ifEn b37] at H;replace b37:=bF b37;refine WS.skip ?_;refine wrg ?_;refine wr 2 ?_;refine wn ?_;refine wcut [some 0,some 1,some 2,some 3] [(0,c1 (.sl 0 l0.length)),(11,c1 (.n x11)),(79,c1 (.sl 0 l0.length)),(80,c1 (.n x80)),(81,c1 (.n ((wrap64 (x81+1))))),(2,c1 (.ptr 1 0 0 0)),(4,c1 (.ptr 2 0 0 0))] [⟨.view 3 l0,0,false⟩,⟨.box [.n 0,.n 0,.n 0,.n 0,.n 0,.n 0,.n 0,.n 0,.n 0,.n 0,.n 0,.n 0,.n 0,.n 0,.n 0,.n 0,.nils],1,true⟩,⟨.box [.n Qp,.n Qa,.n Qb,.n Qc,.n Qd,.n Qe,.n Qf,.n Qg,.n Qh,.n Qi,.n Qj,.n Qk,.n Ql,.n Qm,.n Qn,.n Qo,.sl 3 Qq.length],2,true⟩,⟨.own 3 Qq,3,true⟩] (n2 rfl (n2 rfl (n2 rfl (n2 rfl (n2 rfl (n2 rfl (n2 rfl tv))))))) (n2 rfl (n2 (rw_ rfl rfl) (n2 (rw_ rfl rfl) (n2 (rw_ rfl rfl) tv)))) (by rw [hnp];rfl) (fun g=>?_);exact ih33 k (by omega) _ _ ⟨g,_,_,_,_,_,_,_,_,_,_,_,_,_,_,_,_,_,_,_,_,by omega,rfl,rfl,H⟩
         ·
          rw [ifN b34] at H;replace b34:=dF b34;refine WS.exit ?_;refine wrg ?_;refine wr 3 ?_;refine wn ?_;refine wcut [some 0,some 1,some 2,some 3] [(0,c1 (.sl 0 l0.length)),(11,c1 (.n ((wrap64 (x11+1))))),(2,c1 (.ptr 1 0 0 0)),(4,c1 (.ptr 2 0 0 0))] [⟨.view 3 l0,0,false⟩,⟨.box [.n 0,.n 0,.n 0,.n 0,.n 0,.n 0,.n 0,.n 0,.n 0,.n 0,.n 0,.n 0,.n 0,.n 0,.n 0,.n 0,.nils],1,true⟩,⟨.box [.n Qp,.n Qa,.n Qb,.n Qc,.n Qd,.n Qe,.n Qf,.n Qg,.n Qh,.n Qi,.n Qj,.n Qk,.n Ql,.n Qm,.n Qn,.n Qo,.sl 3 Qq.length],2,true⟩,⟨.own 3 Qq,3,true⟩] (n2 rfl (n2 rfl (n2 rfl (n2 rfl tv)))) (n2 rfl (n2 (rw_ rfl rfl) (n2 (rw_ rfl rfl) (n2 (rw_ rfl rfl) tv)))) (by rw [hnp];rfl) (fun g=>?_);exact ih31 k (by omega) _ _ ⟨g,_,_,_,_,_,_,_,_,_,_,_,_,_,_,_,_,_,_,by omega,rfl,rfl,H⟩
        ·
         rw [ifN b32] at H;replace b32:=dF b32;refine WS.exit ?_;refine WS.seq ?_;refine wrg ?_;refine wr 3 ?_;refine wn ?_;refine WS.ret ?_;cases H;exact ⟨tv,[some 0,some 3],_,rfl,rfl,(n2 rfl (n2 (rw_ rfl rfl) tv)),rfl,rfl,rfl⟩
      ·
       rw [ifN b17] at H;replace b17:=dF b17;refine wr 14 ?_;refine wn ?_;refine WS.cond rfl (fun h=>nomatch h) (fun _=>?_);refine WS.skip ?_;refine WS.seq ?_;refine WS.seq ?_;refine wrg ?_;refine wr 1 ?_;refine wn ?_;refine WS.block ?_;refine wcut [some 0,some 1,some 2,none] [(0,c1 (.sl 0 l0.length)),(11,c1 (.n 1)),(2,c1 (.ptr 1 0 0 0)),(4,c1 (.ptr 2 0 0 0))] [⟨.view 3 l0,0,false⟩,⟨.box [.n 0,.n 0,.n 0,.n 0,.n 0,.n 0,.n 0,.n 0,.n 0,.n 0,.n 0,.n 0,.n 0,.n 0,.n 0,.n 0,.nils],1,true⟩,⟨.box [.n Qp,.n Qa,.n Qb,.n Qc,.n Qd,.n Qe,.n Qf,.n Qg,.n Qh,.n Qi,.n Qj,.n Qk,.n Ql,.n Qm,.n Qn,.n Qo,.sl 3 (([]:List Int)).length],2,true⟩,⟨.own 3 ((([]:List Int)):List Int),3,true⟩] (n2 rfl (n2 rfl (n2 rfl (n2 rfl tv)))) (n2 rfl (n2 (rw_ rfl rfl) (n2 (rw_ rfl rfl) (n2 rfl tv)))) (by rw [hnp];rfl) (fun g=>?_);refine WS.loop (fun k1 ρ h=>∃ (g:Nat → SV) (x11:Int) (Qp:Int) (Qa:Int) (Qb:Int) (Qc:Int) (Qd:Int) (Qe:Int) (Qf:Int) (Qg:Int) (Qh:Int) (Qi:Int) (Qj:Int) (Qk:Int) (Ql:Int) (Qm:Int) (Qn:Int) (Qo:Int) (Qq:List Int),k1≤k∧ρ=upds g [(0,c1 (.sl 0 l0.length)),(11,c1 (.n x11)),(2,c1 (.ptr 1 0 0 0)),(4,c1 (.ptr 2 0 0 0))]∧h=[⟨.view 3 l0,0,false⟩,⟨.box [.n 0,.n 0,.n 0,.n 0,.n 0,.n 0,.n 0,.n 0,.n 0,.n 0,.n 0,.n 0,.n 0,.n 0,.n 0,.n 0,.nils],1,true⟩,⟨.box [.n Qp,.n Qa,.n Qb,.n Qc,.n Qd,.n Qe,.n Qf,.n Qg,.n Qh,.n Qi,.n Qj,.n Qk,.n Ql,.n Qm,.n Qn,.n Qo,.sl 3 Qq.length],2,true⟩,⟨.own 3 Qq,3,true⟩]∧infl_hNew.l2 k1 l0 x11 Qp Qa Qb Qc Qd Qe Qf Qg Qh Qi Qj Qk Ql Qm Qn Qo Qq=some r) ?_ (n:=k) ⟨g,_,_,_,_,_,_,_,_,_,_,_,_,_,_,_,_,_,_,Nat.le_refl _,rfl,rfl,H⟩
       rintro k ρ h ih40 ⟨g,x11,Qp,Qa,Qb,Qc,Qd,Qe,Qf,Qg,Qh,Qi,Qj,Qk,Ql,Qm,Qn,Qo,Qq,hkih40,rfl,rfl,H⟩
       rcases k with _ | k
       ·exact nn H
       simp only [infl_hNew.l2] at H;refine WS.seq ?_;refine WS.seq ?_;refine wrg ?_;refine wr 2 ?_;refine wn ?_;refine WS.cond rfl (fun b41=>?_) (fun b41=>?_)
       ·
        rw [ifP b41] at H;replace b41:=dT b41;refine WS.skip ?_;refine WS.seq ?_;refine WS.block ?_;refine WS.seq ?_;refine wrg ?_;refine wr 3 ?_;refine wn ?_;refine WS.block ?_;refine wcut [some 0,some 1,some 2,some 3] [(0,c1 (.sl 0 l0.length)),(11,c1 (.n x11)),(79,c1 (.sl 0 l0.length)),(80,c1 (.n ((l0.length:Int)))),(81,c1 (.n 0)),(2,c1 (.ptr 1 0 0 0)),(4,c1 (.ptr 2 0 0 0))] [⟨.view 3 l0,0,false⟩,⟨.box [.n 0,.n 0,.n 0,.n 0,.n 0,.n 0,.n 0,.n 0,.n 0,.n 0,.n 0,.n 0,.n 0,.n 0,.n 0,.n 0,.nils],1,true⟩,⟨.box [.n Qp,.n Qa,.n Qb,.n Qc,.n Qd,.n Qe,.n Qf,.n Qg,.n Qh,.n Qi,.n Qj,.n Qk,.n Ql,.n Qm,.n Qn,.n Qo,.sl 3 Qq.length],2,true⟩,⟨.own 3 Qq,3,true⟩] (n2 rfl (n2 rfl (n2 rfl (n2 rfl (n2 rfl (n2 rfl (n2 rfl tv))))))) (n2 rfl (n2 (rw_ rfl rfl) (n2 (rw_ rfl rfl) (n2 (rw_ rfl rfl) tv)))) (by rw [hnp];rfl) (fun g=>?_);refine WS.loop (fun k1 ρ h=>∃ (g:Nat → SV) (x11:Int) (x80:Int) (x81:Int) (Qp:Int) (Qa:Int) (Qb:Int) (Qc:Int) (Qd:Int) (Qe:Int) (Qf:Int) (Qg:Int) (Qh:Int) (Qi:Int) (Qj:Int) (Qk:Int) (Ql:Int) (Qm:Int) (Qn:Int) (Qo:Int) (Qq:List Int),k1≤k∧ρ=upds g [(0,c1 (.sl 0 l0.length)),(11,c1 (.n x11)),(79,c1 (.sl 0 l0.length)),(80,c1 (.n x80)),(81,c1 (.n x81)),(2,c1 (.ptr 1 0 0 0)),(4,c1 (.ptr 2 0 0 0))]∧h=[⟨.view 3 l0,0,false⟩,⟨.box [.n 0,.n 0,.n 0,.n 0,.n 0,.n 0,.n 0,.n 0,.n 0,.n 0,.n 0,.n 0,.n 0,.n 0,.n 0,.n 0,.nils],1,true⟩,⟨.box [.n Qp,.n Qa,.n Qb,.n Qc,.n Qd,.n Qe,.n Qf,.n Qg,.n Qh,.n Qi,.n Qj,.n Qk,.n Ql,.n Qm,.n Qn,.n Qo,.sl 3 Qq.length],2,true⟩,⟨.own 3 Qq,3,true⟩]∧infl_hNew.l3 k1 l0 x11 l0 x80 x81 Qp Qa Qb Qc Qd Qe Qf Qg Qh Qi Qj Qk Ql Qm Qn Qo Qq=some r) ?_ (n:=k) ⟨g,_,_,_,_,_,_,_,_,_,_,_,_,_,_,_,_,_,_,_,_,Nat.le_refl _,rfl,rfl,H⟩
        rintro k ρ h ih42 ⟨g,x11,x80,x81,Qp,Qa,Qb,Qc,Qd,Qe,Qf,Qg,Qh,Qi,Qj,Qk,Ql,Qm,Qn,Qo,Qq,hkih42,rfl,rfl,H⟩
        rcases k with _ | k
        ·exact nn H
        simp only [infl_hNew.l3] at H;refine WS.seq ?_;refine wrg ?_;refine wr 1 ?_;refine wn ?_;refine WS.seq ?_;refine WS.cond rfl (fun b43=>?_) (fun b43=>?_)
        ·
         rw [ifP b43] at H;replace b43:=dT b43;refine WS.skip ?_;refine WS.seq ?_;refine WS.block ?_;refine WS.seq ?_;refine wrg ?_;obtain ⟨g44,H⟩:=gd H;obtain ⟨g45,H⟩:=gd H;refine wr 5 ?_;refine wn ?_;refine WS.seq ?_;refine wrg ?_;refine wr 3 ?_;refine wn ?_;refine WS.cond rfl (fun b46=>?_) (fun b46=>?_)
         ·
          rw [ifE b46] at H;replace b46:=eq_of_beq b46;refine wrg ?_;obtain ⟨g47,H⟩:=gd H;refine wr 7 ?_;refine wn ?_;refine wrg ?_;refine wr 2 ?_;refine wn ?_;refine wcut [some 0,some 1,some 2,some 5] [(0,c1 (.sl 0 l0.length)),(11,c1 (.n x11)),(79,c1 (.sl 0 l0.length)),(80,c1 (.n x80)),(81,c1 (.n ((wrap64 (x81+1))))),(2,c1 (.ptr 1 0 0 0)),(4,c1 (.ptr 2 0 0 0))] [⟨.view 3 l0,0,false⟩,⟨.box [.n 0,.n 0,.n 0,.n 0,.n 0,.n 0,.n 0,.n 0,.n 0,.n 0,.n 0,.n 0,.n 0,.n 0,.n 0,.n 0,.nils],1,true⟩,⟨.box [.n Qp,.n Qa,.n Qb,.n Qc,.n Qd,.n Qe,.n Qf,.n Qg,.n Qh,.n Qi,.n Qj,.n Qk,.n Ql,.n Qm,.n Qn,.n Qo,.sl 3 ((Qq ++ [x81])).length],2,true⟩,⟨.own 3 (((Qq ++ [x81])):List Int),3,true⟩] (n2 rfl (n2 rfl (n2 rfl (n2 rfl (n2 rfl (n2 rfl (n2 rfl tv))))))) (n2 rfl (n2 (rw_ rfl rfl) (n2 (rw_ rfl rfl) (n2 (rw_ rfl rfl) tv)))) (by rw [hnp];rfl) (fun g=>?_);exact ih42 k (by omega) _ _ ⟨g,_,_,_,_,_,_,_,_,_,_,_,_,_,_,_,_,_,_,_,_,by omega,rfl,rfl,H⟩
         ·
          rw [ifEn b46] at H;replace b46:=bF b46;refine WS.skip ?_;refine wrg ?_;refine wr 2 ?_;refine wn ?_;refine wcut [some 0,some 1,some 2,some 3] [(0,c1 (.sl 0 l0.length)),(11,c1 (.n x11)),(79,c1 (.sl 0 l0.length)),(80,c1 (.n x80)),(81,c1 (.n ((wrap64 (x81+1))))),(2,c1 (.ptr 1 0 0 0)),(4,c1 (.ptr 2 0 0 0))] [⟨.view 3 l0,0,false⟩,⟨.box [.n 0,.n 0,.n 0,.n 0,.n 0,.n 0,.n 0,.n 0,.n 0,.n 0,.n 0,.n 0,.n 0,.n 0,.n 0,.n 0,.nils],1,true⟩,⟨.box [.n Qp,.n Qa,.n Qb,.n Qc,.n Qd,.n Qe,.n Qf,.n Qg,.n Qh,.n Qi,.n Qj,.n Qk,.n Ql,.n Qm,.n Qn,.n Qo,.sl 3 Qq.length],2,true⟩,⟨.own 3 Qq,3,true⟩] (n2 rfl (n2 rfl (n2 rfl (n2 rfl (n2 rfl (n2 rfl (n2 rfl tv))))))) (n2 rfl (n2 (rw_ rfl rfl) (n2 (rw_ rfl rfl) (n2 (rw_ rfl rfl) tv)))) (by rw [hnp];rfl) (fun g=>?_);exact ih42 k (by omega) _ _ ⟨g,_,_,_,_,_,_,_,_,_,_,_,_,_,_,_,_,_,_,_,_,by omega,rfl,rfl,H⟩
        ·
         rw [ifN b43] at H;replace b43:=dF b43;refine WS.exit ?_;refine wrg ?_;refine wr 3 ?_;refine wn ?_;refine wcut [some 0,some 1,some 2,some 3] [(0,c1 (.sl 0 l0.length)),(11,c1 (.n ((wrap64 (x11+1))))),(2,c1 (.ptr 1 0 0 0)),(4,c1 (.ptr 2 0 0 0))] [⟨.view 3 l0,0,false⟩,⟨.box [.n 0,.n 0,.n 0,.n 0,.n 0,.n 0,.n 0,.n 0,.n 0,.n 0,.n 0,.n 0,.n 0,.n 0,.n 0,.n 0,.nils],1,true⟩,⟨.box [.n Qp,.n Qa,.n Qb,.n Qc,.n Qd,.n Qe,.n Qf,.n Qg,.n Qh,.n Qi,.n Qj,.n Qk,.n Ql,.n Qm,.n Qn,.n Qo,.sl 3 Qq.length],2,true⟩,⟨.own 3 Qq,3,true⟩] (n2 rfl (n2 rfl (n2 rfl (n2 rfl tv)))) (n2 rfl (n2 (rw_ rfl rfl) (n2 (rw_ rfl rfl) (n2 (rw_ rfl rfl) tv)))) (by rw [hnp];rfl) (fun g=>?_);exact ih40 k (by omega) _ _ ⟨g,_,_,_,_,_,_,_,_,_,_,_,_,_,_,_,_,_,_,by omega,rfl,rfl,H⟩
       ·
        rw [ifN b41] at H;replace b41:=dF b41;refine WS.exit ?_;refine WS.seq ?_;refine wrg ?_;refine wr 3 ?_;refine wn ?_;refine WS.ret ?_;cases H;exact ⟨tv,[some 0,some 3],_,rfl,rfl,(n2 rfl (n2 (rw_ rfl rfl) tv)),rfl,rfl,rfl⟩
end Go.Proofs.Ytpbhkdamkbopkaa.Rs
namespace Go.Proofs.Ytpbhkdamkbopkaa.Rs
open Go Go.RowKit Rf YtpbhkdamkbopkaaW.PrintWords Go.Proofs.Ytpbhkdamkbopkaa GInfl GPix
set_option maxRecDepth 10000
set_option maxHeartbeats 4000000
variable {O:Orc}
theorem infl_hNext_sp (k:Nat) (Qb:Int) (Qc:Int) (Qd:Int) (Qe:Int) (Qf:Int) (Qg:Int) (Qh:Int) (Qi:Int) (Qj:Int) (Qk:Int) (Ql:Int) (Qm:Int) (Qn:Int) (Qo:Int) (Qp:Int) (Qq:Int) (Qa:List Int) (a1:ByteArray) (a2:Int) (r:Int × Int × Int) (H:infl_hNext.f k Qb Qc Qd Qe Qf Qg Qh Qi Qj Qk Ql Qm Qn Qo Qp Qq Qa a1 a2=some r):Sp (KT:=kt) Try.prog O 30 [.v (.agg [.n Qb,.n Qc,.n Qd,.n Qe,.n Qf,.n Qg,.n Qh,.n Qi,.n Qj,.n Qk,.n Ql,.n Qm,.n Qn,.n Qo,.n Qp,.n Qq,.sl 0 Qa.length]),c1 (.str a1),c1 (.n a2)] [⟨.view 3 Qa,0,false⟩] (.t [.c (.n r.1),.c (.n r.2.1),.c (.n r.2.2)]) [⟨.view 3 Qa,0,false⟩]:=by
 refine Sp.of tok (by kernel_rfl) Try.func30 rfl rfl fun Γ hnp=>?_;unfold infl_hNext.f at H;refine WS.seq ?_;refine wrg ?_;refine wr 4 ?_;refine wn ?_;refine WS.seq ?_;refine WS.seq ?_;refine wrg ?_;refine wr 2 ?_;refine wn ?_;refine WS.cond rfl (fun b1=>?_) (fun b1=>?_)
 ·
  rw [ifP b1] at H;replace b1:=dT b1;refine WS.seq ?_;refine wrg ?_;refine wr 3 ?_;refine wn ?_;refine WS.ret ?_;cases H;exact ⟨tv,[some 0],_,rfl,rfl,(n2 rfl tv),rfl,rfl,rfl⟩
 ·
  rw [ifN b1] at H;replace b1:=dF b1;refine WS.skip ?_;refine WS.seq ?_;refine WS.seq ?_;refine wrg ?_;refine wr 4 ?_;refine wn ?_;refine WS.cond rfl (fun b2=>?_) (fun b2=>?_)
  ·
   rw [ifE b2] at H;replace b2:=eq_of_beq b2;refine WS.seq ?_;refine wrg ?_;refine wr 3 ?_;refine wn ?_;refine WS.ret ?_;cases H;exact ⟨tv,[some 0],_,rfl,rfl,(n2 rfl tv),rfl,rfl,rfl⟩
  ·
   rw [ifEn b2] at H;replace b2:=bF b2;refine WS.skip ?_;refine WS.seq ?_;refine wrg ?_;refine wr 3 ?_;refine wn ?_;refine WS.seq ?_;refine WS.seq ?_;refine wrg ?_;refine wr 1 ?_;refine wn ?_;refine WS.block ?_;refine wcut [some 0,some 1] [(1,c1 (.str a1)),(2,c1 (.n a2)),(9,c1 (.n 0)),(10,c1 (.n 0)),(11,c1 (.n 0)),(12,c1 (.n 1)),(0,.v (.agg [.n Qb,.n Qc,.n Qd,.n Qe,.n Qf,.n Qg,.n Qh,.n Qi,.n Qj,.n Qk,.n Ql,.n Qm,.n Qn,.n Qo,.n Qp,.n Qq,.sl 0 Qa.length])),(3,c1 (.ptr 1 0 0 0))] [⟨.view 3 Qa,0,false⟩,⟨.box [.n Qb,.n Qc,.n Qd,.n Qe,.n Qf,.n Qg,.n Qh,.n Qi,.n Qj,.n Qk,.n Ql,.n Qm,.n Qn,.n Qo,.n Qp,.n Qq,.sl 0 Qa.length],1,true⟩] (n2 rfl (n2 rfl (n2 rfl (n2 rfl (n2 rfl (n2 rfl (n2 rfl (n2 rfl tv)))))))) (n2 rfl (n2 (rw_ rfl rfl) tv)) (by rw [hnp];rfl) (fun g=>?_);refine WS.loop (fun k1 ρ h=>∃ (g:Nat → SV) (x2:Int) (x9:Int) (x10:Int) (x11:Int) (x12:Int),k1≤k∧ρ=upds g [(1,c1 (.str a1)),(2,c1 (.n x2)),(9,c1 (.n x9)),(10,c1 (.n x10)),(11,c1 (.n x11)),(12,c1 (.n x12)),(0,.v (.agg [.n Qb,.n Qc,.n Qd,.n Qe,.n Qf,.n Qg,.n Qh,.n Qi,.n Qj,.n Qk,.n Ql,.n Qm,.n Qn,.n Qo,.n Qp,.n Qq,.sl 0 Qa.length])),(3,c1 (.ptr 1 0 0 0))]∧h=[⟨.view 3 Qa,0,false⟩,⟨.box [.n Qb,.n Qc,.n Qd,.n Qe,.n Qf,.n Qg,.n Qh,.n Qi,.n Qj,.n Qk,.n Ql,.n Qm,.n Qn,.n Qo,.n Qp,.n Qq,.sl 0 Qa.length],1,true⟩]∧infl_hNext.l0 k1 a1 x2 x9 x10 x11 x12 Qb Qc Qd Qe Qf Qg Qh Qi Qj Qk Ql Qm Qn Qo Qp Qq Qa=some r) ?_ (n:=k) ⟨g,_,_,_,_,_,Nat.le_refl _,rfl,rfl,H⟩;rintro k ρ h ih3 ⟨g,x2,x9,x10,x11,x12,hkih3,rfl,rfl,H⟩
   rcases k with _ | k
   ·exact nn H
   simp only [infl_hNext.l0] at H;refine WS.seq ?_;refine WS.seq ?_;refine wrg ?_;refine wr 2 ?_;refine wn ?_;refine WS.cond rfl (fun b4=>?_) (fun b4=>?_)
   ·
    rw [ifP b4] at H;replace b4:=dT b4;refine WS.skip ?_;refine WS.seq ?_;refine WS.block ?_;refine WS.seq ?_;refine wrg ?_;refine wr 2 ?_;obtain ⟨t28,ht28,H⟩:=bd H;refine WR.call (huff_Bit_sp _ _ _ ht28) [] rfl rfl rfl rfl rfl tv rfl rfl rfl rfl rfl ?_;refine wr 5 ?_;refine wn ?_;refine WS.seq ?_;refine WS.seq ?_;refine wrg ?_;refine wr 2 ?_;refine wn ?_;refine WS.cond rfl (fun b5=>?_) (fun b5=>?_)
    ·
     rw [ifZ b5] at H;refine WS.seq ?_;refine wrg ?_;refine wr 3 ?_;refine wn ?_;refine WS.ret ?_;cases H;exact ⟨tv,[some 0],_,rfl,rfl,(n2 rfl tv),rfl,rfl,rfl⟩
    ·
     rw [ifZn b5] at H;refine WS.skip ?_;refine WS.seq ?_;refine wrg ?_;refine wr 3 ?_;refine wn ?_;refine WS.seq ?_;refine wrg ?_;obtain ⟨g6,H⟩:=gd H;obtain ⟨g7,H⟩:=gd H;refine wr 5 ?_;refine wn ?_;refine WS.seq ?_;refine wrg ?_;refine wr 3 ?_;refine wn ?_;refine WS.seq ?_;refine WS.seq ?_;refine wrg ?_;refine wr 8 ?_;refine wn ?_;refine WS.cond rfl (fun b8=>?_) (fun b8=>?_)
     ·
      rw [ifP b8] at H;replace b8:=dT b8;refine WS.seq ?_;refine wrg ?_;obtain ⟨g9,H⟩:=gd H;obtain ⟨g10,H⟩:=gd H;refine wr 13 ?_;refine wn ?_;refine WS.ret ?_;cases H;exact ⟨tv,[some 0],_,rfl,rfl,(n2 rfl tv),rfl,rfl,rfl⟩
     ·
      rw [ifN b8] at H;replace b8:=dF b8;refine WS.skip ?_;refine WS.seq ?_;refine wrg ?_;refine wr 7 ?_;refine wn ?_;refine WS.seq ?_;refine wrg ?_;refine wr 7 ?_;refine wn ?_;refine WS.seq ?_;refine wrg ?_;refine wr 5 ?_;refine wn ?_;refine WS.cond rfl (fun b11=>?_) (fun b11=>?_)
      ·
       rw [ifE b11] at H;replace b11:=eq_of_beq b11;refine WS.seq ?_;refine wrg ?_;refine wr 3 ?_;refine wn ?_;refine WS.ret ?_;cases H;exact ⟨tv,[some 0],_,rfl,rfl,(n2 rfl tv),rfl,rfl,rfl⟩
      ·
       rw [ifEn b11] at H;replace b11:=bF b11;refine WS.skip ?_;refine wrg ?_;refine wr 3 ?_;refine wn ?_;refine wcut [some 0,some 1] [(1,c1 (.str a1)),(2,c1 (.n ((wrap64 (x2+1))))),(9,c1 (.n ((Go.bits .or .i64 (wrap64 (x9*2 ^ (min (1:Int).toNat 64))) t28.1)))),(10,c1 (.n ((wrap64 ((wrap64 (x10*2 ^ (min (1:Int).toNat 64)))+(rd [Qb,Qc,Qd,Qe,Qf,Qg,Qh,Qi,Qj,Qk,Ql,Qm,Qn,Qo,Qp,Qq] x12)))))),(11,c1 (.n ((wrap64 (x11+(rd [Qb,Qc,Qd,Qe,Qf,Qg,Qh,Qi,Qj,Qk,Ql,Qm,Qn,Qo,Qp,Qq] x12)))))),(12,c1 (.n ((wrap64 (x12+1))))),(0,.v (.agg [.n Qb,.n Qc,.n Qd,.n Qe,.n Qf,.n Qg,.n Qh,.n Qi,.n Qj,.n Qk,.n Ql,.n Qm,.n Qn,.n Qo,.n Qp,.n Qq,.sl 0 Qa.length])),(3,c1 (.ptr 1 0 0 0))] [⟨.view 3 Qa,0,false⟩,⟨.box [.n Qb,.n Qc,.n Qd,.n Qe,.n Qf,.n Qg,.n Qh,.n Qi,.n Qj,.n Qk,.n Ql,.n Qm,.n Qn,.n Qo,.n Qp,.n Qq,.sl 0 Qa.length],1,true⟩] (n2 rfl (n2 rfl (n2 rfl (n2 rfl (n2 rfl (n2 rfl (n2 rfl (n2 rfl tv)))))))) (n2 rfl (n2 (rw_ rfl rfl) tv)) (by rw [hnp];rfl) (fun g=>?_);exact ih3 k (by omega) _ _ ⟨g,_,_,_,_,_,by omega,rfl,rfl,H⟩
   ·
    rw [ifN b4] at H;replace b4:=dF b4;refine WS.exit ?_;refine WS.seq ?_;refine wrg ?_;refine wr 3 ?_;refine wn ?_;refine WS.ret ?_;cases H;exact ⟨tv,[some 0],_,rfl,rfl,(n2 rfl tv),rfl,rfl,rfl⟩
theorem infl_fail_sp (s:ByteArray) (p:Int) (o:List Int) (m:Int) (e:Int) (a1:Int) (r:Int) (H:infl_fail.f e a1=some r):Sp (KT:=kt) Try.prog O 100 [c1 (.ptr 0 0 0 0),c1 (.n a1)] [⟨.box [.str s,.n p,.sl 1 o.length,.n m,.n e],0,true⟩,⟨.own 5 o,1,true⟩] (.t []) [⟨.box [.str s,.n p,.sl 1 o.length,.n m,.n r],0,true⟩,⟨.own 5 o,1,true⟩]:=by
 refine Sp.of tok (by kernel_rfl) Try.func100 rfl rfl fun Γ hnp=>?_;unfold infl_fail.f at H;refine WS.seq ?_;refine wrg ?_;refine wr 5 ?_;refine wn ?_;refine WS.cond rfl (fun b1=>?_) (fun b1=>?_)
 ·
  rw [ifE b1] at H;replace b1:=eq_of_beq b1;refine wrg ?_;refine wr 5 ?_;refine wn ?_;cases H;exact ⟨tv,[some 0,some 1],_,rfl,rfl,(n2 (rw_ rfl rfl) (n2 (rw_ rfl rfl) tv)),rfl,rfl,rfl⟩
 ·
  rw [ifEn b1] at H;replace b1:=bF b1;refine WS.skip ?_;cases H;exact ⟨tv,[some 0,some 1],_,rfl,rfl,(n2 (rw_ rfl rfl) (n2 (rw_ rfl rfl) tv)),rfl,rfl,rfl⟩
theorem infl_bits_sp (k:Nat) (o:List Int) (m:Int) (s:ByteArray) (p:Int) (e:Int) (a1:Int) (r:Int × Int × Int) (H:infl_bits.f k s p e a1=some r):Sp (KT:=kt) Try.prog O 94 [c1 (.ptr 0 0 0 0),c1 (.n a1)] [⟨.box [.str s,.n p,.sl 1 o.length,.n m,.n e],0,true⟩,⟨.own 5 o,1,true⟩] (c1 (.n r.1)) [⟨.box [.str s,.n r.2.1,.sl 1 o.length,.n m,.n r.2.2],0,true⟩,⟨.own 5 o,1,true⟩]:=by
 refine Sp.of tok (by kernel_rfl) Try.func94 rfl rfl fun Γ hnp=>?_;unfold infl_bits.f at H;refine WS.seq ?_;refine wrg ?_;refine wr 1 ?_;refine wn ?_;refine WS.seq ?_;refine WS.seq ?_;refine wrg ?_;refine wr 5 ?_;refine wn ?_;refine WS.cond rfl (fun b1=>?_) (fun b1=>?_)
 ·
  rw [ifX b1] at H;replace b1:=nT b1;refine WS.seq ?_;refine wrg ?_;refine wr 1 ?_;refine wn ?_;refine WS.ret ?_;cases H;exact ⟨tv,[some 0,some 1],_,rfl,rfl,(n2 (rw_ rfl rfl) (n2 (rw_ rfl rfl) tv)),rfl,rfl,rfl⟩
 ·
  rw [ifXn b1] at H;replace b1:=nF b1;refine WS.skip ?_;refine WS.seq ?_;refine wrg ?_;refine wr 9 ?_;obtain ⟨t23,ht23,H⟩:=bd H;refine WR.call (huff_Bits_sp _ _ _ _ _ ht23) [] rfl rfl rfl rfl rfl tv rfl rfl rfl rfl rfl ?_;refine wr 7 ?_;refine wn ?_;refine WS.seq ?_;refine WS.seq ?_;refine wrg ?_;refine wr 2 ?_;refine wn ?_;refine WS.cond rfl (fun b2=>?_) (fun b2=>?_)
  ·
   rw [ifX b2] at H;replace b2:=nT b2;refine WS.seq ?_;refine wrg ?_;refine wr 2 ?_;obtain ⟨t31,ht31,H⟩:=bd H;refine WR.call (infl_fail_sp _ _ _ _ _ _ _ ht31) [some 0,some 1] rfl rfl rfl rfl rfl (n2 (rw_ rfl rfl) (n2 (rw_ rfl rfl) tv)) rfl rfl rfl rfl rfl ?_;refine wn ?_;refine WS.seq ?_;refine wrg ?_;refine wr 1 ?_;refine wn ?_;refine WS.ret ?_;cases H;exact ⟨tv,[some 0,some 1],_,rfl,rfl,(n2 (rw_ rfl rfl) (n2 (rw_ rfl rfl) tv)),rfl,rfl,rfl⟩
  ·
   rw [ifXn b2] at H;replace b2:=nF b2;refine WS.skip ?_;refine WS.seq ?_;refine wrg ?_;refine wr 5 ?_;refine wn ?_;refine WS.seq ?_;refine wrg ?_;refine wr 2 ?_;refine wn ?_;refine WS.ret ?_;cases H;exact ⟨tv,[some 0,some 1],_,rfl,rfl,(n2 (rw_ rfl rfl) (n2 (rw_ rfl rfl) tv)),rfl,rfl,rfl⟩
theorem infl_next_sp (k:Nat) (o:List Int) (m:Int) (Qb:Int) (Qc:Int) (Qd:Int) (Qe:Int) (Qf:Int) (Qg:Int) (Qh:Int) (Qi:Int) (Qj:Int) (Qk:Int) (Ql:Int) (Qm:Int) (Qn:Int) (Qo:Int) (Qp:Int) (Qq:Int) (Qa:List Int) (s:ByteArray) (p:Int) (e:Int) (r:Int × Int × Int) (H:infl_next.f k Qb Qc Qd Qe Qf Qg Qh Qi Qj Qk Ql Qm Qn Qo Qp Qq Qa s p e=some r):Sp (KT:=kt) Try.prog O 111 [c1 (.ptr 0 0 0 0),.v (.agg [.n Qb,.n Qc,.n Qd,.n Qe,.n Qf,.n Qg,.n Qh,.n Qi,.n Qj,.n Qk,.n Ql,.n Qm,.n Qn,.n Qo,.n Qp,.n Qq,.sl 2 Qa.length])] [⟨.box [.str s,.n p,.sl 1 o.length,.n m,.n e],0,true⟩,⟨.own 5 o,1,true⟩,⟨.view 3 Qa,2,false⟩] (c1 (.n r.1)) [⟨.box [.str s,.n r.2.1,.sl 1 o.length,.n m,.n r.2.2],0,true⟩,⟨.own 5 o,1,true⟩,⟨.view 3 Qa,2,false⟩]:=by
 refine Sp.of tok (by kernel_rfl) Try.func111 rfl rfl fun Γ hnp=>?_;unfold infl_next.f at H;refine WS.seq ?_;refine wrg ?_;refine wr 2 ?_;refine wn ?_;refine WS.seq ?_;refine WS.seq ?_;refine wrg ?_;refine wr 5 ?_;refine wn ?_;refine WS.cond rfl (fun b1=>?_) (fun b1=>?_)
 ·
  rw [ifX b1] at H;replace b1:=nT b1;refine WS.seq ?_;refine wrg ?_;refine wr 1 ?_;refine wn ?_;refine WS.ret ?_;cases H;exact ⟨tv,[some 0,some 1,some 2],_,rfl,rfl,(n2 (rw_ rfl rfl) (n2 (rw_ rfl rfl) (n2 rfl tv))),rfl,rfl,rfl⟩
 ·
  rw [ifXn b1] at H;replace b1:=nF b1;refine WS.skip ?_;refine WS.seq ?_;refine wrg ?_;refine wr 9 ?_;obtain ⟨t23,ht23,H⟩:=bd H;refine WR.call (infl_hNext_sp _ _ _ _ _ _ _ _ _ _ _ _ _ _ _ _ _ _ _ _ _ ht23) [some 2] rfl rfl rfl rfl rfl (n2 rfl tv) rfl rfl rfl rfl rfl ?_;refine wr 7 ?_;refine wn ?_;refine WS.seq ?_;refine WS.seq ?_;refine wrg ?_;refine wr 2 ?_;refine wn ?_;refine WS.cond rfl (fun b2=>?_) (fun b2=>?_)
  ·
   rw [ifX b2] at H;replace b2:=nT b2;refine WS.seq ?_;refine wrg ?_;refine wr 2 ?_;obtain ⟨t31,ht31,H⟩:=bd H;refine WR.call (infl_fail_sp _ _ _ _ _ _ _ ht31) [some 0,some 1] rfl rfl rfl rfl rfl (n2 (rw_ rfl rfl) (n2 (rw_ rfl rfl) tv)) rfl rfl rfl rfl rfl ?_;refine wn ?_;refine WS.seq ?_;refine wrg ?_;refine wr 1 ?_;refine wn ?_;refine WS.ret ?_;cases H;exact ⟨tv,[some 0,some 1,some 2],_,rfl,rfl,(n2 (rw_ rfl rfl) (n2 (rw_ rfl rfl) (n2 rfl tv))),rfl,rfl,rfl⟩
  ·
   rw [ifXn b2] at H;replace b2:=nF b2;refine WS.skip ?_;refine WS.seq ?_;refine wrg ?_;refine wr 5 ?_;refine wn ?_;refine WS.seq ?_;refine wrg ?_;refine wr 2 ?_;refine wn ?_;refine WS.ret ?_;cases H;exact ⟨tv,[some 0,some 1,some 2],_,rfl,rfl,(n2 (rw_ rfl rfl) (n2 (rw_ rfl rfl) (n2 rfl tv))),rfl,rfl,rfl⟩
theorem infl_table_sp (k:Nat) (s:ByteArray) (p:Int) (o:List Int) (m:Int) (e:Int) (l2:List Int) (r:List Int × List Int × Int) (H:infl_table.f k e l2=some r):Sp (KT:=kt) Try.prog O 98 [c1 (.ptr 0 0 0 0),c1 (.sl 2 l2.length)] [⟨.box [.str s,.n p,.sl 1 o.length,.n m,.n e],0,true⟩,⟨.own 5 o,1,true⟩,⟨.view 3 l2,2,false⟩] (.v (.agg [.n (rd r.1 0),.n (rd r.1 1),.n (rd r.1 2),.n (rd r.1 3),.n (rd r.1 4),.n (rd r.1 5),.n (rd r.1 6),.n (rd r.1 7),.n (rd r.1 8),.n (rd r.1 9),.n (rd r.1 10),.n (rd r.1 11),.n (rd r.1 12),.n (rd r.1 13),.n (rd r.1 14),.n (rd r.1 15),.sl 3 r.2.1.length])) [⟨.box [.str s,.n p,.sl 1 o.length,.n m,.n r.2.2],0,true⟩,⟨.own 5 o,1,true⟩,⟨.view 3 l2,2,false⟩,⟨.own 3 r.2.1,3,true⟩]:=by
 refine Sp.of tok (by kernel_rfl) Try.func98 rfl rfl fun Γ hnp=>?_;unfold infl_table.f at H;refine WS.seq ?_;refine wrg ?_;refine wr 1 ?_;refine wn ?_;refine WS.seq ?_;refine WS.seq ?_;refine wrg ?_;refine wr 5 ?_;refine wn ?_;refine WS.cond rfl (fun b1=>?_) (fun b1=>?_)
 ·
  rw [ifX b1] at H;replace b1:=nT b1;refine WS.seq ?_;refine wrg ?_;refine wr 2 ?_;refine wn ?_;refine WS.ret ?_;cases H;exact ⟨tv,[some 0,some 1,some 2,none],_,rfl,rfl,(n2 (rw_ rfl rfl) (n2 (rw_ rfl rfl) (n2 rfl (n2 rfl tv)))),rfl,rfl,rfl⟩
 ·
  rw [ifXn b1] at H;replace b1:=nF b1;refine WS.skip ?_;refine WS.seq ?_;refine wrg ?_;refine wr 1 ?_;obtain ⟨t15,ht15,H⟩:=bd H;refine WR.call (infl_hNew_sp _ _ _ ht15) [some 2] rfl rfl rfl rfl rfl (n2 rfl tv) rfl rfl rfl rfl rfl ?_;refine wr 6 ?_;refine wn ?_;refine WS.seq ?_;refine wrg ?_;refine wr 2 ?_;obtain ⟨t20,ht20,H⟩:=bd H;refine WR.call (infl_fail_sp _ _ _ _ _ _ _ ht20) [some 0,some 1] rfl rfl rfl rfl rfl (n2 (rw_ rfl rfl) (n2 (rw_ rfl rfl) tv)) rfl rfl rfl rfl rfl ?_;refine wn ?_;refine WS.seq ?_;refine wrg ?_;refine wr 2 ?_;refine wn ?_;refine WS.ret ?_;cases H;exact ⟨tv,[some 0,some 1,some 2,some 4],_,rfl,rfl,(n2 (rw_ rfl rfl) (n2 (rw_ rfl rfl) (n2 rfl (n2 (rw_ rfl rfl) tv)))),rfl,rfl,rfl⟩
end Go.Proofs.Ytpbhkdamkbopkaa.Rs
namespace Go.Proofs.Ytpbhkdamkbopkaa.Rs
open Go Go.RowKit Rf YtpbhkdamkbopkaaW.PrintWords Go.Proofs.Ytpbhkdamkbopkaa GInfl GPix
set_option maxRecDepth 10000
set_option maxHeartbeats 4000000
variable {O:Orc}
theorem bits_Mul64_sp (a0:Int) (a1:Int) (r:Int × Int) (H:bits_Mul64.f a0 a1=some r):Sp (KT:=kt) Try.prog O 119 [c1 (.int .u64 a0),c1 (.int .u64 a1)] [] (.t [.c (.int .u64 r.1),.c (.int .u64 r.2)]) []:=by
 refine Sp.of tok (by kernel_rfl) Try.func119 rfl rfl fun Γ hnp=>?_;unfold bits_Mul64.f at H;refine WS.seq ?_;refine wrg ?_;refine wr 2 ?_;refine wn ?_;refine WS.seq ?_;refine wrg ?_;refine wr 3 ?_;refine wn ?_;refine WS.seq ?_;refine wrg ?_;refine wr 3 ?_;refine wn ?_;refine WS.seq ?_;refine wrg ?_;refine wr 3 ?_;refine wn ?_;refine WS.seq ?_;refine wrg ?_;refine wr 3 ?_;refine wn ?_;refine WS.seq ?_;refine wrg ?_;refine wr 4 ?_;refine wn ?_;refine WS.seq ?_;refine wrg ?_;refine wr 7 ?_;refine wn ?_;refine WS.seq ?_;refine wrg ?_;refine wr 3 ?_;refine wn ?_;refine WS.seq ?_;refine wrg ?_;refine wr 3 ?_;refine wn ?_;refine WS.seq ?_;refine wrg ?_;refine wr 6 ?_;refine wn ?_;refine WS.seq ?_;refine wrg ?_;refine wr 9 ?_;refine wn ?_;refine WS.seq ?_;refine wrg ?_;refine wr 4 ?_;refine wn ?_;refine WS.ret ?_;cases H;exact ⟨tv,[],_,rfl,rfl,tv,rfl,rfl,rfl⟩
theorem bits_Mul_sp (a0:Int) (a1:Int) (r:Int × Int) (H:bits_Mul.f a0 a1=some r):Sp (KT:=kt) Try.prog O 115 [c1 (.int .u64 a0),c1 (.int .u64 a1)] [] (.t [.c (.int .u64 r.1),.c (.int .u64 r.2)]) []:=by
 refine Sp.of tok (by kernel_rfl) Try.func115 rfl rfl fun Γ hnp=>?_;unfold bits_Mul.f at H;refine WS.seq ?_;refine wrg ?_;refine wr 2 ?_;refine wn ?_;refine WS.seq ?_;refine WS.cond rfl (fun h=>nomatch h) (fun _=>?_);refine WS.skip ?_;refine WS.seq ?_;refine wrg ?_;refine wr 2 ?_;obtain ⟨t25,ht25,H⟩:=bd H;refine WR.call (bits_Mul64_sp _ _ _ ht25) [] rfl rfl rfl rfl rfl tv rfl rfl rfl rfl rfl ?_;refine wr 5 ?_;refine wn ?_;refine WS.seq ?_;refine wrg ?_;refine wr 4 ?_;refine wn ?_;refine WS.ret ?_;cases H;exact ⟨tv,[],_,rfl,rfl,tv,rfl,rfl,rfl⟩
end Go.Proofs.Ytpbhkdamkbopkaa.Rs
namespace Go.Proofs.Ytpbhkdamkbopkaa.Rs
open Go Go.RowKit Rf YtpbhkdamkbopkaaW.PrintWords
variable {P:Program} {O:Orc} {KT:TypeId → KD} {T:TypeId → Option TE} {Γ:Gh} {ν:Nu} {h h':List (SR KT)} {nt:Nat} {A:AW}
theorem arr_write {K:KD} {r:Row} {xs ys:List K.α} {l:List Value} {o n:Nat} {ro:Bool} (a:ArrAt ν r 0 K xs) (d:DL ν (ys.flatMap K.enc) l) (ho:o+ys.length≤xs.length):ArrAt ν ⟨mkCells l (o*K.sz) r.cells,n,ro⟩ 0 K (xs.take o ++ ys ++ xs.drop (o+ys.length)):=by
 have hl:l.length=ys.length*K.sz:=by rw [← flat_len,d.len]
 intro i z hz p c q;have hp:p < K.sz:=by rw [← K.len z];exact (List.getElem?_eq_some_iff.1 q).1
 have hto:(xs.take o).length=o:=by rw [List.length_take];omega
 show ∃ v,(mkCells l (o*K.sz) r.cells).get (0+i*K.sz+p)=some v∧DC ν c v;rw [get_mkCells,Nat.zero_add]
 rcases Nat.lt_or_ge i o with h1 | h1
 ·rw [List.append_assoc,List.getElem?_append_left (by omega),List.getElem?_take,if_pos h1] at hz;obtain ⟨w,w1,w2⟩:=a i z hz p c q;rw [Nat.zero_add] at w1;have:=Nat.mul_le_mul_right K.sz (show i+1≤o from h1);rw [Nat.add_mul] at this;exact ⟨w,by rw [if_neg (by omega)];exact w1,w2⟩
 ·have e0:i*K.sz=o*K.sz+(i - o)*K.sz:=by rw [← Nat.add_mul];congr 1;omega
  rcases Nat.lt_or_ge i (o+ys.length) with h2 | h2
  ·rw [List.getElem?_append_left (by rw [List.length_append];omega),List.getElem?_append_right (by omega),hto] at hz;obtain ⟨w,w1,w2⟩:=arr_mk K ys l d false 0 (i - o) z hz p c q;have w1:(mkCells l 0 .e).get (0+(i - o)*K.sz+p)=some w:=w1;rw [get_mkCells,Nat.zero_add] at w1;have:=Nat.mul_le_mul_right K.sz (show i - o+1≤ys.length by omega);rw [Nat.add_mul] at this;rw [if_pos (by omega),Nat.sub_zero] at w1;refine ⟨w,?_,w2⟩;rw [if_pos (by omega),e0,show o*K.sz+(i - o)*K.sz+p - o*K.sz=(i - o)*K.sz+p by omega];exact w1
  ·rw [List.getElem?_append_right (by rw [List.length_append];omega),List.length_append,hto,List.getElem?_drop,show o+ys.length+(i - (o+ys.length))=i by omega] at hz;obtain ⟨w,w1,w2⟩:=a i z hz p c q;rw [Nat.zero_add] at w1;have:=Nat.mul_le_mul_right K.sz (show ys.length≤i - o by omega);exact ⟨w,by rw [if_neg (by omega)];exact w1,w2⟩
theorem arr_first {K:KD} {r:Row} {base:Nat} {xs:List K.α} {k:Nat} (a:ArrAt ν r base K xs) (hk:k≤xs.length):∃ l,readCells r.cells base (k*K.sz)=some l∧DL ν ((xs.take k).flatMap K.enc) l:=by
 have a2:ArrAt ν r base K (xs.take k):=fun i x e=>by
  rw [List.getElem?_take] at e
  split at e
  ·exact a i x e
  ·cases e
 have:=arr_read a2
 rwa [List.length_take,Nat.min_eq_left hk] at this
theorem acopy_is {ts : Array TypeId} {t0 el : TypeId} (h0 : ts[0]? = some t0) (hu : P.underlying t0 = some (.slice el)) (hE : Elem P KT el) {blk off blk' off' n m cap cap' : Nat} {l : List Value} {A' : AW}
  (hl:A.cells? ⟨blk',off',none⟩ (Nat.min m n*(KT el).sz)=some l) (hpos:0 < Nat.min m n) (hw:A.write ⟨blk,off,none⟩ l=some A') :
  acopy P ts (.slice (some ⟨blk,off,none⟩) n cap) (.slice (some ⟨blk',off',none⟩) m cap') A=some (.val (goInt (Nat.min m n)) A'):=by
 unfold acopy;rw [h0];simp only [Option.bind_some,hu,hE.sz,hl];rw [Tr.beqf (fun q=>by have:=(KT el).pos;omega),Tr.beqf (by omega)];simp only [cond_false,hw,Option.map_some]
theorem write_ok {blk off:Nat} {r:Row} {l:List Value} (hg:A.heap.get blk=some (.row r)) (hr:r.ro=false) (hle:off+l.length≤r.size) (hf:l.all flatCell=true):A.write ⟨blk,off,none⟩ l=some (A.turn blk (.row ⟨mkCells l off r.cells,r.size,false⟩)):=by
 unfold AW.write;simp only [row_is hg,hr,Nat.ble_eq_true_of_le hle,hf];rfl
theorem cells_first {blk off k:Nat} {r:Row} {l:List Value} (hg:A.heap.get blk=some (.row r)) (hle:off+k≤r.size) (hl:readCells r.cells off k=some l):A.cells? ⟨blk,off,none⟩ k=some l:=by
 unfold AW.cells?;simp only [row_is hg,Nat.ble_eq_true_of_le hle,cond_true,hl]
theorem copy_ok (tk : TOK P KT T) {t0 t1 el : TypeId} {sz0 : Nat} {z0 : List SC} (hT : T t0 = some ⟨.slice el, sz0, z0⟩) {x y : Operand} {ρe : Operand → Value} {b c n m root root' : Nat} {ex' : Bool} {xs ys : List (KT el).α} {row : SRow KT} (s : SI Γ ν h A) (dx : DC ν (.sl b n) (ρe x)) (dy : DC ν (.sl c m) (ρe y))
  (hb:h[b]?=some ⟨.own el xs,root,true⟩) (hc:h[c]?=some ⟨row,root',ex'⟩) (hrow:row=.view el ys ∨ row=.own el ys) (hn:n=xs.length) (hm:m=ys.length) (hpos:0 < Nat.min m n) :
  OpOk P Γ ν h A ρe (.call ⟨.builtin .copy,⟨[x,y]⟩,⟨[t0,t1]⟩⟩) (c1 (.int .i64 (Nat.min m n:Nat))) ((h.mapIdx fun j x=>kil root b true (0+j) x).set b ⟨.own el (ys.take (Nat.min m n) ++ xs.drop (Nat.min m n)),root,true⟩) (6,0):=by
 obtain ⟨hu,hE⟩:=tk.slice hT rfl;have hmin:Nat.min m n≤m∧Nat.min m n≤n:=⟨Nat.min_le_left _ _,Nat.min_le_right _ _⟩;obtain ⟨nv,q1,q2⟩:=s.emb.row b _ hb
 rcases q2 with ⟨_,q⟩ | ⟨blk,r,rfl,r1,r2,r3,r4⟩
 ·rw [q] at hn;simp only [List.length_nil] at hn;omega
 obtain ⟨nv',p1,p2⟩:=s.emb.row c _ hc
 obtain ⟨blk',base',cap',r',rfl,a1,a2,a3⟩:∃ blk' base' cap' r',nv'=.at_ blk' base' cap'∧A.heap.get blk'=some (.row r')∧base'+ys.length*(KT el).sz≤r'.size∧ArrAt ν r' base' (KT el) ys:=by
  rcases hrow with rfl | rfl
  ·rcases p2 with ⟨_,q⟩ | ⟨_,_,q⟩ | ⟨blk',base',cap',r',rfl,a1,a2,a3,_⟩
   ·rw [q] at hm;simp only [List.length_nil] at hm;omega
   ·rw [q] at hm;simp only [List.length_nil] at hm;omega
   ·exact ⟨_,_,_,r',rfl,a1,a2,a3⟩
  ·rcases p2 with ⟨_,q⟩ | ⟨blk',r',rfl,a1,a2,_,a3⟩
   ·rw [q] at hm;simp only [List.length_nil] at hm;omega
   ·exact ⟨_,_,_,r',rfl,a1,by omega,a3⟩
 obtain ⟨cap,ex⟩:∃ cap,ρe x=.slice (some ⟨blk,0,none⟩) n cap:=by
  rcases dx with ⟨q,_⟩ | ⟨_,q,_⟩ | ⟨_,_,cap,q,e⟩
  ·rw [q] at q1;cases q1
  ·rw [q] at q1;cases q1
  ·rw [q] at q1;cases q1;exact ⟨_,e⟩
 obtain ⟨cap2,ey⟩:∃ cap,ρe y=.slice (some ⟨blk',base',none⟩) m cap:=by
  rcases dy with ⟨q,_⟩ | ⟨_,q,_⟩ | ⟨_,_,cap,q,e⟩
  ·rw [q] at p1;cases p1
  ·rw [q] at p1;cases p1
  ·rw [q] at p1;cases p1;exact ⟨_,e⟩
 obtain ⟨l,l1,l2⟩:=arr_first a3 (k:=Nat.min m n) (by omega);have hll:l.length=Nat.min m n*(KT el).sz:=by rw [← l2.len,flat_len,List.length_take,Nat.min_eq_left (by omega)]
 have hk1:=Nat.mul_le_mul_right (KT el).sz (show Nat.min m n≤ys.length by omega);have hk2:=Nat.mul_le_mul_right (KT el).sz (show Nat.min m n≤xs.length by omega);have w:=write_ok (off:=0) r1 r3 (l:=l) (by rw [hll,r2];omega) (DL.flat (fun c hc=>free_flat (flat_free _ _ c hc)) l2);have ac:=acopy_is (P:=P) (KT:=KT) (ts:=⟨[t0,t1]⟩) (t0:=t0) (el:=el) rfl hu hE (A:=A) (n:=n) (m:=m) (cap:=cap) (cap':=cap2) (cells_first a1 (by omega) l1) hpos w
 obtain ⟨s',hx'⟩:=s.turn hb q1 r1 (.row ⟨mkCells l 0 r.cells,r.size,false⟩) rfl (row':=.own el (ys.take (Nat.min m n) ++ xs.drop (Nat.min m n))) (kil_stay hb) (by simp) (by
  refine .inr ⟨blk,_,rfl,by rw [nget_turn,if_pos rfl],?_,rfl,?_⟩
  ·show r.size=_;rw [List.length_append,List.length_take,List.length_drop,r2];congr 1;omega
  ·have:=arr_write (o:=0) (n:=r.size) (ro:=false) r4 l2 (by rw [List.length_take];omega)
   rwa [List.take_zero,List.nil_append,Nat.zero_add,List.length_take,Nat.min_eq_left (by omega:Nat.min m n≤ys.length),Nat.zero_mul] at this)
 refine ⟨_,goInt (Nat.min m n),_,ν,fun z hz=>?_,.inl rfl,rfl,s',Rs.Ext.refl ν,hx',fun _=>trivial⟩;unfold aop;rw [hz];simp only;rw [show (Array.map ρe ⟨[x,y]⟩).toList=[ρe x,ρe y] by simp];unfold abuiltin;simp only [ex,ey];exact ac
theorem One.ok {ops:Array Oper} {o:Oper} {ρ:Nat → SV} {h1:List (SR KT)} {v:SV} {k:Nat × Nat} (hg:sguard ρ ops.toList o=some true) (hcl:opClean o.op=true) (e:∀ ν A ρe,SI Γ ν h A → (∀ x,DV ν (sev ρ x) (ρe x)) → OpOk P Γ ν h A ρe o.op v h1 k) (hd:dstOk nt o.dst):One P O nt ops Γ o ρ h k (updO ρ o.dst v) h1:=by
 intro ν A tm s sl;obtain ⟨r,u,A',ν',q1,q2,q3,q4,q5,q6,q7⟩:=e ν A (ev tm) s (fun x=>sev_ok sl x);have hw:=awanted_of sl hg;obtain ⟨tm',p1,p2⟩:=put_ok hd (sl.ext q5) q3
 have run:stepOp P (cl P O 0) nt ops o ⟨tm,A⟩=some ⟨tm',A'⟩:=by
  unfold stepOp;simp only [hw,hcl,cond_true,q1 o rfl]
  rcases q2 with rfl | ⟨rfl,rfl⟩
  ·simp only [p1,Option.map_some]
  ·simp only [p1,Option.map_some]
 exact ⟨0,_,run,ν',q4,p2,q5,q6,fun hl=>by rw [hw];exact q7 hl⟩
theorem WR.copy (tk : TOK P KT T) {ops : Array Oper} {draw : Bool} {o : Oper} {l : List Oper} {ρ : Nat → SV} {ks : List (Nat × Nat)} {Q : (Nat → SV) → List (SR KT) → Prop} {h2 : List (SR KT)} {b c n m root root' d t0 t1 : Nat} {el : TypeId} {sz0 : Nat} {z0 : List SC} {ex' : Bool} {x y : Operand} {xs ys : List (KT el).α} {row : SRow KT}
  (hpos:0 < Nat.min m n) (hn:n=xs.length) (hm:m=ys.length)
  (r:WR P O nt ops draw Γ l (upd ρ d (c1 (.int .i64 (Nat.min m n:Nat)))) h2 ((6,0) :: ks) Q)
  (hT:T t0=some ⟨.slice el,sz0,z0⟩:=by rfl) (ho:o.op=.call ⟨.builtin .copy,⟨[x,y]⟩,⟨[t0,t1]⟩⟩:=by rfl) (hx:sev ρ x=c1 (.sl b n):=by rfl) (hy:sev ρ y=c1 (.sl c m):=by rfl)
  (hb:h[b]?=some ⟨.own el xs,root,true⟩:=by rfl) (hc:h[c]?=some ⟨row,root',ex'⟩:=by rfl) (hrow:row=.view el ys ∨ row=.own el ys:=by first | exact .inl rfl | exact .inr rfl)
  (hg:sguard ρ ops.toList o=some true:=by rfl) (hcl:opClean o.op=true:=by rfl) (hd:o.dst=some d:=by rfl) (hnt:Nat.blt d nt=true:=by rfl)
  (e:(hkill root b true h 0 fun h=>hset h b ⟨.own el (ys.take (Nat.min m n) ++ xs.drop (Nat.min m n)),root,true⟩ fun h=>h)=h2:=by rfl):WR P O nt ops draw Γ (o :: l) ρ h ks Q:=by
 rw [hkill_is,hset_is] at e;subst e;refine WR.step (ρ1:=upd ρ d (c1 (.int .i64 (Nat.min m n:Nat)))) (k:=(6,0)) ?_ r
 have:=One.ok (P:=P) (O:=O) (Γ:=Γ) (nt:=nt) (ops:=ops) (o:=o) (ρ:=ρ) (h:=h) hg hcl (fun ν A ρe s dd=>by
  rw [ho];exact copy_ok tk hT s (by have:=dd x;rw [hx] at this;exact this) (by have:=dd y;rw [hy] at this;exact this) hb hc hrow hn hm hpos) (fun t q=>by rw [hd] at q;cases q;exact hnt)
 rw [hd] at this;exact this
theorem step_val {c:Callf} {ops:Array Oper} {o:Oper} {tm:Tr Value} {v:Value} {A':AW} {d:Nat} (hw:o.guard=none) (hcl:opClean o.op=true) (ha:aop P (ev tm) o A=some (.val v A')) (hd:o.dst=some d) (hb:Nat.blt d nt=true):stepOp P c nt ops o ⟨tm,A⟩=some ⟨tm.set d v,A'⟩:=by
 unfold stepOp awanted;simp only [hw,hcl,cond_true,ha,hd,putD_set hb,Option.map_some]
theorem draw_val {c : Callf} {ops : Array Oper} {o : Oper} {l : List Oper} {tm : Tr Value} {v : Value} {A' : AW} {d : Nat} {ks : List (Nat × Nat)} {r} (hw : o.guard = none) (hcl : opClean o.op = true) (ha : aop P (ev tm) o ⟨A.heap, A.next, 0⟩ = some (.val v A')) (hd : o.dst = some d) (hb : Nat.blt d nt = true)
  (k:runDraw P c nt ops l ⟨tm.set d v,A'.heap,A'.next,A.ts ||| A'.ts⟩ (kindOf (ev tm) o.op A A' :: ks)=some r):runDraw P c nt ops (o :: l) ⟨tm,A⟩ ks=some r:=by
 unfold runDraw;simp only [step_val (A:=⟨A.heap,A.next,0⟩) hw hcl ha hd hb];unfold awanted;simp only [hw];exact k
theorem WR.selfcopy (tk : TOK P KT T) {ops : Array Oper} {o1 o2 o3 o4 o5 : Oper} {l : List Oper} {ρ : Nat → SV} {ks : List (Nat × Nat)} {Q : (Nat → SV) → List (SR KT) → Prop} {h2 : List (SR KT)} {b n root a1 a2 a7 a8 d1 d2 d3 d4 d5 t0 : Nat} {ts : Array TypeId} {el : TypeId} {sz0 : Nat} {z0 : List SC} {xs : List (KT el).α} {lo : Nat}
  (hlo:0 < lo) (hlt:lo < n) (hn:n=xs.length)
  (r:WR P O nt ops true Γ l (upd (upd (upd (upd (upd ρ d1 (c1 (.sl h.length (n - lo)))) d2 (c1 (.sl b n))) d3 (c1 (.int .i64 (lo:Nat)))) d4 (c1 (.sl (h.length+1) lo))) d5 (c1 (.int .i64 (Nat.min lo (n - lo):Nat)))) h2 ((6,0) :: (0,0) :: (0,0) :: (0,0) :: (0,0) :: ks) Q)
  (h1:ρ a1=c1 (.sl b n):=by rfl) (h2':ρ a2=c1 (.int .i64 (lo:Nat)):=by rfl) (h7:ρ a7=c1 (.sl b n):=by rfl) (h8:ρ a8=c1 (.int .i64 (lo:Nat)):=by rfl)
  (hb:h[b]?=some ⟨.own el xs,root,true⟩:=by rfl) (hT:T t0=some ⟨.slice el,sz0,z0⟩:=by rfl) (hts:ts[0]?=some t0:=by rfl)
  (p1:o1.op=.slice t0 (.tmp a1) (some (.tmp a2)) none none:=by rfl) (p2:o2.op=.move (.tmp a7):=by rfl) (p3:o3.op=.move (.tmp a8):=by rfl) (p4:o4.op=.slice t0 (.tmp d2) none (some (.tmp d3)) none:=by rfl) (p5:o5.op=.call ⟨.builtin .copy,#[.tmp d1,.tmp d4],ts⟩:=by rfl)
  (gs:[o1.guard,o2.guard,o3.guard,o4.guard,o5.guard]=[none,none,none,none,none]:=by rfl) (cs:(opClean o1.op && opClean o2.op && opClean o3.op && opClean o4.op && opClean o5.op)=true:=by rfl)
  (ds:[o1.dst,o2.dst,o3.dst,o4.dst,o5.dst]=[some d1,some d2,some d3,some d4,some d5]:=by rfl) (bs:(Nat.blt d1 nt && Nat.blt d2 nt && Nat.blt d3 nt && Nat.blt d4 nt && Nat.blt d5 nt)=true:=by rfl)
  (ne:d1 ≠ a7∧d1 ≠ a8∧d2 ≠ a8∧d2 ≠ d3∧d1 ≠ d2∧d1 ≠ d3∧d1 ≠ d4:=by decide)
  (e:(hkill root b true (h ++ [⟨.dead,root,true⟩,⟨.dead,root,true⟩]) 0 fun h=>hset h b ⟨.own el (xs.take lo ++ xs.take (Nat.min lo (n - lo)) ++ xs.drop (lo+Nat.min lo (n - lo))),root,true⟩ fun h=>h)=h2:=by rfl):WR P O nt ops true Γ (o1 :: o2 :: o3 :: o4 :: o5 :: l) ρ h ks Q:=by
 rw [hkill_is,hset_is] at e;obtain ⟨hu,hE⟩:=tk.slice hT rfl;simp only [Bool.and_eq_true] at cs bs;simp only [List.cons.injEq,and_true] at gs ds;intro ν A tm s sl kr a;obtain ⟨nv,q1,q2⟩:=s.emb.row b _ hb
 rcases q2 with ⟨_,q⟩ | ⟨blk,r0,rfl,r1,r2,r3,r4⟩
 ·rw [q] at hn;simp only [List.length_nil] at hn;omega
 have val:∀ a,ρ a=c1 (.sl b n) → tget tm a=.slice (some ⟨blk,0,none⟩) n (KT el).sz:=fun a ha=>by
  have d:DC ν (.sl b n) (tget tm a):=by have:=sl a;rw [ha] at this;exact this
  rcases d with ⟨q,_⟩ | ⟨_,q,_⟩ | ⟨_,_,cap,q,e⟩
  ·rw [q] at q1;cases q1
  ·rw [q] at q1;cases q1
  ·rw [q] at q1;cases q1;exact e
 have num:∀ a,ρ a=c1 (.int .i64 (lo:Nat)) → tget tm a=.int .i64 (lo:Nat):=fun a ha=>by have:=sl a;rw [ha] at this;exact this
 have hm0:0 < Nat.min lo (n - lo):=Nat.lt_min.2 ⟨hlo,by omega⟩;have hm1:Nat.min lo (n - lo)≤lo:=Nat.min_le_left _ _;have hm2:Nat.min lo (n - lo)≤n - lo:=Nat.min_le_right _ _;obtain ⟨l0,l1,l2⟩:=arr_first r4 (k:=Nat.min lo (n - lo)) (by omega);have hll:l0.length=Nat.min lo (n - lo)*(KT el).sz:=by rw [← l2.len,flat_len,List.length_take,Nat.min_eq_left (by omega)]
 have hk1:=Nat.mul_le_mul_right (KT el).sz (show Nat.min lo (n - lo)≤xs.length by omega);have hk2:=Nat.mul_le_mul_right (KT el).sz (show lo+Nat.min lo (n - lo)≤xs.length by omega);rw [Nat.add_mul] at hk2;have tkl:(xs.take (Nat.min lo (n - lo))).length=Nat.min lo (n - lo):=by rw [List.length_take];omega
 let v1:Value:=.slice (some ⟨blk,0+lo*(KT el).sz,none⟩) (n - lo) (KT el).sz
 let v4:Value:=.slice (some ⟨blk,0+0*(KT el).sz,none⟩) (lo - 0) (KT el).sz
 let tm1:=tm.set d1 v1
 let tm2:=tm1.set d2 (.slice (some ⟨blk,0,none⟩) n (KT el).sz)
 let tm3:=tm2.set d3 (.int .i64 (lo:Nat))
 let tm4:=tm3.set d4 v4
 let o:AObj:=.row ⟨mkCells l0 (0+lo*(KT el).sz) r0.cells,r0.size,false⟩
 have sl_:∀ (t:Tr Value) (a:Nat) (x y:Option Operand) (lo' hi':Nat),tget t a=.slice (some ⟨blk,0,none⟩) n (KT el).sz → optN 0 (ev t) x=some lo' → optN n (ev t) y=some hi' → lo' < hi' → hi'≤n → aslice P t0 (ev t (.tmp a)) (ev t) x y none=some (.slice (some ⟨blk,0+lo'*(KT el).sz,none⟩) (hi' - lo') (KT el).sz):=fun t a x y lo' hi' q1 q2 q3 q4 q5=>by
  show aslice P t0 (tget t a) (ev t) x y none=_;rw [q1];unfold aslice;simp only [hu,q2,q3,hE.sz,Nat.ble_eq_true_of_le (Nat.le_of_lt q4),Nat.ble_eq_true_of_le q5,Bool.and_true,cond_true,Tr.beqf (Nat.ne_of_lt q4),cond_false,Tr.beqt rfl,Bool.true_or]
 have e1:∀ B,aop P (ev tm) o1 B=some (.val v1 B):=fun B=>by
  unfold aop;rw [p1];simp only;rw [sl_ tm a1 _ _ lo n (val a1 h1) (by show asN (tget tm a2)=_;rw [num a2 h2'];rfl) rfl hlt (Nat.le_refl _)];rfl
 have g1:∀ a,a ≠ d1 → tget tm1 a=tget tm a:=fun a ha=>by rw [show tm1=tm.set d1 v1 from rfl,tget_set,if_neg ha]
 have e2:∀ B,aop P (ev tm1) o2 B=some (.val (.slice (some ⟨blk,0,none⟩) n (KT el).sz) B):=fun B=>by
  unfold aop;rw [p2];simp only;rw [show ev tm1 (.tmp a7)=tget tm1 a7 from rfl,g1 a7 ne.1.symm,val a7 h7]
 have g2:∀ a,a ≠ d2 → tget tm2 a=tget tm1 a:=fun a ha=>by rw [show tm2=tm1.set d2 _ from rfl,tget_set,if_neg ha]
 have e3:∀ B,aop P (ev tm2) o3 B=some (.val (.int .i64 (lo:Nat)) B):=fun B=>by
  unfold aop;rw [p3];simp only;rw [show ev tm2 (.tmp a8)=tget tm2 a8 from rfl,g2 a8 ne.2.2.1.symm,g1 a8 ne.2.1.symm,num a8 h8]
 have g3:∀ a,a ≠ d3 → tget tm3 a=tget tm2 a:=fun a ha=>by rw [show tm3=tm2.set d3 _ from rfl,tget_set,if_neg ha]
 have e4:∀ B,aop P (ev tm3) o4 B=some (.val v4 B):=fun B=>by
  unfold aop;rw [p4];simp only;rw [sl_ tm3 d2 _ _ 0 lo (by rw [g3 d2 ne.2.2.2.1,show tm2=tm1.set d2 _ from rfl,tget_set,if_pos rfl]) rfl (by show asN (tget tm3 d3)=_;rw [show tm3=tm2.set d3 _ from rfl,tget_set,if_pos rfl];rfl) hlo (by omega)];rfl
 have g4:∀ a,a ≠ d4 → tget tm4 a=tget tm3 a:=fun a ha=>by rw [show tm4=tm3.set d4 _ from rfl,tget_set,if_neg ha]
 have e5:∀ B:AW,B.heap=A.heap → aop P (ev tm4) o5 B=some (.val (goInt (Nat.min lo (n - lo))) (B.turn blk o)):=fun B hB=>by
  unfold aop;rw [p5];simp only;rw [show (Array.map (ev tm4) #[.tmp d1,.tmp d4]).toList=[tget tm4 d1,tget tm4 d4] by simp [ev]];rw [g4 d1 ne.2.2.2.2.2.2,g3 d1 ne.2.2.2.2.2.1,g2 d1 ne.2.2.2.2.1,show tget tm1 d1=v1 by rw [show tm1=tm.set d1 _ from rfl,tget_set,if_pos rfl],show tget tm4 d4=v4 by rw [show tm4=tm3.set d4 _ from rfl,tget_set,if_pos rfl]];unfold abuiltin;simp only;have hB1:B.heap.get blk=some (.row r0):=by rw [hB];exact r1
  exact acopy_is (P:=P) (KT:=KT) hts hu hE (A:=B) (m:=lo - 0) (n:=n - lo) (cells_first hB1 (by rw [Nat.zero_mul,r2,Nat.sub_zero];omega) (by rw [Nat.zero_mul,Nat.sub_zero];exact l1)) (by rw [Nat.sub_zero];exact hm0) (write_ok hB1 r3 (by rw [hll,r2,Nat.zero_add];exact hk2) (DL.flat (fun c hc=>free_flat (flat_free _ _ c hc)) l2))
 have s1:=s.view (row':=.dead) hb q1 (nv':=.at_ blk (0+lo*(KT el).sz) (KT el).sz) (fun _ _=>trivial) (fun _ _ _ q=>by cases q;exact ⟨_,_,rfl⟩);have hb1:(h ++ [⟨.dead,root,true⟩])[b]?=some ⟨.own el xs,root,true⟩:=by rw [List.getElem?_append_left (List.getElem?_eq_some_iff.1 hb).1];exact hb
 have x1:=nup_ext s.emb.out (.at_ blk (0+lo*(KT el).sz) (KT el).sz);have s2:=s1.view (row':=.dead) hb1 (x1 _ _ q1) (nv':=.at_ blk (0+0*(KT el).sz) (KT el).sz) (fun _ _=>trivial) (fun _ _ _ q=>by cases q;exact ⟨_,_,rfl⟩);have x2:=nup_ext s1.emb.out (.at_ blk (0+0*(KT el).sz) (KT el).sz);rw [show (h ++ [(⟨.dead,root,true⟩:SR KT)]).length=h.length+1 by simp] at s2 x2;have hb2:(h ++ [⟨.dead,root,true⟩] ++ [⟨.dead,root,true⟩])[b]?=some ⟨.own el xs,root,true⟩:=by rw [List.getElem?_append_left (by have:=(List.getElem?_eq_some_iff.1 hb).1;simp;omega)];exact hb1
 obtain ⟨s3,hx3⟩:=s2.turn hb2 (x2 _ _ (x1 _ _ q1)) r1 o rfl (row':=.own el (xs.take lo ++ xs.take (Nat.min lo (n - lo)) ++ xs.drop (lo+Nat.min lo (n - lo)))) (kil_stay hb2) (by simp) (by
  refine .inr ⟨blk,_,rfl,by rw [nget_turn,if_pos rfl],?_,rfl,?_⟩
  ·show r0.size=_;rw [List.length_append,List.length_append,List.length_take,List.length_take,List.length_drop,r2];congr 1;omega
  ·have : ArrAt ν ⟨mkCells l0 (0 + lo * (KT el).sz) r0.cells, r0.size, false⟩ 0 (KT el) (xs.take lo ++ xs.take (Nat.min lo (n - lo)) ++ xs.drop (lo + (xs.take (Nat.min lo (n - lo))).length)) := by
    rw [Nat.zero_add];exact arr_write r4 l2 (by rw [tkl];omega)
   rw [tkl] at this;exact fun i z hz=>(this i z hz).ext (x1.trans x2))
 rw [show h ++ [⟨.dead,root,true⟩] ++ [⟨.dead,root,true⟩]=h ++ [⟨.dead,root,true⟩,⟨.dead,root,true⟩] by simp,e] at s3 hx3;have hx:HX h h2:=((hx_app _).trans (hx_app _)).trans (by simpa using hx3);have xx:Rs.Ext ν (nup (nup ν h.length (.at_ blk (0+lo*(KT el).sz) (KT el).sz)) (h.length+1) (.at_ blk (0+0*(KT el).sz) (KT el).sz)):=x1.trans x2;have nb:nup (nup ν h.length (.at_ blk (0+lo*(KT el).sz) (KT el).sz)) (h.length+1) (.at_ blk (0+0*(KT el).sz) (KT el).sz) b=some (.at_ blk 0 (KT el).sz):=xx _ _ q1;have nN:nup (nup ν h.length (.at_ blk (0+lo*(KT el).sz) (KT el).sz)) (h.length+1) (.at_ blk (0+0*(KT el).sz) (KT el).sz) h.length=some (.at_ blk (0+lo*(KT el).sz) (KT el).sz):=x2 _ _ (nup_same _ _);have nM:nup (nup ν h.length (.at_ blk (0+lo*(KT el).sz) (KT el).sz)) (h.length+1) (.at_ blk (0+0*(KT el).sz) (KT el).sz) (h.length+1)=some (.at_ blk (0+0*(KT el).sz) (KT el).sz):=nup_same _ _;generalize nup (nup ν h.length (.at_ blk (0+lo*(KT el).sz) (KT el).sz)) (h.length+1) (.at_ blk (0+0*(KT el).sz) (KT el).sz)=ν2 at s3 xx nb nN nM;have sl5:=(((((sl.ext xx).set (t:=d1) (v:=c1 (.sl h.length (n - lo))) (u:=v1) (.inr (.inr ⟨_,_,_,nN,rfl⟩))).set (t:=d2) (v:=c1 (.sl b n)) (u:=.slice (some ⟨blk,0,none⟩) n (KT el).sz) (.inr (.inr ⟨_,_,_,nb,rfl⟩))).set (t:=d3) (v:=c1 (.int .i64 (lo:Nat))) (u:=.int .i64 (lo:Nat)) rfl).set (t:=d4) (v:=c1 (.sl (h.length+1) lo)) (u:=v4) (.inr (.inr ⟨_,_,_,nM,rfl⟩))).set (t:=d5) (v:=c1 (.int .i64 (Nat.min lo (n - lo):Nat))) (u:=goInt (Nat.min lo (n - lo))) rfl
 have s4:=s3.relow (n:=A.ts ||| 0 ||| 0 ||| 0 ||| 0 ||| (0 ||| 2 ^ blk)) (fun c q=>s3.low c (by
  show (A.ts ||| 2 ^ blk).testBit c=true
  simpa [Nat.testBit_or] using q))
 obtain ⟨m,s',rr,w1,w2⟩:=r ν2 ⟨(A.turn blk o).heap,(A.turn blk o).next,A.ts ||| 0 ||| 0 ||| 0 ||| 0 ||| (0 ||| 2 ^ blk)⟩ (tm4.set d5 (goInt (Nat.min lo (n - lo)))) s4 sl5
  (kindOf (ev tm4) o5.op ⟨A.heap,A.next,A.ts ||| 0 ||| 0 ||| 0 ||| 0⟩ (AW.turn ⟨A.heap,A.next,0⟩ blk o) :: (0,0) :: (0,0) :: (0,0) :: (0,0) :: kr) (.cons trivial (.cons rfl (.cons rfl (.cons rfl (.cons rfl (a.mono fun x y q=>q.up xx hx))))))
 refine ⟨m,s',rr,?_,w2⟩;have k1:∀ (B C:AW),kindOf (ev tm) o1.op B C=(0,0):=fun _ _=>by rw [p1];rfl
 have k2:∀ (B C:AW),kindOf (ev tm1) o2.op B C=(0,0):=fun _ _=>by rw [p2];rfl
 have k3:∀ (B C:AW),kindOf (ev tm2) o3.op B C=(0,0):=fun _ _=>by rw [p3];rfl
 have k4:∀ (B C:AW),kindOf (ev tm3) o4.op B C=(0,0):=fun _ _=>by rw [p4];rfl
 refine draw_val gs.1 cs.1.1.1.1 (e1 _) ds.1 bs.1.1.1.1 ?_;rw [k1];refine draw_val (A:=⟨A.heap,A.next,A.ts ||| 0⟩) gs.2.1 cs.1.1.1.2 (e2 _) ds.2.1 bs.1.1.1.2 ?_;rw [k2];refine draw_val (A:=⟨A.heap,A.next,A.ts ||| 0 ||| 0⟩) gs.2.2.1 cs.1.1.2 (e3 _) ds.2.2.1 bs.1.1.2 ?_;rw [k3];refine draw_val (A:=⟨A.heap,A.next,A.ts ||| 0 ||| 0 ||| 0⟩) gs.2.2.2.1 cs.1.2 (e4 _) ds.2.2.2.1 bs.1.2 ?_;rw [k4];exact draw_val (A:=⟨A.heap,A.next,A.ts ||| 0 ||| 0 ||| 0 ||| 0⟩) gs.2.2.2.2 cs.2 (e5 _ rfl) ds.2.2.2.2 bs.2 w1
end Go.Proofs.Ytpbhkdamkbopkaa.Rs
namespace Go.Proofs.Ytpbhkdamkbopkaa.Rs
open Go Go.RowKit Rf YtpbhkdamkbopkaaW.PrintWords Go.Proofs.Ytpbhkdamkbopkaa GInfl
set_option maxRecDepth 10000
set_option maxHeartbeats 4000000
variable {O:Orc}
theorem u64_in {n:Int} (h0:0≤n) (h1:n < 18446744073709551616):IntKind.u64.wrap n=n:=by
 simp only [IntKind.wrap,IntKind.bits,IntKind.signed,Bool.false_and];rw [if_neg (by decide)];omega
theorem u64_low {n:Int} (h0:0≤n) (h1:n < 4294967296):Go.bits .and .u64 n 4294967295=n:=by
 have:=bits_mask .u64 40 (by decide) (fun n h₀ h₁=>u64_in h₀ (by omega)) 32 (by decide) n h0 (by omega);rw [show (2:Int) ^ 32 - 1=4294967295 by decide] at this;rw [this];omega
theorem mul_one {n:Int} (h0:1≤n) (h1:n≤1000000):m64hi 1 n=0:=by
 have e:(2:Int) ^ (min (32:Int).toNat 64)=4294967296:=by decide
 unfold m64hi m64w;simp only [e,u64_low (n:=1) (by decide) (by decide),u64_low (n:=n) (by omega) (by omega)];rw [show (1:Int) / 4294967296=0 by decide,show n / 4294967296=0 by omega];simp only [Int.zero_mul,Int.mul_zero,Int.one_mul,Int.zero_add,Int.add_zero,u64_in (n:=0) (by decide) (by decide),u64_in (n:=n) (by omega) (by omega),show n / 4294967296=0 by omega,u64_low (n:=0) (by decide) (by decide),show (0:Int) / 4294967296=0 by decide]
theorem rep_next {v:Int} {n lo k:Nat} (h:lo+k≤n) (hk:k≤lo):(List.replicate lo v ++ List.replicate (n - lo) 0).take lo ++ (List.replicate lo v ++ List.replicate (n - lo) 0).take k ++ (List.replicate lo v ++ List.replicate (n - lo) 0).drop (lo+k)=List.replicate (lo+k) v ++ List.replicate (n - (lo+k)) (0:Int):=by
 rw [List.take_append_of_le_length (by simp),List.take_append_of_le_length (by simpa using hk),List.drop_append,List.drop_of_length_le (by simp),List.nil_append,List.length_replicate,List.drop_replicate,List.take_replicate,List.take_replicate,Nat.min_self,Nat.min_eq_left hk,List.replicate_append_replicate,show n - lo - (lo+k - lo)=n - (lo+k) by omega]
theorem infl_rep_sp (v n:Int) (r:List Int) (H:infl_rep.f v n=some r):Sp (KT:=kt) Try.prog O 109 [c1 (.sl 0 [v].length),c1 (.n n)] [⟨.view 3 [v],0,false⟩] (c1 (.sl 1 r.length)) [⟨.view 3 [v],0,false⟩,⟨.own 3 r,1,true⟩]:=by
 refine Sp.of tok (by kernel_rfl) Try.func109 rfl rfl fun Γ hnp=>?_;unfold infl_rep.f at H
 split at H
 rotate_left
 ·cases H
 rename_i hn;cases H;obtain ⟨N,rfl⟩:∃ N:Nat,n=N:=⟨n.toNat,by omega⟩;have hhi:m64hi (IntKind.u64.wrap 1) (IntKind.u64.wrap (N:Int))=0:=by rw [u64_in (n:=1) (by decide) (by decide),u64_in (by omega) (by omega)];exact mul_one hn.1 hn.2
 have hlo:IntKind.u64.wrap (IntKind.u64.wrap 1*IntKind.u64.wrap (N:Int))=(N:Int):=by rw [u64_in (n:=1) (by decide) (by decide),Int.one_mul,u64_in (n:=(N:Int)) (by omega) (by omega),u64_in (by omega) (by omega)]
 have hw:wrap64 (IntKind.u64.wrap (IntKind.u64.wrap 1*IntKind.u64.wrap (N:Int)))=(N:Int):=by rw [hlo];unfold wrap64;omega
 have z0:0≤wrap64 (IntKind.u64.wrap (IntKind.u64.wrap 1*IntKind.u64.wrap (N:Int))):=by omega
 have z1:wrap64 (IntKind.u64.wrap (IntKind.u64.wrap 1*IntKind.u64.wrap (N:Int)))≤((2*17592186044416:Nat):Int):=by omega
 refine WS.seq ?_;refine wrg ?_;refine wr 1 ?_;refine wn ?_;refine WS.seq ?_;refine WS.seq ?_;refine wrg ?_;refine wr 2 ?_;refine wn ?_;refine WS.cond rfl (fun b=>absurd (dT b) (by omega)) (fun _=>?_);refine WS.skip ?_;refine WS.seq ?_;refine wrg ?_;refine wr 5 ?_;refine WR.call (bits_Mul_sp _ _ _ rfl) [] rfl rfl rfl rfl rfl tv rfl rfl rfl rfl rfl ?_;refine wr 5 ?_;refine wn ?_;refine WS.seq ?_;refine WS.seq ?_;refine wrg ?_;refine wr 3 ?_;refine WR.split 23 rfl (fun b=>absurd (dT b) (fun q=>Int.lt_irrefl 0 (by rw [show (0:Int)=m64hi (IntKind.u64.wrap 1) (IntKind.u64.wrap (N:Int)) from hhi.symm] at q ⊢;exact q))) (fun _=>?_);refine wr 3 ?_;refine wn ?_;refine WS.cond rfl (fun b=>absurd (dT b) (fun q=>by have q:IntKind.u64.wrap (IntKind.u64.wrap 1*IntKind.u64.wrap (N:Int)) > 9223372036854775807:=q;omega)) (fun _=>?_);refine WS.skip ?_;refine WS.seq ?_;refine wrg ?_;refine wr 4 ?_;refine wn ?_;have hrep:(List.replicate (wrap64 (IntKind.u64.wrap (IntKind.u64.wrap 1*IntKind.u64.wrap (N:Int)))).toNat (0:Int))=List.replicate N 0:=by rw [hw,Int.toNat_natCast]
 have hlen:(List.replicate (wrap64 (IntKind.u64.wrap (IntKind.u64.wrap 1*IntKind.u64.wrap (N:Int)))).toNat (0:Int)).length=N:=by rw [hrep,List.length_replicate]
 have hN1:1≤N:=by omega
 refine wcut [some 0,some 1] [(0,c1 (.sl 0 [v].length)),(7,c1 (.sl 1 N))] [⟨.view 3 [v],0,false⟩,⟨.own 3 (List.replicate N (0:Int)),1,true⟩] (n2 rfl (n2 (congrArg (fun z=>some (c1 (.sl 1 z))) hlen.symm) tv)) (n2 rfl (n2 (rw_ rfl (congrArg (fun z:List Int=>some (SRow.own (KT:=kt) 3 z)) hrep)) tv)) (by rw [hnp];rfl) (fun g=>?_);clear hhi hlo hw z0 z1 hrep hlen;refine WS.seq ?_;refine wrg ?_;refine wr 2 ?_;refine WR.copy (el:=3) (t0:=22) (sz0:=1) (z0:=[.nils]) (ys:=[v]) (xs:=List.replicate N (0:Int)) tok (show 0 < Nat.min 1 N from Nat.lt_min.2 ⟨by decide,hN1⟩) (show N=(List.replicate N (0:Int)).length by rw [List.length_replicate]) rfl ?_;refine wr 1 ?_;refine wn ?_;refine WS.seq ?_;have hm1:Nat.min 1 N=1:=Nat.min_eq_left hN1;have hx1:[v].take (Nat.min 1 N) ++ (List.replicate N (0:Int)).drop (Nat.min 1 N)=List.replicate 1 v ++ List.replicate (N - 1) 0:=by rw [hm1,List.drop_replicate];rfl
 refine WS.block ?_;refine wcut [some 0,some 1] [(7,c1 (.sl 1 N)),(8,c1 (.n ((1:Nat):Int)))] [⟨.view 3 [v],0,false⟩,⟨.own 3 (List.replicate 1 v ++ List.replicate (N - 1) (0:Int)),1,true⟩] (n2 rfl (n2 (congrArg (fun z:Nat=>some (c1 (.n (z:Int)))) hm1.symm) tv)) (n2 rfl (n2 (rw_ rfl (congrArg (fun z:List Int=>some (SRow.own (KT:=kt) 3 z)) hx1)) tv)) (by rw [hnp];rfl) (fun g=>?_);refine WS.loop (fun k1 ρ h=>∃ (g:Nat → SV) (lo:Nat),1≤lo∧lo≤N∧N - lo≤k1∧ρ=upds g [(7,c1 (.sl 1 N)),(8,c1 (.n (lo:Int)))]∧h=[⟨.view 3 [v],0,false⟩,⟨.own 3 (List.replicate lo v ++ List.replicate (N - lo) (0:Int)),1,true⟩]) ?_ (n:=N) ⟨g,1,by omega,by omega,by omega,rfl,rfl⟩;rintro k ρ h ih ⟨g,lo,h1,h2,h3,rfl,rfl⟩;refine WS.seq ?_;refine WS.seq ?_;refine wrg ?_;refine wr 4 ?_;refine wn ?_;refine WS.cond rfl (fun b=>?_) (fun b=>?_)
 ·have b:(lo:Int) < (N:Int):=dT b;have hlN:lo < N:=by omega
  refine WS.skip ?_;refine WS.block ?_;refine wrg ?_;refine wr 3 ?_;refine WR.selfcopy (a1:=39) (a2:=40) (a7:=7) (a8:=8) (el:=3) (t0:=22) (sz0:=1) (z0:=[.nils]) (ts:=⟨[22,22]⟩) (lo:=lo) (n:=N) (b:=1) (xs:=List.replicate lo v ++ List.replicate (N - lo) (0:Int)) tok h1 hlN (show N=(List.replicate lo v ++ List.replicate (N - lo) (0:Int)).length by rw [List.length_append,List.length_replicate,List.length_replicate];omega) ?_;refine wr 2 ?_;refine wn ?_;have hk1:Nat.min lo (N - lo)≤lo:=Nat.min_le_left _ _;have hk2:Nat.min lo (N - lo)≤N - lo:=Nat.min_le_right _ _;have hk3:0 < Nat.min lo (N - lo):=Nat.lt_min.2 ⟨h1,by omega⟩;have hs:wrap64 ((lo:Int)+((Nat.min lo (N - lo):Nat):Int))=((lo+Nat.min lo (N - lo):Nat):Int):=by unfold wrap64;omega
  refine wcut [some 0,some 1] [(7,c1 (.sl 1 N)),(8,c1 (.n ((lo+Nat.min lo (N - lo):Nat):Int)))] [⟨.view 3 [v],0,false⟩,⟨.own 3 (List.replicate (lo+Nat.min lo (N - lo)) v ++ List.replicate (N - (lo+Nat.min lo (N - lo))) (0:Int)),1,true⟩] (n2 rfl (n2 (congrArg (fun z:Int=>some (c1 (.n z))) hs.symm) tv)) (n2 rfl (n2 (rw_ rfl (congrArg (fun z:List Int=>some (SRow.own (KT:=kt) 3 z)) (rep_next (by omega) hk1))) tv)) (by rw [hnp];rfl) (fun g=>?_);exact ih (k - 1) (by omega) _ _ ⟨g,_,by omega,by omega,by omega,rfl,rfl⟩
 ·have b:¬ (lo:Int) < (N:Int):=dF b;obtain rfl:lo=N:=by omega
  refine WS.exit ?_;refine WS.seq ?_;refine wrg ?_;refine wr 2 ?_;refine wn ?_;refine WS.ret ?_;rw [Int.toNat_natCast];exact ⟨tv,[some 0,some 1],_,rfl,congrArg (fun z=>some (c1 (.sl 1 z))) List.length_replicate,n2 rfl (n2 (rw_ rfl (congrArg (fun z:List Int=>some (SRow.own (KT:=kt) 3 z)) (by rw [Nat.sub_self];exact List.append_nil _))) tv),rfl,rfl,rfl⟩
end Go.Proofs.Ytpbhkdamkbopkaa.Rs
namespace Go.Proofs.Ytpbhkdamkbopkaa.Rs
open Go Go.RowKit Rf YtpbhkdamkbopkaaW.PrintWords Go.Proofs.Ytpbhkdamkbopkaa GInfl GPix
set_option maxRecDepth 10000
set_option maxHeartbeats 4000000
variable {O:Orc}
theorem infl_stored_sp (k:Nat) (s:ByteArray) (p:Int) (o:List Int) (m:Int) (e:Int) (r:List Int × Int × Int) (H:infl_stored.f k s p o m e=some r):Sp (KT:=kt) Try.prog O 95 [c1 (.ptr 0 0 0 0)] [⟨.box [.str s,.n p,.sl 1 o.length,.n m,.n e],0,true⟩,⟨.own 5 o,1,true⟩] (.t []) [⟨.box [.str s,.n r.2.1,.sl 2 r.1.length,.n m,.n r.2.2],0,true⟩,⟨.dead,1,true⟩,⟨.own 5 r.1,1,true⟩]:=by
 refine Sp.of tok (by kernel_rfl) Try.func95 rfl rfl fun Γ hnp=>?_;unfold infl_stored.f at H;refine WS.seq ?_;refine wrg ?_;refine wr 11 ?_;refine wn ?_;refine WS.seq ?_;refine wrg ?_;refine wr 1 ?_;obtain ⟨t16,ht16,H⟩:=bd H;refine WR.call (infl_bits_sp _ _ _ _ _ _ _ _ ht16) [some 0,some 1] rfl rfl rfl rfl rfl (n2 (rw_ rfl rfl) (n2 (rw_ rfl rfl) tv)) rfl rfl rfl rfl rfl ?_;refine wr 1 ?_;obtain ⟨t18,ht18,H⟩:=bd H;refine WR.call (infl_bits_sp _ _ _ _ _ _ _ _ ht18) [some 0,some 1] rfl rfl rfl rfl rfl (n2 (rw_ rfl rfl) (n2 (rw_ rfl rfl) tv)) rfl rfl rfl rfl rfl ?_;refine wr 2 ?_;refine wn ?_;refine WS.seq ?_;refine WS.block ?_;refine WS.seq ?_;refine wrg ?_;refine wr 6 ?_;refine wn ?_;refine WS.cond rfl (fun b1=>?_) (fun b1=>?_)
 ·
  rw [ifX b1] at H;replace b1:=nT b1;refine WS.ret ?_;cases H;exact ⟨tv,[some 0,some 1,some 1],_,rfl,rfl,(n2 (rw_ rfl rfl) (n2 (rd_ rfl) (n2 (rw_ rfl rfl) tv))),rfl,rfl,rfl⟩
 ·
  rw [ifXn b1] at H;replace b1:=nF b1;refine WS.seq ?_;refine wrg ?_;refine wr 5 ?_;refine wn ?_;refine WS.cond rfl (fun b2=>?_) (fun b2=>?_)
  ·
   rw [ifX b2] at H;replace b2:=nT b2;refine WS.seq ?_;refine wrg ?_;refine wr 1 ?_;obtain ⟨t31,ht31,H⟩:=bd H;refine WR.call (infl_fail_sp _ _ _ _ _ _ _ ht31) [some 0,some 1] rfl rfl rfl rfl rfl (n2 (rw_ rfl rfl) (n2 (rw_ rfl rfl) tv)) rfl rfl rfl rfl rfl ?_;refine wn ?_;refine WS.ret ?_;cases H;exact ⟨tv,[some 0,some 1,some 1],_,rfl,rfl,(n2 (rw_ rfl rfl) (n2 (rd_ rfl) (n2 (rw_ rfl rfl) tv))),rfl,rfl,rfl⟩
  ·
   rw [ifXn b2] at H;replace b2:=nF b2;refine WS.seq ?_;refine wrg ?_;refine wr 13 ?_;refine wn ?_;refine WS.cond rfl (fun b3=>?_) (fun b3=>?_)
   ·
    rw [ifP b3] at H;replace b3:=dT b3;refine WS.seq ?_;refine wrg ?_;refine wr 1 ?_;obtain ⟨t46,ht46,H⟩:=bd H;refine WR.call (infl_fail_sp _ _ _ _ _ _ _ ht46) [some 0,some 1] rfl rfl rfl rfl rfl (n2 (rw_ rfl rfl) (n2 (rw_ rfl rfl) tv)) rfl rfl rfl rfl rfl ?_;refine wn ?_;refine WS.ret ?_;cases H;exact ⟨tv,[some 0,some 1,some 1],_,rfl,rfl,(n2 (rw_ rfl rfl) (n2 (rd_ rfl) (n2 (rw_ rfl rfl) tv))),rfl,rfl,rfl⟩
   ·
    rw [ifN b3] at H;replace b3:=dF b3;refine WS.skip ?_;refine WS.seq ?_;refine wrg ?_;refine wr 6 ?_;refine wn ?_;refine WS.seq ?_;refine WS.seq ?_;refine wrg ?_;refine wr 9 ?_;refine wn ?_;refine WS.cond rfl (fun b4=>?_) (fun b4=>?_)
    ·
     rw [ifP b4] at H;replace b4:=dT b4;refine WS.seq ?_;refine wrg ?_;refine wr 1 ?_;obtain ⟨t62,ht62,H⟩:=bd H;refine WR.call (infl_fail_sp _ _ _ _ _ _ _ ht62) [some 0,some 1] rfl rfl rfl rfl rfl (n2 (rw_ rfl rfl) (n2 (rw_ rfl rfl) tv)) rfl rfl rfl rfl rfl ?_;refine wn ?_;refine WS.ret ?_;cases H;exact ⟨tv,[some 0,some 1,some 1],_,rfl,rfl,(n2 (rw_ rfl rfl) (n2 (rd_ rfl) (n2 (rw_ rfl rfl) tv))),rfl,rfl,rfl⟩
    ·
     rw [ifN b4] at H;replace b4:=dF b4;refine WS.skip ?_;refine WS.seq ?_;refine wrg ?_;obtain ⟨g5,H⟩:=gd H;obtain ⟨g6,H⟩:=gd H;obtain ⟨g7,H⟩:=gd H;obtain ⟨g8,H⟩:=gd H;refine wr 18 ?_;refine wn ?_;refine wrg ?_;refine wr 10 ?_;refine wn ?_;cases H;exact ⟨tv,[some 0,some 1,some 2],_,rfl,rfl,(n2 (rw_ rfl rfl) (n2 (rd_ rfl) (n2 (rw_ rfl rfl) tv))),rfl,rfl,rfl⟩
theorem infl_lengthen_sp (k:Nat) (o:List Int) (m:Int) (s:ByteArray) (p:Int) (e:Int) (l1:List Int) (a2:Int) (r:List Int × Int × Int) (H:infl_lengthen.f k s p e l1 a2=some r):Sp (KT:=kt) Try.prog O 112 [c1 (.ptr 0 0 0 0),c1 (.sl 2 l1.length),c1 (.n a2)] [⟨.box [.str s,.n p,.sl 1 o.length,.n m,.n e],0,true⟩,⟨.own 5 o,1,true⟩,⟨.own 3 l1,2,true⟩] (c1 (.sl 3 r.1.length)) [⟨.box [.str s,.n r.2.1,.sl 1 o.length,.n m,.n r.2.2],0,true⟩,⟨.own 5 o,1,true⟩,⟨.dead,2,true⟩,⟨.own 3 r.1,2,true⟩]:=by
 refine Sp.of tok (by kernel_rfl) Try.func112 rfl rfl fun Γ hnp=>?_;unfold infl_lengthen.f at H;refine WS.seq ?_;refine wrg ?_;refine wr 1 ?_;refine wn ?_;refine WS.seq ?_;refine WS.seq ?_;refine wrg ?_;refine wr 5 ?_;refine wn ?_;refine WS.cond rfl (fun b1=>?_) (fun b1=>?_)
 ·
  rw [ifX b1] at H;replace b1:=nT b1;refine WS.seq ?_;refine wrg ?_;refine wr 2 ?_;refine wn ?_;refine WS.ret ?_;cases H;exact ⟨tv,[some 0,some 1,some 2,some 2],_,rfl,rfl,(n2 (rw_ rfl rfl) (n2 (rw_ rfl rfl) (n2 (rd_ rfl) (n2 (rw_ rfl rfl) tv)))),rfl,rfl,rfl⟩
 ·
  rw [ifXn b1] at H;replace b1:=nF b1;refine WS.skip ?_;refine WS.seq ?_;refine wrg ?_;refine wr 2 ?_;refine wn ?_;refine WS.seq ?_;refine WS.seq ?_;refine wrg ?_;refine wr 1 ?_;refine wn ?_;refine WS.block ?_;refine WS.seq ?_;refine wrg ?_;refine wr 2 ?_;refine wn ?_;refine WS.cond rfl (fun b2=>?_) (fun b2=>?_)
  ·
   rw [ifE b2] at H;replace b2:=eq_of_beq b2;refine WS.seq ?_;refine WS.seq ?_;refine wrg ?_;refine wr 3 ?_;refine wn ?_;refine WS.cond rfl (fun b3=>?_) (fun b3=>?_)
   ·
    rw [ifE b3] at H;replace b3:=eq_of_beq b3;refine WS.seq ?_;refine wrg ?_;refine wr 1 ?_;obtain ⟨t26,ht26,H⟩:=bd H;refine WR.call (infl_fail_sp _ _ _ _ _ _ _ ht26) [some 0,some 1] rfl rfl rfl rfl rfl (n2 (rw_ rfl rfl) (n2 (rw_ rfl rfl) tv)) rfl rfl rfl rfl rfl ?_;refine wn ?_;refine WS.seq ?_;refine wrg ?_;refine wr 2 ?_;refine wn ?_;refine WS.ret ?_;cases H;exact ⟨tv,[some 0,some 1,some 2,some 2],_,rfl,rfl,(n2 (rw_ rfl rfl) (n2 (rw_ rfl rfl) (n2 (rd_ rfl) (n2 (rw_ rfl rfl) tv)))),rfl,rfl,rfl⟩
   ·
    rw [ifEn b3] at H;replace b3:=bF b3;refine WS.skip ?_;refine wrg ?_;obtain ⟨g4,H⟩:=gd H;obtain ⟨g5,H⟩:=gd H;refine wr 7 ?_;obtain ⟨t35,ht35,H⟩:=bd H;refine WR.call (infl_bits_sp _ _ _ _ _ _ _ _ ht35) [some 0,some 1] rfl rfl rfl rfl rfl (n2 (rw_ rfl rfl) (n2 (rw_ rfl rfl) tv)) rfl rfl rfl rfl rfl ?_;refine wr 3 ?_;refine wn ?_;refine WS.seq ?_;refine wrg ?_;refine wr 4 ?_;obtain ⟨t51,ht51,H⟩:=bd H;refine WR.call (infl_rep_sp _ _ _ ht51) [some 3] rfl rfl rfl rfl rfl (n2 rfl tv) rfl rfl rfl rfl rfl ?_;obtain ⟨g6,H⟩:=gd H;obtain ⟨g7,H⟩:=gd H;refine wr 2 ?_;refine wn ?_;refine WS.ret ?_;cases H;exact ⟨tv,[some 0,some 1,some 2,some 5],_,rfl,rfl,(n2 (rw_ rfl rfl) (n2 (rw_ rfl rfl) (n2 (rd_ rfl) (n2 (rw_ rfl rfl) tv)))),rfl,rfl,rfl⟩
  ·
   rw [ifEn b2] at H;replace b2:=bF b2;refine WS.seq ?_;refine wrg ?_;refine wr 2 ?_;refine wn ?_;refine WS.cond rfl (fun b8=>?_) (fun b8=>?_)
   ·
    rw [ifE b8] at H;replace b8:=eq_of_beq b8;refine wrg ?_;refine wr 1 ?_;obtain ⟨t40,ht40,H⟩:=bd H;refine WR.call (infl_bits_sp _ _ _ _ _ _ _ _ ht40) [some 0,some 1] rfl rfl rfl rfl rfl (n2 (rw_ rfl rfl) (n2 (rw_ rfl rfl) tv)) rfl rfl rfl rfl rfl ?_;refine wr 2 ?_;refine wn ?_;refine WS.seq ?_;refine wrg ?_;refine wr 4 ?_;obtain ⟨t51,ht51,H⟩:=bd H;refine WR.call (infl_rep_sp _ _ _ ht51) [some 3] rfl rfl rfl rfl rfl (n2 rfl tv) rfl rfl rfl rfl rfl ?_;obtain ⟨g9,H⟩:=gd H;obtain ⟨g10,H⟩:=gd H;refine wr 2 ?_;refine wn ?_;refine WS.ret ?_;cases H;exact ⟨tv,[some 0,some 1,some 2,some 5],_,rfl,rfl,(n2 (rw_ rfl rfl) (n2 (rw_ rfl rfl) (n2 (rd_ rfl) (n2 (rw_ rfl rfl) tv)))),rfl,rfl,rfl⟩
   ·
    rw [ifEn b8] at H;replace b8:=bF b8;refine WS.seq ?_;refine wrg ?_;refine wr 2 ?_;refine wn ?_;refine WS.cond rfl (fun b11=>?_) (fun b11=>?_)
    ·
     rw [ifE b11] at H;replace b11:=eq_of_beq b11;refine wrg ?_;refine wr 1 ?_;obtain ⟨t45,ht45,H⟩:=bd H;refine WR.call (infl_bits_sp _ _ _ _ _ _ _ _ ht45) [some 0,some 1] rfl rfl rfl rfl rfl (n2 (rw_ rfl rfl) (n2 (rw_ rfl rfl) tv)) rfl rfl rfl rfl rfl ?_;refine wr 2 ?_;refine wn ?_;refine WS.seq ?_;refine wrg ?_;refine wr 4 ?_;obtain ⟨t51,ht51,H⟩:=bd H;refine WR.call (infl_rep_sp _ _ _ ht51) [some 3] rfl rfl rfl rfl rfl (n2 rfl tv) rfl rfl rfl rfl rfl ?_;obtain ⟨g12,H⟩:=gd H;obtain ⟨g13,H⟩:=gd H;refine wr 2 ?_;refine wn ?_;refine WS.ret ?_;cases H;exact ⟨tv,[some 0,some 1,some 2,some 5],_,rfl,rfl,(n2 (rw_ rfl rfl) (n2 (rw_ rfl rfl) (n2 (rd_ rfl) (n2 (rw_ rfl rfl) tv)))),rfl,rfl,rfl⟩
    ·
     rw [ifEn b11] at H;replace b11:=bF b11;refine WS.seq ?_;refine wrg ?_;obtain ⟨g14,H⟩:=gd H;refine wr 5 ?_;refine wn ?_;refine WS.ret ?_;cases H;exact ⟨tv,[some 0,some 1,some 2,some 4],_,rfl,rfl,(n2 (rw_ rfl rfl) (n2 (rw_ rfl rfl) (n2 (rd_ rfl) (n2 (rw_ rfl rfl) tv)))),rfl,rfl,rfl⟩
theorem infl_lengths_sp (k:Nat) (o:List Int) (m:Int) (s:ByteArray) (p:Int) (e:Int) (r:List Int × Int × Int × Int) (H:infl_lengths.f k s p e=some r):Sp (KT:=kt) Try.prog O 99 [c1 (.ptr 0 0 0 0)] [⟨.box [.str s,.n p,.sl 1 o.length,.n m,.n e],0,true⟩,⟨.own 5 o,1,true⟩] (.t [.c (.sl 2 (r.1.take r.2.1.toNat).length),.c (.sl 3 (r.1.drop r.2.1.toNat).length)]) [⟨.box [.str s,.n r.2.2.1,.sl 1 o.length,.n m,.n r.2.2.2],0,true⟩,⟨.own 5 o,1,true⟩,⟨.view 3 (r.1.take r.2.1.toNat:List Int),2,true⟩,⟨.view 3 (r.1.drop r.2.1.toNat:List Int),2,true⟩]:=by
 refine Sp.of tok (by kernel_rfl) Try.func99 rfl rfl fun Γ hnp=>?_;unfold infl_lengths.f at H;refine WS.seq ?_;refine wrg ?_;refine wr 2 ?_;refine wn ?_;refine WS.seq ?_;refine wrg ?_;refine wr 1 ?_;obtain ⟨t14,ht14,H⟩:=bd H;refine WR.call (infl_bits_sp _ _ _ _ _ _ _ _ ht14) [some 0,some 1] rfl rfl rfl rfl rfl (n2 (rw_ rfl rfl) (n2 (rw_ rfl rfl) tv)) rfl rfl rfl rfl rfl ?_;refine wr 2 ?_;obtain ⟨t17,ht17,H⟩:=bd H;refine WR.call (infl_bits_sp _ _ _ _ _ _ _ _ ht17) [some 0,some 1] rfl rfl rfl rfl rfl (n2 (rw_ rfl rfl) (n2 (rw_ rfl rfl) tv)) rfl rfl rfl rfl rfl ?_;refine wr 2 ?_;obtain ⟨t20,ht20,H⟩:=bd H;refine WR.call (infl_bits_sp _ _ _ _ _ _ _ _ ht20) [some 0,some 1] rfl rfl rfl rfl rfl (n2 (rw_ rfl rfl) (n2 (rw_ rfl rfl) tv)) rfl rfl rfl rfl rfl ?_;refine wr 4 ?_;refine wn ?_;refine WS.join (fun ρ h=>∃ k1,∃ (g:Nat → SV) (x4:Int) (x5:Int) (x6:Int) (Qa:Int) (Qb:Int),k1≤k∧ρ=upds g [(4,c1 (.n x4)),(5,c1 (.n x5)),(6,c1 (.n x6)),(0,c1 (.ptr 0 0 0 0))]∧h=[⟨.box [.str s,.n Qa,.sl 1 o.length,.n m,.n Qb],0,true⟩,⟨.own 5 o,1,true⟩]∧infl_lengths.j1 k1 x4 x5 x6 s Qa Qb=some r) ?_ ?_
 ·
  refine WS.join (fun ρ h=>∃ k1,∃ (g:Nat → SV) (x4:Int) (x5:Int) (x6:Int) (x34:Bool) (Qa:Int) (Qb:Int),k1≤k∧ρ=upds g [(4,c1 (.n x4)),(5,c1 (.n x5)),(6,c1 (.n x6)),(34,c1 (.bool x34)),(0,c1 (.ptr 0 0 0 0))]∧h=[⟨.box [.str s,.n Qa,.sl 1 o.length,.n m,.n Qb],0,true⟩,⟨.own 5 o,1,true⟩]∧infl_lengths.j0 k1 x4 x5 x6 x34 s Qa Qb=some r) ?_ ?_
  ·
   refine wrg ?_;refine wr 6 ?_;refine WR.split 27 rfl (fun b1=>?_) (fun b1=>?_)
   ·
    rw [ifE b1] at H;replace b1:=eq_of_beq b1;refine wr 3 ?_;refine WR.split 30 rfl (fun b2=>?_) (fun b2=>?_)
    ·
     rw [ifP b2] at H;replace b2:=dT b2;refine wr 4 ?_;refine wn ?_;intro kk;refine wcut [some 0,some 1] [(4,c1 (.n ((wrap64 (t14.1+257))))),(5,c1 (.n ((wrap64 (t17.1+1))))),(6,c1 (.n ((wrap64 (t20.1+4))))),(34,c1 (.bool true)),(0,c1 (.ptr 0 0 0 0))] [⟨.box [.str s,.n t20.2.1,.sl 1 o.length,.n m,.n t20.2.2],0,true⟩,⟨.own 5 o,1,true⟩] (n2 rfl (n2 rfl (n2 rfl (n2 rfl (n2 rfl tv))))) (n2 (rw_ rfl rfl) (n2 (rw_ rfl rfl) tv)) (by rw [hnp];rfl) (fun g=>?_);exact kk _ _ ⟨_,g,_,_,_,_,_,_,by omega,rfl,rfl,H⟩
    ·
     rw [ifN b2] at H;replace b2:=dF b2;refine wr 4 ?_;refine wn ?_;intro kk;refine wcut [some 0,some 1] [(4,c1 (.n ((wrap64 (t14.1+257))))),(5,c1 (.n ((wrap64 (t17.1+1))))),(6,c1 (.n ((wrap64 (t20.1+4))))),(34,c1 (.bool ((decide ((wrap64 (t17.1+1)) > 30))))),(0,c1 (.ptr 0 0 0 0))] [⟨.box [.str s,.n t20.2.1,.sl 1 o.length,.n m,.n t20.2.2],0,true⟩,⟨.own 5 o,1,true⟩] (n2 rfl (n2 rfl (n2 rfl (n2 rfl (n2 rfl tv))))) (n2 (rw_ rfl rfl) (n2 (rw_ rfl rfl) tv)) (by rw [hnp];rfl) (fun g=>?_);exact kk _ _ ⟨_,g,_,_,_,_,_,_,by omega,rfl,rfl,H⟩
   ·
    rw [ifEn b1] at H;replace b1:=bF b1;refine wr 7 ?_;refine wn ?_;intro kk;refine wcut [some 0,some 1] [(4,c1 (.n ((wrap64 (t14.1+257))))),(5,c1 (.n ((wrap64 (t17.1+1))))),(6,c1 (.n ((wrap64 (t20.1+4))))),(34,c1 (.bool false)),(0,c1 (.ptr 0 0 0 0))] [⟨.box [.str s,.n t20.2.1,.sl 1 o.length,.n m,.n t20.2.2],0,true⟩,⟨.own 5 o,1,true⟩] (n2 rfl (n2 rfl (n2 rfl (n2 rfl (n2 rfl tv))))) (n2 (rw_ rfl rfl) (n2 (rw_ rfl rfl) tv)) (by rw [hnp];rfl) (fun g=>?_);exact kk _ _ ⟨_,g,_,_,_,_,_,_,by omega,rfl,rfl,H⟩
  rintro ρ h ⟨k,g,x4,x5,x6,x34,Qa,Qb,hk3,rfl,rfl,H⟩
  rcases k with _ | k
  ·exact nn H
  simp only [infl_lengths.j0] at H;refine WS.cond rfl (fun b4=>?_) (fun b4=>?_)
  ·
   rw [ifB b4] at H;refine wrg ?_;refine wr 1 ?_;obtain ⟨t36,ht36,H⟩:=bd H;refine WR.call (infl_fail_sp _ _ _ _ _ _ _ ht36) [some 0,some 1] rfl rfl rfl rfl rfl (n2 (rw_ rfl rfl) (n2 (rw_ rfl rfl) tv)) rfl rfl rfl rfl rfl ?_;refine wn ?_;intro kk;refine wcut [some 0,some 1] [(4,c1 (.n x4)),(5,c1 (.n x5)),(6,c1 (.n x6)),(0,c1 (.ptr 0 0 0 0))] [⟨.box [.str s,.n Qa,.sl 1 o.length,.n m,.n t36],0,true⟩,⟨.own 5 o,1,true⟩] (n2 rfl (n2 rfl (n2 rfl (n2 rfl tv)))) (n2 (rw_ rfl rfl) (n2 (rw_ rfl rfl) tv)) (by rw [hnp];rfl) (fun g=>?_);exact kk _ _ ⟨_,g,_,_,_,_,_,by omega,rfl,rfl,H⟩
  ·
   rw [ifBn b4] at H;refine WS.skip ?_;intro kk;refine wcut [some 0,some 1] [(4,c1 (.n x4)),(5,c1 (.n x5)),(6,c1 (.n x6)),(0,c1 (.ptr 0 0 0 0))] [⟨.box [.str s,.n Qa,.sl 1 o.length,.n m,.n Qb],0,true⟩,⟨.own 5 o,1,true⟩] (n2 rfl (n2 rfl (n2 rfl (n2 rfl tv)))) (n2 (rw_ rfl rfl) (n2 (rw_ rfl rfl) tv)) (by rw [hnp];rfl) (fun g=>?_);exact kk _ _ ⟨_,g,_,_,_,_,_,by omega,rfl,rfl,H⟩
 rintro ρ h ⟨k,g,x4,x5,x6,Qa,Qb,hk5,rfl,rfl,H⟩
 rcases k with _ | k
 ·exact nn H
 simp only [infl_lengths.j1] at H;refine WS.seq ?_;refine wrg ?_;refine wr 2 ?_;refine wn ?_;refine WS.seq ?_;refine wrg ?_;obtain ⟨g6,H⟩:=gd H;obtain ⟨g7,H⟩:=gd H;refine wr 4 ?_;refine wn ?_;refine WS.seq ?_;refine WS.seq ?_;refine wrg ?_;refine wr 5 ?_;refine wn ?_;refine WS.block ?_;refine wcut [some 0,some 1,some 3,some 4] [(4,c1 (.n x4)),(5,c1 (.n x5)),(8,c1 (.sl 2 ((List.replicate 19 0)).length)),(43,c1 (.sl 3 ((([16,17,18,0,8,7,9,6,10,5,11,4,12,3,13,2,14,1,15]:List Int).take x6.toNat)).length)),(44,c1 (.n (((([16,17,18,0,8,7,9,6,10,5,11,4,12,3,13,2,14,1,15]:List Int).take x6.toNat).length:Int)))),(45,c1 (.n 0)),(0,c1 (.ptr 0 0 0 0))] [⟨.box [.str s,.n Qa,.sl 1 o.length,.n m,.n Qb],0,true⟩,⟨.own 5 o,1,true⟩,⟨.own 3 (((List.replicate 19 0)):List Int),2,true⟩,⟨.view 3 (((([16,17,18,0,8,7,9,6,10,5,11,4,12,3,13,2,14,1,15]:List Int).take x6.toNat)):List Int),3,false⟩] (n2 rfl (n2 rfl (n2 rfl (n2 rfl (n2 rfl (n2 rfl (n2 rfl tv))))))) (n2 (rw_ rfl rfl) (n2 (rw_ rfl rfl) (n2 (rw_ rfl rfl) (n2 rfl tv)))) (by rw [hnp];rfl) (fun g=>?_);refine WS.loop (fun k1 ρ h=>∃ (g:Nat → SV) (x4:Int) (x5:Int) (x8:List Int) (x43:List Int) (x44:Int) (x45:Int) (Qa:Int) (Qb:Int),k1≤k∧ρ=upds g [(4,c1 (.n x4)),(5,c1 (.n x5)),(8,c1 (.sl 2 x8.length)),(43,c1 (.sl 3 x43.length)),(44,c1 (.n x44)),(45,c1 (.n x45)),(0,c1 (.ptr 0 0 0 0))]∧h=[⟨.box [.str s,.n Qa,.sl 1 o.length,.n m,.n Qb],0,true⟩,⟨.own 5 o,1,true⟩,⟨.own 3 x8,2,true⟩,⟨.view 3 x43,3,false⟩]∧infl_lengths.l0 k1 x4 x5 x8 x43 x44 x45 s Qa Qb=some r) ?_ (n:=k) ⟨g,_,_,_,_,_,_,_,_,Nat.le_refl _,rfl,rfl,H⟩
 rintro k ρ h ih8 ⟨g,x4,x5,x8,x43,x44,x45,Qa,Qb,hkih8,rfl,rfl,H⟩
 rcases k with _ | k
 ·exact nn H
 simp only [infl_lengths.l0] at H;refine WS.seq ?_;refine wrg ?_;refine wr 1 ?_;refine wn ?_;refine WS.seq ?_;refine WS.cond rfl (fun b9=>?_) (fun b9=>?_)
 ·
  rw [ifP b9] at H;replace b9:=dT b9;refine WS.skip ?_;refine WS.seq ?_;refine WS.block ?_;refine WS.seq ?_;refine wrg ?_;obtain ⟨g10,H⟩:=gd H;obtain ⟨g11,H⟩:=gd H;refine wr 3 ?_;refine wn ?_;refine wrg ?_;refine wr 3 ?_;obtain ⟨t52,ht52,H⟩:=bd H;refine WR.call (infl_bits_sp _ _ _ _ _ _ _ _ ht52) [some 0,some 1] rfl rfl rfl rfl rfl (n2 (rw_ rfl rfl) (n2 (rw_ rfl rfl) tv)) rfl rfl rfl rfl rfl ?_;obtain ⟨g12,H⟩:=gd H;obtain ⟨g13,H⟩:=gd H;refine wr 2 ?_;refine wn ?_;refine wrg ?_;refine wr 2 ?_;refine wn ?_;refine wcut [some 0,some 1,some 2,some 3] [(4,c1 (.n x4)),(5,c1 (.n x5)),(8,c1 (.sl 2 ((x8.set (rd x43 x45:Int).toNat t52.1)).length)),(43,c1 (.sl 3 x43.length)),(44,c1 (.n x44)),(45,c1 (.n ((wrap64 (x45+1))))),(0,c1 (.ptr 0 0 0 0))] [⟨.box [.str s,.n t52.2.1,.sl 1 o.length,.n m,.n t52.2.2],0,true⟩,⟨.own 5 o,1,true⟩,⟨.own 3 (((x8.set (rd x43 x45:Int).toNat t52.1)):List Int),2,true⟩,⟨.view 3 x43,3,false⟩] (n2 rfl (n2 rfl (n2 (sl_ rfl rfl (by simp)) (n2 rfl (n2 rfl (n2 rfl (n2 rfl tv))))))) (n2 (rw_ rfl rfl) (n2 (rw_ rfl rfl) (n2 (rw_ rfl rfl) (n2 rfl tv)))) (by rw [hnp];rfl) (fun g=>?_);exact ih8 k (by omega) _ _ ⟨g,_,_,_,_,_,_,_,_,by omega,rfl,rfl,H⟩
 ·
  rw [ifN b9] at H;replace b9:=dF b9;refine WS.exit ?_;refine WS.seq ?_;refine wrg ?_;refine wr 2 ?_;obtain ⟨t57,ht57,H⟩:=bd H;refine WR.call (infl_table_sp _ _ _ _ _ _ _ _ ht57) [some 0,some 1,some 2] rfl rfl rfl rfl rfl (n2 (rw_ rfl rfl) (n2 (rw_ rfl rfl) (n2 rfl tv))) rfl rfl rfl rfl rfl ?_;refine wr 2 ?_;refine wn ?_;refine WS.seq ?_;refine wrg ?_;refine wr 1 ?_;refine wn ?_;refine WS.seq ?_;refine WS.block ?_;refine wcut [some 0,some 1,none,some 5,some 4] [(4,c1 (.n x4)),(5,c1 (.n x5)),(12,c1 (.sl 2 (([]:List Int)).length)),(0,c1 (.ptr 0 0 0 0)),(11,c1 (.ptr 3 0 0 0))] [⟨.box [.str s,.n Qa,.sl 1 o.length,.n m,.n t57.2.2],0,true⟩,⟨.own 5 o,1,true⟩,⟨.own 3 ((([]:List Int)):List Int),2,true⟩,⟨.box [.n ((rd t57.1 0)),.n ((rd t57.1 1)),.n ((rd t57.1 2)),.n ((rd t57.1 3)),.n ((rd t57.1 4)),.n ((rd t57.1 5)),.n ((rd t57.1 6)),.n ((rd t57.1 7)),.n ((rd t57.1 8)),.n ((rd t57.1 9)),.n ((rd t57.1 10)),.n ((rd t57.1 11)),.n ((rd t57.1 12)),.n ((rd t57.1 13)),.n ((rd t57.1 14)),.n ((rd t57.1 15)),.sl 4 t57.2.1.length],3,true⟩,⟨.own 3 t57.2.1,4,true⟩] (n2 rfl (n2 rfl (n2 rfl (n2 rfl (n2 rfl tv))))) (n2 (rw_ rfl rfl) (n2 (rw_ rfl rfl) (n2 rfl (n2 (rw_ rfl rfl) (n2 (rw_ rfl rfl) tv))))) (by rw [hnp];rfl) (fun g=>?_);refine WS.loop (fun k1 ρ h=>∃ (g:Nat → SV) (x4:Int) (x5:Int) (Qd:Int) (Qe:Int) (Qf:Int) (Qg:Int) (Qh:Int) (Qi:Int) (Qj:Int) (Qk:Int) (Ql:Int) (Qm:Int) (Qn:Int) (Qo:Int) (Qp:Int) (Qq:Int) (Qr:Int) (Qs:Int) (Qc:List Int) (x12:List Int) (Qa:Int) (Qb:Int),k1≤k∧ρ=upds g [(4,c1 (.n x4)),(5,c1 (.n x5)),(12,c1 (.sl 2 x12.length)),(0,c1 (.ptr 0 0 0 0)),(11,c1 (.ptr 3 0 0 0))]∧h=[⟨.box [.str s,.n Qa,.sl 1 o.length,.n m,.n Qb],0,true⟩,⟨.own 5 o,1,true⟩,⟨.own 3 x12,2,true⟩,⟨.box [.n Qd,.n Qe,.n Qf,.n Qg,.n Qh,.n Qi,.n Qj,.n Qk,.n Ql,.n Qm,.n Qn,.n Qo,.n Qp,.n Qq,.n Qr,.n Qs,.sl 4 Qc.length],3,true⟩,⟨.own 3 Qc,4,true⟩]∧infl_lengths.l1 k1 x4 x5 Qd Qe Qf Qg Qh Qi Qj Qk Ql Qm Qn Qo Qp Qq Qr Qs Qc x12 s Qa Qb=some r) ?_ (n:=k) ⟨g,_,_,_,_,_,_,_,_,_,_,_,_,_,_,_,_,_,_,_,_,_,_,Nat.le_refl _,rfl,rfl,H⟩
  rintro k ρ h ih14 ⟨g,x4,x5,Qd,Qe,Qf,Qg,Qh,Qi,Qj,Qk,Ql,Qm,Qn,Qo,Qp,Qq,Qr,Qs,Qc,x12,Qa,Qb,hkih14,rfl,rfl,H⟩
  rcases k with _ | k
  ·exact nn H
  simp only [infl_lengths.l1] at H;refine WS.seq ?_;refine WS.seq ?_;refine wrg ?_;refine wr 7 ?_;refine WR.split 64 rfl (fun b15=>?_) (fun b15=>?_)
  ·
   rw [ifP b15] at H;replace b15:=dT b15;refine wr 6 ?_;refine wn ?_;refine WS.cond rfl (fun b16=>?_) (fun b16=>?_)
   ·
    rw [ifE b16] at H;replace b16:=eq_of_beq b16;refine WS.skip ?_;refine WS.block ?_;refine wrg ?_;refine wr 4 ?_;obtain ⟨t75,ht75,H⟩:=bd H;refine WR.call (infl_next_sp _ _ _ _ _ _ _ _ _ _ _ _ _ _ _ _ _ _ _ _ _ _ _ _ ht75) [some 0,some 1,some 4] rfl rfl rfl rfl rfl (n2 (rw_ rfl rfl) (n2 (rw_ rfl rfl) (n2 rfl tv))) rfl rfl rfl rfl rfl ?_;obtain ⟨t76,ht76,H⟩:=bd H;refine WR.call (infl_lengthen_sp _ _ _ _ _ _ _ _ _ ht76) [some 0,some 1,some 2] rfl rfl rfl rfl rfl (n2 (rw_ rfl rfl) (n2 (rw_ rfl rfl) (n2 (rw_ rfl rfl) tv))) rfl rfl rfl rfl rfl ?_;refine wr 1 ?_;refine wn ?_;refine wcut [some 0,some 1,some 5,some 3,some 4] [(4,c1 (.n x4)),(5,c1 (.n x5)),(12,c1 (.sl 2 t76.1.length)),(0,c1 (.ptr 0 0 0 0)),(11,c1 (.ptr 3 0 0 0))] [⟨.box [.str s,.n t76.2.1,.sl 1 o.length,.n m,.n t76.2.2],0,true⟩,⟨.own 5 o,1,true⟩,⟨.own 3 t76.1,2,true⟩,⟨.box [.n Qd,.n Qe,.n Qf,.n Qg,.n Qh,.n Qi,.n Qj,.n Qk,.n Ql,.n Qm,.n Qn,.n Qo,.n Qp,.n Qq,.n Qr,.n Qs,.sl 4 Qc.length],3,true⟩,⟨.own 3 Qc,4,true⟩] (n2 rfl (n2 rfl (n2 rfl (n2 rfl (n2 rfl tv))))) (n2 (rw_ rfl rfl) (n2 (rw_ rfl rfl) (n2 (rw_ rfl rfl) (n2 (rw_ rfl rfl) (n2 (rw_ rfl rfl) tv))))) (by rw [hnp];rfl) (fun g=>?_);exact ih14 k (by omega) _ _ ⟨g,_,_,_,_,_,_,_,_,_,_,_,_,_,_,_,_,_,_,_,_,_,_,by omega,rfl,rfl,H⟩
   ·
    rw [ifEn b16] at H;replace b16:=bF b16;refine WS.exit ?_;refine WS.seq ?_;refine WS.block ?_;refine WS.seq ?_;refine wrg ?_;refine wr 6 ?_;refine wn ?_;refine WS.cond rfl (fun b17=>?_) (fun b17=>?_)
    ·
     rw [ifX b17] at H;replace b17:=nT b17;refine WS.seq ?_;refine wrg ?_;refine wr 2 ?_;refine wn ?_;refine WS.ret ?_;cases H;exact ⟨tv,[some 0,some 1,none,none],_,rfl,rfl,(n2 (rw_ rfl rfl) (n2 (rw_ rfl rfl) (n2 rfl (n2 rfl tv)))),rfl,rfl,rfl⟩
    ·
     rw [ifXn b17] at H;replace b17:=nF b17;refine WS.seq ?_;refine wrg ?_;refine wr 7 ?_;refine WR.split 90 rfl (fun b18=>?_) (fun b18=>?_)
     ·
      rw [ifP b18] at H;replace b18:=dT b18;refine wr 6 ?_;refine wn ?_;refine WS.cond rfl (fun _=>?_) (fun h=>nomatch h);refine WS.seq ?_;refine wrg ?_;refine wr 1 ?_;obtain ⟨t97,ht97,H⟩:=bd H;refine WR.call (infl_fail_sp _ _ _ _ _ _ _ ht97) [some 0,some 1] rfl rfl rfl rfl rfl (n2 (rw_ rfl rfl) (n2 (rw_ rfl rfl) tv)) rfl rfl rfl rfl rfl ?_;refine wn ?_;refine WS.seq ?_;refine wrg ?_;refine wr 2 ?_;refine wn ?_;refine WS.ret ?_;cases H;exact ⟨tv,[some 0,some 1,none,none],_,rfl,rfl,(n2 (rw_ rfl rfl) (n2 (rw_ rfl rfl) (n2 rfl (n2 rfl tv)))),rfl,rfl,rfl⟩
     ·
      rw [ifN b18] at H;replace b18:=dF b18;obtain ⟨g20,H⟩:=gd H;refine wr 6 ?_;refine wn ?_;refine WS.cond rfl (fun b21=>?_) (fun b21=>?_)
      ·
       rw [ifE b21] at H;replace b21:=eq_of_beq b21;refine WS.seq ?_;refine wrg ?_;refine wr 1 ?_;obtain ⟨t97,ht97,H⟩:=bd H;refine WR.call (infl_fail_sp _ _ _ _ _ _ _ ht97) [some 0,some 1] rfl rfl rfl rfl rfl (n2 (rw_ rfl rfl) (n2 (rw_ rfl rfl) tv)) rfl rfl rfl rfl rfl ?_;refine wn ?_;refine WS.seq ?_;refine wrg ?_;refine wr 2 ?_;refine wn ?_;refine WS.ret ?_;cases H;exact ⟨tv,[some 0,some 1,none,none],_,rfl,rfl,(n2 (rw_ rfl rfl) (n2 (rw_ rfl rfl) (n2 rfl (n2 rfl tv)))),rfl,rfl,rfl⟩
      ·
       rw [ifEn b21] at H;replace b21:=bF b21;refine WS.skip ?_;refine WS.seq ?_;refine wrg ?_;obtain ⟨g22,H⟩:=gd H;obtain ⟨g23,H⟩:=gd H;refine wr 8 ?_;refine wn ?_;refine WS.ret ?_;cases H;exact ⟨tv,[some 0,some 1,some 5,some 6],_,rfl,rfl,(n2 (rw_ rfl rfl) (n2 (rw_ rfl rfl) (n2 rfl (n2 rfl tv)))),rfl,rfl,rfl⟩
  ·
   rw [ifN b15] at H;replace b15:=dF b15;refine wr 6 ?_;refine wn ?_;refine WS.cond rfl (fun h=>nomatch h) (fun _=>?_);refine WS.exit ?_;refine WS.seq ?_;refine WS.block ?_;refine WS.seq ?_;refine wrg ?_;refine wr 6 ?_;refine wn ?_;refine WS.cond rfl (fun b25=>?_) (fun b25=>?_)
   ·
    rw [ifX b25] at H;replace b25:=nT b25;refine WS.seq ?_;refine wrg ?_;refine wr 2 ?_;refine wn ?_;refine WS.ret ?_;cases H;exact ⟨tv,[some 0,some 1,none,none],_,rfl,rfl,(n2 (rw_ rfl rfl) (n2 (rw_ rfl rfl) (n2 rfl (n2 rfl tv)))),rfl,rfl,rfl⟩
   ·
    rw [ifXn b25] at H;replace b25:=nF b25;refine WS.seq ?_;refine wrg ?_;refine wr 7 ?_;refine WR.split 90 rfl (fun b26=>?_) (fun b26=>?_)
    ·
     rw [ifP b26] at H;replace b26:=dT b26;refine wr 6 ?_;refine wn ?_;refine WS.cond rfl (fun _=>?_) (fun h=>nomatch h);refine WS.seq ?_;refine wrg ?_;refine wr 1 ?_;obtain ⟨t97,ht97,H⟩:=bd H;refine WR.call (infl_fail_sp _ _ _ _ _ _ _ ht97) [some 0,some 1] rfl rfl rfl rfl rfl (n2 (rw_ rfl rfl) (n2 (rw_ rfl rfl) tv)) rfl rfl rfl rfl rfl ?_;refine wn ?_;refine WS.seq ?_;refine wrg ?_;refine wr 2 ?_;refine wn ?_;refine WS.ret ?_;cases H;exact ⟨tv,[some 0,some 1,none,none],_,rfl,rfl,(n2 (rw_ rfl rfl) (n2 (rw_ rfl rfl) (n2 rfl (n2 rfl tv)))),rfl,rfl,rfl⟩
    ·
     rw [ifN b26] at H;replace b26:=dF b26;obtain ⟨g28,H⟩:=gd H;refine wr 6 ?_;refine wn ?_;refine WS.cond rfl (fun b29=>?_) (fun b29=>?_)
     ·
      rw [ifE b29] at H;replace b29:=eq_of_beq b29;refine WS.seq ?_;refine wrg ?_;refine wr 1 ?_;obtain ⟨t97,ht97,H⟩:=bd H;refine WR.call (infl_fail_sp _ _ _ _ _ _ _ ht97) [some 0,some 1] rfl rfl rfl rfl rfl (n2 (rw_ rfl rfl) (n2 (rw_ rfl rfl) tv)) rfl rfl rfl rfl rfl ?_;refine wn ?_;refine WS.seq ?_;refine wrg ?_;refine wr 2 ?_;refine wn ?_;refine WS.ret ?_;cases H;exact ⟨tv,[some 0,some 1,none,none],_,rfl,rfl,(n2 (rw_ rfl rfl) (n2 (rw_ rfl rfl) (n2 rfl (n2 rfl tv)))),rfl,rfl,rfl⟩
     ·
      rw [ifEn b29] at H;replace b29:=bF b29;refine WS.skip ?_;refine WS.seq ?_;refine wrg ?_;obtain ⟨g30,H⟩:=gd H;obtain ⟨g31,H⟩:=gd H;refine wr 8 ?_;refine wn ?_;refine WS.ret ?_;cases H;exact ⟨tv,[some 0,some 1,some 5,some 6],_,rfl,rfl,(n2 (rw_ rfl rfl) (n2 (rw_ rfl rfl) (n2 rfl (n2 rfl tv)))),rfl,rfl,rfl⟩
end Go.Proofs.Ytpbhkdamkbopkaa.Rs
namespace Go.Proofs.Ytpbhkdamkbopkaa.Rs
open Go Go.RowKit Rf YtpbhkdamkbopkaaW.PrintWords Go.Proofs.Ytpbhkdamkbopkaa GInfl GPix
set_option maxRecDepth 10000
set_option maxHeartbeats 4000000
variable {O:Orc}
theorem infl_bases_sp  (r:List Int × List Int × List Int × List Int) (H:infl_bases.f =some r):Sp (KT:=kt) Try.prog O 110 [] [] (.t [.c (.sl 0 r.1.length),.c (.sl 1 r.2.1.length),.c (.sl 2 r.2.2.1.length),.c (.sl 3 r.2.2.2.length)]) [⟨.own 3 r.1,0,true⟩,⟨.own 3 r.2.1,1,true⟩,⟨.own 3 r.2.2.1,2,true⟩,⟨.own 3 r.2.2.2,3,true⟩]:=by
 refine Sp.of tok (by kernel_rfl) Try.func110 rfl rfl fun Γ hnp=>?_;unfold infl_bases.f at H;refine WS.seq ?_;refine wrg ?_;refine wr 4 ?_;refine wn ?_;refine WS.seq ?_;refine wrg ?_;refine wr 8 ?_;refine wn ?_;refine WS.ret ?_;cases H;exact ⟨tv,[some 0,some 1,some 2,some 3],_,rfl,rfl,(n2 (rw_ rfl rfl) (n2 (rw_ rfl rfl) (n2 (rw_ rfl rfl) (n2 (rw_ rfl rfl) tv)))),rfl,rfl,rfl⟩
theorem infl_codes_sp (k:Nat) (Qd:Int) (Qe:Int) (Qf:Int) (Qg:Int) (Qh:Int) (Qi:Int) (Qj:Int) (Qk:Int) (Ql:Int) (Qm:Int) (Qn:Int) (Qo:Int) (Qp:Int) (Qq:Int) (Qr:Int) (Qs:Int) (Qb:List Int) (Qt:Int) (Qu:Int) (Qv:Int) (Qw:Int) (Qx:Int) (Qy:Int) (Qz:Int) (QA:Int) (QB:Int) (QC:Int) (QD:Int) (QE:Int) (QF:Int) (QG:Int) (QH:Int) (QI:Int) (Qc:List Int) (s:ByteArray) (p:Int) (o:List Int) (m:Int) (e:Int) (r:List Int × Int × Int) (H:infl_codes.f k Qd Qe Qf Qg Qh Qi Qj Qk Ql Qm Qn Qo Qp Qq Qr Qs Qb Qt Qu Qv Qw Qx Qy Qz QA QB QC QD QE QF QG QH QI Qc s p o m e=some r):Sp (KT:=kt) Try.prog O 97 [c1 (.ptr 0 0 0 0),.v (.agg [.n Qd,.n Qe,.n Qf,.n Qg,.n Qh,.n Qi,.n Qj,.n Qk,.n Ql,.n Qm,.n Qn,.n Qo,.n Qp,.n Qq,.n Qr,.n Qs,.sl 2 Qb.length]),.v (.agg [.n Qt,.n Qu,.n Qv,.n Qw,.n Qx,.n Qy,.n Qz,.n QA,.n QB,.n QC,.n QD,.n QE,.n QF,.n QG,.n QH,.n QI,.sl 3 Qc.length])] [⟨.box [.str s,.n p,.sl 1 o.length,.n m,.n e],0,true⟩,⟨.own 5 o,1,true⟩,⟨.view 3 Qb,2,false⟩,⟨.view 3 Qc,3,false⟩] (.t []) [⟨.box [.str s,.n r.2.1,.sl 4 r.1.length,.n m,.n r.2.2],0,true⟩,⟨.dead,1,true⟩,⟨.view 3 Qb,2,false⟩,⟨.view 3 Qc,3,false⟩,⟨.own 5 r.1,1,true⟩]:=by
 refine Sp.of tok (by kernel_rfl) Try.func97 rfl rfl fun Γ hnp=>?_;unfold infl_codes.f at H;refine WS.seq ?_;refine wrg ?_;refine wr 2 ?_;refine wn ?_;refine WS.seq ?_;refine wrg ?_;obtain ⟨t14,ht14,H⟩:=bd H;refine WR.call (infl_bases_sp  _ ht14) [] rfl rfl rfl rfl rfl tv rfl rfl rfl rfl rfl ?_;refine wr 9 ?_;refine wn ?_;refine WS.block ?_;refine wcut [some 0,some 1,some 2,some 3,some 6,some 7,some 8,some 9,some 1,some 4,some 5] [(6,c1 (.sl 4 t14.1.length)),(7,c1 (.sl 5 t14.2.1.length)),(8,c1 (.sl 6 t14.2.2.1.length)),(9,c1 (.sl 7 t14.2.2.2.length)),(0,c1 (.ptr 0 0 0 0)),(1,.v (.agg [.n Qd,.n Qe,.n Qf,.n Qg,.n Qh,.n Qi,.n Qj,.n Qk,.n Ql,.n Qm,.n Qn,.n Qo,.n Qp,.n Qq,.n Qr,.n Qs,.sl 2 Qb.length])),(2,.v (.agg [.n Qt,.n Qu,.n Qv,.n Qw,.n Qx,.n Qy,.n Qz,.n QA,.n QB,.n QC,.n QD,.n QE,.n QF,.n QG,.n QH,.n QI,.sl 3 Qc.length])),(4,c1 (.ptr 9 0 0 0)),(5,c1 (.ptr 10 0 0 0))] [⟨.box [.str s,.n p,.sl 8 o.length,.n m,.n e],0,true⟩,⟨.dead,1,true⟩,⟨.view 3 Qb,2,false⟩,⟨.view 3 Qc,3,false⟩,⟨.own 3 t14.1,4,true⟩,⟨.own 3 t14.2.1,5,true⟩,⟨.own 3 t14.2.2.1,6,true⟩,⟨.own 3 t14.2.2.2,7,true⟩,⟨.own 5 o,1,true⟩,⟨.box [.n Qd,.n Qe,.n Qf,.n Qg,.n Qh,.n Qi,.n Qj,.n Qk,.n Ql,.n Qm,.n Qn,.n Qo,.n Qp,.n Qq,.n Qr,.n Qs,.sl 2 Qb.length],9,true⟩,⟨.box [.n Qt,.n Qu,.n Qv,.n Qw,.n Qx,.n Qy,.n Qz,.n QA,.n QB,.n QC,.n QD,.n QE,.n QF,.n QG,.n QH,.n QI,.sl 3 Qc.length],10,true⟩] (n2 rfl (n2 rfl (n2 rfl (n2 rfl (n2 rfl (n2 rfl (n2 rfl (n2 rfl (n2 rfl tv))))))))) (n2 (rw_ rfl rfl) (n2 (rd_ rfl) (n2 rfl (n2 rfl (n2 (rw_ rfl rfl) (n2 (rw_ rfl rfl) (n2 (rw_ rfl rfl) (n2 (rw_ rfl rfl) (n2 (rw_ rfl rfl) (n2 (rw_ rfl rfl) (n2 (rw_ rfl rfl) tv))))))))))) (by rw [hnp];rfl) (fun g=>?_)
 refine WS.loop (fun k1 ρ h=>∃ (g:Nat → SV) (x6:List Int) (x7:List Int) (x8:List Int) (x9:List Int) (QJ:Int) (Qa:List Int) (QK:Int),k1≤k∧ρ=upds g [(6,c1 (.sl 4 x6.length)),(7,c1 (.sl 5 x7.length)),(8,c1 (.sl 6 x8.length)),(9,c1 (.sl 7 x9.length)),(0,c1 (.ptr 0 0 0 0)),(1,.v (.agg [.n Qd,.n Qe,.n Qf,.n Qg,.n Qh,.n Qi,.n Qj,.n Qk,.n Ql,.n Qm,.n Qn,.n Qo,.n Qp,.n Qq,.n Qr,.n Qs,.sl 2 Qb.length])),(2,.v (.agg [.n Qt,.n Qu,.n Qv,.n Qw,.n Qx,.n Qy,.n Qz,.n QA,.n QB,.n QC,.n QD,.n QE,.n QF,.n QG,.n QH,.n QI,.sl 3 Qc.length])),(4,c1 (.ptr 9 0 0 0)),(5,c1 (.ptr 10 0 0 0))]∧h=[⟨.box [.str s,.n QJ,.sl 8 Qa.length,.n m,.n QK],0,true⟩,⟨.dead,1,true⟩,⟨.view 3 Qb,2,false⟩,⟨.view 3 Qc,3,false⟩,⟨.own 3 x6,4,true⟩,⟨.own 3 x7,5,true⟩,⟨.own 3 x8,6,true⟩,⟨.own 3 x9,7,true⟩,⟨.own 5 Qa,1,true⟩,⟨.box [.n Qd,.n Qe,.n Qf,.n Qg,.n Qh,.n Qi,.n Qj,.n Qk,.n Ql,.n Qm,.n Qn,.n Qo,.n Qp,.n Qq,.n Qr,.n Qs,.sl 2 Qb.length],9,true⟩,⟨.box [.n Qt,.n Qu,.n Qv,.n Qw,.n Qx,.n Qy,.n Qz,.n QA,.n QB,.n QC,.n QD,.n QE,.n QF,.n QG,.n QH,.n QI,.sl 3 Qc.length],10,true⟩]∧infl_codes.l0 k1 x6 x7 x8 x9 Qd Qe Qf Qg Qh Qi Qj Qk Ql Qm Qn Qo Qp Qq Qr Qs Qb Qt Qu Qv Qw Qx Qy Qz QA QB QC QD QE QF QG QH QI Qc s QJ Qa m QK=some r) ?_ (n:=k) ⟨g,_,_,_,_,_,_,_,Nat.le_refl _,rfl,rfl,H⟩;rintro k ρ h ih1 ⟨g,x6,x7,x8,x9,QJ,Qa,QK,hkih1,rfl,rfl,H⟩
 rcases k with _ | k
 ·exact nn H
 simp only [infl_codes.l0] at H;refine WS.seq ?_;refine WS.seq ?_;refine wrg ?_;refine wr 5 ?_;refine wn ?_;refine WS.cond rfl (fun b2=>?_) (fun b2=>?_)
 ·
  rw [ifE b2] at H;replace b2:=eq_of_beq b2;refine WS.skip ?_;refine WS.block ?_;refine WS.seq ?_;refine wrg ?_;refine wr 2 ?_;obtain ⟨t26,ht26,H⟩:=bd H;refine WR.call (infl_next_sp _ _ _ _ _ _ _ _ _ _ _ _ _ _ _ _ _ _ _ _ _ _ _ _ ht26) [some 0,some 8,some 2] rfl rfl rfl rfl rfl (n2 (rw_ rfl rfl) (n2 (rw_ rfl rfl) (n2 rfl tv))) rfl rfl rfl rfl rfl ?_;refine wr 1 ?_;refine wn ?_;refine WS.seq ?_;refine WS.block ?_;refine WS.seq ?_;refine wrg ?_;refine wr 6 ?_;refine WR.split 33 rfl (fun b3=>?_) (fun b3=>?_)
  ·
   rw [ifX b3] at H;replace b3:=nT b3;refine wr 4 ?_;refine wn ?_;refine WS.cond rfl (fun _=>?_) (fun h=>nomatch h);refine WS.ret ?_;cases H;exact ⟨tv,[some 0,some 1,some 2,some 3,some 8],_,rfl,rfl,(n2 (rw_ rfl rfl) (n2 (rd_ rfl) (n2 rfl (n2 rfl (n2 (rw_ rfl rfl) tv))))),rfl,rfl,rfl⟩
  ·
   rw [ifXn b3] at H;replace b3:=nF b3;refine wr 4 ?_;refine wn ?_;refine WS.cond rfl (fun b5=>?_) (fun b5=>?_)
   ·
    rw [ifE b5] at H;replace b5:=eq_of_beq b5;refine WS.ret ?_;cases H;exact ⟨tv,[some 0,some 1,some 2,some 3,some 8],_,rfl,rfl,(n2 (rw_ rfl rfl) (n2 (rd_ rfl) (n2 rfl (n2 rfl (n2 (rw_ rfl rfl) tv))))),rfl,rfl,rfl⟩
   ·
    rw [ifEn b5] at H;replace b5:=bF b5;refine WS.seq ?_;refine wrg ?_;refine wr 3 ?_;refine wn ?_;refine WS.cond rfl (fun b6=>?_) (fun b6=>?_)
    ·
     rw [ifP b6] at H;replace b6:=dT b6;refine WS.seq ?_;refine WS.seq ?_;refine wrg ?_;refine wr 10 ?_;refine wn ?_;refine WS.cond rfl (fun b7=>?_) (fun b7=>?_)
     ·
      rw [ifE b7] at H;replace b7:=eq_of_beq b7;refine WS.seq ?_;refine wrg ?_;refine wr 1 ?_;obtain ⟨t51,ht51,H⟩:=bd H;refine WR.call (infl_fail_sp _ _ _ _ _ _ _ ht51) [some 0,some 8] rfl rfl rfl rfl rfl (n2 (rw_ rfl rfl) (n2 (rw_ rfl rfl) tv)) rfl rfl rfl rfl rfl ?_;refine wn ?_;refine WS.ret ?_;cases H;exact ⟨tv,[some 0,some 1,some 2,some 3,some 8],_,rfl,rfl,(n2 (rw_ rfl rfl) (n2 (rd_ rfl) (n2 rfl (n2 rfl (n2 (rw_ rfl rfl) tv))))),rfl,rfl,rfl⟩
     ·
      rw [ifEn b7] at H;replace b7:=bF b7;refine WS.skip ?_;refine WS.seq ?_;refine wrg ?_;obtain ⟨g8,H⟩:=gd H;refine wr 12 ?_;refine wn ?_;refine WS.exit ?_;refine wcut [some 0,some 1,some 2,some 3,some 4,some 5,some 6,some 7,some 12,some 9,some 10] [(6,c1 (.sl 4 x6.length)),(7,c1 (.sl 5 x7.length)),(8,c1 (.sl 6 x8.length)),(9,c1 (.sl 7 x9.length)),(0,c1 (.ptr 0 0 0 0)),(1,.v (.agg [.n Qd,.n Qe,.n Qf,.n Qg,.n Qh,.n Qi,.n Qj,.n Qk,.n Ql,.n Qm,.n Qn,.n Qo,.n Qp,.n Qq,.n Qr,.n Qs,.sl 2 Qb.length])),(2,.v (.agg [.n Qt,.n Qu,.n Qv,.n Qw,.n Qx,.n Qy,.n Qz,.n QA,.n QB,.n QC,.n QD,.n QE,.n QF,.n QG,.n QH,.n QI,.sl 3 Qc.length])),(4,c1 (.ptr 9 0 0 0)),(5,c1 (.ptr 10 0 0 0))] [⟨.box [.str s,.n t26.2.1,.sl 8 ((Qa ++ [t26.1 % 256])).length,.n m,.n t26.2.2],0,true⟩,⟨.dead,1,true⟩,⟨.view 3 Qb,2,false⟩,⟨.view 3 Qc,3,false⟩,⟨.own 3 x6,4,true⟩,⟨.own 3 x7,5,true⟩,⟨.own 3 x8,6,true⟩,⟨.own 3 x9,7,true⟩,⟨.own 5 (((Qa ++ [t26.1 % 256])):List Int),1,true⟩,⟨.box [.n Qd,.n Qe,.n Qf,.n Qg,.n Qh,.n Qi,.n Qj,.n Qk,.n Ql,.n Qm,.n Qn,.n Qo,.n Qp,.n Qq,.n Qr,.n Qs,.sl 2 Qb.length],9,true⟩,⟨.box [.n Qt,.n Qu,.n Qv,.n Qw,.n Qx,.n Qy,.n Qz,.n QA,.n QB,.n QC,.n QD,.n QE,.n QF,.n QG,.n QH,.n QI,.sl 3 Qc.length],10,true⟩] (n2 rfl (n2 rfl (n2 rfl (n2 rfl (n2 rfl (n2 rfl (n2 rfl (n2 rfl (n2 rfl tv))))))))) (n2 (rw_ rfl rfl) (n2 (rd_ rfl) (n2 rfl (n2 rfl (n2 (rw_ rfl rfl) (n2 (rw_ rfl rfl) (n2 (rw_ rfl rfl) (n2 (rw_ rfl rfl) (n2 (rw_ rfl rfl) (n2 (rw_ rfl rfl) (n2 (rw_ rfl rfl) tv))))))))))) (by rw [hnp];rfl) (fun g=>?_);exact ih1 k (by omega) _ _ ⟨g,_,_,_,_,_,_,_,by omega,rfl,rfl,H⟩
    ·
     rw [ifN b6] at H;replace b6:=dF b6;refine WS.seq ?_;refine wrg ?_;refine wr 3 ?_;refine wn ?_;refine WS.cond rfl (fun b9=>?_) (fun b9=>?_)
     ·
      rw [ifP b9] at H;replace b9:=dT b9;refine WS.seq ?_;refine wrg ?_;refine wr 1 ?_;obtain ⟨t67,ht67,H⟩:=bd H;refine WR.call (infl_fail_sp _ _ _ _ _ _ _ ht67) [some 0,some 8] rfl rfl rfl rfl rfl (n2 (rw_ rfl rfl) (n2 (rw_ rfl rfl) tv)) rfl rfl rfl rfl rfl ?_;refine wn ?_;refine WS.ret ?_;cases H;exact ⟨tv,[some 0,some 1,some 2,some 3,some 8],_,rfl,rfl,(n2 (rw_ rfl rfl) (n2 (rd_ rfl) (n2 rfl (n2 rfl (n2 (rw_ rfl rfl) tv))))),rfl,rfl,rfl⟩
     ·
      rw [ifN b9] at H;replace b9:=dF b9;refine WS.skip ?_;refine WS.seq ?_;refine wrg ?_;obtain ⟨g10,H⟩:=gd H;obtain ⟨g11,H⟩:=gd H;obtain ⟨g12,H⟩:=gd H;refine wr 13 ?_;obtain ⟨t81,ht81,H⟩:=bd H;refine WR.call (infl_bits_sp _ _ _ _ _ _ _ _ ht81) [some 0,some 8] rfl rfl rfl rfl rfl (n2 (rw_ rfl rfl) (n2 (rw_ rfl rfl) tv)) rfl rfl rfl rfl rfl ?_;refine wr 2 ?_;refine wn ?_;refine WS.seq ?_;refine wrg ?_;refine wr 2 ?_;obtain ⟨t85,ht85,H⟩:=bd H;refine WR.call (infl_next_sp _ _ _ _ _ _ _ _ _ _ _ _ _ _ _ _ _ _ _ _ _ _ _ _ ht85) [some 0,some 8,some 3] rfl rfl rfl rfl rfl (n2 (rw_ rfl rfl) (n2 (rw_ rfl rfl) (n2 rfl tv))) rfl rfl rfl rfl rfl ?_;refine wr 1 ?_;refine wn ?_;refine WS.seq ?_;refine WS.seq ?_;refine wrg ?_;refine wr 6 ?_;refine WR.split 91 rfl (fun b13=>?_) (fun b13=>?_)
      ·
       rw [ifE b13] at H;replace b13:=eq_of_beq b13;refine wr 3 ?_;refine wn ?_;refine WS.cond rfl (fun b14=>?_) (fun b14=>?_)
       ·
        rw [ifP b14] at H;replace b14:=dT b14;refine wrg ?_;refine wr 1 ?_;obtain ⟨t96,ht96,H⟩:=bd H;refine WR.call (infl_fail_sp _ _ _ _ _ _ _ ht96) [some 0,some 8] rfl rfl rfl rfl rfl (n2 (rw_ rfl rfl) (n2 (rw_ rfl rfl) tv)) rfl rfl rfl rfl rfl ?_;refine wn ?_;refine WS.seq ?_;refine WS.seq ?_;refine wrg ?_;refine wr 5 ?_;refine wn ?_;refine WS.cond rfl (fun b15=>?_) (fun b15=>?_)
        ·
         rw [ifX b15] at H;replace b15:=nT b15;refine WS.ret ?_;cases H;exact ⟨tv,[some 0,some 1,some 2,some 3,some 8],_,rfl,rfl,(n2 (rw_ rfl rfl) (n2 (rd_ rfl) (n2 rfl (n2 rfl (n2 (rw_ rfl rfl) tv))))),rfl,rfl,rfl⟩
        ·
         rw [ifXn b15] at H;replace b15:=nF b15;exact nn H
       ·
        rw [ifN b14] at H;replace b14:=dF b14;refine WS.skip ?_;refine WS.seq ?_;refine WS.seq ?_;refine wrg ?_;refine wr 5 ?_;refine wn ?_;refine WS.cond rfl (fun b16=>?_) (fun b16=>?_)
        ·
         rw [ifX b16] at H;replace b16:=nT b16;refine WS.ret ?_;cases H;exact ⟨tv,[some 0,some 1,some 2,some 3,some 8],_,rfl,rfl,(n2 (rw_ rfl rfl) (n2 (rd_ rfl) (n2 rfl (n2 rfl (n2 (rw_ rfl rfl) tv))))),rfl,rfl,rfl⟩
        ·
         rw [ifXn b16] at H;replace b16:=nF b16;refine WS.skip ?_;refine WS.seq ?_;refine wrg ?_;obtain ⟨g17,H⟩:=gd H;obtain ⟨g18,H⟩:=gd H;obtain ⟨g19,H⟩:=gd H;refine wr 9 ?_;obtain ⟨QL,ht111,H⟩:=bd H;refine WR.call (infl_bits_sp _ _ _ _ _ _ _ _ ht111) [some 0,some 8] rfl rfl rfl rfl rfl (n2 (rw_ rfl rfl) (n2 (rw_ rfl rfl) tv)) rfl rfl rfl rfl rfl ?_;refine wr 2 ?_;refine wn ?_;refine WS.block ?_;refine WS.seq ?_;refine wrg ?_;refine wr 6 ?_;refine wn ?_;refine WS.cond rfl (fun b20=>?_) (fun b20=>?_)
         ·
          rw [ifX b20] at H;replace b20:=nT b20;refine WS.ret ?_;cases H;exact ⟨tv,[some 0,some 1,some 2,some 3,some 8],_,rfl,rfl,(n2 (rw_ rfl rfl) (n2 (rd_ rfl) (n2 rfl (n2 rfl (n2 (rw_ rfl rfl) tv))))),rfl,rfl,rfl⟩
         ·
          rw [ifXn b20] at H;replace b20:=nF b20;refine WS.seq ?_;refine wrg ?_;refine wr 8 ?_;refine wn ?_;refine WS.cond rfl (fun b21=>?_) (fun b21=>?_)
          ·
           rw [ifP b21] at H;replace b21:=dT b21;refine wrg ?_;refine wr 1 ?_;obtain ⟨QO,ht154,H⟩:=bd H;refine WR.call (infl_fail_sp _ _ _ _ _ _ _ ht154) [some 0,some 8] rfl rfl rfl rfl rfl (n2 (rw_ rfl rfl) (n2 (rw_ rfl rfl) tv)) rfl rfl rfl rfl rfl ?_;refine wn ?_;refine wcut [some 0,some 1,some 2,some 3,some 4,some 5,some 6,some 7,some 8,some 9,some 10] [(6,c1 (.sl 4 x6.length)),(7,c1 (.sl 5 x7.length)),(8,c1 (.sl 6 x8.length)),(9,c1 (.sl 7 x9.length)),(0,c1 (.ptr 0 0 0 0)),(1,.v (.agg [.n Qd,.n Qe,.n Qf,.n Qg,.n Qh,.n Qi,.n Qj,.n Qk,.n Ql,.n Qm,.n Qn,.n Qo,.n Qp,.n Qq,.n Qr,.n Qs,.sl 2 Qb.length])),(2,.v (.agg [.n Qt,.n Qu,.n Qv,.n Qw,.n Qx,.n Qy,.n Qz,.n QA,.n QB,.n QC,.n QD,.n QE,.n QF,.n QG,.n QH,.n QI,.sl 3 Qc.length])),(4,c1 (.ptr 9 0 0 0)),(5,c1 (.ptr 10 0 0 0))] [⟨.box [.str s,.n QL.2.1,.sl 8 Qa.length,.n m,.n QO],0,true⟩,⟨.dead,1,true⟩,⟨.view 3 Qb,2,false⟩,⟨.view 3 Qc,3,false⟩,⟨.own 3 x6,4,true⟩,⟨.own 3 x7,5,true⟩,⟨.own 3 x8,6,true⟩,⟨.own 3 x9,7,true⟩,⟨.own 5 Qa,1,true⟩,⟨.box [.n Qd,.n Qe,.n Qf,.n Qg,.n Qh,.n Qi,.n Qj,.n Qk,.n Ql,.n Qm,.n Qn,.n Qo,.n Qp,.n Qq,.n Qr,.n Qs,.sl 2 Qb.length],9,true⟩,⟨.box [.n Qt,.n Qu,.n Qv,.n Qw,.n Qx,.n Qy,.n Qz,.n QA,.n QB,.n QC,.n QD,.n QE,.n QF,.n QG,.n QH,.n QI,.sl 3 Qc.length],10,true⟩] (n2 rfl (n2 rfl (n2 rfl (n2 rfl (n2 rfl (n2 rfl (n2 rfl (n2 rfl (n2 rfl tv))))))))) (n2 (rw_ rfl rfl) (n2 (rd_ rfl) (n2 rfl (n2 rfl (n2 (rw_ rfl rfl) (n2 (rw_ rfl rfl) (n2 (rw_ rfl rfl) (n2 (rw_ rfl rfl) (n2 (rw_ rfl rfl) (n2 (rw_ rfl rfl) (n2 (rw_ rfl rfl) tv))))))))))) (by rw [hnp];rfl) (fun g=>?_)
           exact ih1 k (by omega) _ _ ⟨g,_,_,_,_,_,_,_,by omega,rfl,rfl,H⟩
          ·
           rw [ifN b21] at H;replace b21:=dF b21;refine WS.seq ?_;refine wrg ?_;refine wr 13 ?_;refine wn ?_;refine WS.cond rfl (fun b22=>?_) (fun b22=>?_)
           ·
            rw [ifP b22] at H;replace b22:=dT b22;refine wrg ?_;refine wr 1 ?_;obtain ⟨QP,ht169,H⟩:=bd H;refine WR.call (infl_fail_sp _ _ _ _ _ _ _ ht169) [some 0,some 8] rfl rfl rfl rfl rfl (n2 (rw_ rfl rfl) (n2 (rw_ rfl rfl) tv)) rfl rfl rfl rfl rfl ?_;refine wn ?_;refine wcut [some 0,some 1,some 2,some 3,some 4,some 5,some 6,some 7,some 8,some 9,some 10] [(6,c1 (.sl 4 x6.length)),(7,c1 (.sl 5 x7.length)),(8,c1 (.sl 6 x8.length)),(9,c1 (.sl 7 x9.length)),(0,c1 (.ptr 0 0 0 0)),(1,.v (.agg [.n Qd,.n Qe,.n Qf,.n Qg,.n Qh,.n Qi,.n Qj,.n Qk,.n Ql,.n Qm,.n Qn,.n Qo,.n Qp,.n Qq,.n Qr,.n Qs,.sl 2 Qb.length])),(2,.v (.agg [.n Qt,.n Qu,.n Qv,.n Qw,.n Qx,.n Qy,.n Qz,.n QA,.n QB,.n QC,.n QD,.n QE,.n QF,.n QG,.n QH,.n QI,.sl 3 Qc.length])),(4,c1 (.ptr 9 0 0 0)),(5,c1 (.ptr 10 0 0 0))] [⟨.box [.str s,.n QL.2.1,.sl 8 Qa.length,.n m,.n QP],0,true⟩,⟨.dead,1,true⟩,⟨.view 3 Qb,2,false⟩,⟨.view 3 Qc,3,false⟩,⟨.own 3 x6,4,true⟩,⟨.own 3 x7,5,true⟩,⟨.own 3 x8,6,true⟩,⟨.own 3 x9,7,true⟩,⟨.own 5 Qa,1,true⟩,⟨.box [.n Qd,.n Qe,.n Qf,.n Qg,.n Qh,.n Qi,.n Qj,.n Qk,.n Ql,.n Qm,.n Qn,.n Qo,.n Qp,.n Qq,.n Qr,.n Qs,.sl 2 Qb.length],9,true⟩,⟨.box [.n Qt,.n Qu,.n Qv,.n Qw,.n Qx,.n Qy,.n Qz,.n QA,.n QB,.n QC,.n QD,.n QE,.n QF,.n QG,.n QH,.n QI,.sl 3 Qc.length],10,true⟩] (n2 rfl (n2 rfl (n2 rfl (n2 rfl (n2 rfl (n2 rfl (n2 rfl (n2 rfl (n2 rfl tv))))))))) (n2 (rw_ rfl rfl) (n2 (rd_ rfl) (n2 rfl (n2 rfl (n2 (rw_ rfl rfl) (n2 (rw_ rfl rfl) (n2 (rw_ rfl rfl) (n2 (rw_ rfl rfl) (n2 (rw_ rfl rfl) (n2 (rw_ rfl rfl) (n2 (rw_ rfl rfl) tv))))))))))) (by rw [hnp];rfl) (fun g=>?_)
            exact ih1 k (by omega) _ _ ⟨g,_,_,_,_,_,_,_,by omega,rfl,rfl,H⟩
           ·
            rw [ifN b22] at H;replace b22:=dF b22;refine WS.seq ?_;refine wrg ?_;refine wr 2 ?_;refine wn ?_;refine WS.block ?_;refine wcut [some 0,some 1,some 2,some 3,some 4,some 5,some 6,some 7,some 8,some 9,some 10] [(6,c1 (.sl 4 x6.length)),(7,c1 (.sl 5 x7.length)),(8,c1 (.sl 6 x8.length)),(9,c1 (.sl 7 x9.length)),(12,c1 (.n ((wrap64 ((rd x8 t85.1)+QL.1))))),(113,c1 (.n ((wrap64 ((rd x6 (wrap64 ((wrap64 (t26.1 - 256)) - 1)))+t81.1))))),(114,c1 (.n 0)),(0,c1 (.ptr 0 0 0 0)),(1,.v (.agg [.n Qd,.n Qe,.n Qf,.n Qg,.n Qh,.n Qi,.n Qj,.n Qk,.n Ql,.n Qm,.n Qn,.n Qo,.n Qp,.n Qq,.n Qr,.n Qs,.sl 2 Qb.length])),(2,.v (.agg [.n Qt,.n Qu,.n Qv,.n Qw,.n Qx,.n Qy,.n Qz,.n QA,.n QB,.n QC,.n QD,.n QE,.n QF,.n QG,.n QH,.n QI,.sl 3 Qc.length])),(4,c1 (.ptr 9 0 0 0)),(5,c1 (.ptr 10 0 0 0))] [⟨.box [.str s,.n QL.2.1,.sl 8 Qa.length,.n m,.n QL.2.2],0,true⟩,⟨.dead,1,true⟩,⟨.view 3 Qb,2,false⟩,⟨.view 3 Qc,3,false⟩,⟨.own 3 x6,4,true⟩,⟨.own 3 x7,5,true⟩,⟨.own 3 x8,6,true⟩,⟨.own 3 x9,7,true⟩,⟨.own 5 Qa,1,true⟩,⟨.box [.n Qd,.n Qe,.n Qf,.n Qg,.n Qh,.n Qi,.n Qj,.n Qk,.n Ql,.n Qm,.n Qn,.n Qo,.n Qp,.n Qq,.n Qr,.n Qs,.sl 2 Qb.length],9,true⟩,⟨.box [.n Qt,.n Qu,.n Qv,.n Qw,.n Qx,.n Qy,.n Qz,.n QA,.n QB,.n QC,.n QD,.n QE,.n QF,.n QG,.n QH,.n QI,.sl 3 Qc.length],10,true⟩] (n2 rfl (n2 rfl (n2 rfl (n2 rfl (n2 rfl (n2 rfl (n2 rfl (n2 rfl (n2 rfl (n2 rfl (n2 rfl (n2 rfl tv)))))))))))) (n2 (rw_ rfl rfl) (n2 (rd_ rfl) (n2 rfl (n2 rfl (n2 (rw_ rfl rfl) (n2 (rw_ rfl rfl) (n2 (rw_ rfl rfl) (n2 (rw_ rfl rfl) (n2 (rw_ rfl rfl) (n2 (rw_ rfl rfl) (n2 (rw_ rfl rfl) tv))))))))))) (by rw [hnp];rfl) (fun g=>?_)
            refine WS.loop (fun k1 ρ h=>∃ (g:Nat → SV) (x6:List Int) (x7:List Int) (x8:List Int) (x9:List Int) (x12:Int) (QM:Int) (QN:Int) (QJ:Int) (Qa:List Int) (QK:Int),k1≤k∧ρ=upds g [(6,c1 (.sl 4 x6.length)),(7,c1 (.sl 5 x7.length)),(8,c1 (.sl 6 x8.length)),(9,c1 (.sl 7 x9.length)),(12,c1 (.n x12)),(113,c1 (.n QM)),(114,c1 (.n QN)),(0,c1 (.ptr 0 0 0 0)),(1,.v (.agg [.n Qd,.n Qe,.n Qf,.n Qg,.n Qh,.n Qi,.n Qj,.n Qk,.n Ql,.n Qm,.n Qn,.n Qo,.n Qp,.n Qq,.n Qr,.n Qs,.sl 2 Qb.length])),(2,.v (.agg [.n Qt,.n Qu,.n Qv,.n Qw,.n Qx,.n Qy,.n Qz,.n QA,.n QB,.n QC,.n QD,.n QE,.n QF,.n QG,.n QH,.n QI,.sl 3 Qc.length])),(4,c1 (.ptr 9 0 0 0)),(5,c1 (.ptr 10 0 0 0))]∧h=[⟨.box [.str s,.n QJ,.sl 8 Qa.length,.n m,.n QK],0,true⟩,⟨.dead,1,true⟩,⟨.view 3 Qb,2,false⟩,⟨.view 3 Qc,3,false⟩,⟨.own 3 x6,4,true⟩,⟨.own 3 x7,5,true⟩,⟨.own 3 x8,6,true⟩,⟨.own 3 x9,7,true⟩,⟨.own 5 Qa,1,true⟩,⟨.box [.n Qd,.n Qe,.n Qf,.n Qg,.n Qh,.n Qi,.n Qj,.n Qk,.n Ql,.n Qm,.n Qn,.n Qo,.n Qp,.n Qq,.n Qr,.n Qs,.sl 2 Qb.length],9,true⟩,⟨.box [.n Qt,.n Qu,.n Qv,.n Qw,.n Qx,.n Qy,.n Qz,.n QA,.n QB,.n QC,.n QD,.n QE,.n QF,.n QG,.n QH,.n QI,.sl 3 Qc.length],10,true⟩]∧infl_codes.l1 k1 x6 x7 x8 x9 x12 QM QN Qd Qe Qf Qg Qh Qi Qj Qk Ql Qm Qn Qo Qp Qq Qr Qs Qb Qt Qu Qv Qw Qx Qy Qz QA QB QC QD QE QF QG QH QI Qc s QJ Qa m QK=some r) ?_ (n:=k) ⟨g,_,_,_,_,_,_,_,_,_,_,Nat.le_refl _,rfl,rfl,H⟩;rintro k ρ h ih23 ⟨g,x6,x7,x8,x9,x12,QM,QN,QJ,Qa,QK,hkih23,rfl,rfl,H⟩
            rcases k with _ | k
            ·exact nn H
            simp only [infl_codes.l1] at H;refine WS.seq ?_;refine wrg ?_;refine wr 1 ?_;refine wn ?_;refine WS.seq ?_;refine WS.cond rfl (fun b24=>?_) (fun b24=>?_)
            ·
             rw [ifP b24] at H;replace b24:=dT b24;refine WS.skip ?_;refine WS.seq ?_;refine WS.block ?_;refine wrg ?_;obtain ⟨g25,H⟩:=gd H;obtain ⟨g26,H⟩:=gd H;obtain ⟨g27,H⟩:=gd H;refine wr 23 ?_;refine wn ?_;refine wrg ?_;refine wr 2 ?_;refine wn ?_;refine wcut [some 0,some 1,some 2,some 3,some 4,some 5,some 6,some 7,some 12,some 9,some 10] [(6,c1 (.sl 4 x6.length)),(7,c1 (.sl 5 x7.length)),(8,c1 (.sl 6 x8.length)),(9,c1 (.sl 7 x9.length)),(12,c1 (.n x12)),(113,c1 (.n QM)),(114,c1 (.n ((wrap64 (QN+1))))),(0,c1 (.ptr 0 0 0 0)),(1,.v (.agg [.n Qd,.n Qe,.n Qf,.n Qg,.n Qh,.n Qi,.n Qj,.n Qk,.n Ql,.n Qm,.n Qn,.n Qo,.n Qp,.n Qq,.n Qr,.n Qs,.sl 2 Qb.length])),(2,.v (.agg [.n Qt,.n Qu,.n Qv,.n Qw,.n Qx,.n Qy,.n Qz,.n QA,.n QB,.n QC,.n QD,.n QE,.n QF,.n QG,.n QH,.n QI,.sl 3 Qc.length])),(4,c1 (.ptr 9 0 0 0)),(5,c1 (.ptr 10 0 0 0))] [⟨.box [.str s,.n QJ,.sl 8 ((Qa ++ [rd Qa (wrap64 ((Qa.length:Int) - x12))])).length,.n m,.n QK],0,true⟩,⟨.dead,1,true⟩,⟨.view 3 Qb,2,false⟩,⟨.view 3 Qc,3,false⟩,⟨.own 3 x6,4,true⟩,⟨.own 3 x7,5,true⟩,⟨.own 3 x8,6,true⟩,⟨.own 3 x9,7,true⟩,⟨.own 5 (((Qa ++ [rd Qa (wrap64 ((Qa.length:Int) - x12))])):List Int),1,true⟩,⟨.box [.n Qd,.n Qe,.n Qf,.n Qg,.n Qh,.n Qi,.n Qj,.n Qk,.n Ql,.n Qm,.n Qn,.n Qo,.n Qp,.n Qq,.n Qr,.n Qs,.sl 2 Qb.length],9,true⟩,⟨.box [.n Qt,.n Qu,.n Qv,.n Qw,.n Qx,.n Qy,.n Qz,.n QA,.n QB,.n QC,.n QD,.n QE,.n QF,.n QG,.n QH,.n QI,.sl 3 Qc.length],10,true⟩] (n2 rfl (n2 rfl (n2 rfl (n2 rfl (n2 rfl (n2 rfl (n2 rfl (n2 rfl (n2 rfl (n2 rfl (n2 rfl (n2 rfl tv)))))))))))) (n2 (rw_ rfl rfl) (n2 (rd_ rfl) (n2 rfl (n2 rfl (n2 (rw_ rfl rfl) (n2 (rw_ rfl rfl) (n2 (rw_ rfl rfl) (n2 (rw_ rfl rfl) (n2 (rw_ rfl rfl) (n2 (rw_ rfl rfl) (n2 (rw_ rfl rfl) tv))))))))))) (by rw [hnp];rfl) (fun g=>?_)
             exact ih23 k (by omega) _ _ ⟨g,_,_,_,_,_,_,_,_,_,_,by omega,rfl,rfl,H⟩
            ·
             rw [ifN b24] at H;replace b24:=dF b24;refine WS.exit ?_;refine wcut [some 0,some 1,some 2,some 3,some 4,some 5,some 6,some 7,some 8,some 9,some 10] [(6,c1 (.sl 4 x6.length)),(7,c1 (.sl 5 x7.length)),(8,c1 (.sl 6 x8.length)),(9,c1 (.sl 7 x9.length)),(0,c1 (.ptr 0 0 0 0)),(1,.v (.agg [.n Qd,.n Qe,.n Qf,.n Qg,.n Qh,.n Qi,.n Qj,.n Qk,.n Ql,.n Qm,.n Qn,.n Qo,.n Qp,.n Qq,.n Qr,.n Qs,.sl 2 Qb.length])),(2,.v (.agg [.n Qt,.n Qu,.n Qv,.n Qw,.n Qx,.n Qy,.n Qz,.n QA,.n QB,.n QC,.n QD,.n QE,.n QF,.n QG,.n QH,.n QI,.sl 3 Qc.length])),(4,c1 (.ptr 9 0 0 0)),(5,c1 (.ptr 10 0 0 0))] [⟨.box [.str s,.n QJ,.sl 8 Qa.length,.n m,.n QK],0,true⟩,⟨.dead,1,true⟩,⟨.view 3 Qb,2,false⟩,⟨.view 3 Qc,3,false⟩,⟨.own 3 x6,4,true⟩,⟨.own 3 x7,5,true⟩,⟨.own 3 x8,6,true⟩,⟨.own 3 x9,7,true⟩,⟨.own 5 Qa,1,true⟩,⟨.box [.n Qd,.n Qe,.n Qf,.n Qg,.n Qh,.n Qi,.n Qj,.n Qk,.n Ql,.n Qm,.n Qn,.n Qo,.n Qp,.n Qq,.n Qr,.n Qs,.sl 2 Qb.length],9,true⟩,⟨.box [.n Qt,.n Qu,.n Qv,.n Qw,.n Qx,.n Qy,.n Qz,.n QA,.n QB,.n QC,.n QD,.n QE,.n QF,.n QG,.n QH,.n QI,.sl 3 Qc.length],10,true⟩] (n2 rfl (n2 rfl (n2 rfl (n2 rfl (n2 rfl (n2 rfl (n2 rfl (n2 rfl (n2 rfl tv))))))))) (n2 (rw_ rfl rfl) (n2 (rd_ rfl) (n2 rfl (n2 rfl (n2 (rw_ rfl rfl) (n2 (rw_ rfl rfl) (n2 (rw_ rfl rfl) (n2 (rw_ rfl rfl) (n2 (rw_ rfl rfl) (n2 (rw_ rfl rfl) (n2 (rw_ rfl rfl) tv))))))))))) (by rw [hnp];rfl) (fun g=>?_);exact ih1 k (by omega) _ _ ⟨g,_,_,_,_,_,_,_,by omega,rfl,rfl,H⟩
      ·
       rw [ifEn b13] at H;replace b13:=bF b13;refine wr 3 ?_;refine wn ?_;refine WS.cond rfl (fun h=>nomatch h) (fun _=>?_);refine WS.skip ?_;refine WS.seq ?_;refine WS.seq ?_;refine wrg ?_;refine wr 5 ?_;refine wn ?_;refine WS.cond rfl (fun b29=>?_) (fun b29=>?_)
       ·
        rw [ifX b29] at H;replace b29:=nT b29;refine WS.ret ?_;cases H;exact ⟨tv,[some 0,some 1,some 2,some 3,some 8],_,rfl,rfl,(n2 (rw_ rfl rfl) (n2 (rd_ rfl) (n2 rfl (n2 rfl (n2 (rw_ rfl rfl) tv))))),rfl,rfl,rfl⟩
       ·
        rw [ifXn b29] at H;replace b29:=nF b29;exact nn H
 ·
  rw [ifEn b2] at H;replace b2:=bF b2;refine WS.exit ?_;cases H;exact ⟨tv,[some 0,some 1,some 2,some 3,some 8],_,rfl,rfl,(n2 (rw_ rfl rfl) (n2 (rd_ rfl) (n2 rfl (n2 rfl (n2 (rw_ rfl rfl) tv))))),rfl,rfl,rfl⟩
end Go.Proofs.Ytpbhkdamkbopkaa.Rs
namespace Go.Proofs.Ytpbhkdamkbopkaa.Rs
open Go Go.RowKit Rf YtpbhkdamkbopkaaW.PrintWords Go.Proofs.Ytpbhkdamkbopkaa GInfl GPix
set_option maxRecDepth 10000
set_option maxHeartbeats 4000000
variable {O:Orc}
theorem infl_plain_sp (k:Nat)  (r:List Int × List Int) (H:infl_plain.f k =some r):Sp (KT:=kt) Try.prog O 96 [] [] (.t [.c (.sl 0 r.1.length),.c (.sl 1 r.2.length)]) [⟨.own 3 r.1,0,true⟩,⟨.own 3 r.2,1,true⟩]:=by
 refine Sp.of tok (by kernel_rfl) Try.func96 rfl rfl fun Γ hnp=>?_;unfold infl_plain.f at H;refine WS.seq ?_;refine wrg ?_;refine wr 2 ?_;refine wn ?_;refine WS.seq ?_;refine wrg ?_;refine wr 1 ?_;obtain ⟨t5,ht5,H⟩:=bd H;refine WR.call (infl_rep_sp _ _ _ ht5) [some 0] rfl rfl rfl rfl rfl (n2 rfl tv) rfl rfl rfl rfl rfl ?_;refine wr 1 ?_;refine wn ?_;refine WS.seq ?_;refine WS.seq ?_;refine wrg ?_;refine wr 1 ?_;refine wn ?_;refine WS.block ?_;refine wcut [some 1] [(2,c1 (.sl 0 t5.length)),(3,c1 (.n 144))] [⟨.own 3 t5,0,true⟩] (n2 rfl (n2 rfl tv)) (n2 (rw_ rfl rfl) tv) (by rw [hnp];rfl) (fun g=>?_);refine WS.loop (fun k1 ρ h=>∃ (g:Nat → SV) (x2:List Int) (x3:Int),k1≤k∧ρ=upds g [(2,c1 (.sl 0 x2.length)),(3,c1 (.n x3))]∧h=[⟨.own 3 x2,0,true⟩]∧infl_plain.l0 k1 x2 x3=some r) ?_ (n:=k) ⟨g,_,_,Nat.le_refl _,rfl,rfl,H⟩;rintro k ρ h ih1 ⟨g,x2,x3,hkih1,rfl,rfl,H⟩
 rcases k with _ | k
 ·exact nn H
 simp only [infl_plain.l0] at H;refine WS.seq ?_;refine WS.seq ?_;refine wrg ?_;refine wr 2 ?_;refine wn ?_;refine WS.cond rfl (fun b2=>?_) (fun b2=>?_)
 ·
  rw [ifP b2] at H;replace b2:=dT b2;refine WS.skip ?_;refine WS.seq ?_;refine WS.block ?_;refine WS.seq ?_;refine wrg ?_;obtain ⟨g3,H⟩:=gd H;obtain ⟨g4,H⟩:=gd H;refine wr 4 ?_;refine wn ?_;refine WS.seq ?_;refine wrg ?_;refine wr 2 ?_;refine wn ?_;refine WS.cond rfl (fun b5=>?_) (fun b5=>?_)
  ·
   rw [ifP b5] at H;replace b5:=dT b5;refine wrg ?_;obtain ⟨g6,H⟩:=gd H;refine wr 4 ?_;refine wn ?_;refine wrg ?_;refine wr 3 ?_;refine wn ?_;refine wcut [some 0] [(2,c1 (.sl 0 (((x2.set (x3:Int).toNat 7).set (x3:Int).toNat 9)).length)),(3,c1 (.n ((wrap64 (x3+1)))))] [⟨.own 3 ((((x2.set (x3:Int).toNat 7).set (x3:Int).toNat 9)):List Int),0,true⟩] (n2 (sl_ rfl rfl (by simp)) (n2 rfl tv)) (n2 (rw_ rfl rfl) tv) (by rw [hnp];rfl) (fun g=>?_);exact ih1 k (by omega) _ _ ⟨g,_,_,by omega,rfl,rfl,H⟩
  ·
   rw [ifN b5] at H;replace b5:=dF b5;refine WS.skip ?_;refine wrg ?_;refine wr 3 ?_;refine wn ?_;refine wcut [some 0] [(2,c1 (.sl 0 ((x2.set (x3:Int).toNat 7)).length)),(3,c1 (.n ((wrap64 (x3+1)))))] [⟨.own 3 (((x2.set (x3:Int).toNat 7)):List Int),0,true⟩] (n2 (sl_ rfl rfl (by simp)) (n2 rfl tv)) (n2 (rw_ rfl rfl) tv) (by rw [hnp];rfl) (fun g=>?_);exact ih1 k (by omega) _ _ ⟨g,_,_,by omega,rfl,rfl,H⟩
 ·
  rw [ifN b2] at H;replace b2:=dF b2;refine WS.exit ?_;refine WS.seq ?_;refine wrg ?_;refine wr 2 ?_;obtain ⟨t20,ht20,H⟩:=bd H;refine WR.call (infl_rep_sp _ _ _ ht20) [some 1] rfl rfl rfl rfl rfl (n2 rfl tv) rfl rfl rfl rfl rfl ?_;refine wr 2 ?_;refine wn ?_;refine WS.ret ?_;cases H;exact ⟨tv,[some 0,some 2],_,rfl,rfl,(n2 (rw_ rfl rfl) (n2 (rw_ rfl rfl) tv)),rfl,rfl,rfl⟩
theorem infl_block_sp (k:Nat) (s:ByteArray) (p:Int) (o:List Int) (m:Int) (e:Int) (r:Bool × List Int × Int × Int) (H:infl_block.f k s p o m e=some r):Sp (KT:=kt) Try.prog O 72 [c1 (.ptr 0 0 0 0)] [⟨.box [.str s,.n p,.sl 1 o.length,.n m,.n e],0,true⟩,⟨.own 5 o,1,true⟩] (c1 (.bool r.1)) [⟨.box [.str s,.n r.2.2.1,.sl 2 r.2.1.length,.n m,.n r.2.2.2],0,true⟩,⟨.dead,1,true⟩,⟨.own 5 r.2.1,1,true⟩]:=by
 refine Sp.of tok (by kernel_rfl) Try.func72 rfl rfl fun Γ hnp=>?_;unfold infl_block.f at H;refine WS.seq ?_;refine wrg ?_;refine wr 1 ?_;refine wn ?_;refine WS.seq ?_;refine wrg ?_;refine wr 1 ?_;obtain ⟨t9,ht9,H⟩:=bd H;refine WR.call (infl_bits_sp _ _ _ _ _ _ _ _ ht9) [some 0,some 1] rfl rfl rfl rfl rfl (n2 (rw_ rfl rfl) (n2 (rw_ rfl rfl) tv)) rfl rfl rfl rfl rfl ?_;refine wr 2 ?_;refine wn ?_;refine WS.seq ?_;refine WS.seq ?_;refine wrg ?_;refine wr 1 ?_;obtain ⟨t12,ht12,H⟩:=bd H;refine WR.call (infl_bits_sp _ _ _ _ _ _ _ _ ht12) [some 0,some 1] rfl rfl rfl rfl rfl (n2 (rw_ rfl rfl) (n2 (rw_ rfl rfl) tv)) rfl rfl rfl rfl rfl ?_;refine wn ?_;refine WS.block ?_;refine WS.seq ?_;refine wrg ?_;refine wr 2 ?_;refine wn ?_;refine WS.cond rfl (fun b1=>?_) (fun b1=>?_)
 ·
  rw [ifE b1] at H;replace b1:=eq_of_beq b1;refine WS.seq ?_;refine wrg ?_;refine wr 5 ?_;refine wn ?_;refine WS.cond rfl (fun b2=>?_) (fun b2=>?_)
  ·
   rw [ifE b2] at H;replace b2:=eq_of_beq b2;refine wrg ?_;refine wr 1 ?_;obtain ⟨t23,ht23,H⟩:=bd H;refine WR.call (infl_stored_sp _ _ _ _ _ _ _ ht23) [some 0,some 1] rfl rfl rfl rfl rfl (n2 (rw_ rfl rfl) (n2 (rw_ rfl rfl) tv)) rfl rfl rfl rfl rfl ?_;refine wn ?_;refine WS.seq ?_;refine wrg ?_;refine wr 2 ?_;refine wn ?_;refine WS.ret ?_;cases H;exact ⟨tv,[some 0,some 1,some 2],_,rfl,rfl,(n2 (rw_ rfl rfl) (n2 (rd_ rfl) (n2 (rw_ rfl rfl) tv))),rfl,rfl,rfl⟩
  ·
   rw [ifEn b2] at H;replace b2:=bF b2;refine WS.skip ?_;refine WS.seq ?_;refine wrg ?_;refine wr 2 ?_;refine wn ?_;refine WS.ret ?_;cases H;exact ⟨tv,[some 0,some 1,some 1],_,rfl,rfl,(n2 (rw_ rfl rfl) (n2 (rd_ rfl) (n2 (rw_ rfl rfl) tv))),rfl,rfl,rfl⟩
 ·
  rw [ifEn b1] at H;replace b1:=bF b1;refine WS.seq ?_;refine wrg ?_;refine wr 2 ?_;refine wn ?_;refine WS.cond rfl (fun b3=>?_) (fun b3=>?_)
  ·
   rw [ifE b3] at H;replace b3:=eq_of_beq b3;refine WS.seq ?_;refine wrg ?_;obtain ⟨t27,ht27,H⟩:=bd H;refine WR.call (infl_plain_sp _  _ ht27) [] rfl rfl rfl rfl rfl tv rfl rfl rfl rfl rfl ?_;refine wr 5 ?_;refine wn ?_;refine wrg ?_;refine wr 3 ?_;obtain ⟨t33,ht33,H⟩:=bd H;refine WR.call (infl_table_sp _ _ _ _ _ _ _ _ ht33) [some 0,some 1,some 2] rfl rfl rfl rfl rfl (n2 (rw_ rfl rfl) (n2 (rw_ rfl rfl) (n2 rfl tv))) rfl rfl rfl rfl rfl ?_;refine wr 2 ?_;obtain ⟨t36,ht36,H⟩:=bd H;refine WR.call (infl_table_sp _ _ _ _ _ _ _ _ ht36) [some 0,some 1,some 3] rfl rfl rfl rfl rfl (n2 (rw_ rfl rfl) (n2 (rw_ rfl rfl) (n2 rfl tv))) rfl rfl rfl rfl rfl ?_;obtain ⟨t37,ht37,H⟩:=bd H;refine WR.call (infl_codes_sp _ _ _ _ _ _ _ _ _ _ _ _ _ _ _ _ _ _ _ _ _ _ _ _ _ _ _ _ _ _ _ _ _ _ _ _ _ _ _ _ _ ht37) [some 0,some 1,some 4,some 5] rfl rfl rfl rfl rfl (n2 (rw_ rfl rfl) (n2 (rw_ rfl rfl) (n2 rfl (n2 rfl tv)))) rfl rfl rfl rfl rfl ?_;refine wn ?_;refine WS.seq ?_;refine wrg ?_;refine wr 2 ?_;refine wn ?_;refine WS.ret ?_;cases H;exact ⟨tv,[some 0,some 1,some 6],_,rfl,rfl,(n2 (rw_ rfl rfl) (n2 (rd_ rfl) (n2 (rw_ rfl rfl) tv))),rfl,rfl,rfl⟩
  ·
   rw [ifEn b3] at H;replace b3:=bF b3;refine WS.seq ?_;refine wrg ?_;refine wr 2 ?_;refine wn ?_;refine WS.cond rfl (fun b4=>?_) (fun b4=>?_)
   ·
    rw [ifE b4] at H;replace b4:=eq_of_beq b4;refine WS.seq ?_;refine wrg ?_;refine wr 1 ?_;obtain ⟨t42,ht42,H⟩:=bd H;refine WR.call (infl_lengths_sp _ _ _ _ _ _ _ ht42) [some 0,some 1] rfl rfl rfl rfl rfl (n2 (rw_ rfl rfl) (n2 (rw_ rfl rfl) tv)) rfl rfl rfl rfl rfl ?_;refine wr 5 ?_;refine wn ?_;refine wrg ?_;refine wr 3 ?_;obtain ⟨t33,ht33,H⟩:=bd H;refine WR.call (infl_table_sp _ _ _ _ _ _ _ _ ht33) [some 0,some 1,some 2] rfl rfl rfl rfl rfl (n2 (rw_ rfl rfl) (n2 (rw_ rfl rfl) (n2 rfl tv))) rfl rfl rfl rfl rfl ?_;refine wr 2 ?_;obtain ⟨t36,ht36,H⟩:=bd H;refine WR.call (infl_table_sp _ _ _ _ _ _ _ _ ht36) [some 0,some 1,some 3] rfl rfl rfl rfl rfl (n2 (rw_ rfl rfl) (n2 (rw_ rfl rfl) (n2 rfl tv))) rfl rfl rfl rfl rfl ?_;obtain ⟨t37,ht37,H⟩:=bd H;refine WR.call (infl_codes_sp _ _ _ _ _ _ _ _ _ _ _ _ _ _ _ _ _ _ _ _ _ _ _ _ _ _ _ _ _ _ _ _ _ _ _ _ _ _ _ _ _ ht37) [some 0,some 1,some 4,some 5] rfl rfl rfl rfl rfl (n2 (rw_ rfl rfl) (n2 (rw_ rfl rfl) (n2 rfl (n2 rfl tv)))) rfl rfl rfl rfl rfl ?_;refine wn ?_;refine WS.seq ?_;refine wrg ?_;refine wr 2 ?_;refine wn ?_;refine WS.ret ?_;cases H;exact ⟨tv,[some 0,some 1,some 6],_,rfl,rfl,(n2 (rw_ rfl rfl) (n2 (rd_ rfl) (n2 (rw_ rfl rfl) tv))),rfl,rfl,rfl⟩
   ·
    rw [ifEn b4] at H;replace b4:=bF b4;refine wrg ?_;refine wr 1 ?_;obtain ⟨t14,ht14,H⟩:=bd H;refine WR.call (infl_fail_sp _ _ _ _ _ _ _ ht14) [some 0,some 1] rfl rfl rfl rfl rfl (n2 (rw_ rfl rfl) (n2 (rw_ rfl rfl) tv)) rfl rfl rfl rfl rfl ?_;refine wn ?_;refine WS.seq ?_;refine wrg ?_;refine wr 2 ?_;refine wn ?_;refine WS.ret ?_;cases H;exact ⟨tv,[some 0,some 1,some 1],_,rfl,rfl,(n2 (rw_ rfl rfl) (n2 (rd_ rfl) (n2 (rw_ rfl rfl) tv))),rfl,rfl,rfl⟩
theorem infl_Raw_sp (k:Nat) (a0:ByteArray) (a1:Int) (r:ByteArray × Int × Int) (H:infl_Raw.f k a0 a1=some r):Sp (KT:=kt) Try.prog O 44 [c1 (.str a0),c1 (.n a1)] [] (.t [.c (.str r.1),.c (.n r.2.1),.c (.n r.2.2)]) []:=by
 refine Sp.of tok (by kernel_rfl) Try.func44 rfl rfl fun Γ hnp=>?_;unfold infl_Raw.f at H;refine WS.seq ?_;refine wrg ?_;refine wr 3 ?_;refine wn ?_;refine WS.seq ?_;refine WS.seq ?_;refine wrg ?_;refine wr 3 ?_;refine WR.split 10 rfl (fun b1=>?_) (fun b1=>?_)
 ·
  rw [ifP b1] at H;replace b1:=dT b1;refine wr 3 ?_;refine wn ?_;refine WS.cond rfl (fun _=>?_) (fun h=>nomatch h);refine WS.seq ?_;refine wrg ?_;refine wr 3 ?_;refine wn ?_;refine WS.ret ?_;cases H;exact ⟨tv,[],_,rfl,rfl,tv,rfl,rfl,rfl⟩
 ·
  rw [ifN b1] at H;replace b1:=dF b1;refine wr 3 ?_;refine wn ?_;refine WS.cond rfl (fun b3=>?_) (fun b3=>?_)
  ·
   rw [ifP b3] at H;replace b3:=dT b3;refine WS.seq ?_;refine wrg ?_;refine wr 3 ?_;refine wn ?_;refine WS.ret ?_;cases H;exact ⟨tv,[],_,rfl,rfl,tv,rfl,rfl,rfl⟩
  ·
   rw [ifN b3] at H;replace b3:=dF b3;refine WS.skip ?_;refine WS.seq ?_;refine wrg ?_;refine wr 5 ?_;refine wn ?_;refine WS.seq ?_;refine WS.block ?_;refine wcut [some 0,none] [(0,c1 (.str a0)),(1,c1 (.n a1)),(7,c1 (.ptr 0 0 0 0)),(17,c1 (.ptr 0 0 0 0))] [⟨.box [.str a0,.n 0,.sl 1 (([]:List Int)).length,.n a1,.n 0],0,true⟩,⟨.own 5 ((([]:List Int)):List Int),1,true⟩] (n2 rfl (n2 rfl (n2 rfl (n2 rfl tv)))) (n2 (rw_ rfl rfl) (n2 rfl tv)) (by rw [hnp];rfl) (fun g=>?_);refine WS.loop (fun k1 ρ h=>∃ (g:Nat → SV) (Qa:ByteArray) (Qd:Int) (Qb:List Int) (Qc:Int) (Qe:Int),k1≤k∧ρ=upds g [(0,c1 (.str a0)),(1,c1 (.n a1)),(7,c1 (.ptr 0 0 0 0)),(17,c1 (.ptr 0 0 0 0))]∧h=[⟨.box [.str Qa,.n Qd,.sl 1 Qb.length,.n Qc,.n Qe],0,true⟩,⟨.own 5 Qb,1,true⟩]∧infl_Raw.l0 k1 Qa Qd Qb Qc Qe=some r) ?_ (n:=k) ⟨g,_,_,_,_,_,Nat.le_refl _,rfl,rfl,H⟩;rintro k ρ h ih4 ⟨g,Qa,Qd,Qb,Qc,Qe,hkih4,rfl,rfl,H⟩
   rcases k with _ | k
   ·exact nn H
   simp only [infl_Raw.l0] at H;refine WS.seq ?_;refine WS.seq ?_;refine wrg ?_;refine wr 1 ?_;obtain ⟨t19,ht19,H⟩:=bd H;refine WR.call (infl_block_sp _ _ _ _ _ _ _ ht19) [some 0,some 1] rfl rfl rfl rfl rfl (n2 (rw_ rfl rfl) (n2 (rw_ rfl rfl) tv)) rfl rfl rfl rfl rfl ?_;refine wr 2 ?_;refine WR.split 21 rfl (fun b5=>?_) (fun b5=>?_)
   ·
    rw [ifZ b5] at H;refine wr 6 ?_;refine wn ?_;refine WS.cond rfl (fun b6=>?_) (fun b6=>?_)
    ·
     rw [ifE b6] at H;replace b6:=eq_of_beq b6;refine WS.skip ?_;refine WS.block ?_;refine WS.skip ?_;refine wcut [some 0,some 2] [(0,c1 (.str a0)),(1,c1 (.n a1)),(7,c1 (.ptr 0 0 0 0)),(17,c1 (.ptr 0 0 0 0))] [⟨.box [.str Qa,.n t19.2.2.1,.sl 1 t19.2.1.length,.n Qc,.n t19.2.2.2],0,true⟩,⟨.own 5 t19.2.1,1,true⟩] (n2 rfl (n2 rfl (n2 rfl (n2 rfl tv)))) (n2 (rw_ rfl rfl) (n2 (rw_ rfl rfl) tv)) (by rw [hnp];rfl) (fun g=>?_);exact ih4 k (by omega) _ _ ⟨g,_,_,_,_,_,by omega,rfl,rfl,H⟩
    ·
     rw [ifEn b6] at H;replace b6:=bF b6;refine WS.exit ?_;refine WS.seq ?_;refine WS.seq ?_;refine wrg ?_;refine wr 5 ?_;refine wn ?_;refine WS.cond rfl (fun b7=>?_) (fun b7=>?_)
     ·
      rw [ifX b7] at H;replace b7:=nT b7;refine WS.seq ?_;refine wrg ?_;refine wr 7 ?_;refine wn ?_;refine WS.ret ?_;cases H;exact ⟨tv,[],_,rfl,rfl,tv,rfl,rfl,rfl⟩
     ·
      rw [ifXn b7] at H;replace b7:=nF b7;refine WS.skip ?_;refine WS.seq ?_;refine wrg ?_;refine wr 14 ?_;refine wn ?_;refine WS.ret ?_;cases H;exact ⟨tv,[],_,rfl,rfl,tv,rfl,rfl,rfl⟩
   ·
    rw [ifZn b5] at H;refine wr 6 ?_;refine wn ?_;refine WS.cond rfl (fun h=>nomatch h) (fun _=>?_);refine WS.exit ?_;refine WS.seq ?_;refine WS.seq ?_;refine wrg ?_;refine wr 5 ?_;refine wn ?_;refine WS.cond rfl (fun b9=>?_) (fun b9=>?_)
    ·
     rw [ifX b9] at H;replace b9:=nT b9;refine WS.seq ?_;refine wrg ?_;refine wr 7 ?_;refine wn ?_;refine WS.ret ?_;cases H;exact ⟨tv,[],_,rfl,rfl,tv,rfl,rfl,rfl⟩
    ·
     rw [ifXn b9] at H;replace b9:=nF b9;refine WS.skip ?_;refine WS.seq ?_;refine wrg ?_;refine wr 14 ?_;refine wn ?_;refine WS.ret ?_;cases H;exact ⟨tv,[],_,rfl,rfl,tv,rfl,rfl,rfl⟩
end Go.Proofs.Ytpbhkdamkbopkaa.Rs
namespace Go.Proofs.Ytpbhkdamkbopkaa.Inf
open Go.RowKit Ext RefP Stage YtpbhkdamkbopkaaW.PrintWords YtpbhkdamkbopkaaW.PrintLast YtpbhkdamkbopkaaW.PrintMore
def Good (s:ByteArray) (p:Int) (lo hi:Int) (r:Int × Int × Int):Prop:=r.2.2=0∧0≤r.1∧r.1 < hi∧p+lo≤r.2.1∧r.2.1≤p+16∧r.2.1≤8*s.size ∨ r=(0,0,2) ∨ r=(0,0,4)
theorem stage_good (l : List Int) (hl : l.length ≤ 320) (s : ByteArray) (hs : s.size ≤ 140737488351232) (pos : Int) (h0 : 0 ≤ pos) (hp : pos ≤ 4611686018427387904) (d : Nat) : ∀ n : Nat, n + d = 15 → firstC l n ≤ Vn s pos n → (n = 0 ∨ pos + n ≤ 8 * s.size) →
  ∃ r,stageOf l s pos n=some r∧Good s pos 1 l.length r:=by
 induction d with
 |zero =>
  intro n hn hV hb;obtain rfl:n=15:=by omega
  unfold stageOf;by_cases c:Vn s pos 15 < Gn l 15;rotate_left
  ·rw [if_neg c,if_pos (show Sn l 15=(syms l).length from rfl)];exact ⟨_,rfl,.inr (.inr rfl)⟩
  rw [if_pos c];obtain ⟨i,e,hi,_⟩:=symbol_is l 15 (by decide) (by decide) _ hV c;refine ⟨_,rfl,.inl ⟨rfl,?_,?_,?_,?_,?_⟩⟩
  ·rw [e];omega
  ·rw [e];omega
  ·show pos+1≤pos+((15:Nat):Int);omega
  ·show pos+((15:Nat):Int)≤pos+16;omega
  ·show pos+((15:Nat):Int)≤8*s.size;omega
 |succ d ih =>
  intro n hn hV hb;by_cases c:Vn s pos n < Gn l n
  ·have hn1 : 1 ≤ n := by
    rcases Nat.eq_zero_or_pos n with h | h
    ·subst h;rw [Gn_zero] at c;exact absurd c (by show ¬ (0:Int) < 0;decide)
    ·exact h
   unfold stageOf;rw [if_pos c];obtain ⟨i,e,hi,_⟩:=symbol_is l n hn1 (by omega) _ hV c;refine ⟨_,rfl,.inl ⟨rfl,?_,?_,?_,?_,?_⟩⟩
   ·rw [e];omega
   ·rw [e];omega
   ·show pos+1≤pos+(n:Int);omega
   ·show pos+(n:Int)≤pos+16;omega
   ·show pos+(n:Int)≤8*s.size;omega
  by_cases c2:Sn l n=(syms l).length
  ·unfold stageOf;rw [if_neg c,if_pos c2];exact ⟨_,rfl,.inr (.inr rfl)⟩
  rw [stage_step l hl s hs pos h0 hp n (by omega) (by omega) c2];by_cases c3:pos+n < 8*s.size
  ·rw [if_pos c3];refine ih (n+1) (by omega) ?_ (.inr (by omega));have hV1:Vn s pos (n+1)=2*Vn s pos n+bitN s (pos+n):=rfl;have hbr:=bitN_rng s (pos+n);rw [firstC_succ,hV1];omega
  ·rw [if_neg c3];exact ⟨_,rfl,.inr (.inl rfl)⟩
theorem next_some (l : List Int) (he : errOf l = 0) (s : ByteArray) (hs : s.size ≤ 140737488351232) (pos : Int) (h0 : 0 ≤ pos) (hp : pos ≤ 4611686018427387904) :
  nextOf (newCs l) (newSs l) s pos=some (nextL l s pos)∧Good s pos 1 l.length (nextL l s pos):=by
 obtain ⟨hl,_,_⟩:=errOf_ok l he;obtain ⟨r,h1,h2⟩:=stage_good l hl s hs pos h0 hp 15 0 rfl (by show (0:Int)≤0;decide) (.inl rfl)
 have e:nextOf (newCs l) (newSs l) s pos=some r ∨ (nextOf (newCs l) (newSs l) s pos=some (0,0,4)):=by
  rw [nextOf_good l he s pos h0];by_cases ht:(syms l).length=0
  ·rw [if_pos ht];exact .inr rfl
  rw [if_neg ht];refine .inl ?_;rw [← h1];have e0:Sn l 0=0:=rfl;have eV:¬ Vn s pos 0 < Gn l 0:=by rw [Gn_zero];exact Int.lt_irrefl 0
  unfold stageOf;rw [if_neg eV,e0,Gn_zero,if_neg (by omega),show pos+((0:Nat):Int)=pos by omega];rfl
 unfold nextL
 rcases e with e | e
 ·rw [e];exact ⟨rfl,h2⟩
 ·rw [e];exact ⟨rfl,.inr (.inr rfl)⟩
theorem bits_some (s:ByteArray) (pos:Int) (n:Nat) (h0:0≤pos) (hn:n≤16):Good s pos n (2 ^ n) (bitsOf s pos n):=by
 unfold bitsOf;rw [if_neg (by omega)];by_cases h:pos+n≤8*s.size
 ·rw [if_pos h,Int.toNat_natCast];have:=Bn_rng s pos n;exact .inl ⟨rfl,this.1,this.2,Int.le_refl _,by show pos+(n:Int)≤pos+16;omega,h⟩
 ·rw [if_neg h];exact .inr (.inl rfl)
structure Ok (s:ByteArray) (x:St):Prop where
 p0:0≤x.p
 p1:x.p≤8*s.size
 e:x.e=0 ∨ x.e=1 ∨ x.e=2 ∨ x.e=3 ∨ x.e=4 ∨ x.e=7
theorem fail_ok {s:ByteArray} {x:St} (h:Ok s x) {e:Int} (he:e=0 ∨ e=1 ∨ e=2 ∨ e=3 ∨ e=4 ∨ e=7):Ok s (fail x e):=by
 unfold fail
 split
 ·exact ⟨h.p0,h.p1,he⟩
 ·exact h
theorem tak_ok {s:ByteArray} {x:St} {lo hi:Int} {r:Int × Int × Int} (hlo:0≤lo) (h:Ok s x) (hg:Good s x.p lo hi r):Ok s (tak x r).2:=by
 unfold tak;by_cases c:x.e=0
 ·rw [if_pos c]
  rcases hg with ⟨h1,h2,h3,h4,h5,h6⟩ | rfl | rfl
  ·rw [if_pos h1];exact ⟨by have:=h.p0;show 0≤r.2.1;omega,h6,h.e⟩
  ·exact ⟨h.p0,h.p1,.inr (.inr (.inl rfl))⟩
  ·exact ⟨h.p0,h.p1,.inr (.inr (.inr (.inr (.inl rfl))))⟩
 ·rw [if_neg c];exact h
theorem tak_get {s:ByteArray} {x:St} {lo hi:Int} {r:Int × Int × Int} (hhi:0 < hi) (hg:Good s x.p lo hi r):0≤(tak x r).1∧(tak x r).1 < hi∧(tak x r).2.o=x.o∧((tak x r).2.e=0 → x.e=0∧x.p+lo≤(tak x r).2.p∧(tak x r).2.p≤x.p+16)∧(x.e ≠ 0 → (tak x r).2=x):=by
 unfold tak;by_cases c:x.e=0
 ·rw [if_pos c]
  rcases hg with ⟨h1,h2,h3,h4,h5,h6⟩ | rfl | rfl
  ·rw [if_pos h1];exact ⟨h2,h3,rfl,fun _=>⟨c,h4,h5⟩,fun h=>absurd c h⟩
  ·exact ⟨Int.le_refl _,hhi,rfl,fun h=>absurd h (by show ¬ (2:Int)=0;decide),fun h=>absurd c h⟩
  ·exact ⟨Int.le_refl _,hhi,rfl,fun h=>absurd h (by show ¬ (4:Int)=0;decide),fun h=>absurd c h⟩
 ·rw [if_neg c];exact ⟨Int.le_refl _,hhi,rfl,fun h=>absurd h c,fun _=>rfl⟩
theorem errOf_rng (l:List Int):errOf l=0 ∨ errOf l=1 ∨ errOf l=4:=by
 unfold errOf
 (repeat' split) <;> first | exact .inl rfl | exact .inr (.inl rfl) | exact .inr (.inr rfl)
theorem table_ok {s:ByteArray} {x:St} (h:Ok s x) (l:List Int):Ok s (table l x):=fail_ok h (by rcases errOf_rng l with e | e | e <;> rw [e] <;> decide)
end Go.Proofs.Ytpbhkdamkbopkaa.Inf
namespace Go.Proofs.Ytpbhkdamkbopkaa.Inf
open Go.RowKit Ext RefP Stage YtpbhkdamkbopkaaW.PrintWords YtpbhkdamkbopkaaW.PrintLast YtpbhkdamkbopkaaW.PrintMore
def La (k:Nat):List Int:=(List.range 288).map fun i=>if i < 144 then 8 else if i < k then (if i < 256 then 9 else 7) else 8
theorem La_len (k:Nat):(La k).length=288:=by unfold La;simp
theorem La_start:La 144=List.replicate 288 8:=by decide +kernel
theorem La_end:La 280=plainA:=by decide +kernel
theorem La_step (k:Nat) (h0:144≤k) (h1:k < 280):(La k).set k (if k < 256 then 9 else 7)=La (k+1):=by
 refine List.ext_getElem? fun i=>?_;rw [List.getElem?_set,La_len];unfold La;rw [List.getElem?_map,List.getElem?_map];by_cases hi:i < 288;rotate_left
 ·rw [List.getElem?_eq_none (by simpa using hi),if_neg (by omega)];rfl
 rw [List.getElem?_range hi];by_cases e:k=i
 ·subst e;rw [if_pos rfl,if_pos hi];simp only [Option.map_some]
  congr 1
  (repeat' split) <;> omega
 ·rw [if_neg e];simp only [Option.map_some]
  congr 1
  (repeat' split) <;> omega
set_option maxRecDepth 100000 in
set_option maxHeartbeats 2000000 in
theorem bits_get {s:ByteArray} {x y:St} {n:Nat} {k m:Int} (hk:k=(n:Int)) (hx:Ok s x) (hn:n≤16) (h:bits s k x=(m,y)):Ok s y∧0≤m∧m < 2 ^ n∧y.o=x.o∧(y.e=0 → x.e=0∧x.p+n≤y.p∧y.p≤x.p+16)∧(x.e ≠ 0 → y=x):=by
 subst hk;have g:=bits_some s x.p n hx.p0 hn;have e:tak x (bitsOf s x.p (n:Int))=(m,y):=h;have h1:=tak_ok (Int.natCast_nonneg n) hx g;have h2:=tak_get (x:=x) (by have:=(pow_16 n hn).1;omega) g;rw [e] at h1 h2;exact ⟨h1,h2.1,h2.2.1,h2.2.2.1,h2.2.2.2.1,h2.2.2.2.2⟩
theorem next_get {s:ByteArray} {x y:St} {l:List Int} {m:Int} (hs:s.size≤140737488351232) (hx:Ok s x) (he:x.e=0 → errOf l=0) (h:next l s x=(m,y)):Ok s y∧0≤m∧(m < l.length ∨ m=0)∧y.o=x.o∧(y.e=0 → x.e=0∧x.p+1≤y.p∧y.p≤x.p+16)∧(x.e ≠ 0 → y=x):=by
 have e:tak x (nextL l s x.p)=(m,y):=h;by_cases c:x.e=0;rotate_left
 ·have e2:tak x (nextL l s x.p)=(0,x):=by unfold tak;rw [if_neg c]
  rw [e2] at e;injection e with e3 e4
  subst e3;subst e4;exact ⟨hx,Int.le_refl _,.inr rfl,rfl,fun h=>absurd h c,fun _=>rfl⟩
 obtain ⟨_,g⟩:=next_some l (he c) s hs x.p hx.p0 (by have:=hx.p1;omega);have h1:=tak_ok (by decide) hx g;by_cases hl:0 < (l.length:Int)
 ·have h2:=tak_get (x:=x) hl g;rw [e] at h1 h2;exact ⟨h1,h2.1,.inl h2.2.1,h2.2.2.1,h2.2.2.2.1,h2.2.2.2.2⟩
 have g2:Good s x.p 1 1 (nextL l s x.p):=by
  rcases g with g | g | g
  ·have:=g.2.1;have:=g.2.2.1;omega
  ·exact .inr (.inl g)
  ·exact .inr (.inr g)
 have h2:=tak_get (x:=x) (by decide) g2;rw [e] at h1 h2;exact ⟨h1,h2.1,.inr (by have:=h2.1;have:=h2.2.1;omega),h2.2.2.1,h2.2.2.2.1,h2.2.2.2.2⟩
theorem cut_size {s:ByteArray} {q n:Nat} (h:q+n≤s.size):(s.extract q (q+n)).size=n:=by rw [ByteArray.size_extract];omega
theorem cut_bytes {s:ByteArray} {q n:Nat} (h:q+n≤s.size):bytesOf (s.extract q (q+n))=cut s q n:=by
 refine List.ext_getElem? fun i=>?_;by_cases hi:i < n;rotate_left
 ·rw [List.getElem?_eq_none (by rw [bytesOf_length,cut_size h];omega),List.getElem?_eq_none (by unfold cut;simpa using hi)]
 have h1:(bytesOf (s.extract q (q+n)))[i]?=some (rd (bytesOf (s.extract q (q+n))) (i:Int)):=by
  unfold rd;rw [Int.toNat_natCast,List.getD_eq_getElem?_getD,List.getElem?_eq_getElem (by rw [bytesOf_length,cut_size h];exact hi)];rfl
 rw [h1,rd_bytesOf];unfold cut;rw [List.getElem?_map,List.getElem?_range hi,Option.map_some]
 congr 1
 have h2:(Int.toNat (i:Int)) < (s.extract q (q+n)).size:=by rw [cut_size h];simpa using hi
 have h3:(Int.toNat ((q+i:Nat):Int)) < s.size:=by rw [Int.toNat_natCast];omega
 unfold bt;rw [dif_pos h2,dif_pos h3];simp [ByteArray.getElem_extract,show ((q:Int)+(i:Int)).toNat=q+i by omega]
set_option maxRecDepth 100000 in
set_option maxHeartbeats 4000000 in
theorem left_pos (s:ByteArray) (x:St):1≤left s x:=by unfold left;omega
theorem codes_stop (s:ByteArray) (mx:Int) (la lb:List Int) (k:Nat) (x:St) (h:x.e ≠ 0):codes s mx la lb k x=x:=by
 cases k with
 |zero=>rfl
 |succ k=>unfold codes;rw [if_neg h]
theorem len_rng:∀ q:Nat,q < 29 → 3≤lenB.getD q 0∧lenB.getD q 0≤258∧0≤lenM.getD q 0∧lenM.getD q 0≤5:=by decide +kernel
theorem dis_rng:∀ q:Nat,q < 30 → 1≤disB.getD q 0∧disB.getD q 0≤24577∧0≤disM.getD q 0∧disM.getD q 0≤13:=by decide +kernel
theorem again_len (o:List Int) (d n:Nat):(again o d n).length=o.length+n:=by
 induction n with
 |zero=>rfl
 |succ n ih=>unfold again;rw [List.length_append,ih];rfl
theorem left_less {s:ByteArray} {y z:St} {k k1:Nat} (hk:left s y≤k) (hk1:k=k1+1) (h1:y.p+1≤z.p) (h2:y.p≤8*s.size):left s z≤k1:=by
 unfold left at *;omega
def orderL:List Int:=[16,17,18,0,8,7,9,6,10,5,11,4,12,3,13,2,14,1,15]
theorem order_at:∀ i:Nat,i < 19 → orderL.getD i 0=((order.getD i 0:Nat):Int)∧order.getD i 0 < 19:=by decide
theorem owns_next (s:ByteArray):∀ (t:List Nat) (i:Nat) (own:List Int) (x:St),owns s (t ++ [i]) own x=((owns s t own x).1.set i (bits s 3 (owns s t own x).2).1,(bits s 3 (owns s t own x).2).2):=by
 intro t
 induction t with
 |nil=>intro i own x;rfl
 |cons a t ih=>intro i own x;exact ih i _ _
theorem owns_len (s:ByteArray):∀ (t:List Nat) (own:List Int) (x:St),(owns s t own x).1.length=own.length:=by
 intro t
 induction t with
 |nil=>intro own x;rfl
 |cons a t ih=>intro own x;show (owns s t _ _).1.length=_;rw [ih,List.length_set]
theorem owns_ok (s:ByteArray):∀ (t:List Nat) (own:List Int) (x:St),Ok s x → Ok s (owns s t own x).2∧(owns s t own x).2.o=x.o:=by
 intro t
 induction t with
 |nil=>intro own x h;exact ⟨h,rfl⟩
 |cons a t ih =>
  intro own x h;obtain ⟨h1,_,_,h2,_,_⟩:=bits_get (n:=3) (k:=3) (m:=(bits s 3 x).1) (y:=(bits s 3 x).2) rfl h (by decide) rfl;have:=ih (own.set a (bits s 3 x).1) (bits s 3 x).2 h1;exact ⟨this.1,this.2.trans h2⟩
theorem order_take (i:Nat) (h:i < 19):order.take (i+1)=order.take i ++ [order.getD i 0]:=by
 rw [List.take_succ_eq_append_getElem (show i < order.length from h)];simp [List.getD_eq_getElem?_getD,show i < order.length from h]
theorem tak_p {s:ByteArray} {x:St} {lo hi:Int} {r:Int × Int × Int} (hlo:0≤lo) (hg:Good s x.p lo hi r):x.p≤(tak x r).2.p:=by
 unfold tak;by_cases c:x.e=0
 ·rw [if_pos c]
  rcases hg with ⟨h1,h2,h3,h4,h5,h6⟩ | rfl | rfl
  ·rw [if_pos h1];show x.p≤r.2.1;omega
  ·exact Int.le_refl _
  ·exact Int.le_refl _
 ·rw [if_neg c];exact Int.le_refl _
theorem bits_p {s:ByteArray} {x:St} (n:Nat) (hx:Ok s x) (hn:n≤16):x.p≤(bits s (n:Int) x).2.p:=tak_p (Int.natCast_nonneg n) (bits_some s x.p n hx.p0 hn)
theorem next_p {s:ByteArray} {x:St} {l:List Int} (hs:s.size≤140737488351232) (hx:Ok s x) (he:x.e=0 → errOf l=0):x.p≤(next l s x).2.p:=by
 by_cases c:x.e=0
 ·exact tak_p (by decide) (next_some l (he c) s hs x.p hx.p0 (by have:=hx.p1;omega)).2
 ·show x.p≤(tak x _).2.p;unfold tak;rw [if_neg c];exact Int.le_refl _
theorem lengthen_spec {s:ByteArray} {l:List Int} {y:Int} {x:St} (hx:Ok s x):Ok s (lengthen s l y x).2∧x.p≤(lengthen s l y x).2.p∧(lengthen s l y x).1.length≤l.length+200:=by
 have b2:=bits_get (n:=2) (k:=2) (m:=(bits s 2 x).1) (y:=(bits s 2 x).2) rfl hx (by decide) rfl;have b3:=bits_get (n:=3) (k:=3) (m:=(bits s 3 x).1) (y:=(bits s 3 x).2) rfl hx (by decide) rfl;have b7:=bits_get (n:=7) (k:=7) (m:=(bits s 7 x).1) (y:=(bits s 7 x).2) rfl hx (by decide) rfl;have p2:=bits_p (s:=s) 2 hx (by decide);have p3:=bits_p (s:=s) 3 hx (by decide);have p7:=bits_p (s:=s) 7 hx (by decide);have r2:(bits s 2 x).1 < 4:=b2.2.2.1;have r3:(bits s 3 x).1 < 8:=b3.2.2.1;have r7:(bits s 7 x).1 < 128:=b7.2.2.1;have fp:(fail x 3).p=x.p:=by unfold fail;split <;> rfl
 unfold lengthen;by_cases c0:x.e=0;rotate_left
 ·rw [if_neg c0];exact ⟨hx,Int.le_refl _,by simp⟩
 rw [if_pos c0];by_cases c16:y=16
 ·rw [if_pos c16];by_cases cl:l.length=0
  ·rw [if_pos cl];exact ⟨fail_ok hx (by decide),by rw [fp];exact Int.le_refl _,by simp⟩
  ·rw [if_neg cl];exact ⟨b2.1,p2,by simp only [List.length_append,List.length_replicate];omega⟩
 rw [if_neg c16];by_cases c17:y=17
 ·rw [if_pos c17];exact ⟨b3.1,p3,by simp only [List.length_append,List.length_replicate];omega⟩
 ·rw [if_neg c17];by_cases c18:y=18
  ·rw [if_pos c18];exact ⟨b7.1,p7,by simp only [List.length_append,List.length_replicate];omega⟩
  ·rw [if_neg c18];exact ⟨hx,Int.le_refl _,by simp⟩
theorem many_stop {s:ByteArray} {own:List Int} {all:Int} {l:List Int} {z:St} (k:Nat) (h:¬ ((l.length:Int) < all) ∨ z.e ≠ 0):many s own all k l z=(l,z):=by
 rcases k with _ | k
 ·rfl
 show (if (l.length:Int) < all then (if z.e=0 then _ else _) else _)=_;by_cases c:(l.length:Int) < all
 ·rw [if_pos c]
  rcases h with h | h
  ·exact absurd c h
  ·rw [if_neg h]
 ·rw [if_neg c]
theorem lengthen_same {s:ByteArray} {l:List Int} {y:Int} {x:St} (h:x.e ≠ 0):lengthen s l y x=(l,x):=by unfold lengthen;rw [if_neg h]
structure Aft (s:ByteArray) (mx:Int) (x y:St):Prop where
 ok:Ok s y
 p:x.p≤y.p
 o:(x.o.length:Int)≤mx → (y.o.length:Int)≤mx
 e:y.e=0 → x.e=0
 l:x.o.length≤y.o.length
section
variable {s:ByteArray} {mx:Int} {x y z:St}
theorem Aft.refl (h:Ok s x):Aft s mx x x:=⟨h,Int.le_refl _,fun h=>h,fun h=>h,Nat.le_refl _⟩
theorem Aft.trans (h:Aft s mx x y) (k:Aft s mx y z):Aft s mx x z:=⟨k.ok,Int.le_trans h.p k.p,fun c=>k.o (h.o c),fun c=>h.e (k.e c),Nat.le_trans h.l k.l⟩
theorem fail_p (x:St) (e:Int):(fail x e).p=x.p:=by unfold fail;split <;> rfl
theorem fail_o (x:St) (e:Int):(fail x e).o=x.o:=by unfold fail;split <;> rfl
theorem fail_e {x:St} {e:Int} (h:(fail x e).e=0):x.e=0∧e=0:=by
 unfold fail at h;by_cases c:x.e=0
 ·rw [if_pos c] at h;exact ⟨c,h⟩
 ·rw [if_neg c] at h;exact absurd h c
theorem Aft.fail (h:Ok s x) (e:Int) (he:e=0 ∨ e=1 ∨ e=2 ∨ e=3 ∨ e=4 ∨ e=7):Aft s mx x (fail x e):=⟨fail_ok h he,by rw [fail_p];exact Int.le_refl _,by rw [fail_o];exact fun h=>h,fun h=>(fail_e h).1,by rw [fail_o];exact Nat.le_refl _⟩
theorem Aft.table (h:Ok s x) (l:List Int):Aft s mx x (table l x):=⟨table_ok h l,by unfold Inf.table;rw [fail_p];exact Int.le_refl _,by unfold Inf.table;rw [fail_o];exact fun h=>h,fun h=>(fail_e h).1,by unfold Inf.table;rw [fail_o];exact Nat.le_refl _⟩
theorem table_e {l:List Int} {x:St} (h:(table l x).e=0):x.e=0∧errOf l=0:=fail_e h
theorem Aft.bits (h:Ok s x) (n:Nat) (hn:n≤16) (k:Int) (hk:k=n):Aft s mx x (bits s k x).2:=by
 have g:=bits_get (n:=n) (k:=k) (m:=(Inf.bits s k x).1) (y:=(Inf.bits s k x).2) hk h hn rfl;have p:=bits_p (s:=s) n h hn;rw [← hk] at p;exact ⟨g.1,p,by rw [g.2.2.2.1];exact fun h=>h,fun h=>(g.2.2.2.2.1 h).1,by rw [g.2.2.2.1];exact Nat.le_refl _⟩
theorem Aft.next (hs:s.size≤140737488351232) (h:Ok s x) (l:List Int) (he:x.e=0 → errOf l=0):Aft s mx x (next l s x).2:=by
 have g:=next_get (m:=(Inf.next l s x).1) (y:=(Inf.next l s x).2) hs h he rfl;exact ⟨g.1,next_p hs h he,by rw [g.2.2.2.1];exact fun h=>h,fun h=>(g.2.2.2.2.1 h).1,by rw [g.2.2.2.1];exact Nat.le_refl _⟩
theorem Aft.copy (h:Ok s x) (n d:Int) (hn:0≤n):Aft s mx x (copy mx x n d):=by
 unfold Inf.copy;by_cases c1:d≤x.o.length
 ·rw [if_pos c1];by_cases c2:(x.o.length:Int)+n≤mx
  ·rw [if_pos c2];exact ⟨⟨h.p0,h.p1,h.e⟩,Int.le_refl _,fun _=>by show ((again x.o d.toNat n.toNat).length:Int)≤mx;rw [again_len];omega,fun h=>h,by show x.o.length≤(again x.o d.toNat n.toNat).length;rw [again_len];omega⟩
  ·rw [if_neg c2];exact Aft.fail h 7 (by decide)
 ·rw [if_neg c1];exact Aft.fail h 3 (by decide)
theorem Aft.far (hs:s.size≤140737488351232) (h:Ok s x) (lb:List Int) (hb:errOf lb=0) (y:Int) (h0:257≤y) (h1:y < 286):Aft s mx x (far s mx lb x y):=by
 unfold Inf.far;obtain ⟨q,hq⟩:∃ q:Nat,(y - 257).toNat=q:=⟨_,rfl⟩;have hqr:=len_rng q (by omega);obtain ⟨k,hk⟩:∃ k:Nat,lenM.getD q 0=(k:Int):=⟨(lenM.getD q 0).toNat,by omega⟩;simp only [hq,hk];have a1:=Aft.bits (mx:=mx) h k (by omega) k rfl;have a2:=Aft.next (mx:=mx) hs a1.ok lb (fun _=>hb);have g2:=next_get (m:=(Inf.next lb s (Inf.bits s k x).2).1) (y:=(Inf.next lb s (Inf.bits s k x).2).2) hs a1.ok (fun _=>hb) rfl;have gm:=(bits_get (n:=k) (k:=k) (m:=(Inf.bits s k x).1) (y:=(Inf.bits s k x).2) rfl h (by omega) rfl).2.1;generalize Inf.bits s k x=m at *;generalize Inf.next lb s m.2=d at *;by_cases c:d.2.e=0∧d.1 ≥ 30
 ·rw [if_pos c];have a3:=Aft.fail (mx:=mx) a2.ok 3 (by decide);have:(Inf.fail d.2 3).e=3:=by unfold Inf.fail;rw [if_pos c.1]
  rw [if_neg (by rw [this];decide)];exact (a1.trans a2).trans a3
 rw [if_neg c];by_cases ce:d.2.e=0;rotate_left
 ·rw [if_neg ce];exact a1.trans a2
 rw [if_pos ce]
 have h30:d.1 < 30:=by
  rcases Decidable.em (d.1 < 30) with h | h
  ·exact h
  ·exact absurd ⟨ce,Int.not_lt.1 h⟩ c
 have hdr:=dis_rng d.1.toNat (by have:=g2.2.1;omega);obtain ⟨k2,hk2⟩:∃ k2:Nat,disM.getD d.1.toNat 0=(k2:Int):=⟨(disM.getD d.1.toNat 0).toNat,by omega⟩;rw [hk2];have a3:=Aft.bits (mx:=mx) a2.ok k2 (by omega) k2 rfl;generalize Inf.bits s k2 d.2=e at *;by_cases c3:e.2.e=0
 ·rw [if_pos c3];exact ((a1.trans a2).trans a3).trans (Aft.copy a3.ok _ _ (by omega))
 ·rw [if_neg c3];exact (a1.trans a2).trans a3
theorem Aft.one (hs:s.size≤140737488351232) (h:Ok s x) (la lb:List Int) (he:x.e=0) (ha:errOf la=0) (hb:errOf lb=0):Aft s mx x (one s mx la lb x).2∧((one s mx la lb x).1=false → (one s mx la lb x).2.e=0 → x.p+1≤(one s mx la lb x).2.p)∧((x.o.length:Int)≤mx → ((one s mx la lb x).2.o.length:Int)≤mx):=by
 have a1:=Aft.next (mx:=mx) hs h la (fun _=>ha);have g1:=next_get (m:=(Inf.next la s x).1) (y:=(Inf.next la s x).2) hs h (fun _=>ha) rfl;unfold Inf.one;simp only;generalize Inf.next la s x=a at *;by_cases c1:a.2.e ≠ 0 ∨ a.1=256
 ·rw [if_pos c1];exact ⟨a1,fun h=>Bool.noConfusion h,a1.o⟩
 rw [if_neg c1];have c10:a.2.e=0:=Decidable.byContradiction fun h=>c1 (.inl h);have hp1:=(g1.2.2.2.2.1 c10).2.1;by_cases c2:a.1 < 256;rotate_left
 ·rw [if_neg c2];by_cases c3:a.1 ≥ 286
  ·rw [if_pos c3];have:=a1.trans (Aft.fail (mx:=mx) a1.ok 3 (by decide));exact ⟨this,fun h=>Bool.noConfusion h,this.o⟩
  ·rw [if_neg c3];have a2:=Aft.far (mx:=mx) hs a1.ok lb hb a.1 (by have h:¬ a.1=256:=fun h=>c1 (.inr h);omega) (by omega);exact ⟨a1.trans a2,fun _ _=>Int.le_trans hp1 a2.p,(a1.trans a2).o⟩
 rw [if_pos c2];by_cases c3:(a.2.o.length:Int)=mx
 ·rw [if_pos c3];have:=a1.trans (Aft.fail (mx:=mx) a1.ok 7 (by decide));exact ⟨this,fun h=>Bool.noConfusion h,this.o⟩
 ·rw [if_neg c3];have hl:(x.o.length:Int)≤mx → ((a.2.o ++ [a.1 % 256]).length:Int)≤mx:=fun h=>by have:=a1.o h;rw [List.length_append];simp only [List.length_cons,List.length_nil];omega
  exact ⟨⟨⟨a1.ok.p0,a1.ok.p1,a1.ok.e⟩,a1.p,hl,fun _=>he,by show x.o.length≤(a.2.o ++ [a.1 % 256]).length;rw [List.length_append];have:=a1.l;omega⟩,fun _ _=>hp1,hl⟩
theorem Aft.codes (hs:s.size≤140737488351232) (la lb:List Int):∀ (k:Nat) (x:St),Ok s x → (x.e=0 → errOf la=0∧errOf lb=0) → Aft s mx x (codes s mx la lb k x):=by
 intro k
 induction k with
 |zero=>intro x h _;exact Aft.refl h
 |succ k ih =>
  intro x h he;unfold Inf.codes;by_cases c:x.e=0
  ·rw [if_pos c];have a1:=(Aft.one (mx:=mx) hs h la lb c (he c).1 (he c).2).1;by_cases c2:(Inf.one s mx la lb x).1=true
   ·rw [if_pos c2];exact a1
   ·rw [if_neg c2];exact a1.trans (ih _ a1.ok (fun _=>he c))
  ·rw [if_neg c];exact Aft.refl h
theorem both_e {la lb:List Int} {x:St} (h:(table lb (table la x)).e=0):errOf la=0∧errOf lb=0:=⟨(table_e (table_e h).1).2,(table_e h).2⟩
theorem Aft.both (hs:s.size≤140737488351232) (la lb:List Int) (h:Ok s x):Aft s mx x (both s mx la lb x) :=
 (((Aft.table h la).trans (Aft.table (table_ok h la) lb))).trans (Aft.codes hs la lb _ _ (table_ok (table_ok h la) lb) both_e)
theorem both_eq (la lb:List Int) (x:St):both s mx la lb x=codes s mx la lb (left s (table lb (table la x))) (table lb (table la x)):=by
 have e:left s (table lb (table la x))=left s x:=by unfold left Inf.table;rw [fail_p,fail_p]
 rw [e];rfl
theorem lengthen_o (l:List Int) (y:Int) (h:Ok s x):(lengthen s l y x).2.o=x.o:=by
 have b2:=bits_get (n:=2) (k:=2) (m:=(bits s 2 x).1) (y:=(bits s 2 x).2) rfl h (by decide) rfl;have b3:=bits_get (n:=3) (k:=3) (m:=(bits s 3 x).1) (y:=(bits s 3 x).2) rfl h (by decide) rfl;have b7:=bits_get (n:=7) (k:=7) (m:=(bits s 7 x).1) (y:=(bits s 7 x).2) rfl h (by decide) rfl;unfold lengthen;by_cases c0:x.e=0;rotate_left
 ·rw [if_neg c0]
 rw [if_pos c0];by_cases c16:y=16
 ·rw [if_pos c16];by_cases cl:l.length=0
  ·rw [if_pos cl];exact fail_o _ _
  ·rw [if_neg cl];exact b2.2.2.2.1
 rw [if_neg c16];by_cases c17:y=17
 ·rw [if_pos c17];exact b3.2.2.2.1
 ·rw [if_neg c17];by_cases c18:y=18
  ·rw [if_pos c18];exact b7.2.2.2.1
  ·rw [if_neg c18]
theorem lengthen_e {l:List Int} {y:Int} (h:(lengthen s l y x).2.e=0):x.e=0:=by
 by_cases c:x.e=0
 ·exact c
 ·rw [lengthen_same c] at h;exact h
theorem Aft.many (hs:s.size≤140737488351232) (own:List Int) (all:Int):∀ (k:Nat) (l:List Int) (x:St),Ok s x → (x.e=0 → errOf own=0) → Aft s mx x (many s own all k l x).2:=by
 intro k
 induction k with
 |zero=>intro l x h _;exact Aft.refl h
 |succ k ih =>
  intro l x h he;unfold Inf.many;by_cases c:(l.length:Int) < all;rotate_left
  ·rw [if_neg c];exact Aft.refl h
  rw [if_pos c];by_cases c2:x.e=0
  ·rw [if_pos c2];have a1:=Aft.next (mx:=mx) hs h own he;have l1:=lengthen_spec (l:=l) (y:=(Inf.next own s x).1) a1.ok;have l2:=lengthen_o l (Inf.next own s x).1 a1.ok;have a2:Aft s mx _ (lengthen s l (Inf.next own s x).1 (Inf.next own s x).2).2:=⟨l1.1,l1.2.1,by rw [l2];exact fun h=>h,lengthen_e,by rw [l2];exact Nat.le_refl _⟩;exact (a1.trans a2).trans (ih _ _ a2.ok (fun _=>he c2))
  ·rw [if_neg c2];exact Aft.refl h
theorem Aft.owns:∀ (t:List Nat) (own:List Int) (x:St),Ok s x → Aft s mx x (owns s t own x).2:=by
 intro t
 induction t with
 |nil=>intro own x h;exact Aft.refl h
 |cons a t ih =>
  intro own x h;have a1:=Aft.bits (mx:=mx) h 3 (by decide) 3 rfl;exact a1.trans (ih _ _ a1.ok)
theorem Aft.lengths (hs:s.size≤140737488351232) (h:Ok s x):Aft s mx x (lengths s x).2.2:=by
 unfold Inf.lengths;have a1:=Aft.bits (mx:=mx) h 5 (by decide) 5 rfl;generalize Inf.bits s 5 x=a at *;have a2:=Aft.bits (mx:=mx) a1.ok 5 (by decide) 5 rfl;simp only;generalize Inf.bits s 5 a.2=b at *;have a3:=Aft.bits (mx:=mx) a2.ok 4 (by decide) 4 rfl;generalize Inf.bits s 4 b.2=c at *
 have a4:Aft s mx c.2 (if c.2.e=0∧(a.1+257 > 286 ∨ b.1+1 > 30) then Inf.fail c.2 3 else c.2):=by
  split
  ·exact Aft.fail a3.ok 3 (by decide)
  ·exact Aft.refl a3.ok
 generalize (if c.2.e=0∧(a.1+257 > 286 ∨ b.1+1 > 30) then Inf.fail c.2 3 else c.2)=x1 at *;have a5:=Aft.owns (mx:=mx) (order.take (c.1+4).toNat) (List.replicate 19 0) x1 a4.ok;generalize Inf.owns s (order.take (c.1+4).toNat) (List.replicate 19 0) x1=w at *;have a6:=Aft.table (mx:=mx) a5.ok w.1;have a7:=Aft.many (mx:=mx) hs w.1 (a.1+257+(b.1+1)) (left s (Inf.table w.1 w.2)) [] _ a6.ok (fun h=>(table_e h).2);generalize Inf.many s w.1 (a.1+257+(b.1+1)) (left s (Inf.table w.1 w.2)) [] (Inf.table w.1 w.2)=z at *;have a8:=(((((a1.trans a2).trans a3).trans a4).trans a5).trans a6).trans a7;by_cases c1:z.2.e=0
 ·rw [if_pos c1];by_cases c2:(z.1.length:Int) > a.1+257+(b.1+1) ∨ z.1.getD 256 0=0
  ·rw [if_pos c2];exact a8.trans (Aft.fail a7.ok 3 (by decide))
  ·rw [if_neg c2];exact a8
 ·rw [if_neg c1];exact a8
theorem many_o (hs:s.size≤140737488351232) (own:List Int) (all:Int):∀ (k:Nat) (l:List Int) (x:St),Ok s x → (x.e=0 → errOf own=0) → (many s own all k l x).2.o=x.o:=by
 intro k
 induction k with
 |zero=>intro l x h _;rfl
 |succ k ih =>
  intro l x h he;unfold Inf.many;by_cases c:(l.length:Int) < all;rotate_left
  ·rw [if_neg c]
  rw [if_pos c];by_cases c2:x.e=0
  ·rw [if_pos c2];have a1:=Aft.next (mx:=0) hs h own he;have g1:=next_get (m:=(Inf.next own s x).1) (y:=(Inf.next own s x).2) hs h he rfl;have l1:=lengthen_spec (l:=l) (y:=(Inf.next own s x).1) a1.ok;have l2:=lengthen_o l (Inf.next own s x).1 a1.ok;rw [ih _ _ l1.1 (fun _=>he c2),l2,g1.2.2.2.1]
  ·rw [if_neg c2]
theorem lengths_o (hs:s.size≤140737488351232) (h:Ok s x):(lengths s x).2.2.o=x.o:=by
 unfold Inf.lengths;have a1:=bits_get (n:=5) (k:=5) (m:=(Inf.bits s 5 x).1) (y:=(Inf.bits s 5 x).2) rfl h (by decide) rfl;generalize Inf.bits s 5 x=a at *;have a2:=bits_get (n:=5) (k:=5) (m:=(Inf.bits s 5 a.2).1) (y:=(Inf.bits s 5 a.2).2) rfl a1.1 (by decide) rfl;simp only;generalize Inf.bits s 5 a.2=b at *;have a3:=bits_get (n:=4) (k:=4) (m:=(Inf.bits s 4 b.2).1) (y:=(Inf.bits s 4 b.2).2) rfl a2.1 (by decide) rfl;generalize Inf.bits s 4 b.2=c at *
 have a4:Ok s (if c.2.e=0∧(a.1+257 > 286 ∨ b.1+1 > 30) then Inf.fail c.2 3 else c.2)∧(if c.2.e=0∧(a.1+257 > 286 ∨ b.1+1 > 30) then Inf.fail c.2 3 else c.2).o=c.2.o:=by
  split
  ·exact ⟨fail_ok a3.1 (by decide),fail_o _ _⟩
  ·exact ⟨a3.1,rfl⟩
 generalize (if c.2.e=0∧(a.1+257 > 286 ∨ b.1+1 > 30) then Inf.fail c.2 3 else c.2)=x1 at *;have a5:=owns_ok s (order.take (c.1+4).toNat) (List.replicate 19 0) x1 a4.1;generalize Inf.owns s (order.take (c.1+4).toNat) (List.replicate 19 0) x1=w at *;have a7:=many_o hs w.1 (a.1+257+(b.1+1)) (left s (Inf.table w.1 w.2)) [] _ (table_ok a5.1 w.1) (fun h=>(table_e h).2);generalize Inf.many s w.1 (a.1+257+(b.1+1)) (left s (Inf.table w.1 w.2)) [] (Inf.table w.1 w.2)=z at *;have hz:z.2.o=x.o:=by rw [a7];unfold Inf.table;rw [fail_o,a5.2,a4.2,a3.2.2.2.1,a2.2.2.2.1,a1.2.2.2.1]
 split
 ·split
  ·exact (fail_o _ _).trans hz
  ·exact hz
 ·exact hz
theorem cut_len (s:ByteArray) (a n:Nat):(cut s a n).length=n:=by unfold cut;simp
theorem Aft.stored (h:Ok s x):Aft s mx x (stored s mx x):=by
 have h':Ok s ⟨(x.p+7) / 8*8,x.o,x.e⟩:=⟨by have:=h.p0;show 0≤(x.p+7) / 8*8;omega,by have:=h.p1;show (x.p+7) / 8*8≤_;omega,h.e⟩;have a0:Aft s mx x ⟨(x.p+7) / 8*8,x.o,x.e⟩:=⟨h',by show x.p≤(x.p+7) / 8*8;omega,fun h=>h,fun h=>h,Nat.le_refl _⟩;have a1:=Aft.bits (mx:=mx) h' 16 (by decide) 16 rfl;have g1:=(bits_get (n:=16) (k:=16) (m:=(Inf.bits s 16 ⟨(x.p+7) / 8*8,x.o,x.e⟩).1) (y:=(Inf.bits s 16 ⟨(x.p+7) / 8*8,x.o,x.e⟩).2) rfl h' (by decide) rfl).2;have ge:(Inf.bits s 16 ⟨(x.p+7) / 8*8,x.o,x.e⟩).2.e=0 → (x.p+7) / 8*8+16≤(Inf.bits s 16 ⟨(x.p+7) / 8*8,x.o,x.e⟩).2.p∧(Inf.bits s 16 ⟨(x.p+7) / 8*8,x.o,x.e⟩).2.p≤(x.p+7) / 8*8+16:=fun h=>(g1.2.2.2.1 h).2;replace g1:=g1.1;unfold Inf.stored;simp only;generalize Inf.bits s 16 ⟨(x.p+7) / 8*8,x.o,x.e⟩=a at *;have a2:=Aft.bits (mx:=mx) a1.ok 16 (by decide) 16 rfl;have g2:=(bits_get (n:=16) (k:=16) (m:=(Inf.bits s 16 a.2).1) (y:=(Inf.bits s 16 a.2).2) rfl a1.ok (by decide) rfl).2.2.2.2.1;generalize Inf.bits s 16 a.2=b at *;have a3:=(a0.trans a1).trans a2;by_cases c1:b.2.e=0;rotate_left
 ·rw [if_neg c1];exact a3
 rw [if_pos c1];by_cases c2:Go.bits .xor .i64 a.1 b.1=65535;rotate_left
 ·rw [if_neg c2];exact a3.trans (Aft.fail a2.ok 3 (by decide))
 rw [if_pos c2];by_cases c3:(b.2.o.length:Int)+a.1≤mx
 ·rw [if_pos c3];by_cases c4:a.1≤s.size - b.2.p / 8
  ·rw [if_pos c4];refine a3.trans ⟨⟨by have:=a2.ok.p0;show 0≤b.2.p+8*a.1;omega,?_,a2.ok.e⟩,by show b.2.p≤b.2.p+8*a.1;omega,fun _=>by show ((b.2.o ++ _).length:Int)≤mx;rw [List.length_append,cut_len];omega,fun h=>h,by show b.2.o.length≤(b.2.o ++ _).length;rw [List.length_append];omega⟩;have h1:=g2 c1;have h2:=ge h1.1;show b.2.p+8*a.1≤8*(s.size:Int);have h3:=h1.2.1;have h4:=h1.2.2;omega
  ·rw [if_neg c4];exact a3.trans (Aft.fail a2.ok 2 (by decide))
 ·rw [if_neg c3];exact a3.trans (Aft.fail a2.ok 7 (by decide))
theorem tak_zero {r:Int × Int × Int} (h:(tak x r).2.e ≠ 0):(tak x r).1=0:=by
 unfold tak at h ⊢;by_cases c:x.e=0
 ·rw [if_pos c] at h ⊢;by_cases c2:r.2.2=0
  ·rw [if_pos c2] at h;exact absurd c h
  ·rw [if_neg c2]
 ·rw [if_neg c]
theorem Aft.block (hs:s.size≤140737488351232) (h:Ok s x):Aft s mx x (block s mx x).2∧((block s mx x).2.e=0 → x.p+1≤(block s mx x).2.p):=by
 have a1:=Aft.bits (mx:=mx) h 1 (by decide) 1 rfl;have g1:=(bits_get (n:=1) (k:=1) (m:=(Inf.bits s 1 x).1) (y:=(Inf.bits s 1 x).2) rfl h (by decide) rfl).2.2.2.2.1;unfold Inf.block;simp only;generalize Inf.bits s 1 x=a at *;have a2:=Aft.bits (mx:=mx) a1.ok 2 (by decide) 2 rfl;have g2:=(bits_get (n:=2) (k:=2) (m:=(Inf.bits s 2 a.2).1) (y:=(Inf.bits s 2 a.2).2) rfl a1.ok (by decide) rfl).2.2.2.2.1;have g0:(Inf.bits s 2 a.2).2.e ≠ 0 → (Inf.bits s 2 a.2).1=0:=tak_zero;generalize Inf.bits s 2 a.2=b at *;have a3:=a1.trans a2
 have hp:b.2.e=0 → x.p+1≤b.2.p:=fun e=>by
  have h1:=g2 e;have h2:=g1 h1.1;have h3:=h2.2.1;have h4:=a2.p;omega
 have go:∀ y,Aft s mx b.2 y → (b.2.e ≠ 0 → b.1=0) → (b.1=0 → y.e=0 → b.2.e=0) → Aft s mx x y∧(y.e=0 → x.p+1≤y.p):=fun y k _ h1=>⟨a3.trans k,fun e=>by
  by_cases c:b.2.e=0
  ·exact Int.le_trans (hp c) k.p
  ·exact absurd (h1 (g0 c) e) c⟩
 by_cases c0:b.1=0
 ·rw [if_pos c0];by_cases c1:b.2.e=0
  ·rw [if_pos c1];exact go _ (Aft.stored a2.ok) g0 (fun _ _=>c1)
  ·rw [if_neg c1];exact go _ (Aft.refl a2.ok) g0 (fun _ h=>h)
 rw [if_neg c0];by_cases c1:b.1=1
 ·rw [if_pos c1];exact go _ (Aft.both hs _ _ a2.ok) g0 (fun h=>absurd h c0)
 ·rw [if_neg c1];by_cases c2:b.1=2
  ·rw [if_pos c2];have a4:=Aft.lengths (mx:=mx) hs a2.ok;exact go _ (a4.trans (Aft.both hs _ _ a4.ok)) g0 (fun h=>absurd h c0)
  ·rw [if_neg c2];exact go _ (Aft.fail a2.ok 3 (by decide)) g0 (fun h=>absurd h c0)
theorem Aft.blocks (hs:s.size≤140737488351232):∀ (k:Nat) (x:St),Ok s x → Aft s mx x (blocks s mx k x):=by
 intro k
 induction k with
 |zero=>intro x h;exact Aft.refl h
 |succ k ih =>
  intro x h;have a1:=Aft.block (mx:=mx) hs h;unfold Inf.blocks
  split
  ·exact a1.1
  ·split
   ·exact a1.1.trans (ih _ a1.1.ok)
   ·exact a1.1
end
end Go.Proofs.Ytpbhkdamkbopkaa.Inf
