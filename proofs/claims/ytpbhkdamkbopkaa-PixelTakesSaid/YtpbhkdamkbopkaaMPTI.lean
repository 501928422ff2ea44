/- Parts of the proof, glued by a program of this session (wip/tools/claimfit.py). -/
import Derived.Test.YtpbhkdamkbopkaaMPTH
set_option linter.unusedVariables false
set_option linter.unusedSimpArgs false
set_option linter.unusedSectionVars false
namespace Go.Proofs.Ytpbhkdamkbopkaa.Rs
open Go Go.RowKit Rf YtpbhkdamkbopkaaW.PrintWords Go.Proofs.Ytpbhkdamkbopkaa GPtk GPix
set_option maxRecDepth 10000
set_option maxHeartbeats 4000000
variable {O:Orc}
theorem ref11_Take_sp (k:Nat) (a0:ByteArray) (r:Int × Int × Int × List S89 × Int) (H:c11_Take.f k a0=some r):Sp (KT:=kt) Try.prog O 57 [c1 (.str a0)] [] (.t [.agg [.n r.1,.n r.2.1,.n r.2.2.1,.sl 0 r.2.2.2.1.length],.c (.n r.2.2.2.2)]) [⟨.own 89 r.2.2.2.1,0,true⟩]:=by
 refine Sp.of tok (by kernel_rfl) Try.func57 rfl rfl fun Γ hnp=>?_;unfold c11_Take.f at H;refine WS.seq ?_;refine wrg ?_;refine wr 2 ?_;refine wn ?_;refine WS.seq ?_;refine wrg ?_;refine wr 3 ?_;refine wn ?_;refine WS.seq ?_;refine WS.seq ?_;refine wrg ?_;refine wr 3 ?_;refine wn ?_;refine WS.cond rfl (fun b1=>?_) (fun b1=>?_)
 ·
  rw [ifP b1] at H;replace b1:=dT b1;refine WS.seq ?_;refine wrg ?_;refine wr 3 ?_;refine wn ?_;refine WS.ret ?_;cases H;exact ⟨tv,[none],_,rfl,rfl,(n2 rfl tv),rfl,rfl,rfl⟩
 ·
  rw [ifN b1] at H;replace b1:=dF b1;refine WS.skip ?_;refine WS.seq ?_;refine wrg ?_;obtain ⟨g2,H⟩:=gd H;refine wr 4 ?_;refine wn ?_;refine WS.seq ?_;refine WS.join (fun ρ h=>∃ k1,∃ (g:Nat → SV) (x5:Int) (x29:Bool) (Qa:Int) (Qb:Int) (Qc:Int),k1≤k∧ρ=upds g [(0,c1 (.str a0)),(5,c1 (.n x5)),(29,c1 (.bool x29)),(2,c1 (.ptr 0 0 0 0)),(4,c1 (.ptr 1 0 0 0))]∧h=[⟨.box [.n 0,.n 0,.n 0,.nils],0,true⟩,⟨.box [.n Qa,.n Qb,.n Qc,.nils],1,true⟩]∧c11_Take.j0 k1 a0 x5 x29 Qa Qb Qc=some r) ?_ ?_
  ·
   refine wrg ?_;refine wr 3 ?_;refine WR.split 26 rfl (fun b3=>?_) (fun b3=>?_)
   ·
    rw [ifX b3] at H;replace b3:=nT b3;refine wr 3 ?_;refine wn ?_;intro kk;refine wcut [some 0,some 1] [(0,c1 (.str a0)),(5,c1 (.n ((wrap64 (bt a0 2))))),(29,c1 (.bool (((wrap64 (bt a0 2)) != 5)))),(2,c1 (.ptr 0 0 0 0)),(4,c1 (.ptr 1 0 0 0))] [⟨.box [.n 0,.n 0,.n 0,.nils],0,true⟩,⟨.box [.n 0,.n 0,.n 0,.nils],1,true⟩] (n2 rfl (n2 rfl (n2 rfl (n2 rfl (n2 rfl tv))))) (n2 (rw_ rfl rfl) (n2 (rw_ rfl rfl) tv)) (by rw [hnp];rfl) (fun g=>?_);exact kk _ _ ⟨_,g,_,_,_,_,_,by omega,rfl,rfl,H⟩
   ·
    rw [ifXn b3] at H;replace b3:=nF b3;refine wr 3 ?_;refine wn ?_;intro kk;refine wcut [some 0,some 1] [(0,c1 (.str a0)),(5,c1 (.n ((wrap64 (bt a0 2))))),(29,c1 (.bool false)),(2,c1 (.ptr 0 0 0 0)),(4,c1 (.ptr 1 0 0 0))] [⟨.box [.n 0,.n 0,.n 0,.nils],0,true⟩,⟨.box [.n 0,.n 0,.n 0,.nils],1,true⟩] (n2 rfl (n2 rfl (n2 rfl (n2 rfl (n2 rfl tv))))) (n2 (rw_ rfl rfl) (n2 (rw_ rfl rfl) tv)) (by rw [hnp];rfl) (fun g=>?_);exact kk _ _ ⟨_,g,_,_,_,_,_,by omega,rfl,rfl,H⟩
  rintro ρ h ⟨k,g,x5,x29,Qa,Qb,Qc,hk4,rfl,rfl,H⟩
  rcases k with _ | k
  ·exact nn H
  simp only [c11_Take.j0] at H;refine WS.cond rfl (fun b5=>?_) (fun b5=>?_)
  ·
   rw [ifB b5] at H;refine WS.seq ?_;refine wrg ?_;refine wr 3 ?_;refine wn ?_;refine WS.ret ?_;cases H;exact ⟨tv,[none],_,rfl,rfl,(n2 rfl tv),rfl,rfl,rfl⟩
  ·
   rw [ifBn b5] at H;refine WS.skip ?_;refine WS.seq ?_;refine WS.join (fun ρ h=>∃ k1,∃ (g:Nat → SV) (x5:Int) (x42:Bool) (Qa:Int) (Qb:Int) (Qc:Int),k1≤k∧ρ=upds g [(0,c1 (.str a0)),(5,c1 (.n x5)),(42,c1 (.bool x42)),(2,c1 (.ptr 0 0 0 0)),(4,c1 (.ptr 1 0 0 0))]∧h=[⟨.box [.n 0,.n 0,.n 0,.nils],0,true⟩,⟨.box [.n Qa,.n Qb,.n Qc,.nils],1,true⟩]∧c11_Take.j1 k1 a0 x5 x42 Qa Qb Qc=some r) ?_ ?_
   ·
    refine wrg ?_;refine wr 4 ?_;refine WR.split 34 rfl (fun b6=>?_) (fun b6=>?_)
    ·
     rw [ifP b6] at H;replace b6:=dT b6;refine wr 8 ?_;refine wn ?_;intro kk;refine wcut [some 0,some 1] [(0,c1 (.str a0)),(5,c1 (.n x5)),(42,c1 (.bool true)),(2,c1 (.ptr 0 0 0 0)),(4,c1 (.ptr 1 0 0 0))] [⟨.box [.n 0,.n 0,.n 0,.nils],0,true⟩,⟨.box [.n Qa,.n Qb,.n Qc,.nils],1,true⟩] (n2 rfl (n2 rfl (n2 rfl (n2 rfl (n2 rfl tv))))) (n2 (rw_ rfl rfl) (n2 (rw_ rfl rfl) tv)) (by rw [hnp];rfl) (fun g=>?_);exact kk _ _ ⟨_,g,_,_,_,_,_,by omega,rfl,rfl,H⟩
    ·
     rw [ifN b6] at H;replace b6:=dF b6;refine wr 3 ?_;refine WR.split 37 rfl (fun b7=>?_) (fun b7=>?_)
     ·
      rw [ifE b7] at H;replace b7:=eq_of_beq b7;refine wr 5 ?_;refine wn ?_;intro kk;refine wcut [some 0,some 1] [(0,c1 (.str a0)),(5,c1 (.n x5)),(42,c1 (.bool ((decide ((a0.size:Int) < 8))))),(2,c1 (.ptr 0 0 0 0)),(4,c1 (.ptr 1 0 0 0))] [⟨.box [.n 0,.n 0,.n 0,.nils],0,true⟩,⟨.box [.n Qa,.n Qb,.n Qc,.nils],1,true⟩] (n2 rfl (n2 rfl (n2 rfl (n2 rfl (n2 rfl tv))))) (n2 (rw_ rfl rfl) (n2 (rw_ rfl rfl) tv)) (by rw [hnp];rfl) (fun g=>?_);exact kk _ _ ⟨_,g,_,_,_,_,_,by omega,rfl,rfl,H⟩
     ·
      rw [ifEn b7] at H;replace b7:=bF b7;refine wr 5 ?_;refine wn ?_;intro kk;refine wcut [some 0,some 1] [(0,c1 (.str a0)),(5,c1 (.n x5)),(42,c1 (.bool false)),(2,c1 (.ptr 0 0 0 0)),(4,c1 (.ptr 1 0 0 0))] [⟨.box [.n 0,.n 0,.n 0,.nils],0,true⟩,⟨.box [.n Qa,.n Qb,.n Qc,.nils],1,true⟩] (n2 rfl (n2 rfl (n2 rfl (n2 rfl (n2 rfl tv))))) (n2 (rw_ rfl rfl) (n2 (rw_ rfl rfl) tv)) (by rw [hnp];rfl) (fun g=>?_);exact kk _ _ ⟨_,g,_,_,_,_,_,by omega,rfl,rfl,H⟩
   rintro ρ h ⟨k,g,x5,x42,Qa,Qb,Qc,hk8,rfl,rfl,H⟩
   rcases k with _ | k
   ·exact nn H
   simp only [c11_Take.j1] at H;refine WS.cond rfl (fun b9=>?_) (fun b9=>?_)
   ·
    rw [ifB b9] at H;refine WS.seq ?_;refine wrg ?_;refine wr 3 ?_;refine wn ?_;refine WS.ret ?_;cases H;exact ⟨tv,[none],_,rfl,rfl,(n2 rfl tv),rfl,rfl,rfl⟩
   ·
    rw [ifBn b9] at H;refine WS.skip ?_;refine WS.seq ?_;refine wrg ?_;obtain ⟨g10,H⟩:=gd H;obtain ⟨g11,H⟩:=gd H;obtain ⟨g12,H⟩:=gd H;obtain ⟨g13,H⟩:=gd H;obtain ⟨g14,H⟩:=gd H;obtain ⟨g15,H⟩:=gd H;refine wr 27 ?_;refine wn ?_;refine WS.seq ?_;refine WS.join (fun ρ h=>∃ k1,∃ (g:Nat → SV) (x5:Int) (x86:Bool) (Qa:Int) (Qb:Int) (Qc:Int) (Qf:Int) (Qd:Int) (Qe:Int),k1≤k∧ρ=upds g [(0,c1 (.str a0)),(5,c1 (.n x5)),(86,c1 (.bool x86)),(2,c1 (.ptr 0 0 0 0)),(4,c1 (.ptr 1 0 0 0)),(6,c1 (.ptr 2 0 0 0))]∧h=[⟨.box [.n 0,.n 0,.n 0,.nils],0,true⟩,⟨.box [.n Qa,.n Qb,.n Qc,.nils],1,true⟩,⟨.box [.n Qf,.n Qd,.n Qe,.nils],2,true⟩]∧c11_Take.j2 k1 a0 x5 x86 Qa Qb Qc Qf Qd Qe=some r) ?_ ?_
    ·
     refine wrg ?_;refine wr 4 ?_;refine WR.split 72 rfl (fun b16=>?_) (fun b16=>?_)
     ·
      rw [ifE b16] at H;replace b16:=eq_of_beq b16;refine wr 14 ?_;refine wn ?_;intro kk;refine wcut [some 0,some 1,some 2] [(0,c1 (.str a0)),(5,c1 (.n x5)),(86,c1 (.bool true)),(2,c1 (.ptr 0 0 0 0)),(4,c1 (.ptr 1 0 0 0)),(6,c1 (.ptr 2 0 0 0))] [⟨.box [.n 0,.n 0,.n 0,.nils],0,true⟩,⟨.box [.n Qa,.n Qb,.n Qc,.nils],1,true⟩,⟨.box [.n ((wrap64 ((wrap64 (bt a0 0))+(wrap64 (256*(wrap64 (bt a0 1))))))),.n ((wrap64 ((wrap64 (bt a0 3))+(wrap64 (256*(wrap64 (bt a0 4))))))),.n ((wrap64 ((wrap64 (bt a0 5))+(wrap64 (256*(wrap64 (bt a0 6))))))),.nils],2,true⟩] (n2 rfl (n2 rfl (n2 rfl (n2 rfl (n2 rfl (n2 rfl tv)))))) (n2 (rw_ rfl rfl) (n2 (rw_ rfl rfl) (n2 (rw_ rfl rfl) tv))) (by rw [hnp];rfl) (fun g=>?_);exact kk _ _ ⟨_,g,_,_,_,_,_,_,_,_,by omega,rfl,rfl,H⟩
     ·
      rw [ifEn b16] at H;replace b16:=bF b16;refine wr 5 ?_;refine WR.split 77 rfl (fun b17=>?_) (fun b17=>?_)
      ·
       rw [ifP b17] at H;replace b17:=dT b17;refine wr 9 ?_;refine wn ?_;intro kk;refine wcut [some 0,some 1,some 2] [(0,c1 (.str a0)),(5,c1 (.n x5)),(86,c1 (.bool true)),(2,c1 (.ptr 0 0 0 0)),(4,c1 (.ptr 1 0 0 0)),(6,c1 (.ptr 2 0 0 0))] [⟨.box [.n 0,.n 0,.n 0,.nils],0,true⟩,⟨.box [.n Qa,.n Qb,.n Qc,.nils],1,true⟩,⟨.box [.n ((wrap64 ((wrap64 (bt a0 0))+(wrap64 (256*(wrap64 (bt a0 1))))))),.n ((wrap64 ((wrap64 (bt a0 3))+(wrap64 (256*(wrap64 (bt a0 4))))))),.n ((wrap64 ((wrap64 (bt a0 5))+(wrap64 (256*(wrap64 (bt a0 6))))))),.nils],2,true⟩] (n2 rfl (n2 rfl (n2 rfl (n2 rfl (n2 rfl (n2 rfl tv)))))) (n2 (rw_ rfl rfl) (n2 (rw_ rfl rfl) (n2 (rw_ rfl rfl) tv))) (by rw [hnp];rfl) (fun g=>?_);exact kk _ _ ⟨_,g,_,_,_,_,_,_,_,_,by omega,rfl,rfl,H⟩
      ·
       rw [ifN b17] at H;replace b17:=dF b17;refine wr 5 ?_;refine WR.split 82 rfl (fun b18=>?_) (fun b18=>?_)
       ·
        rw [ifE b18] at H;replace b18:=eq_of_beq b18;refine wr 4 ?_;refine wn ?_;intro kk;refine wcut [some 0,some 1,some 2] [(0,c1 (.str a0)),(5,c1 (.n x5)),(86,c1 (.bool true)),(2,c1 (.ptr 0 0 0 0)),(4,c1 (.ptr 1 0 0 0)),(6,c1 (.ptr 2 0 0 0))] [⟨.box [.n 0,.n 0,.n 0,.nils],0,true⟩,⟨.box [.n Qa,.n Qb,.n Qc,.nils],1,true⟩,⟨.box [.n ((wrap64 ((wrap64 (bt a0 0))+(wrap64 (256*(wrap64 (bt a0 1))))))),.n ((wrap64 ((wrap64 (bt a0 3))+(wrap64 (256*(wrap64 (bt a0 4))))))),.n ((wrap64 ((wrap64 (bt a0 5))+(wrap64 (256*(wrap64 (bt a0 6))))))),.nils],2,true⟩] (n2 rfl (n2 rfl (n2 rfl (n2 rfl (n2 rfl (n2 rfl tv)))))) (n2 (rw_ rfl rfl) (n2 (rw_ rfl rfl) (n2 (rw_ rfl rfl) tv))) (by rw [hnp];rfl) (fun g=>?_);exact kk _ _ ⟨_,g,_,_,_,_,_,_,_,_,by omega,rfl,rfl,H⟩
       ·
        rw [ifEn b18] at H;replace b18:=bF b18;refine wr 4 ?_;refine wn ?_;intro kk;refine wcut [some 0,some 1,some 2] [(0,c1 (.str a0)),(5,c1 (.n x5)),(86,c1 (.bool ((decide ((wrap64 ((wrap64 (bt a0 5))+(wrap64 (256*(wrap64 (bt a0 6)))))) > 64))))),(2,c1 (.ptr 0 0 0 0)),(4,c1 (.ptr 1 0 0 0)),(6,c1 (.ptr 2 0 0 0))] [⟨.box [.n 0,.n 0,.n 0,.nils],0,true⟩,⟨.box [.n Qa,.n Qb,.n Qc,.nils],1,true⟩,⟨.box [.n ((wrap64 ((wrap64 (bt a0 0))+(wrap64 (256*(wrap64 (bt a0 1))))))),.n ((wrap64 ((wrap64 (bt a0 3))+(wrap64 (256*(wrap64 (bt a0 4))))))),.n ((wrap64 ((wrap64 (bt a0 5))+(wrap64 (256*(wrap64 (bt a0 6))))))),.nils],2,true⟩] (n2 rfl (n2 rfl (n2 rfl (n2 rfl (n2 rfl (n2 rfl tv)))))) (n2 (rw_ rfl rfl) (n2 (rw_ rfl rfl) (n2 (rw_ rfl rfl) tv))) (by rw [hnp];rfl) (fun g=>?_);exact kk _ _ ⟨_,g,_,_,_,_,_,_,_,_,by omega,rfl,rfl,H⟩
    rintro ρ h ⟨k,g,x5,x86,Qa,Qb,Qc,Qf,Qd,Qe,hk19,rfl,rfl,H⟩
    rcases k with _ | k
    ·exact nn H
    simp only [c11_Take.j2] at H;refine WS.cond rfl (fun b20=>?_) (fun b20=>?_)
    ·
     rw [ifB b20] at H;refine WS.seq ?_;refine wrg ?_;refine wr 3 ?_;refine wn ?_;refine WS.ret ?_;cases H;exact ⟨tv,[none],_,rfl,rfl,(n2 rfl tv),rfl,rfl,rfl⟩
    ·
     rw [ifBn b20] at H;refine WS.skip ?_;refine WS.seq ?_;refine wrg ?_;refine wr 2 ?_;refine wn ?_;refine WS.join (fun ρ h=>∃ k1,∃ (g:Nat → SV) (x5:Int) (x7:Int) (x8:Int) (Qa:Int) (Qb:Int) (Qc:Int) (Qf:Int) (Qd:Int) (Qe:Int),k1≤k∧ρ=upds g [(0,c1 (.str a0)),(5,c1 (.n x5)),(7,c1 (.n x7)),(8,c1 (.n x8)),(2,c1 (.ptr 0 0 0 0)),(4,c1 (.ptr 1 0 0 0)),(6,c1 (.ptr 2 0 0 0))]∧h=[⟨.box [.n 0,.n 0,.n 0,.nils],0,true⟩,⟨.box [.n Qa,.n Qb,.n Qc,.nils],1,true⟩,⟨.box [.n Qf,.n Qd,.n Qe,.nils],2,true⟩]∧c11_Take.j3 k1 a0 x5 x7 x8 Qa Qb Qc Qf Qd Qe=some r) ?_ ?_
     ·
      refine WS.seq ?_;refine wrg ?_;refine wr 2 ?_;refine wn ?_;refine WS.cond rfl (fun b21=>?_) (fun b21=>?_)
      ·
       rw [ifE b21] at H;replace b21:=eq_of_beq b21;refine wrg ?_;obtain ⟨g22,H⟩:=gd H;refine wr 6 ?_;refine wn ?_;intro kk;refine wcut [some 0,some 1,some 2] [(0,c1 (.str a0)),(5,c1 (.n x5)),(7,c1 (.n 8)),(8,c1 (.n ((wrap64 ((wrap64 (bt a0 7))+1))))),(2,c1 (.ptr 0 0 0 0)),(4,c1 (.ptr 1 0 0 0)),(6,c1 (.ptr 2 0 0 0))] [⟨.box [.n 0,.n 0,.n 0,.nils],0,true⟩,⟨.box [.n Qa,.n Qb,.n Qc,.nils],1,true⟩,⟨.box [.n Qf,.n Qd,.n Qe,.nils],2,true⟩] (n2 rfl (n2 rfl (n2 rfl (n2 rfl (n2 rfl (n2 rfl (n2 rfl tv))))))) (n2 (rw_ rfl rfl) (n2 (rw_ rfl rfl) (n2 (rw_ rfl rfl) tv))) (by rw [hnp];rfl) (fun g=>?_);exact kk _ _ ⟨_,g,_,_,_,_,_,_,_,_,_,by omega,rfl,rfl,H⟩
      ·
       rw [ifEn b21] at H;replace b21:=bF b21;refine WS.skip ?_;intro kk;refine wcut [some 0,some 1,some 2] [(0,c1 (.str a0)),(5,c1 (.n x5)),(7,c1 (.n 7)),(8,c1 (.n 0)),(2,c1 (.ptr 0 0 0 0)),(4,c1 (.ptr 1 0 0 0)),(6,c1 (.ptr 2 0 0 0))] [⟨.box [.n 0,.n 0,.n 0,.nils],0,true⟩,⟨.box [.n Qa,.n Qb,.n Qc,.nils],1,true⟩,⟨.box [.n Qf,.n Qd,.n Qe,.nils],2,true⟩] (n2 rfl (n2 rfl (n2 rfl (n2 rfl (n2 rfl (n2 rfl (n2 rfl tv))))))) (n2 (rw_ rfl rfl) (n2 (rw_ rfl rfl) (n2 (rw_ rfl rfl) tv))) (by rw [hnp];rfl) (fun g=>?_);exact kk _ _ ⟨_,g,_,_,_,_,_,_,_,_,_,by omega,rfl,rfl,H⟩
     rintro ρ h ⟨k,g,x5,x7,x8,Qa,Qb,Qc,Qf,Qd,Qe,hk23,rfl,rfl,H⟩
     rcases k with _ | k
     ·exact nn H
     simp only [c11_Take.j3] at H;refine WS.seq ?_;refine wrg ?_;obtain ⟨g24,H⟩:=gd H;obtain ⟨g25,H⟩:=gd H;refine wr 3 ?_;obtain ⟨Qi,hbt206,H⟩:=bd H;refine WR.call (ref05_Open_sp _ _ _ _ hbt206) [] rfl rfl rfl rfl rfl tv rfl rfl rfl rfl rfl ?_;refine wr 5 ?_;refine wn ?_;refine WS.seq ?_;refine WS.seq ?_;refine wrg ?_;refine wr 2 ?_;refine wn ?_;refine WS.cond rfl (fun b26=>?_) (fun b26=>?_)
     ·
      rw [ifX b26] at H;replace b26:=nT b26;refine WS.seq ?_;refine wrg ?_;refine wr 4 ?_;refine wn ?_;refine WS.ret ?_;cases H;exact ⟨tv,[none],_,rfl,rfl,(n2 rfl tv),rfl,rfl,rfl⟩
     ·
      rw [ifXn b26] at H;replace b26:=nF b26;refine WS.skip ?_;refine WS.seq ?_;refine wrg ?_;refine wr 3 ?_;refine wn ?_;refine WS.seq ?_;refine WS.block ?_;refine wcut [some 0,some 1,some 2] [(5,c1 (.n x5)),(8,c1 (.n x8)),(9,c1 (.str Qi.1)),(11,c1 (.n Qd)),(0,c1 (.str a0)),(2,c1 (.ptr 0 0 0 0)),(4,c1 (.ptr 1 0 0 0)),(6,c1 (.ptr 2 0 0 0))] [⟨.box [.n 0,.n 0,.n 0,.nils],0,true⟩,⟨.box [.n Qa,.n Qb,.n Qc,.nils],1,true⟩,⟨.box [.n Qf,.n Qd,.n Qe,.nils],2,true⟩] (n2 rfl (n2 rfl (n2 rfl (n2 rfl (n2 rfl (n2 rfl (n2 rfl (n2 rfl tv)))))))) (n2 (rw_ rfl rfl) (n2 (rw_ rfl rfl) (n2 (rw_ rfl rfl) tv))) (by rw [hnp];rfl) (fun g=>?_);refine WS.loop (fun k1 ρ h=>∃ (g:Nat → SV) (x5:Int) (x8:Int) (x9:ByteArray) (x11:Int) (Qa:Int) (Qb:Int) (Qc:Int) (Qf:Int) (Qd:Int) (Qe:Int),k1≤k∧ρ=upds g [(5,c1 (.n x5)),(8,c1 (.n x8)),(9,c1 (.str x9)),(11,c1 (.n x11)),(0,c1 (.str a0)),(2,c1 (.ptr 0 0 0 0)),(4,c1 (.ptr 1 0 0 0)),(6,c1 (.ptr 2 0 0 0))]∧h=[⟨.box [.n 0,.n 0,.n 0,.nils],0,true⟩,⟨.box [.n Qa,.n Qb,.n Qc,.nils],1,true⟩,⟨.box [.n Qf,.n Qd,.n Qe,.nils],2,true⟩]∧c11_Take.l0 k1 x5 x8 x9 x11 Qa Qb Qc Qf Qd Qe=some r) ?_ (n:=k) ⟨g,_,_,_,_,_,_,_,_,_,_,Nat.le_refl _,rfl,rfl,H⟩;rintro k ρ h ih27 ⟨g,x5,x8,x9,x11,Qa,Qb,Qc,Qf,Qd,Qe,hkih27,rfl,rfl,H⟩
      rcases k with _ | k
      ·exact nn H
      simp only [c11_Take.l0] at H;refine WS.seq ?_;refine WS.seq ?_;refine wrg ?_;refine wr 3 ?_;refine wn ?_;refine WS.cond rfl (fun b28=>?_) (fun b28=>?_)
      ·
       rw [ifP b28] at H;replace b28:=dT b28;refine WS.skip ?_;refine WS.block ?_;refine wrg ?_;refine wr 3 ?_;refine wn ?_;refine wcut [some 0,some 1,some 2] [(5,c1 (.n x5)),(8,c1 (.n x8)),(9,c1 (.str x9)),(11,c1 (.n ((wrap64 (x11+1))))),(0,c1 (.str a0)),(2,c1 (.ptr 0 0 0 0)),(4,c1 (.ptr 1 0 0 0)),(6,c1 (.ptr 2 0 0 0))] [⟨.box [.n 0,.n 0,.n 0,.nils],0,true⟩,⟨.box [.n Qa,.n Qb,.n Qc,.nils],1,true⟩,⟨.box [.n Qf,.n Qd,.n Qe,.nils],2,true⟩] (n2 rfl (n2 rfl (n2 rfl (n2 rfl (n2 rfl (n2 rfl (n2 rfl (n2 rfl tv)))))))) (n2 (rw_ rfl rfl) (n2 (rw_ rfl rfl) (n2 (rw_ rfl rfl) tv))) (by rw [hnp];rfl) (fun g=>?_);exact ih27 k (by omega) _ _ ⟨g,_,_,_,_,_,_,_,_,_,_,by omega,rfl,rfl,H⟩
      ·
       rw [ifN b28] at H;replace b28:=dF b28;refine WS.exit ?_;refine WS.seq ?_;refine WS.join (fun ρ h=>∃ k1,∃ (g:Nat → SV) (x5:Int) (x8:Int) (x9:ByteArray) (x11:Int) (Qh:Bool) (Qa:Int) (Qb:Int) (Qc:Int) (Qf:Int) (Qd:Int) (Qe:Int),k1≤k∧ρ=upds g [(5,c1 (.n x5)),(8,c1 (.n x8)),(9,c1 (.str x9)),(11,c1 (.n x11)),(140,c1 (.bool Qh)),(0,c1 (.str a0)),(2,c1 (.ptr 0 0 0 0)),(4,c1 (.ptr 1 0 0 0)),(6,c1 (.ptr 2 0 0 0))]∧h=[⟨.box [.n 0,.n 0,.n 0,.nils],0,true⟩,⟨.box [.n Qa,.n Qb,.n Qc,.nils],1,true⟩,⟨.box [.n Qf,.n Qd,.n Qe,.nils],2,true⟩]∧c11_Take.j5 k1 x5 x8 x9 x11 Qh Qa Qb Qc Qf Qd Qe=some r) ?_ ?_
       ·
        refine wrg ?_;refine wr 3 ?_;refine WR.split 114 rfl (fun b29=>?_) (fun b29=>?_)
        ·
         rw [ifE b29] at H;replace b29:=eq_of_beq b29;refine wr 11 ?_;refine WR.split 125 rfl (fun b30=>?_) (fun b30=>?_)
         ·
          rw [ifX b30] at H;replace b30:=nT b30;refine wr 15 ?_;refine wn ?_;intro kk;refine wcut [some 0,some 1,some 2] [(5,c1 (.n x5)),(8,c1 (.n x8)),(9,c1 (.str x9)),(11,c1 (.n x11)),(140,c1 (.bool true)),(0,c1 (.str a0)),(2,c1 (.ptr 0 0 0 0)),(4,c1 (.ptr 1 0 0 0)),(6,c1 (.ptr 2 0 0 0))] [⟨.box [.n 0,.n 0,.n 0,.nils],0,true⟩,⟨.box [.n Qa,.n Qb,.n Qc,.nils],1,true⟩,⟨.box [.n Qf,.n Qd,.n Qe,.nils],2,true⟩] (n2 rfl (n2 rfl (n2 rfl (n2 rfl (n2 rfl (n2 rfl (n2 rfl (n2 rfl (n2 rfl tv))))))))) (n2 (rw_ rfl rfl) (n2 (rw_ rfl rfl) (n2 (rw_ rfl rfl) tv))) (by rw [hnp];rfl) (fun g=>?_);exact kk _ _ ⟨_,g,_,_,_,_,_,_,_,_,_,_,_,by omega,rfl,rfl,H⟩
         ·
          rw [ifXn b30] at H;replace b30:=nF b30;refine wr 3 ?_;refine WR.split 128 rfl (fun b31=>?_) (fun b31=>?_)
          ·
           rw [ifE b31] at H;replace b31:=eq_of_beq b31;refine wr 12 ?_;refine wn ?_;intro kk;refine wcut [some 0,some 1,some 2] [(5,c1 (.n x5)),(8,c1 (.n x8)),(9,c1 (.str x9)),(11,c1 (.n x11)),(140,c1 (.bool (((x9.size:Int) != (wrap64 ((wrap64 (4*x8))+(wrap64 (x11*Qe)))))))),(0,c1 (.str a0)),(2,c1 (.ptr 0 0 0 0)),(4,c1 (.ptr 1 0 0 0)),(6,c1 (.ptr 2 0 0 0))] [⟨.box [.n 0,.n 0,.n 0,.nils],0,true⟩,⟨.box [.n Qa,.n Qb,.n Qc,.nils],1,true⟩,⟨.box [.n Qf,.n Qd,.n Qe,.nils],2,true⟩] (n2 rfl (n2 rfl (n2 rfl (n2 rfl (n2 rfl (n2 rfl (n2 rfl (n2 rfl (n2 rfl tv))))))))) (n2 (rw_ rfl rfl) (n2 (rw_ rfl rfl) (n2 (rw_ rfl rfl) tv))) (by rw [hnp];rfl) (fun g=>?_);exact kk _ _ ⟨_,g,_,_,_,_,_,_,_,_,_,_,_,by omega,rfl,rfl,H⟩
          ·
           rw [ifEn b31] at H;replace b31:=bF b31;refine wr 12 ?_;refine wn ?_;intro kk;refine wcut [some 0,some 1,some 2] [(5,c1 (.n x5)),(8,c1 (.n x8)),(9,c1 (.str x9)),(11,c1 (.n x11)),(140,c1 (.bool false)),(0,c1 (.str a0)),(2,c1 (.ptr 0 0 0 0)),(4,c1 (.ptr 1 0 0 0)),(6,c1 (.ptr 2 0 0 0))] [⟨.box [.n 0,.n 0,.n 0,.nils],0,true⟩,⟨.box [.n Qa,.n Qb,.n Qc,.nils],1,true⟩,⟨.box [.n Qf,.n Qd,.n Qe,.nils],2,true⟩] (n2 rfl (n2 rfl (n2 rfl (n2 rfl (n2 rfl (n2 rfl (n2 rfl (n2 rfl (n2 rfl tv))))))))) (n2 (rw_ rfl rfl) (n2 (rw_ rfl rfl) (n2 (rw_ rfl rfl) tv))) (by rw [hnp];rfl) (fun g=>?_);exact kk _ _ ⟨_,g,_,_,_,_,_,_,_,_,_,_,_,by omega,rfl,rfl,H⟩
        ·
         rw [ifEn b29] at H;replace b29:=bF b29;refine wr 14 ?_;refine WR.split 128 rfl (fun b32=>?_) (fun b32=>?_)
         ·
          rw [ifE b32] at H;replace b32:=eq_of_beq b32;refine wr 12 ?_;refine wn ?_;intro kk;refine wcut [some 0,some 1,some 2] [(5,c1 (.n x5)),(8,c1 (.n x8)),(9,c1 (.str x9)),(11,c1 (.n x11)),(140,c1 (.bool (((x9.size:Int) != (wrap64 ((wrap64 (4*x8))+(wrap64 (x11*Qe)))))))),(0,c1 (.str a0)),(2,c1 (.ptr 0 0 0 0)),(4,c1 (.ptr 1 0 0 0)),(6,c1 (.ptr 2 0 0 0))] [⟨.box [.n 0,.n 0,.n 0,.nils],0,true⟩,⟨.box [.n Qa,.n Qb,.n Qc,.nils],1,true⟩,⟨.box [.n Qf,.n Qd,.n Qe,.nils],2,true⟩] (n2 rfl (n2 rfl (n2 rfl (n2 rfl (n2 rfl (n2 rfl (n2 rfl (n2 rfl (n2 rfl tv))))))))) (n2 (rw_ rfl rfl) (n2 (rw_ rfl rfl) (n2 (rw_ rfl rfl) tv))) (by rw [hnp];rfl) (fun g=>?_);exact kk _ _ ⟨_,g,_,_,_,_,_,_,_,_,_,_,_,by omega,rfl,rfl,H⟩
         ·
          rw [ifEn b32] at H;replace b32:=bF b32;refine wr 12 ?_;refine wn ?_;intro kk;refine wcut [some 0,some 1,some 2] [(5,c1 (.n x5)),(8,c1 (.n x8)),(9,c1 (.str x9)),(11,c1 (.n x11)),(140,c1 (.bool false)),(0,c1 (.str a0)),(2,c1 (.ptr 0 0 0 0)),(4,c1 (.ptr 1 0 0 0)),(6,c1 (.ptr 2 0 0 0))] [⟨.box [.n 0,.n 0,.n 0,.nils],0,true⟩,⟨.box [.n Qa,.n Qb,.n Qc,.nils],1,true⟩,⟨.box [.n Qf,.n Qd,.n Qe,.nils],2,true⟩] (n2 rfl (n2 rfl (n2 rfl (n2 rfl (n2 rfl (n2 rfl (n2 rfl (n2 rfl (n2 rfl tv))))))))) (n2 (rw_ rfl rfl) (n2 (rw_ rfl rfl) (n2 (rw_ rfl rfl) tv))) (by rw [hnp];rfl) (fun g=>?_);exact kk _ _ ⟨_,g,_,_,_,_,_,_,_,_,_,_,_,by omega,rfl,rfl,H⟩
       rintro ρ h ⟨k,g,x5,x8,x9,x11,Qh,Qa,Qb,Qc,Qf,Qd,Qe,hk33,rfl,rfl,H⟩
       rcases k with _ | k
       ·exact nn H
       simp only [c11_Take.j5] at H;refine WS.cond rfl (fun b34=>?_) (fun b34=>?_)
       ·
        rw [ifB b34] at H;refine WS.seq ?_;refine wrg ?_;refine wr 3 ?_;refine wn ?_;refine WS.ret ?_;cases H;exact ⟨tv,[none],_,rfl,rfl,(n2 rfl tv),rfl,rfl,rfl⟩
       ·
        rw [ifBn b34] at H;refine WS.skip ?_;refine WS.seq ?_;refine WS.seq ?_;refine wrg ?_;refine wr 1 ?_;refine wn ?_;refine WS.block ?_;refine wcut [some 0,some 1,some 2,none] [(5,c1 (.n x5)),(8,c1 (.n x8)),(9,c1 (.str x9)),(11,c1 (.n x11)),(12,c1 (.n 0)),(0,c1 (.str a0)),(2,c1 (.ptr 0 0 0 0)),(4,c1 (.ptr 1 0 0 0)),(6,c1 (.ptr 2 0 0 0))] [⟨.box [.n 0,.n 0,.n 0,.nils],0,true⟩,⟨.box [.n Qa,.n Qb,.n Qc,.nils],1,true⟩,⟨.box [.n Qf,.n Qd,.n Qe,.sl 3 (([]:List (S89))).length],2,true⟩,⟨.own 89 ((([]:List (S89))):List S89),3,true⟩] (n2 rfl (n2 rfl (n2 rfl (n2 rfl (n2 rfl (n2 rfl (n2 rfl (n2 rfl (n2 rfl tv))))))))) (n2 (rw_ rfl rfl) (n2 (rw_ rfl rfl) (n2 (rw_ rfl rfl) (n2 rfl tv)))) (by rw [hnp];rfl) (fun g=>?_);refine WS.loop (fun k1 ρ h=>∃ (g:Nat → SV) (x5:Int) (x8:Int) (x9:ByteArray) (x11:Int) (x12:Int) (Qa:Int) (Qb:Int) (Qc:Int) (Qf:Int) (Qd:Int) (Qe:Int) (Qg:List (S89)),k1≤k∧ρ=upds g [(5,c1 (.n x5)),(8,c1 (.n x8)),(9,c1 (.str x9)),(11,c1 (.n x11)),(12,c1 (.n x12)),(0,c1 (.str a0)),(2,c1 (.ptr 0 0 0 0)),(4,c1 (.ptr 1 0 0 0)),(6,c1 (.ptr 2 0 0 0))]∧h=[⟨.box [.n 0,.n 0,.n 0,.nils],0,true⟩,⟨.box [.n Qa,.n Qb,.n Qc,.nils],1,true⟩,⟨.box [.n Qf,.n Qd,.n Qe,.sl 3 Qg.length],2,true⟩,⟨.own 89 Qg,3,true⟩]∧c11_Take.l1 k1 x5 x8 x9 x11 x12 Qa Qb Qc Qf Qd Qe Qg=some r) ?_ (n:=k) ⟨g,_,_,_,_,_,_,_,_,_,_,_,_,Nat.le_refl _,rfl,rfl,H⟩;rintro k ρ h ih35 ⟨g,x5,x8,x9,x11,x12,Qa,Qb,Qc,Qf,Qd,Qe,Qg,hkih35,rfl,rfl,H⟩
        rcases k with _ | k
        ·exact nn H
        simp only [c11_Take.l1] at H;refine WS.seq ?_;refine WS.seq ?_;refine wrg ?_;refine wr 4 ?_;refine wn ?_;refine WS.cond rfl (fun b36=>?_) (fun b36=>?_)
        ·
         rw [ifP b36] at H;replace b36:=dT b36;refine WS.skip ?_;refine WS.seq ?_;refine WS.block ?_;refine WS.seq ?_;refine wrg ?_;refine wr 1 ?_;refine wn ?_;refine WS.block ?_;refine wcut [some 0,some 1,some 2,some 3] [(5,c1 (.n x5)),(8,c1 (.n x8)),(9,c1 (.str x9)),(11,c1 (.n x11)),(12,c1 (.n x12)),(13,c1 (.n 0)),(0,c1 (.str a0)),(2,c1 (.ptr 0 0 0 0)),(4,c1 (.ptr 1 0 0 0)),(6,c1 (.ptr 2 0 0 0))] [⟨.box [.n 0,.n 0,.n 0,.nils],0,true⟩,⟨.box [.n Qa,.n Qb,.n Qc,.nils],1,true⟩,⟨.box [.n Qf,.n Qd,.n Qe,.sl 3 Qg.length],2,true⟩,⟨.own 89 Qg,3,true⟩] (n2 rfl (n2 rfl (n2 rfl (n2 rfl (n2 rfl (n2 rfl (n2 rfl (n2 rfl (n2 rfl (n2 rfl tv)))))))))) (n2 (rw_ rfl rfl) (n2 (rw_ rfl rfl) (n2 (rw_ rfl rfl) (n2 (rw_ rfl rfl) tv)))) (by rw [hnp];rfl) (fun g=>?_);refine WS.loop (fun k1 ρ h=>∃ (g:Nat → SV) (x5:Int) (x8:Int) (x9:ByteArray) (x11:Int) (x12:Int) (x13:Int) (Qa:Int) (Qb:Int) (Qc:Int) (Qf:Int) (Qd:Int) (Qe:Int) (Qg:List (S89)),k1≤k∧ρ=upds g [(5,c1 (.n x5)),(8,c1 (.n x8)),(9,c1 (.str x9)),(11,c1 (.n x11)),(12,c1 (.n x12)),(13,c1 (.n x13)),(0,c1 (.str a0)),(2,c1 (.ptr 0 0 0 0)),(4,c1 (.ptr 1 0 0 0)),(6,c1 (.ptr 2 0 0 0))]∧h=[⟨.box [.n 0,.n 0,.n 0,.nils],0,true⟩,⟨.box [.n Qa,.n Qb,.n Qc,.nils],1,true⟩,⟨.box [.n Qf,.n Qd,.n Qe,.sl 3 Qg.length],2,true⟩,⟨.own 89 Qg,3,true⟩]∧c11_Take.l2 k1 x5 x8 x9 x11 x12 x13 Qa Qb Qc Qf Qd Qe Qg=some r) ?_ (n:=k) ⟨g,_,_,_,_,_,_,_,_,_,_,_,_,_,Nat.le_refl _,rfl,rfl,H⟩;rintro k ρ h ih37 ⟨g,x5,x8,x9,x11,x12,x13,Qa,Qb,Qc,Qf,Qd,Qe,Qg,hkih37,rfl,rfl,H⟩
         rcases k with _ | k
         ·exact nn H
         simp only [c11_Take.l2] at H;refine WS.seq ?_;refine WS.seq ?_;refine wrg ?_;refine wr 4 ?_;refine wn ?_;refine WS.cond rfl (fun b38=>?_) (fun b38=>?_)
         ·
          rw [ifP b38] at H;replace b38:=dT b38;refine WS.skip ?_;refine WS.seq ?_;refine WS.block ?_;refine WS.seq ?_;refine wrg ?_;refine wr 8 ?_;refine wn ?_;refine WS.seq ?_;refine WS.seq ?_;refine wrg ?_;refine wr 2 ?_;refine wn ?_;refine WS.cond rfl (fun b39=>?_) (fun b39=>?_)
          ·
           rw [ifE b39] at H;replace b39:=eq_of_beq b39;refine WS.seq ?_;refine wrg ?_;obtain ⟨g40,H⟩:=gd H;obtain ⟨g41,H⟩:=gd H;obtain ⟨g42,H⟩:=gd H;obtain ⟨g43,H⟩:=gd H;obtain ⟨g44,H⟩:=gd H;obtain ⟨g45,H⟩:=gd H;obtain ⟨g46,H⟩:=gd H;obtain ⟨g47,H⟩:=gd H;obtain ⟨g48,H⟩:=gd H;refine wr 26 ?_;refine wn ?_;refine WS.exit ?_;refine wrg ?_;refine wr 3 ?_;refine wn ?_;refine wcut [some 0,some 1,some 2,some 5] [(5,c1 (.n x5)),(8,c1 (.n x8)),(9,c1 (.str x9)),(11,c1 (.n x11)),(12,c1 (.n x12)),(13,c1 (.n ((wrap64 (x13+1))))),(0,c1 (.str a0)),(2,c1 (.ptr 0 0 0 0)),(4,c1 (.ptr 1 0 0 0)),(6,c1 (.ptr 2 0 0 0))] [⟨.box [.n 0,.n 0,.n 0,.nils],0,true⟩,⟨.box [.n Qa,.n Qb,.n Qc,.nils],1,true⟩,⟨.box [.n Qf,.n Qd,.n Qe,.sl 3 ((Qg ++ [(⟨wrap64 (bt x9 (wrap64 ((wrap64 (4*(wrap64 ((wrap64 (x12*Qd))+x13))))+1))),wrap64 (bt x9 (wrap64 ((wrap64 (4*(wrap64 ((wrap64 (x12*Qd))+x13))))+2))),wrap64 (bt x9 (wrap64 ((wrap64 (4*(wrap64 ((wrap64 (x12*Qd))+x13))))+3))),wrap64 (bt x9 (wrap64 (4*(wrap64 ((wrap64 (x12*Qd))+x13)))))⟩:S89)])).length],2,true⟩,⟨.own 89 (((Qg ++ [(⟨wrap64 (bt x9 (wrap64 ((wrap64 (4*(wrap64 ((wrap64 (x12*Qd))+x13))))+1))),wrap64 (bt x9 (wrap64 ((wrap64 (4*(wrap64 ((wrap64 (x12*Qd))+x13))))+2))),wrap64 (bt x9 (wrap64 ((wrap64 (4*(wrap64 ((wrap64 (x12*Qd))+x13))))+3))),wrap64 (bt x9 (wrap64 (4*(wrap64 ((wrap64 (x12*Qd))+x13)))))⟩:S89)])):List S89),3,true⟩] (n2 rfl (n2 rfl (n2 rfl (n2 rfl (n2 rfl (n2 rfl (n2 rfl (n2 rfl (n2 rfl (n2 rfl tv)))))))))) (n2 (rw_ rfl rfl) (n2 (rw_ rfl rfl) (n2 (rw_ rfl rfl) (n2 (rw_ rfl rfl) tv)))) (by rw [hnp];rfl) (fun g=>?_)
           exact ih37 k (by omega) _ _ ⟨g,_,_,_,_,_,_,_,_,_,_,_,_,_,by omega,rfl,rfl,H⟩
          ·
           rw [ifEn b39] at H;replace b39:=bF b39;refine WS.skip ?_;refine WS.seq ?_;refine wrg ?_;obtain ⟨g49,H⟩:=gd H;obtain ⟨g50,H⟩:=gd H;refine wr 12 ?_;refine wn ?_;refine WS.seq ?_;refine WS.seq ?_;refine wrg ?_;refine wr 3 ?_;refine wn ?_;refine WS.cond rfl (fun b51=>?_) (fun b51=>?_)
           ·
            rw [ifP b51] at H;replace b51:=dT b51;refine WS.seq ?_;refine wrg ?_;refine wr 3 ?_;refine wn ?_;refine WS.ret ?_;cases H;exact ⟨tv,[none],_,rfl,rfl,(n2 rfl tv),rfl,rfl,rfl⟩
           ·
            rw [ifN b51] at H;replace b51:=dF b51;refine WS.skip ?_;refine wrg ?_;obtain ⟨g52,H⟩:=gd H;obtain ⟨g53,H⟩:=gd H;obtain ⟨g54,H⟩:=gd H;obtain ⟨g55,H⟩:=gd H;obtain ⟨g56,H⟩:=gd H;obtain ⟨g57,H⟩:=gd H;obtain ⟨g58,H⟩:=gd H;obtain ⟨g59,H⟩:=gd H;obtain ⟨g60,H⟩:=gd H;refine wr 30 ?_;refine wn ?_;refine wrg ?_;refine wr 3 ?_;refine wn ?_;refine wcut [some 0,some 1,some 2,some 5] [(5,c1 (.n x5)),(8,c1 (.n x8)),(9,c1 (.str x9)),(11,c1 (.n x11)),(12,c1 (.n x12)),(13,c1 (.n ((wrap64 (x13+1))))),(0,c1 (.str a0)),(2,c1 (.ptr 0 0 0 0)),(4,c1 (.ptr 1 0 0 0)),(6,c1 (.ptr 2 0 0 0))] [⟨.box [.n 0,.n 0,.n 0,.nils],0,true⟩,⟨.box [.n Qa,.n Qb,.n Qc,.nils],1,true⟩,⟨.box [.n Qf,.n Qd,.n Qe,.sl 3 ((Qg ++ [(⟨wrap64 (bt x9 (wrap64 (4*(wrap64 (bt x9 (wrap64 ((wrap64 ((wrap64 (4*x8))+(wrap64 (x12*x11))))+x13))))))),wrap64 (bt x9 (wrap64 ((wrap64 (4*(wrap64 (bt x9 (wrap64 ((wrap64 ((wrap64 (4*x8))+(wrap64 (x12*x11))))+x13))))))+1))),wrap64 (bt x9 (wrap64 ((wrap64 (4*(wrap64 (bt x9 (wrap64 ((wrap64 ((wrap64 (4*x8))+(wrap64 (x12*x11))))+x13))))))+2))),wrap64 (bt x9 (wrap64 ((wrap64 (4*(wrap64 (bt x9 (wrap64 ((wrap64 ((wrap64 (4*x8))+(wrap64 (x12*x11))))+x13))))))+3)))⟩:S89)])).length],2,true⟩,⟨.own 89 (((Qg ++ [(⟨wrap64 (bt x9 (wrap64 (4*(wrap64 (bt x9 (wrap64 ((wrap64 ((wrap64 (4*x8))+(wrap64 (x12*x11))))+x13))))))),wrap64 (bt x9 (wrap64 ((wrap64 (4*(wrap64 (bt x9 (wrap64 ((wrap64 ((wrap64 (4*x8))+(wrap64 (x12*x11))))+x13))))))+1))),wrap64 (bt x9 (wrap64 ((wrap64 (4*(wrap64 (bt x9 (wrap64 ((wrap64 ((wrap64 (4*x8))+(wrap64 (x12*x11))))+x13))))))+2))),wrap64 (bt x9 (wrap64 ((wrap64 (4*(wrap64 (bt x9 (wrap64 ((wrap64 ((wrap64 (4*x8))+(wrap64 (x12*x11))))+x13))))))+3)))⟩:S89)])):List S89),3,true⟩] (n2 rfl (n2 rfl (n2 rfl (n2 rfl (n2 rfl (n2 rfl (n2 rfl (n2 rfl (n2 rfl (n2 rfl tv)))))))))) (n2 (rw_ rfl rfl) (n2 (rw_ rfl rfl) (n2 (rw_ rfl rfl) (n2 (rw_ rfl rfl) tv)))) (by rw [hnp];rfl) (fun g=>?_)
            exact ih37 k (by omega) _ _ ⟨g,_,_,_,_,_,_,_,_,_,_,_,_,_,by omega,rfl,rfl,H⟩
         ·
          rw [ifN b38] at H;replace b38:=dF b38;refine WS.exit ?_;refine wrg ?_;refine wr 3 ?_;refine wn ?_;refine wcut [some 0,some 1,some 2,some 3] [(5,c1 (.n x5)),(8,c1 (.n x8)),(9,c1 (.str x9)),(11,c1 (.n x11)),(12,c1 (.n ((wrap64 (x12+1))))),(0,c1 (.str a0)),(2,c1 (.ptr 0 0 0 0)),(4,c1 (.ptr 1 0 0 0)),(6,c1 (.ptr 2 0 0 0))] [⟨.box [.n 0,.n 0,.n 0,.nils],0,true⟩,⟨.box [.n Qa,.n Qb,.n Qc,.nils],1,true⟩,⟨.box [.n Qf,.n Qd,.n Qe,.sl 3 Qg.length],2,true⟩,⟨.own 89 Qg,3,true⟩] (n2 rfl (n2 rfl (n2 rfl (n2 rfl (n2 rfl (n2 rfl (n2 rfl (n2 rfl (n2 rfl tv))))))))) (n2 (rw_ rfl rfl) (n2 (rw_ rfl rfl) (n2 (rw_ rfl rfl) (n2 (rw_ rfl rfl) tv)))) (by rw [hnp];rfl) (fun g=>?_);exact ih35 k (by omega) _ _ ⟨g,_,_,_,_,_,_,_,_,_,_,_,_,by omega,rfl,rfl,H⟩
        ·
         rw [ifN b36] at H;replace b36:=dF b36;refine WS.exit ?_;refine WS.seq ?_;refine WS.seq ?_;refine wrg ?_;refine wr 1 ?_;obtain ⟨t208,ht208,H⟩:=bd H;refine WR.call (ref11_Right_sp _ _ _ _ _ _ ht208) [some 3] rfl rfl rfl rfl rfl (n2 rfl tv) rfl rfl rfl rfl rfl ?_;refine wr 1 ?_;refine wn ?_;refine WS.cond rfl (fun b61=>?_) (fun b61=>?_)
         ·
          rw [ifZ b61] at H;refine WS.seq ?_;refine wrg ?_;refine wr 3 ?_;refine wn ?_;refine WS.ret ?_;cases H;exact ⟨tv,[none],_,rfl,rfl,(n2 rfl tv),rfl,rfl,rfl⟩
         ·
          rw [ifZn b61] at H;refine WS.skip ?_;refine WS.seq ?_;refine wrg ?_;refine wr 3 ?_;refine wn ?_;refine WS.ret ?_;cases H;exact ⟨tv,[some 3],_,rfl,rfl,(n2 (rw_ rfl rfl) tv),rfl,rfl,rfl⟩
end Go.Proofs.Ytpbhkdamkbopkaa.Rs
namespace Go.Proofs.Ytpbhkdamkbopkaa.Rs
open Go Go.RowKit Rf YtpbhkdamkbopkaaW.PrintWords
variable {O:Orc} {Γ:Gh} {ν:Nu} {h:List (SR kt)} {nt:Nat} {A:AW}
theorem aeq3 (a b:Int):aeq Try.prog 49 3 (.int .i64 a) (.int .i64 b)=some (a == b):=by
 unfold aeq;rw [show Try.prog.underlying 3=some (.int .i64) by kernel_rfl];simp
theorem apart3 (cs:Array Value) (off:Nat):apart Try.prog 3 cs off=cs[off]?:=by
 unfold apart;rw [show lay Try.prog 3=some (false,1) by kernel_rfl]
theorem aeq89 (a0 a1 a2 a3 b0 b1 b2 b3:Int):aeq Try.prog 50 89 (.agg #[.int .i64 a0,.int .i64 a1,.int .i64 a2,.int .i64 a3]) (.agg #[.int .i64 b0,.int .i64 b1,.int .i64 b2,.int .i64 b3])=some ((a0 == b0) && ((a1 == b1) && ((a2 == b2) && (a3 == b3)))):=by
 obtain ⟨F, hF, hf, hn, hs⟩ : ∃ F : Array Field, Try.prog.underlying 89 = some (.struct F) ∧ F.toList.map (fun f => (f.type, f.offset)) = [(3, 0), (3, 1), (3, 2), (3, 3)] ∧ (F.toList.all fun f => f.name != "_") = true ∧ Try.prog.stoodInHeld 89 = false := ⟨_, Try.underlying89, by kernel_rfl, by kernel_rfl, by kernel_rfl⟩;unfold aeq;rw [hF];simp only [hf,hn,hs,Bool.not_true,Bool.or_self,cond_false]
 have e0:∀ (l:List (TypeId × Nat)) (x y:Value) (off:Nat) (xs ys:Array Value) (a b:Int),xs[off]?=some (.int .i64 a) → ys[off]?=some (.int .i64 b) → aeqL Try.prog (aeq Try.prog 49) xs ys ((3,off) :: l)=(match (a == b) with | true=>aeqL Try.prog (aeq Try.prog 49) xs ys l | false=>some false):=fun l x y off xs ys a b h1 h2=>by
  conv=>lhs;unfold aeqL
  rw [apart3,apart3,h1,h2];simp only [aeq3];cases (a == b) <;> rfl
 rw [e0 _ .nilIface .nilIface 0 _ _ a0 b0 rfl rfl,e0 _ .nilIface .nilIface 1 _ _ a1 b1 rfl rfl,e0 _ .nilIface .nilIface 2 _ _ a2 b2 rfl rfl,e0 _ .nilIface .nilIface 3 _ _ a3 b3 rfl rfl];cases (a0 == b0) <;> cases (a1 == b1) <;> cases (a2 == b2) <;> cases (a3 == b3) <;> rfl
theorem WR.neq89 {ops : Array Oper} {draw : Bool} {o : Oper} {l : List Oper} {ρ : Nat → SV} {ks : List (Nat × Nat)} {Q : (Nat → SV) → List (SR kt) → Prop} {a0 a1 a2 a3 b0 b1 b2 b3 : Int} {x y : Operand} {d : Nat}
  (r:WR Try.prog O nt ops draw Γ l (upd ρ d (c1 (.bool (!(a0 == b0) || (!(a1 == b1) || (!(a2 == b2) || !(a3 == b3))))))) h ((0,0) :: ks) Q)
  (ho:o.op=.binOp .neq 89 x y 89:=by rfl) (hx:sev ρ x=.v (.agg [.int .i64 a0,.int .i64 a1,.int .i64 a2,.int .i64 a3]):=by rfl) (hy:sev ρ y=.v (.agg [.int .i64 b0,.int .i64 b1,.int .i64 b2,.int .i64 b3]):=by rfl)
  (hg:sguard ρ ops.toList o=some true:=by rfl) (hcl:opClean o.op=true:=by rfl) (hd:o.dst=some d:=by rfl) (hnt:Nat.blt d nt=true:=by rfl):WR Try.prog O nt ops draw Γ (o :: l) ρ h ks Q:=by
 refine WR.step (ρ1:=upd ρ d (c1 (.bool (!(a0 == b0) || (!(a1 == b1) || (!(a2 == b2) || !(a3 == b3))))))) (k:=(0,0)) ?_ r
 have:=One.ok (P:=Try.prog) (O:=O) (Γ:=Γ) (nt:=nt) (ops:=ops) (o:=o) (ρ:=ρ) (h:=h) (v:=c1 (.bool (!(a0 == b0) || (!(a1 == b1) || (!(a2 == b2) || !(a3 == b3)))))) (h1:=h) (k:=(0,0)) hg hcl (fun ν A ρe s dd=>by
  rw [ho]
  have cells:∀ (z:Operand) (c0 c1 c2 c3:Int),sev ρ z=.v (.agg [.int .i64 c0,.int .i64 c1,.int .i64 c2,.int .i64 c3]) → ρe z=.agg #[.int .i64 c0,.int .i64 c1,.int .i64 c2,.int .i64 c3]:=fun z c0 c1 c2 c3 hz=>by
   have:=dd z;rw [hz] at this;obtain ⟨cs,e,dl⟩:=this;rw [e];obtain ⟨vs⟩:=cs
   match vs,dl with
   |[],dl=>exact dl.elim
   |[_],dl=>exact dl.2.elim
   |[_,_],dl=>exact dl.2.2.elim
   |[_,_,_],dl=>exact dl.2.2.2.elim
   |[u0,u1,u2,u3],dl =>
    have q0:u0=.int .i64 c0:=dl.1;have q1:u1=.int .i64 c1:=dl.2.1;have q2:u2=.int .i64 c2:=dl.2.2.1;have q3:u3=.int .i64 c3:=dl.2.2.2.1;rw [q0,q1,q2,q3]
   |_ :: _ :: _ :: _ :: _ :: _,dl=>exact dl.2.2.2.2.elim
  refine OpOk.pure s (u:=.bool (!((a0 == b0) && ((a1 == b1) && ((a2 == b2) && (a3 == b3)))))) (fun z hz=>?_) ?_ rfl
  ·unfold aop;rw [hz];simp only;rw [cells x _ _ _ _ hx,cells y _ _ _ _ hy];unfold abin;simp only [show Try.prog.eqGuardType Try.prog.depth 89=false by kernel_rfl,cond_false,aeq89,Option.map_some]
  ·show Value.bool _=Value.bool _;cases (a0 == b0) <;> cases (a1 == b1) <;> cases (a2 == b2) <;> cases (a3 == b3) <;> rfl) (fun t q=>by rw [hd] at q;cases q;exact hnt)
 rw [hd] at this;exact this
end Go.Proofs.Ytpbhkdamkbopkaa.Rs
namespace Go.Proofs.Ytpbhkdamkbopkaa.Rs
open Go Go.RowKit Rf YtpbhkdamkbopkaaW.PrintWords Go.Proofs.Ytpbhkdamkbopkaa GPix
set_option maxRecDepth 10000
set_option maxHeartbeats 4000000
variable {O:Orc}
theorem ref11_Equal_sp (k:Nat) (Qi:Int) (Qj:Int) (Qk:Int) (Qa:List (S89)) (Ql:Int) (Qm:Int) (Qn:Int) (Qb:List (S89)) (r:Bool) (H:c11_Equal.f k Qi Qj Qk Qa Ql Qm Qn Qb=some r):Sp (KT:=kt) Try.prog O 56 [.v (.agg [.n Qi,.n Qj,.n Qk,.sl 0 Qa.length]),.v (.agg [.n Ql,.n Qm,.n Qn,.sl 1 Qb.length])] [⟨.view 89 Qa,0,false⟩,⟨.view 89 Qb,1,false⟩] (c1 (.bool r)) [⟨.view 89 Qa,0,false⟩,⟨.view 89 Qb,1,false⟩]:=by
 refine Sp.of tok (by kernel_rfl) Try.func56 rfl rfl fun Γ hnp=>?_;unfold c11_Equal.f at H;refine WS.seq ?_;refine wrg ?_;refine wr 3 ?_;refine wn ?_;refine WS.seq ?_;refine WS.join (fun ρ h=>∃ k1,∃ (g:Nat → SV) (x33:Bool) (Qc:Int) (Qd:Int) (Qe:Int) (Qf:Int) (Qg:Int) (Qh:Int),k1≤k∧ρ=upds g [(33,c1 (.bool x33)),(0,.v (.agg [.n Qi,.n Qj,.n Qk,.sl 0 Qa.length])),(1,.v (.agg [.n Ql,.n Qm,.n Qn,.sl 1 Qb.length])),(2,c1 (.ptr 2 0 0 0)),(3,c1 (.ptr 3 0 0 0))]∧h=[⟨.view 89 Qa,0,false⟩,⟨.view 89 Qb,1,false⟩,⟨.box [.n Qc,.n Qd,.n Qe,.sl 0 Qa.length],2,true⟩,⟨.box [.n Qf,.n Qg,.n Qh,.sl 1 Qb.length],3,true⟩]∧c11_Equal.j0 k1 x33 Qc Qd Qe Qa Qf Qg Qh Qb=some r) ?_ ?_
 ·
  refine wrg ?_;refine wr 6 ?_;refine WR.split 11 rfl (fun b1=>?_) (fun b1=>?_)
  ·
   rw [ifX b1] at H;replace b1:=nT b1;refine wr 22 ?_;refine wn ?_;intro kk;refine wcut [some 0,some 1,some 2,some 3] [(33,c1 (.bool true)),(0,.v (.agg [.n Qi,.n Qj,.n Qk,.sl 0 Qa.length])),(1,.v (.agg [.n Ql,.n Qm,.n Qn,.sl 1 Qb.length])),(2,c1 (.ptr 2 0 0 0)),(3,c1 (.ptr 3 0 0 0))] [⟨.view 89 Qa,0,false⟩,⟨.view 89 Qb,1,false⟩,⟨.box [.n Qi,.n Qj,.n Qk,.sl 0 Qa.length],2,true⟩,⟨.box [.n Ql,.n Qm,.n Qn,.sl 1 Qb.length],3,true⟩] (n2 rfl (n2 rfl (n2 rfl (n2 rfl (n2 rfl tv))))) (n2 rfl (n2 rfl (n2 (rw_ rfl rfl) (n2 (rw_ rfl rfl) tv)))) (by rw [hnp];rfl) (fun g=>?_);exact kk _ _ ⟨_,g,_,_,_,_,_,_,_,by omega,rfl,rfl,H⟩
  ·
   rw [ifXn b1] at H;replace b1:=nF b1;refine wr 7 ?_;refine WR.split 18 rfl (fun b2=>?_) (fun b2=>?_)
   ·
    rw [ifX b2] at H;replace b2:=nT b2;refine wr 15 ?_;refine wn ?_;intro kk;refine wcut [some 0,some 1,some 2,some 3] [(33,c1 (.bool true)),(0,.v (.agg [.n Qi,.n Qj,.n Qk,.sl 0 Qa.length])),(1,.v (.agg [.n Ql,.n Qm,.n Qn,.sl 1 Qb.length])),(2,c1 (.ptr 2 0 0 0)),(3,c1 (.ptr 3 0 0 0))] [⟨.view 89 Qa,0,false⟩,⟨.view 89 Qb,1,false⟩,⟨.box [.n Qi,.n Qj,.n Qk,.sl 0 Qa.length],2,true⟩,⟨.box [.n Ql,.n Qm,.n Qn,.sl 1 Qb.length],3,true⟩] (n2 rfl (n2 rfl (n2 rfl (n2 rfl (n2 rfl tv))))) (n2 rfl (n2 rfl (n2 (rw_ rfl rfl) (n2 (rw_ rfl rfl) tv)))) (by rw [hnp];rfl) (fun g=>?_);exact kk _ _ ⟨_,g,_,_,_,_,_,_,_,by omega,rfl,rfl,H⟩
   ·
    rw [ifXn b2] at H;replace b2:=nF b2;refine wr 7 ?_;refine WR.split 25 rfl (fun b3=>?_) (fun b3=>?_)
    ·
     rw [ifX b3] at H;replace b3:=nT b3;refine wr 8 ?_;refine wn ?_;intro kk;refine wcut [some 0,some 1,some 2,some 3] [(33,c1 (.bool true)),(0,.v (.agg [.n Qi,.n Qj,.n Qk,.sl 0 Qa.length])),(1,.v (.agg [.n Ql,.n Qm,.n Qn,.sl 1 Qb.length])),(2,c1 (.ptr 2 0 0 0)),(3,c1 (.ptr 3 0 0 0))] [⟨.view 89 Qa,0,false⟩,⟨.view 89 Qb,1,false⟩,⟨.box [.n Qi,.n Qj,.n Qk,.sl 0 Qa.length],2,true⟩,⟨.box [.n Ql,.n Qm,.n Qn,.sl 1 Qb.length],3,true⟩] (n2 rfl (n2 rfl (n2 rfl (n2 rfl (n2 rfl tv))))) (n2 rfl (n2 rfl (n2 (rw_ rfl rfl) (n2 (rw_ rfl rfl) tv)))) (by rw [hnp];rfl) (fun g=>?_);exact kk _ _ ⟨_,g,_,_,_,_,_,_,_,by omega,rfl,rfl,H⟩
    ·
     rw [ifXn b3] at H;replace b3:=nF b3;refine wr 8 ?_;refine wn ?_;intro kk;refine wcut [some 0,some 1,some 2,some 3] [(33,c1 (.bool (((Qa.length:Int) != (Qb.length:Int))))),(0,.v (.agg [.n Qi,.n Qj,.n Qk,.sl 0 Qa.length])),(1,.v (.agg [.n Ql,.n Qm,.n Qn,.sl 1 Qb.length])),(2,c1 (.ptr 2 0 0 0)),(3,c1 (.ptr 3 0 0 0))] [⟨.view 89 Qa,0,false⟩,⟨.view 89 Qb,1,false⟩,⟨.box [.n Qi,.n Qj,.n Qk,.sl 0 Qa.length],2,true⟩,⟨.box [.n Ql,.n Qm,.n Qn,.sl 1 Qb.length],3,true⟩] (n2 rfl (n2 rfl (n2 rfl (n2 rfl (n2 rfl tv))))) (n2 rfl (n2 rfl (n2 (rw_ rfl rfl) (n2 (rw_ rfl rfl) tv)))) (by rw [hnp];rfl) (fun g=>?_);exact kk _ _ ⟨_,g,_,_,_,_,_,_,_,by omega,rfl,rfl,H⟩
 rintro ρ h ⟨k,g,x33,Qc,Qd,Qe,Qf,Qg,Qh,hk4,rfl,rfl,H⟩
 rcases k with _ | k
 ·exact nn H
 simp only [c11_Equal.j0] at H;refine WS.cond rfl (fun b5=>?_) (fun b5=>?_)
 ·
  rw [ifB b5] at H;refine WS.seq ?_;refine wrg ?_;refine wr 1 ?_;refine wn ?_;refine WS.ret ?_;cases H;exact ⟨tv,[some 0,some 1],_,rfl,rfl,(n2 rfl (n2 rfl tv)),rfl,rfl,rfl⟩
 ·
  rw [ifBn b5] at H;refine WS.skip ?_;refine WS.seq ?_;refine WS.seq ?_;refine wrg ?_;refine wr 1 ?_;refine wn ?_;refine WS.block ?_;refine wcut [some 0,some 1,some 2,some 3] [(5,c1 (.n 0)),(0,.v (.agg [.n Qi,.n Qj,.n Qk,.sl 0 Qa.length])),(1,.v (.agg [.n Ql,.n Qm,.n Qn,.sl 1 Qb.length])),(2,c1 (.ptr 2 0 0 0)),(3,c1 (.ptr 3 0 0 0))] [⟨.view 89 Qa,0,false⟩,⟨.view 89 Qb,1,false⟩,⟨.box [.n Qc,.n Qd,.n Qe,.sl 0 Qa.length],2,true⟩,⟨.box [.n Qf,.n Qg,.n Qh,.sl 1 Qb.length],3,true⟩] (n2 rfl (n2 rfl (n2 rfl (n2 rfl (n2 rfl tv))))) (n2 rfl (n2 rfl (n2 (rw_ rfl rfl) (n2 (rw_ rfl rfl) tv)))) (by rw [hnp];rfl) (fun g=>?_);refine WS.loop (fun k1 ρ h=>∃ (g:Nat → SV) (x5:Int) (Qc:Int) (Qd:Int) (Qe:Int) (Qf:Int) (Qg:Int) (Qh:Int),k1≤k∧ρ=upds g [(5,c1 (.n x5)),(0,.v (.agg [.n Qi,.n Qj,.n Qk,.sl 0 Qa.length])),(1,.v (.agg [.n Ql,.n Qm,.n Qn,.sl 1 Qb.length])),(2,c1 (.ptr 2 0 0 0)),(3,c1 (.ptr 3 0 0 0))]∧h=[⟨.view 89 Qa,0,false⟩,⟨.view 89 Qb,1,false⟩,⟨.box [.n Qc,.n Qd,.n Qe,.sl 0 Qa.length],2,true⟩,⟨.box [.n Qf,.n Qg,.n Qh,.sl 1 Qb.length],3,true⟩]∧c11_Equal.l0 k1 x5 Qc Qd Qe Qa Qf Qg Qh Qb=some r) ?_ (n:=k) ⟨g,_,_,_,_,_,_,_,Nat.le_refl _,rfl,rfl,H⟩;rintro k ρ h ih6 ⟨g,x5,Qc,Qd,Qe,Qf,Qg,Qh,hkih6,rfl,rfl,H⟩
  rcases k with _ | k
  ·exact nn H
  simp only [c11_Equal.l0] at H;refine WS.seq ?_;refine WS.seq ?_;refine wrg ?_;refine wr 5 ?_;refine wn ?_;refine WS.cond rfl (fun b7=>?_) (fun b7=>?_)
  ·
   rw [ifP b7] at H;replace b7:=dT b7;refine WS.skip ?_;refine WS.seq ?_;refine WS.block ?_;refine WS.seq ?_;refine wrg ?_;obtain ⟨g8,H⟩:=gd H;obtain ⟨g9,H⟩:=gd H;refine wr 10 ?_;refine WR.neq89 ?_;refine wn ?_;refine WS.cond rfl (fun b10=>?_) (fun b10=>?_)
   ·
    rw [ifB b10] at H;refine WS.seq ?_;refine wrg ?_;refine wr 1 ?_;refine wn ?_;refine WS.ret ?_;cases H;exact ⟨tv,[some 0,some 1],_,rfl,rfl,(n2 rfl (n2 rfl tv)),rfl,rfl,rfl⟩
   ·
    rw [ifBn b10] at H;refine WS.skip ?_;refine wrg ?_;refine wr 3 ?_;refine wn ?_;refine wcut [some 0,some 1,some 2,some 3] [(5,c1 (.n ((wrap64 (x5+1))))),(0,.v (.agg [.n Qi,.n Qj,.n Qk,.sl 0 Qa.length])),(1,.v (.agg [.n Ql,.n Qm,.n Qn,.sl 1 Qb.length])),(2,c1 (.ptr 2 0 0 0)),(3,c1 (.ptr 3 0 0 0))] [⟨.view 89 Qa,0,false⟩,⟨.view 89 Qb,1,false⟩,⟨.box [.n Qc,.n Qd,.n Qe,.sl 0 Qa.length],2,true⟩,⟨.box [.n Qf,.n Qg,.n Qh,.sl 1 Qb.length],3,true⟩] (n2 rfl (n2 rfl (n2 rfl (n2 rfl (n2 rfl tv))))) (n2 rfl (n2 rfl (n2 (rw_ rfl rfl) (n2 (rw_ rfl rfl) tv)))) (by rw [hnp];rfl) (fun g=>?_);exact ih6 k (by omega) _ _ ⟨g,_,_,_,_,_,_,_,by omega,rfl,rfl,H⟩
  ·
   rw [ifN b7] at H;replace b7:=dF b7;refine WS.exit ?_;refine WS.seq ?_;refine wrg ?_;refine wr 1 ?_;refine wn ?_;refine WS.ret ?_;cases H;exact ⟨tv,[some 0,some 1],_,rfl,rfl,(n2 rfl (n2 rfl tv)),rfl,rfl,rfl⟩
end Go.Proofs.Ytpbhkdamkbopkaa.Rs
namespace Go.Proofs.Ytpbhkdamkbopkaa.Rs
open Go Go.RowKit Rf YtpbhkdamkbopkaaW.PrintWords Go.Proofs.Ytpbhkdamkbopkaa GPtk GPix
set_option maxRecDepth 10000
set_option maxHeartbeats 4000000
theorem ref_keep {a b c:Int} {l:List S89} {r:Int × Int × Int × List S89} (h:l11_ref.f a b c l=some r):r.2.2.2=l:=by cases h;rfl
theorem law_sp (k:Nat) (a0:ByteArray) (r:Bool) (H:l11_PixelTakes.f k a0=some r):Sp (KT:=kt) Try.prog O1c 20 [c1 (.str a0)] [] (c1 (.bool r)) []:=by
 refine Sp.of tok (by kernel_rfl) Try.func20 rfl rfl fun Γ hnp=>?_;unfold l11_PixelTakes.f at H;refine WS.seq ?_;refine wrg ?_;refine wr 1 ?_;refine wn ?_;refine WS.seq ?_;refine WS.seq ?_;refine wrg ?_;refine wr 3 ?_;refine wn ?_;refine WS.cond rfl (fun b1=>?_) (fun b1=>?_)
 ·
  rw [ifP b1] at H;replace b1:=dT b1;refine WS.seq ?_;refine wrg ?_;obtain ⟨t215,ht215,H⟩:=bd H;refine WR.call (awake_sp _  _ ht215) [] rfl rfl rfl rfl rfl tv rfl rfl rfl rfl rfl ?_;refine wr 1 ?_;refine wn ?_;refine WS.ret ?_;cases H;exact ⟨tv,[],_,rfl,rfl,tv,rfl,rfl,rfl⟩
 ·
  rw [ifN b1] at H;replace b1:=dF b1;refine WS.skip ?_;refine WS.seq ?_;refine wrg ?_;refine wr 1 ?_;obtain ⟨bt216,hbt216,H⟩:=bd H;refine WR.call (pixel_Take_sp _ _ _ hbt216) [] rfl rfl rfl rfl rfl tv rfl rfl rfl rfl rfl ?_;refine wr 6 ?_;refine wn ?_;refine WS.seq ?_;refine wrg ?_;refine wr 1 ?_;obtain ⟨bt224,hbt224,H⟩:=bd H;refine WR.call (ref11_Take_sp _ _ _ hbt224) [] rfl rfl rfl rfl rfl tv rfl rfl rfl rfl rfl ?_;refine wr 6 ?_;refine wn ?_;refine WS.seq ?_;refine wrg ?_;refine wr 1 ?_;obtain ⟨bt232,hbt232,H⟩:=bd H;try rw [ref_keep hbt232] at H
  refine WR.call (law11_ref_sp _ _ _ _ _ hbt232) [some 0] rfl rfl rfl rfl rfl (n2 rfl tv) rfl rfl rfl rfl rfl ?_;refine wr 1 ?_;obtain ⟨t238,ht238,H⟩:=bd H;refine WR.call (ref11_Equal_sp _ _ _ _ _ _ _ _ _ _ ht238) [some 0,some 2] rfl rfl rfl rfl rfl (n2 rfl (n2 rfl tv)) rfl rfl rfl rfl rfl ?_;refine wr 1 ?_;refine WR.split 25 rfl (fun b2=>?_) (fun b2=>?_)
  ·
   rw [ifB b2] at H;refine wr 5 ?_;refine WR.split 30 rfl (fun b3=>?_) (fun b3=>?_)
   ·
    rw [ifE b3] at H;replace b3:=eq_of_beq b3;obtain ⟨t239,ht239,H⟩:=bd H;refine WR.call (awake_sp _  _ ht239) [] rfl rfl rfl rfl rfl tv rfl rfl rfl rfl rfl ?_;refine wr 2 ?_;refine wn ?_;refine WS.ret ?_;cases H;exact ⟨tv,[],_,rfl,rfl,tv,rfl,rfl,rfl⟩
   ·
    rw [ifEn b3] at H;replace b3:=bF b3;refine wr 3 ?_;refine wn ?_;refine WS.ret ?_;cases H;exact ⟨tv,[],_,rfl,rfl,tv,rfl,rfl,rfl⟩
  ·
   rw [ifBn b2] at H;refine wr 8 ?_;refine wn ?_;refine WS.ret ?_;cases H;exact ⟨tv,[],_,rfl,rfl,tv,rfl,rfl,rfl⟩
end Go.Proofs.Ytpbhkdamkbopkaa.Rs
namespace Go.Proofs.Ytpbhkdamkbopkaa.Rs
open Go Go.RowKit Rf YtpbhkdamkbopkaaW.PrintWords Go.Proofs.Ytpbhkdamkbopkaa
theorem law_calls (hp:∀ a:ByteArray,∃ k,GPtk.l11_PixelTakes.f k a=some true) (a0:ByteArray) (w:World):Calls Try.prog 20 #[.string a0] w fun e w'=>e=.returned (.bool true)∧Below w.heap.size w w':=by
 obtain ⟨k,hk⟩:=hp a0;have S:SI (KT:=kt) Γ0 (fun _=>none) [] A0:=⟨⟨fun i s e=>(by simp at e),fun _ _=>rfl,fun _ _ _ _ e=>(nomatch e),fun i s _ _ e=>(by simp at e),fun i s e=>(by simp at e)⟩,fun b _=>rfl,fun b hb=>hb.elim,fun i s _ _ _ e=>(by simp at e),fun j hj=>absurd hj (Nat.not_lt_zero j),Nat.le_refl _,fun _ _=>trivial,fun _ _=>trivial⟩;obtain ⟨n,v,A',hrun,ν',_,hv⟩:=(law_sp k a0 true hk).2 Γ0 (fun _=>none) A0 [.string a0] S ⟨rfl,trivial⟩ rfl;have hv:v=.bool true:=hv;subst hv;have R:Rel (fun _=>none) A0.heap.get w:=⟨fun b m e=>(nomatch e),fun b m r e=>(nomatch e),fun b m es c e=>(nomatch e),fun b m i s n l e=>(nomatch e),fun b b' m m' e=>(nomatch e)⟩;refine Calls.mono (runF_sim (P:=Try.prog) (by kernel_rfl) O1_step O1_sim n n 20 #[.string a0] A0 _ A' (fun b _=>rfl) hrun (fun _=>none) w #[.string a0] (LR.cons (.string _) (LR.nil _)) R (fun b _ _=>rfl)) fun e w' ⟨μ',v',he,hv,hp⟩=>?_;subst he;cases hv;exact ⟨rfl,hp.os,hp.tape,hp.output,hp.size,fun k hk=>hp.fr k hk (fun ⟨b,m,e,_⟩=>nomatch e)⟩
end Go.Proofs.Ytpbhkdamkbopkaa.Rs
namespace Go.Proofs.Ytpbhkdamkbopkaa.ASumO
open Go.RowKit GBack2 GOpn YtpbhkdamkbopkaaW.PrintWords YtpbhkdamkbopkaaW.PrintLast YtpbhkdamkbopkaaW.PrintMore
def stp (p:Int × Int) (c:Int):Int × Int:=((p.1+c) % 65521,(p.2+(p.1+c) % 65521) % 65521)
def run (p:Int × Int) (l:List Int):Int × Int:=l.foldl stp p
def bts (s:ByteArray):List Int:=s.data.toList.map fun c=>(c.toNat:Int)
def fin (p:Int × Int):Int:=p.2*65536+p.1
def Rng (p:Int × Int):Prop:=0≤p.1∧p.1 < 65521∧0≤p.2∧p.2 < 65521
theorem bts_length (s:ByteArray):(bts s).length=s.size:=by unfold bts;rw [List.length_map,Array.length_toList];rfl
theorem bts_get (s:ByteArray) (i:Nat) (h:i < s.size):(bts s)[i]'(by rw [bts_length];exact h)=bt s i:=by
 have h2:(Int.toNat (i:Int)) < s.size:=by simpa using h
 unfold bt;rw [dif_pos h2];simp [bts];rfl
theorem bts_drop (s:ByteArray) (i:Nat) (h:i < s.size):(bts s).drop i=bt s i :: (bts s).drop (i+1):=by
 rw [List.drop_eq_getElem_cons (by rw [bts_length];exact h),bts_get s i h]
theorem stp_rng (p:Int × Int) (c:Int):Rng (stp p c):=by unfold stp Rng;refine ⟨?_,?_,?_,?_⟩ <;> simp only <;> omega
theorem run_nil (p:Int × Int):run p []=p:=rfl
theorem run_cons (p:Int × Int) (c:Int) (l:List Int):run p (c :: l)=run (stp p c) l:=rfl
theorem wrap_in {n:Int} (h0:-9223372036854775808≤n) (h1:n≤9223372036854775807):wrap64 n=n:=by unfold wrap64;omega
theorem wraps_i64 (j:Nat) (hj:j≤62) (n:Int) (h₀:0≤n) (h₁:n < 2 ^ j):IntKind.i64.wrap n=n:=by
 have:(2:Int) ^ j≤2 ^ 62:=by
  have:=Nat.pow_le_pow_right (n:=2) (by decide) hj
  exact_mod_cast this
 have h2:(2:Int) ^ 62=4611686018427387904:=by decide
 rw [IntKind.wrap_i64];omega
theorem wraps_u32 (n:Int) (h₀:0≤n) (h₁:n < 2 ^ 32):IntKind.u32.wrap n=n:=by rw [IntKind.wrap_u32];omega
theorem or_16 {x y:Int} (hx₀:0≤x) (hx₁:x < 65536) (h₀:0≤y) (h₁:y < 65536):Go.bits .or .i64 (x*65536) y=x*65536+y :=
 Go.bits_join .i64 40 (by decide) (wraps_i64 40 (by decide)) 16 _ _ (by omega) (by omega) (by omega) h₀ (by omega) (by omega)
theorem and_16u {x:Int} (hx₀:0≤x) (hx₁:x < 4294967296):Go.bits .and .u32 x 65535=x % 65536 :=
 Go.bits_mask .u32 32 (by decide) wraps_u32 16 (by decide) x hx₀ (by omega)
def prt (n:Int):Int × Int:=(n % 4294967296 % 65536 % 65521,n % 4294967296 / 65536 % 65521)
theorem prt_rng (n:Int):Rng (prt n):=by unfold prt Rng;refine ⟨?_,?_,?_,?_⟩ <;> simp only <;> omega
theorem prt_one:prt 1=(1,0):=by decide
def Cg (a b:Int):Prop:=∃ t:Int,a=b+65521*t
theorem Cg.eq_mod {a b:Int} (h:Cg a b):a % 65521=b % 65521:=by obtain ⟨t,rfl⟩:=h;omega
theorem Cg.rfl' (a:Int):Cg a a:=⟨0,by omega⟩
theorem ref_stp (a b p q c m : Int) (ha : Cg a p) (hb : Cg b (q + (m + 1) * p)) :
  Cg (a+c) (stp (p,q) c).1∧Cg ((b+c*(m+1)) % 65521) ((stp (p,q) c).2+m*(stp (p,q) c).1):=by
 obtain ⟨t,rfl⟩:=ha;obtain ⟨u,rfl⟩:=hb;obtain ⟨v,hv⟩:∃ v:Int,(stp (p,q) c).1=p+c - 65521*v:=⟨(p+c) / 65521,by simp only [stp];omega⟩;obtain ⟨z,hz⟩:∃ z:Int,(stp (p,q) c).2=q+(stp (p,q) c).1 - 65521*z:=⟨(q+(stp (p,q) c).1) / 65521,by simp only [stp];omega⟩;generalize hx:(q+(m+1)*p+65521*u+c*(m+1)) / 65521=x;have hm:(q+(m+1)*p+65521*u+c*(m+1)) % 65521=q+(m+1)*p+65521*u+c*(m+1) - 65521*x:=by omega
 refine ⟨⟨t+v,by rw [hv];omega⟩,⟨u - x+z+v*(m+1),?_⟩⟩;rw [hm,hz,hv]
 grind
theorem parts_is (n:Int):adler_parts.f n=some (prt n):=by
 unfold adler_parts.f;rw [and_16u (by omega) (by omega),wrap_in (by omega) (by omega),Int.tmod_eq_emod_of_nonneg (by omega)];rfl
theorem more_l (s : ByteArray) (hn : s.size ≤ 140737488351232) (d : Nat) : ∀ (k i : Nat) (p : Int × Int), Rng p → i + d = s.size → d < k →
  adler_More.l0 k s p.1 p.2 s.size i=some (fin (run p ((bts s).drop i))):=by
 induction d with
 |zero =>
  intro k i p hp hi hk;obtain ⟨k,rfl⟩:∃ m,k=m+1:=⟨k - 1,by omega⟩;simp only [adler_More.l0];rw [if_neg (by omega),List.drop_of_length_le (by rw [bts_length];omega),run_nil];obtain ⟨h0,h1,h2,h3⟩:=hp;rw [wrap_in (by omega) (by omega),or_16 h2 (by omega) h0 (by omega)];rfl
 |succ d ih =>
  intro k i p hp hi hk;obtain ⟨k,rfl⟩:∃ m,k=m+1:=⟨k - 1,by omega⟩;have hb:=bt_range s i;obtain ⟨h0,h1,h2,h3⟩:=hp;simp only [adler_More.l0];rw [if_pos (by omega),if_pos (by omega),if_pos (by omega)];have e:=ih k (i+1) (stp p (bt s i)) (stp_rng _ _) (by omega) (by omega);rw [bts_drop s i (by omega),run_cons,← e];have w1:wrap64 (bt s i)=bt s i:=wrap_in (by omega) (by omega);have w2:wrap64 (p.1+bt s i)=p.1+bt s i:=wrap_in (by omega) (by omega);have w3:wrap64 (p.2+(p.1+bt s i) % 65521)=p.2+(p.1+bt s i) % 65521:=wrap_in (by omega) (by omega);have w4:wrap64 ((i:Int)+1)=((i+1:Nat):Int):=by rw [wrap_in (by omega) (by omega)];omega
  rw [w1,w2,Int.tmod_eq_emod_of_nonneg (by omega),w3,Int.tmod_eq_emod_of_nonneg (by omega),w4];rfl
theorem more_is (n : Int) (s : ByteArray) (hn : s.size ≤ 140737488351232) (k : Nat) (hk : s.size < k) :
  adler_More.f k n s=some (fin (run (prt n) (bts s))):=by
 unfold adler_More.f;rw [parts_is];have e:=more_l s hn s.size k 0 (prt n) (prt_rng n) (by omega) hk;rw [List.drop_zero] at e;exact e
theorem sum_is (s : ByteArray) (hn : s.size ≤ 140737488351232) (k : Nat) (hk : s.size < k) :
  adler_Sum.f k s=some (fin (run (1,0) (bts s))):=by
 unfold adler_Sum.f;rw [more_is 1 s hn k hk,prt_one];rfl
theorem low_is (n:Int):c03_low.f n=some (prt n).1:=rfl
theorem high_is (n:Int):c03_high.f n=some (prt n).2:=rfl
theorem q1lem (a c:Int) (i:Nat) (h:a≤65521+255*i) (hc:c≤255):a+c≤65521+255*((i+1:Nat):Int):=by omega
theorem ref_l (s : ByteArray) (hn : s.size ≤ 1000000) (d : Nat) : ∀ (k i : Nat) (a b : Int) (p : Int × Int), Rng p → i + d = s.size → d < k →
  0≤a → a≤65521+255*i → 0≤b → b≤4294967296 → Cg a p.1 → Cg b (p.2+d*p.1) →
  c03_More.l0 k s a b s.size i=some (fin (run p ((bts s).drop i))):=by
 induction d with
 |zero =>
  intro k i a b p hp hi hk a0 a1 b0 b1 ha hb;obtain ⟨k,rfl⟩:∃ m,k=m+1:=⟨k - 1,by omega⟩;simp only [c03_More.l0];rw [if_neg (by omega),List.drop_of_length_le (by rw [bts_length];omega),run_nil];obtain ⟨h0,h1,h2,h3⟩:=hp;have ea:=ha.eq_mod;have eb:=hb.eq_mod;simp only [Int.natCast_zero,Int.zero_mul,Int.add_zero] at eb;rw [Int.tmod_eq_emod_of_nonneg b0,Int.tmod_eq_emod_of_nonneg a0,wrap_in (n:=b % 65521*65536) (by omega) (by omega),wrap_in (by omega) (by omega)];unfold fin
  congr 1
  omega
 |succ d ih =>
  intro k i a b p hp hi hk a0 a1 b0 b1 ha hb;obtain ⟨k,rfl⟩:∃ m,k=m+1:=⟨k - 1,by omega⟩;have hc:=bt_range s i;simp only [c03_More.l0];rw [if_pos (by omega),if_pos (by omega),if_pos (by omega)];obtain ⟨e1,e2⟩:=ref_stp a b p.1 p.2 (bt s i) d ha (by exact_mod_cast hb);have q0:0≤a+bt s i:=by omega
  have q1:a+bt s i≤65521+255*((i+1:Nat):Int):=q1lem a (bt s i) i a1 hc.2;have q2:i+1+d=s.size:=by omega
  have q3:d < k:=by omega
  have d0:(d:Int)+1≤1000000:=by omega
  have p0:0≤bt s i*(d+1):=Int.mul_nonneg hc.1 (by omega);have p1:bt s i*((d:Int)+1)≤255*1000000:=Int.mul_le_mul hc.2 d0 (by omega) (by omega);have q4:i < s.size:=by omega
  have q5:a+bt s i≤9223372036854775807:=by omega
  have q6:(s.size:Int) - i=d+1:=by omega
  have w0:wrap64 (bt s i)=bt s i:=wrap_in (by omega) (by omega);have w1:wrap64 (a+bt s i)=a+bt s i:=wrap_in (Int.le_trans (by decide) q0) q5;have w2:wrap64 ((s.size:Int) - i)=d+1:=by rw [q6];exact wrap_in (Int.le_trans (by decide) (Int.natCast_nonneg (d+1))) (Int.le_trans d0 (by decide))
  have q7:(i:Int)+1≤1000001:=by clear w0 w1 w2;omega
  have w5:wrap64 ((i:Int)+1)=((i+1:Nat):Int):=wrap_in (Int.le_trans (by decide) (Int.natCast_nonneg (i+1))) (Int.le_trans q7 (by decide));rw [bts_drop s i q4,run_cons,w0,w1,w2,w5];generalize bt s i*((d:Int)+1)=y at p0 p1 e2 ⊢;clear ha hb w0 w1 w2 w5;have w3:wrap64 y=y:=wrap_in (by omega) (by omega);have w4:wrap64 (b+y)=b+y:=wrap_in (by omega) (by omega);rw [w3,w4,Int.tmod_eq_emod_of_nonneg (by omega)];exact ih k (i+1) (a+bt s i) ((b+y) % 65521) (stp p (bt s i)) (stp_rng _ _) q2 q3 q0 q1 (by omega) (by omega) e1 e2
theorem ref_is (n : Int) (s : ByteArray) (hn : s.size ≤ 1000000) (k : Nat) (hk : s.size < k) :
  c03_More.f k n s=some (fin (run (prt n) (bts s))):=by
 unfold c03_More.f;rw [low_is,high_is];simp only [Option.bind_some];obtain ⟨h0,h1,h2,h3⟩:=prt_rng n;obtain ⟨q,hq⟩:∃ q:Int,(s.size:Int) % 65521=s.size - 65521*q:=⟨(s.size:Int) / 65521,by omega⟩;have r0:0≤(s.size:Int) % 65521:=by omega
 have r1:(s.size:Int) % 65521≤65520:=by omega
 have hc:Cg ((prt n).2+(s.size:Int) % 65521*(prt n).1) ((prt n).2+s.size*(prt n).1):=⟨-(q*(prt n).1),by rw [hq];grind⟩;generalize (s.size:Int) % 65521=r at hc r0 r1 ⊢;have p0:0≤r*(prt n).1:=Int.mul_nonneg r0 h0;have p1:r*(prt n).1≤65520*65520:=Int.mul_le_mul r1 (by omega) h0 (by omega);rw [wrap_in (n:=r*(prt n).1) (by omega) (by omega),wrap_in (by omega) (by omega)];have e:=ref_l s hn s.size k 0 (prt n).1 ((prt n).2+r*(prt n).1) (prt n) (prt_rng n) (by omega) hk (by omega) (by omega) (by omega) (by omega) (Cg.rfl' _) hc;rw [List.drop_zero] at e;exact e
theorem ref_sum (s:ByteArray) (hn:s.size≤1000000) (k:Nat) (hk:s.size < k):c03_Sum.f k s=some (fin (run (1,0) (bts s))):=by
 unfold c03_Sum.f;rw [ref_is 1 s hn k hk];rfl
end Go.Proofs.Ytpbhkdamkbopkaa.ASumO
namespace Go.Proofs.Ytpbhkdamkbopkaa.Pure
open Go.RowKit Ext GOpn GBack2 GInfr Wr2 Inf YtpbhkdamkbopkaaW.PrintWords YtpbhkdamkbopkaaW.PrintLast YtpbhkdamkbopkaaW.PrintMore
def sumOf (s:ByteArray):Int:=ASumO.fin (ASumO.run (1,0) (ASumO.bts s))
def opn (s:ByteArray) (mx:Int):ByteArray × Int :=
 if mx < 0 ∨ mx > 262144 then (⟨#[]⟩,1) else if s.size < 2 then (⟨#[]⟩,2)
 else if bt s 0 % 16=8∧bt s 0 / 16≤7∧(bt s 0*256+bt s 1) % 31=0∧bt s 1 / 32 % 2=0 then
  (if (raw (s.extract 2 s.size) mx).2.2=0 then
   (if (s.extract (2+(raw (s.extract 2 s.size) mx).2.1).toNat s.size).size < 4 then (⟨#[]⟩,2)
   else if bt (s.extract (2+(raw (s.extract 2 s.size) mx).2.1).toNat s.size) 0*16777216+bt (s.extract (2+(raw (s.extract 2 s.size) mx).2.1).toNat s.size) 1*65536+bt (s.extract (2+(raw (s.extract 2 s.size) mx).2.1).toNat s.size) 2*256+bt (s.extract (2+(raw (s.extract 2 s.size) mx).2.1).toNat s.size) 3=sumOf (raw (s.extract 2 s.size) mx).1 then
    (if (s.extract (2+(raw (s.extract 2 s.size) mx).2.1).toNat s.size).size > 4 then (⟨#[]⟩,3) else ((raw (s.extract 2 s.size) mx).1,0))
   else (⟨#[]⟩,5))
  else (⟨#[]⟩,(raw (s.extract 2 s.size) mx).2.2))
 else (⟨#[]⟩,3)
theorem raw_end {s:ByteArray} {mx:Int} (hs:s.size≤1000000) (hm0:0≤mx) (hm:mx≤262144) (h:(raw s mx).2.2=0):0≤(raw s mx).2.1∧(raw s mx).2.1≤s.size∧(raw s mx).1.size≤262144:=by
 unfold raw at h ⊢;rw [if_neg (by omega)] at h ⊢;have a:=Aft.blocks (s:=s) (mx:=mx) (by omega) (8*s.size+2) ⟨0,[],0⟩ ⟨by decide,by show (0:Int)≤8*s.size;omega,.inl rfl⟩;simp only at h ⊢;generalize blocks s mx (8*s.size+2) ⟨0,[],0⟩=x at *;by_cases c:x.e=0;rotate_left
 ·rw [if_neg c] at h;exact absurd h c
 rw [if_pos c];have h0:=a.ok.p0;have h1:=a.ok.p1;have h2:=a.o hm0;refine ⟨by show 0≤(x.p+7) / 8;omega,by show (x.p+7) / 8≤_;omega,?_⟩;show (strOfNums x.o).size≤_;rw [strOfNums_size];omega
theorem and15:∀ n:Nat,n < 256 → Go.bits .and .u8 (n:Int) 15=(n:Int) % 16:=by decide +kernel
theorem and32:∀ n:Nat,n < 256 → (Go.bits .and .u8 (n:Int) 32=0 ↔ (n:Int) / 32 % 2=0):=by decide +kernel
theorem wrap40 (n:Int) (h0:0≤n) (h1:n < 2 ^ 40):IntKind.i64.wrap n=n:=by
 rw [IntKind.wrap_i64];have:(2:Int) ^ 40=1099511627776:=by decide
 omega
theorem or_two (b0 b1:Int) (h0:0≤b0∧b0≤255) (h1:0≤b1∧b1≤255):Go.bits .or .i64 (wrap64 (wrap64 b0*256)) (wrap64 b1)=b0*256+b1:=by
 rw [wrap_in (n:=b0) (by omega) (by omega),wrap_in (n:=b1) (by omega) (by omega),wrap_in (n:=b0*256) (by omega) (by omega)];rw [Go.bits_join .i64 40 (by decide) wrap40 8 (b0*256) b1 (by omega) (by omega) (by omega) (by omega) (by omega) (by omega)]
theorem or_four (b0 b1 b2 b3 : Int) (h0 : 0 ≤ b0 ∧ b0 ≤ 255) (h1 : 0 ≤ b1 ∧ b1 ≤ 255) (h2 : 0 ≤ b2 ∧ b2 ≤ 255) (h3 : 0 ≤ b3 ∧ b3 ≤ 255) :
  Go.bits .or .i64 (Go.bits .or .i64 (Go.bits .or .i64 (wrap64 (wrap64 b0*16777216)) (wrap64 (wrap64 b1*65536))) (wrap64 (wrap64 b2*256))) (wrap64 b3)=b0*16777216+b1*65536+b2*256+b3:=by
 rw [wrap_in (n:=b0) (by omega) (by omega),wrap_in (n:=b1) (by omega) (by omega),wrap_in (n:=b2) (by omega) (by omega),wrap_in (n:=b3) (by omega) (by omega),
  wrap_in (n:=b0*16777216) (by omega) (by omega),wrap_in (n:=b1*65536) (by omega) (by omega),wrap_in (n:=b2*256) (by omega) (by omega)]
 rw [Go.bits_join .i64 40 (by decide) wrap40 24 (b0*16777216) (b1*65536) (by omega) (by omega) (by omega) (by omega) (by omega) (by omega)];rw [Go.bits_join .i64 40 (by decide) wrap40 16 (b0*16777216+b1*65536) (b2*256) (by omega) (by omega) (by omega) (by omega) (by omega) (by omega)];rw [Go.bits_join .i64 40 (by decide) wrap40 8 (b0*16777216+b1*65536+b2*256) b3 (by omega) (by omega) (by omega) (by omega) (by omega) (by omega)]
theorem openprog_is (s:ByteArray) (mx:Int) (hs:s.size≤1000000) (k:Nat) (hk:262144 < k):inflate_Open.f (k+1) s mx=some (opn s mx):=by
 unfold inflate_Open.f opn;by_cases c:mx < 0 ∨ mx > 262144
 ·rw [if_pos c]
  have:(if mx < 0 then inflate_Open.j0 (k+1) s mx true else inflate_Open.j0 (k+1) s mx (decide (mx > 262144)))=inflate_Open.j0 (k+1) s mx true:=by
   by_cases c1:mx < 0
   ·rw [if_pos c1]
   ·rw [if_neg c1,decide_eq_true (c.resolve_left c1)]
  rw [this,inflate_Open.j0,if_pos rfl]
 rw [if_neg c,if_neg (by omega),decide_eq_false (by omega),inflate_Open.j0,if_neg (by decide)];have hm0:0≤mx:=Int.not_lt.1 (fun h=>c (.inl h));have hm:mx≤262144:=Int.not_lt.1 (fun h=>c (.inr h));by_cases c2:s.size < 2
 ·rw [if_pos (by omega),if_pos c2]
 rw [if_neg (by omega),if_neg c2,if_pos (by omega)];have r0:=bt_range s 0;have r1:=bt_range s 1;have e15:=and15 (bt s 0).toNat (by omega);have e32:=and32 (bt s 1).toNat (by omega);rw [Int.toNat_of_nonneg r0.1] at e15;rw [Int.toNat_of_nonneg r1.1] at e32;rw [e15];by_cases d0:bt s 0 % 16=8;rotate_left
 ·rw [if_neg d0,if_neg (fun h=>d0 h.1)]
 rw [if_pos d0];by_cases d1:bt s 0 / 16≤7;rotate_left
 ·rw [if_pos (by omega),if_neg (fun h=>d1 h.2.1)]
 rw [if_neg (by omega),if_pos (by omega),or_two _ _ r0 r1,Int.tmod_eq_emod_of_nonneg (by omega)];by_cases d2:(bt s 0*256+bt s 1) % 31=0;rotate_left
 ·rw [if_neg d2,if_neg (fun h=>d2 h.2.2.1)]
 rw [if_pos d2];by_cases d3:bt s 1 / 32 % 2=0;rotate_left
 ·rw [if_neg (fun h=>d3 (e32.1 h)),if_neg (fun h=>d3 h.2.2.2)]
 have hz:(s.extract 2 s.size).size=s.size - 2:=by rw [ByteArray.size_extract];omega
 have hr:inflate_Raw.f (s.extract 2 s.size) mx=some (raw (s.extract 2 s.size) mx):=by unfold inflate_Raw.f;rw [if_pos (by omega)]
 have hd:bt s 0 % 16=8∧bt s 0 / 16≤7∧(bt s 0*256+bt s 1) % 31=0∧bt s 1 / 32 % 2=0:=⟨d0,d1,d2,d3⟩;rw [if_pos (e32.2 d3),if_pos hd,if_pos (by omega),hr,Option.bind_some];have he:=raw_end (s:=s.extract 2 s.size) (mx:=mx) (by omega) hm0 hm;generalize raw (s.extract 2 s.size) mx=r at *;by_cases d4:r.2.2=0;rotate_left
 ·rw [if_neg d4,if_neg d4]
 obtain ⟨h0,h1,h2⟩:=he d4;rw [if_pos d4,if_pos d4,wrap_in (n:=2+r.2.1) (by omega) (by omega),if_pos (by omega),if_pos (by omega)];have hq:=fun i=>bt_range (s.extract (2+r.2.1).toNat s.size) i;generalize s.extract (2+r.2.1).toNat s.size=q at *;by_cases d5:q.size < 4
 ·rw [if_pos (by omega),if_pos d5]
 rw [if_neg (by omega),if_neg d5,if_pos (by omega),if_pos (by omega),if_pos (by omega),if_pos (by omega),ASumO.sum_is r.1 (by omega) k (by omega),Option.bind_some,or_four _ _ _ _ (hq 0) (hq 1) (hq 2) (hq 3)];show (if _=sumOf r.1 then _ else _)=_;by_cases d6:bt q 0*16777216+bt q 1*65536+bt q 2*256+bt q 3=sumOf r.1
 ·rw [if_pos d6,if_pos d6];by_cases d7:q.size > 4
  ·rw [if_pos (by omega),if_pos d7]
  ·rw [if_neg (by omega),if_neg d7]
 ·rw [if_neg d6,if_neg d6]
theorem openref_is (s:ByteArray) (mx:Int) (hs:s.size≤1000000):Ev (fun k=>c05_Open.f k s mx) (opn s mx):=by
 unfold opn;by_cases c:mx < 0 ∨ mx > 262144
 ·rw [if_pos c];refine Ev.congr (f:=fun k=>c05_Open.j0 k s mx true) (fun k=>?_) (Ev.step (f:=fun _=>some ((⟨#[]⟩:ByteArray),1)) (fun k=>?_) (Ev.now _))
  ·unfold c05_Open.f;by_cases c1:mx < 0
   ·rw [if_pos c1]
   ·rw [if_neg c1,decide_eq_true (c.resolve_left c1)]
  ·simp only [c05_Open.j0];rw [if_pos trivial]
 rw [if_neg c];have hm0:0≤mx:=Int.not_lt.1 (fun h=>c (.inl h));have hm:mx≤262144:=Int.not_lt.1 (fun h=>c (.inr h))
 have hf:∀ R,Ev (fun k=>c05_Open.j0 k s mx false) R → Ev (fun k=>c05_Open.f k s mx) R:=fun R hR=>Ev.congr (fun k=>by
  unfold c05_Open.f;rw [if_neg (by omega),decide_eq_false (by omega)]) hR
 refine hf _ ?_;by_cases c2:s.size < 2
 ·rw [if_pos c2];exact Ev.step (f:=fun _=>some ((⟨#[]⟩:ByteArray),2)) (fun k=>by simp only [c05_Open.j0];rw [if_neg (by decide),if_pos (by omega)]) (Ev.now _)
 rw [if_neg c2];have r0:=bt_range s 0;have r1:=bt_range s 1;have w0:wrap64 (bt s 0)=bt s 0:=wrap_in (by omega) (by omega);have w1:wrap64 (bt s 1)=bt s 1:=wrap_in (by omega) (by omega);have x0:Int.tmod (bt s 0) 16=bt s 0 % 16:=Int.tmod_eq_emod_of_nonneg r0.1;have x1:wrap64 (Int.tdiv (bt s 0) 16)=bt s 0 / 16:=by rw [Int.tdiv_eq_ediv_of_nonneg r0.1,wrap_in (by omega) (by omega)]
 have x2:Int.tmod (wrap64 (wrap64 (256*bt s 0)+bt s 1)) 31=(bt s 0*256+bt s 1) % 31:=by
  rw [wrap_in (n:=256*bt s 0) (by omega) (by omega),wrap_in (n:=256*bt s 0+bt s 1) (by omega) (by omega),Int.tmod_eq_emod_of_nonneg (by omega),Int.mul_comm]
 have x3:Int.tmod (wrap64 (Int.tdiv (bt s 1) 32)) 2=bt s 1 / 32 % 2:=by
  rw [Int.tdiv_eq_ediv_of_nonneg r1.1,wrap_in (n:=bt s 1 / 32) (by omega) (by omega),Int.tmod_eq_emod_of_nonneg (by omega)]
 have hb:Ev (fun k=>c05_Open.j1 k s mx true) ((⟨#[]⟩:ByteArray),3):=Ev.step (f:=fun _=>some ((⟨#[]⟩:ByteArray),3)) (fun k=>by simp only [c05_Open.j1];rw [if_pos trivial]) (Ev.now _)
 have hg:∀ (t:Bool) R,t=(!decide (bt s 0 % 16=8∧bt s 0 / 16≤7∧(bt s 0*256+bt s 1) % 31=0∧bt s 1 / 32 % 2=0)) → Ev (fun k=>c05_Open.j1 k s mx t) R → Ev (fun k=>c05_Open.j0 k s mx false) R:=by
  intro t R ht hR;refine Ev.step (fun k=>?_) hR;simp only [c05_Open.j0];rw [if_neg (by decide),if_neg (by omega),if_pos (by omega),if_pos (by omega),w0,w1,x0,x1,x2,x3,ht];by_cases d0:bt s 0 % 16=8;rotate_left
  ·rw [if_neg d0,decide_eq_false (fun h=>d0 h.1)];rfl
  rw [if_pos d0];by_cases d1:bt s 0 / 16≤7;rotate_left
  ·rw [if_pos (by omega),decide_eq_false (fun h=>d1 h.2.1)];rfl
  rw [if_neg (by omega)];by_cases d2:(bt s 0*256+bt s 1) % 31=0
  ·rw [if_pos d2];by_cases d3:bt s 1 / 32 % 2=0
   ·rw [d3,decide_eq_true ⟨d0,d1,d2,rfl⟩];rfl
   ·rw [decide_eq_false (fun h=>d3 h.2.2.2),show bt s 1 / 32 % 2=1 by omega];rfl
  ·rw [if_neg d2,decide_eq_false (fun h=>d2 h.2.2.1)];rfl
 by_cases d:bt s 0 % 16=8∧bt s 0 / 16≤7∧(bt s 0*256+bt s 1) % 31=0∧bt s 1 / 32 % 2=0;rotate_left
 ·rw [if_neg d];exact hg true _ (by rw [decide_eq_false d];rfl) hb
 rw [if_pos d];have hz:(s.extract 2 s.size).size=s.size - 2:=by rw [ByteArray.size_extract];omega
 have hr:=refraw_is (s.extract 2 s.size) mx (by omega);have he:=raw_end (s:=s.extract 2 s.size) (mx:=mx) (by omega) hm0 hm;refine hg false _ (by rw [decide_eq_true d];rfl) ?_;generalize raw (s.extract 2 s.size) mx=r at *
 refine Ev.step (f:=fun k=>(c05_Raw.f k (s.extract 2 s.size) mx).bind fun r=>if r.2.2=0 then (if 0≤wrap64 (2+r.2.1) then (if wrap64 (2+r.2.1)≤(s.size:Int) then (if ((s.extract (wrap64 (2+r.2.1):Int).toNat s.size).size:Int) < 4 then some ((⟨#[]⟩:ByteArray),2) else c05_Open.l0 k r.1 (s.extract (wrap64 (2+r.2.1):Int).toNat s.size) 0 0) else none) else none) else some ((⟨#[]⟩:ByteArray),r.2.2)) (fun k=>by
  simp only [c05_Open.j1];rw [if_neg (by decide),if_pos (by omega)]) (Ev.bind hr ?_)
 by_cases d4:r.2.2=0;rotate_left
 ·rw [if_neg d4];exact Ev.congr (fun k=>if_neg d4) (Ev.now _)
 obtain ⟨h0,h1,h2⟩:=he d4;rw [if_pos d4];refine Ev.congr (f:=fun k=>if (s.extract (2+r.2.1).toNat s.size).size < 4 then some ((⟨#[]⟩:ByteArray),2) else c05_Open.l0 k r.1 (s.extract (2+r.2.1).toNat s.size) 0 0) (fun k=>?_) ?_
 ·rw [if_pos d4,wrap_in (n:=2+r.2.1) (by omega) (by omega),if_pos (by omega),if_pos (by omega)];by_cases d5:(s.extract (2+r.2.1).toNat s.size).size < 4
  ·rw [if_pos d5,if_pos (by omega)]
  ·rw [if_neg d5,if_neg (by omega)]
 have hq:=fun i=>bt_range (s.extract (2+r.2.1).toNat s.size) i;generalize s.extract (2+r.2.1).toNat s.size=q at *;by_cases d5:q.size < 4
 ·rw [if_pos d5];exact Ev.congr (fun k=>if_pos d5) (Ev.now _)
 rw [if_neg d5];refine Ev.congr (fun k=>if_neg d5) ?_;have q0:=hq 0;have q1:=hq 1;have q2:=hq 2;have q3:=hq 3
 have step:∀ (i:Nat) (a:Int) R,i < 4 → 0≤a → a≤1099511627776 → Ev (fun k=>c05_Open.l0 k r.1 q (256*a+bt q i) ((i+1:Nat):Int)) R → Ev (fun k=>c05_Open.l0 k r.1 q a (i:Int)) R:=fun i a R hi ha0 ha1 hR=>Ev.step (fun k=>by
  have hqi:=hq i;simp only [c05_Open.l0];rw [if_pos (by omega),if_pos (by omega),if_pos (by omega),wrap_in (n:=256*a) (by omega) (by omega),wrap_in (n:=bt q i) (by omega) (by omega),wrap_in (n:=256*a+bt q i) (by omega) (by omega),wrap_in (n:=(i:Int)+1) (by omega) (by omega)];rfl) hR
 have e0:(256*(256*(256*(256*0+bt q 0)+bt q 1)+bt q 2)+bt q 3)=bt q 0*16777216+bt q 1*65536+bt q 2*256+bt q 3:=by omega
 refine step 0 0 _ (by decide) (by decide) (by decide) (step 1 (256*0+bt q 0) _ (by decide) (by omega) (by omega) (step 2 (256*(256*0+bt q 0)+bt q 1) _ (by decide) (by omega) (by omega) (step 3 (256*(256*(256*0+bt q 0)+bt q 1)+bt q 2) _ (by decide) (by omega) (by omega) ?_)));show Ev (fun k=>c05_Open.l0 k r.1 q (256*(256*(256*(256*0+bt q 0)+bt q 1)+bt q 2)+bt q 3) 4) _;rw [e0];have hsum:Ev (fun k=>c03_Sum.f k r.1) (sumOf r.1):=⟨r.1.size+1,fun k hk=>ASumO.ref_sum r.1 (by omega) k (by omega)⟩;refine Ev.step (f:=fun k=>(c03_Sum.f k r.1).bind fun t=>if bt q 0*16777216+bt q 1*65536+bt q 2*256+bt q 3=t then (if (q.size:Int) > 4 then some ((⟨#[]⟩:ByteArray),3) else some (r.1,0)) else some ((⟨#[]⟩:ByteArray),5)) (fun k=>by simp only [c05_Open.l0];rw [if_neg (by decide)]) (Ev.bind hsum ?_);by_cases d6:bt q 0*16777216+bt q 1*65536+bt q 2*256+bt q 3=sumOf r.1
 ·rw [if_pos d6,if_pos d6];by_cases d7:q.size > 4
  ·rw [if_pos d7];exact Ev.congr (fun k=>if_pos (by omega)) (Ev.now _)
  ·rw [if_neg d7];exact Ev.congr (fun k=>if_neg (by omega)) (Ev.now _)
 ·rw [if_neg d6,if_neg d6];exact Ev.now _
end Go.Proofs.Ytpbhkdamkbopkaa.Pure
namespace Go.Proofs.Ytpbhkdamkbopkaa.Px
open Go.RowKit GPix GPixb PR GPtk YtpbhkdamkbopkaaW.PrintWords YtpbhkdamkbopkaaW.PrintLast YtpbhkdamkbopkaaW.PrintMore
open Inf (cut cut_bytes)
theorem bytesOf_append (s t:ByteArray):bytesOf (s ++ t)=bytesOf s ++ bytesOf t:=by simp [bytesOf]
theorem bt_left (s t:ByteArray) (j:Int) (h0:0≤j) (h1:j < s.size):bt (s ++ t) j=bt s j:=by
 rw [← rd_bytesOf,← rd_bytesOf,bytesOf_append];unfold rd;simp only [List.getD_eq_getElem?_getD];rw [List.getElem?_append_left (by rw [bytesOf_length];omega)]
theorem bt_right (s t:ByteArray) (j:Int) (h1:(s.size:Int)≤j):bt (s ++ t) j=bt t (j - s.size):=by
 rw [← rd_bytesOf,← rd_bytesOf,bytesOf_append];unfold rd;simp only [List.getD_eq_getElem?_getD];rw [List.getElem?_append_right (by rw [bytesOf_length];omega),bytesOf_length];have e:j.toNat - s.size=(j - (s.size:Int)).toNat:=by omega
 rw [e]
theorem wr {n:Int} (h0:-9223372036854775808≤n) (h1:n≤9223372036854775807):wrap64 n=n:=by unfold wrap64;omega
def fb (x:S89):Bool:=decide (0≤x.f0∧x.f0≤x.f3∧0≤x.f1∧x.f1≤x.f3∧0≤x.f2∧x.f2≤x.f3∧x.f3≤255)
theorem within_step (l : List Int) (i n : Nat) (hn : l.length = n) (hi : i < n) (hb : n ≤ 1000) (k : Nat) (x : Int) (hx : l.getD i 0 = x) :
  field_within.l0 (k+1) 0 255 l (n:Int) (i:Int)=if x < 0 then some false else if x > 255 then some false else field_within.l0 k 0 255 l (n:Int) ((i+1:Nat):Int):=by
 have e:rd l (i:Int)=x:=by unfold rd;rw [Int.toNat_natCast];exact hx
 rw [field_within.l0,if_pos (by omega),if_pos (by omega),if_pos (by omega),e,wr (by omega) (by omega)];rfl
theorem within_is (a b c d:Int) (k:Nat):field_within.f (k+5) 0 255 [a,b,c,d]=some (decide (0≤a∧a≤255∧0≤b∧b≤255∧0≤c∧c≤255∧0≤d∧d≤255)):=by
 have h0:=within_step [a,b,c,d] 0 4 rfl (by decide) (by decide) (k+4) a rfl;have h1:=within_step [a,b,c,d] 1 4 rfl (by decide) (by decide) (k+3) b rfl;have h2:=within_step [a,b,c,d] 2 4 rfl (by decide) (by decide) (k+2) c rfl;have h3:=within_step [a,b,c,d] 3 4 rfl (by decide) (by decide) (k+1) d rfl;have h4:field_within.l0 (k+1) 0 255 [a,b,c,d] ((4:Nat):Int) ((3+1:Nat):Int)=some true:=by rw [field_within.l0,if_neg (by omega)]
 show field_within.l0 (k+4+1) 0 255 [a,b,c,d] ((4:Nat):Int) ((0:Nat):Int)=_;rw [h0,show k+4=k+3+1 from rfl,show (0+1:Nat)=1 from rfl,h1,show k+3=k+2+1 from rfl,show (1+1:Nat)=2 from rfl,h2,show k+2=k+1+1 from rfl,show (2+1:Nat)=3 from rfl,h3,h4]
 (repeat' split) <;> first | rw [decide_eq_false (by omega)] | rw [decide_eq_true (by omega)]
theorem faint_is (x:S89) (k:Nat):pixel_faint.f (k+5) x.f0 x.f1 x.f2 x.f3=some (fb x):=by
 unfold pixel_faint.f field_RightRGBA.f;rw [within_is,Option.bind_some,Option.bind_some];unfold fb mx;by_cases p:0≤x.f0∧x.f0≤255∧0≤x.f1∧x.f1≤255∧0≤x.f2∧x.f2≤255∧0≤x.f3∧x.f3≤255
 ·rw [decide_eq_true p,if_pos rfl]
  (repeat' split) <;> exact congrArg some (decide_eq_decide.2 (by omega))
 ·rw [decide_eq_false p,if_neg (by decide),decide_eq_false (by omega)]
def nb3 (id w h:Int) (n:Nat):Prop:=0≤id∧id < 65536∧1≤w∧w≤64∧1≤h∧h≤64∧(n:Int)=w*h
instance (id w h:Int) (n:Nat):Decidable (nb3 id w h n):=by unfold nb3;infer_instance
def rb (id w h:Int) (l:List S89):Bool:=decide (nb3 id w h l.length) && l.all fb
theorem side_mul {w h:Int} (hw:1≤w∧w≤64) (hh:1≤h∧h≤64):1≤w*h∧w*h≤4096:=by
 have h1:w*h≤64*64:=Int.mul_le_mul hw.2 hh.2 (by omega) (by omega);have h2:1*1≤w*h:=Int.mul_le_mul hw.1 hh.1 (by omega) (by omega);omega
theorem rd_drop (l:List S89) (i:Nat) (h:i < l.length):l.drop i=rd_T89 l (i:Int) :: l.drop (i+1):=by
 rw [List.drop_eq_getElem_cons h];unfold rd_T89;rw [Int.toNat_natCast,List.getD_eq_getElem?_getD,List.getElem?_eq_getElem h];rfl
theorem refright_l0 (id w h:Int) (l:List S89) (hl:l.length≤1000000) (d:Nat):∀ (i k:Nat),i+d=l.length → c11_Right.l0 (k+d+1) (i:Int) id w h l=some ((l.drop i).all fb):=by
 induction d with
 |zero =>
  intro i k hi;rw [c11_Right.l0,if_neg (by omega),List.drop_eq_nil_of_le (by omega)];rfl
 |succ d ih =>
  intro i k hi;have h1:=ih (i+1) k (by omega);have e:wrap64 ((i:Int)+1)=((i+1:Nat):Int):=by rw [wr (by omega) (by omega)];omega
  rw [show k+(d+1)+1=(k+d+1)+1 by omega,c11_Right.l0,if_pos (by omega),if_pos (by omega),e,h1,rd_drop l i (by omega),List.all_cons];generalize rd_T89 l (i:Int)=x;generalize (l.drop (i+1)).all fb=b;unfold fb
  (repeat' split) <;> first | rw [decide_eq_false (by omega),Bool.false_and] | rw [decide_eq_true (by omega),Bool.true_and]
theorem refright_is (id w h:Int) (l:List S89) (hl:l.length≤1000000) (k:Nat) (hk:l.length+5≤k):c11_Right.f k id w h l=some (rb id w h l):=by
 obtain ⟨k2,rfl⟩:∃ k2,k=k2+l.length+1+1:=⟨k - l.length - 2,by omega⟩;have hj:c11_Right.j0 (k2+l.length+1+1) true id w h l=some false:=by rw [c11_Right.j0,if_pos rfl]
 have h0:=refright_l0 id w h l hl l.length 0 k2 (by omega)
 have hn:∀ p:nb3 id w h l.length → False,rb id w h l=false:=fun p=>by
  unfold rb;rw [decide_eq_false (fun q=>p q),Bool.false_and]
 unfold c11_Right.f;rw [hj];by_cases c1:id < 0
 ·rw [if_pos c1,hn (fun q=>by obtain ⟨q1,_⟩:=q;omega)]
 by_cases c2:id > 65535
 ·rw [if_neg c1,if_pos c2,hn (fun q=>by obtain ⟨_,q2,_⟩:=q;omega)]
 by_cases c3:w < 1
 ·rw [if_neg c1,if_neg c2,if_pos c3,hn (fun q=>by obtain ⟨_,_,q3,_⟩:=q;omega)]
 by_cases c4:w > 64
 ·rw [if_neg c1,if_neg c2,if_neg c3,if_pos c4,hn (fun q=>by obtain ⟨_,_,_,q4,_⟩:=q;omega)]
 by_cases c5:h < 1
 ·rw [if_neg c1,if_neg c2,if_neg c3,if_neg c4,if_pos c5,hn (fun q=>by obtain ⟨_,_,_,_,q5,_⟩:=q;omega)]
 by_cases c6:h > 64
 ·rw [if_neg c1,if_neg c2,if_neg c3,if_neg c4,if_neg c5,if_pos c6,hn (fun q=>by obtain ⟨_,_,_,_,_,q6,_⟩:=q;omega)]
 have hm:=side_mul (w:=w) (h:=h) ⟨by omega,by omega⟩ ⟨by omega,by omega⟩;rw [if_neg c1,if_neg c2,if_neg c3,if_neg c4,if_neg c5,if_neg c6,wr (by omega) (by omega)];by_cases c7:(l.length:Int)=w*h
 ·have e7:((l.length:Int) != w*h)=false:=bne_eq_false_iff_eq.mpr c7;rw [e7,c11_Right.j0,if_neg (by decide)];refine h0.trans ?_;unfold rb;rw [decide_eq_true ⟨by omega,by omega,by omega,by omega,by omega,by omega,c7⟩,Bool.true_and,List.drop_zero]
 ·have e7:((l.length:Int) != w*h)=true:=by simpa using c7
  rw [e7,hj,hn (fun q=>by obtain ⟨_,_,_,_,_,_,q7⟩:=q;exact c7 q7)]
theorem bt_ext (s:ByteArray) (a b:Nat) (j:Nat) (hj:a+j < b) (hb:b≤s.size):bt (s.extract a b) (j:Int)=bt s ((a+j:Nat):Int):=by
 have h:=cut_bytes (s:=s) (q:=a) (n:=b - a) (by omega);rw [show a+(b - a)=b by omega] at h;rw [← rd_bytesOf,h];unfold rd cut;rw [List.getD_eq_getElem?_getD,List.getElem?_map,Int.toNat_natCast,List.getElem?_range (by omega)];rfl
theorem four_is (s:ByteArray) (h:4≤s.size):pixel_four.f s=some (bt s 0,bt s 1,bt s 2,bt s 3):=by
 have w:∀ j,wrap64 (bt s j)=bt s j:=fun j=>by have:=bt_range s j;exact wr (by omega) (by omega)
 unfold pixel_four.f;rw [if_pos (by omega),if_pos (by omega),if_pos (by omega),if_pos (by omega),w,w,w,w]
def pxa (s:ByteArray) (q:Nat):S89:=⟨bt s ((q+1:Nat):Int),bt s ((q+2:Nat):Int),bt s ((q+3:Nat):Int),bt s ((q:Nat):Int)⟩
def pxs (s:ByteArray) (n:Nat):List S89:=(List.range n).map fun i=>pxa s (4*i)
theorem pxs_len (s:ByteArray) (n:Nat):(pxs s n).length=n:=by simp [pxs]
theorem pxs_succ (s:ByteArray) (n:Nat):pxs s (n+1)=pxs s n ++ [pxa s (4*n)]:=by simp [pxs,List.range_succ]
theorem plain_loop (s:ByteArray) (n:Nat) (hn:n≤100000) (hs:s.size=4*n) (d:Nat):∀ i k,i+d=n → pixel_plain.l0 (k+d+1) s (pxs s i) (n:Int) (i:Int)=some (pxs s n,true):=by
 induction d with
 |zero =>
  intro i k hi;rw [pixel_plain.l0,if_neg (by omega),show i=n by omega]
 |succ d ih =>
  intro i k hi;have h:=ih (i+1) k (by omega);have W1:Aside0 (wrap64 (4*(i:Int))=((4*i:Nat):Int)):=⟨by rw [wr (by omega) (by omega)];omega⟩;have W2:Aside0 (wrap64 (((4*i:Nat):Int)+4)=((4*i+4:Nat):Int)):=⟨by rw [wr (by omega) (by omega)];omega⟩;have W3:Aside0 (wrap64 ((i:Int)+1)=((i+1:Nat):Int)):=⟨by rw [wr (by omega) (by omega)];omega⟩;have hz:(s.extract (4*i) (4*i+4)).size=4:=by rw [ByteArray.size_extract];omega
  have z1:((s.extract (4*i) (4*i+4)).extract 1 4).size=3:=by rw [ByteArray.size_extract,hz];rfl
  have z2:((s.extract (4*i) (4*i+4)).extract 0 1).size=1:=by rw [ByteArray.size_extract,hz];rfl
  have b:∀ j:Nat,j < 3 → bt ((s.extract (4*i) (4*i+4)).extract 1 4 ++ (s.extract (4*i) (4*i+4)).extract 0 1) (j:Int)=bt s ((4*i+(1+j):Nat):Int):=fun j hj=>by
   rw [bt_left _ _ _ (by omega) (by omega),bt_ext _ 1 4 j (by omega) (by omega),bt_ext s (4*i) (4*i+4) (1+j) (by omega) (by omega)]
  have b3:bt ((s.extract (4*i) (4*i+4)).extract 1 4 ++ (s.extract (4*i) (4*i+4)).extract 0 1) 3=bt s ((4*i:Nat):Int):=by
   rw [bt_right _ _ _ (by rw [z1];decide),z1,show (3:Int) - ((3:Nat):Int)=((0:Nat):Int) from rfl,bt_ext _ 0 1 0 (by omega) (by omega),show ((0+0:Nat):Int)=((0:Nat):Int) from rfl,bt_ext s (4*i) (4*i+4) 0 (by omega) (by omega)];rfl
  rw [show k+(d+1)+1=(k+d+1)+1 by omega,pixel_plain.l0,if_pos (by omega),W1.out,W2.out,if_pos (by omega),if_pos (by omega),if_pos (by omega),Int.toNat_natCast,Int.toNat_natCast,hz,if_pos (by decide),if_pos (by decide),show Int.toNat 1=1 from rfl,z1,z2,if_pos (by decide),four_is _ (by rw [ByteArray.size_append,z1,z2];decide),Option.bind_some];simp only;have e0:=b 0 (by decide);have e1:=b 1 (by decide);have e2:=b 2 (by decide);rw [if_pos (by rw [pxs_len];omega),W3.out];have hp:∀ P,P=pxa s (4*i) → pixel_plain.l0 (k+d+1) s (pxs s i ++ [P]) (n:Int) ((i+1:Nat):Int)=some (pxs s n,true):=fun P hP=>by rw [hP,← pxs_succ];exact h
  refine hp _ ?_;unfold pxa;exact congr (congr (congr (congrArg S89.mk e0) e1) e2) b3
theorem plain_is (s:ByteArray) (n:Nat) (hn:n≤100000) (k:Nat) (hk:n+1≤k):pixel_plain.f k s (n:Int)=some (if s.size=4*n then (pxs s n,true) else ([],false)):=by
 obtain ⟨k1,rfl⟩:∃ k1,k=k1+n+1:=⟨k - n - 1,by omega⟩;unfold pixel_plain.f;rw [wr (by omega) (by omega)];by_cases c:s.size=4*n
 ·rw [if_pos (by omega),if_pos c];exact plain_loop s n hn c n 0 k1 (by omega)
 ·rw [if_neg (by omega),if_neg c]
def lv (s:ByteArray) (q n:Nat):Int:=if n=1 then bt s (q:Int) else bt s ((q+1:Nat):Int)*256+bt s (q:Int)
theorem lv_rng (s:ByteArray) (q n:Nat):0≤lv s q n∧lv s q n≤65535:=by
 have h0:=bt_range s (q:Int);have h1:=bt_range s ((q+1:Nat):Int);unfold lv
 split <;> omega
theorem bytes_at (s : ByteArray) (q n : Nat) (p : Int) (hp : p = 8 * (q : Int)) (hq : q ≤ s.size) (hs : s.size ≤ 1000000) (hn : n ≤ 4) (k : Nat) :
  bits_Bytes.f (k+1) s p (n:Int)=some (if q+n≤s.size then (s.extract q (q+n),s,((8*(q+n):Nat):Int),0) else (⟨#[]⟩,⟨#[]⟩,0,2)):=by
 subst hp;have W0:Aside0 (wrap64 (8*(s.size:Int))=8*(s.size:Int)):=⟨wr (by omega) (by omega)⟩;have W1:Aside0 (wrap64 (8*(q:Int)+7)=8*(q:Int)+7):=⟨wr (by omega) (by omega)⟩;have W2:Aside0 (wrap64 (Int.tdiv (8*(q:Int)+7) 8)=(q:Int)):=⟨by rw [Int.tdiv_eq_ediv_of_nonneg (by omega),wr (by omega) (by omega)];omega⟩;have W3:Aside0 (wrap64 ((q:Int)*8)=8*(q:Int)):=⟨by rw [wr (by omega) (by omega)];omega⟩;have W4:Aside0 (wrap64 (Int.tdiv (8*(q:Int)) 8)=(q:Int)):=⟨by rw [Int.tdiv_eq_ediv_of_nonneg (by omega),wr (by omega) (by omega)];omega⟩;have W5:Aside0 (wrap64 ((s.size:Int) - (q:Int))=(s.size:Int) - (q:Int)):=⟨wr (by omega) (by omega)⟩;have W6:Aside0 (wrap64 ((q:Int)+(n:Int))=((q+n:Nat):Int)):=⟨by rw [wr (by omega) (by omega)];omega⟩;have W7:Aside0 (wrap64 (8*((q+n:Nat):Int))=((8*(q+n):Nat):Int)):=⟨by rw [wr (by omega) (by omega)];omega⟩
 have hr:bits_right.f s (8*(q:Int))=some true:=by
  unfold bits_right.f;rw [if_pos (by omega),W0.out,decide_eq_true (by omega)]
 unfold bits_Bytes.f;rw [hr,Option.bind_some,if_pos rfl,bits_Bytes.j0,decide_eq_false (by omega),if_neg (by decide)];unfold bits_Align.f;rw [hr,Option.bind_some,if_pos rfl,Option.bind_some,W1.out,W2.out,W3.out];simp only;rw [W4.out,W5.out,W6.out,W7.out];by_cases c:q+n≤s.size
 ·rw [if_pos c,if_neg (by omega),if_pos (by omega),if_pos (by omega),if_pos (by omega),Int.toNat_natCast,Int.toNat_natCast]
 ·rw [if_neg c,if_pos (by omega)]
theorem or_byte (v b:Int) (hv:0≤v∧v≤255) (hb:0≤b∧b≤255):Go.bits .or .i64 (v*256) b=v*256+b:=by
 have W:∀ n:Int,0≤n → n < 2 ^ 40 → IntKind.i64.wrap n=n:=fun n h0 h1=>by
  rw [IntKind.wrap_i64];have:(2:Int) ^ 40=1099511627776:=by decide
  omega
 exact Go.bits_join .i64 40 (by decide) W 8 (v*256) b (by omega) (by omega) (by omega) (by omega) (by omega) (by omega)
theorem little_step (k : Nat) (b : ByteArray) (e v : Int) (i : Nat) (s : ByteArray) (a : Int) (hi : i < b.size) (hb : b.size ≤ 1000) (hv : 0 ≤ v ∧ v ≤ 255) :
  bits_Little.l0 (k+1) b e v (i:Int) s a=bits_Little.l0 k b e (v*256+bt b (i:Int)) ((i:Int) - 1) s a:=by
 have hr:=bt_range b (i:Int);rw [bits_Little.l0,if_pos (by omega),if_pos (by omega),if_pos (by omega),wr (n:=v*256) (by omega) (by omega),wr (n:=bt b (i:Int)) (by omega) (by omega),wr (n:=(i:Int) - 1) (by omega) (by omega),or_byte v _ hv hr]
theorem little_at (s : ByteArray) (q n : Nat) (p : Int) (hp : p = 8 * (q : Int)) (hq : q ≤ s.size) (hs : s.size ≤ 1000000) (hn : n = 1 ∨ n = 2) (k : Nat) :
  bits_Little.f (k+5) s p (n:Int)=some (if q+n≤s.size then (lv s q n,s,((8*(q+n):Nat):Int),0) else (0,⟨#[]⟩,0,2)):=by
 unfold bits_Little.f;rw [if_neg (by omega),decide_eq_false (by omega),show k+5=(k+4)+1 from rfl,bits_Little.j0,if_neg (by decide),bytes_at s q n p hp hq hs (by omega) (k+3),Option.bind_some];by_cases c:q+n≤s.size;rotate_left
 ·rw [if_neg c,if_neg c];simp only;rw [show wrap64 (((⟨#[]⟩:ByteArray).size:Int) - 1)=-1 from wr (by decide) (by decide),show k+4=(k+3)+1 from rfl,bits_Little.l0,if_neg (by decide)]
 rw [if_pos c,if_pos c];simp only;have hz:(s.extract q (q+n)).size=n:=by rw [ByteArray.size_extract];omega
 have h0:=bt_ext s q (q+n) 0 (by omega) c;have hr0:=bt_range s ((q+1:Nat):Int);rw [hz]
 rcases hn with rfl | rfl
 ·rw [show wrap64 (((1:Nat):Int) - 1)=((0:Nat):Int) from wr (by decide) (by decide),show k+4=(k+3)+1 from rfl,little_step _ _ _ 0 0 _ _ (by omega) (by omega) (by decide),show k+3=(k+2)+1 from rfl,bits_Little.l0,if_neg (by decide),h0];unfold lv;rw [if_pos rfl];simp
 ·have h1:=bt_ext s q (q+2) 1 (by omega) c;rw [show wrap64 (((2:Nat):Int) - 1)=((1:Nat):Int) from wr (by decide) (by decide),show k+4=(k+3)+1 from rfl,little_step _ _ _ 0 1 _ _ (by omega) (by omega) (by decide),show ((1:Nat):Int) - 1=((0:Nat):Int) from rfl,h1,show k+3=(k+2)+1 from rfl,show (0:Int)*256+bt s ((q+1:Nat):Int)=bt s ((q+1:Nat):Int) by omega,little_step _ _ _ _ 0 _ _ (by omega) (by omega) hr0,show k+2=(k+1)+1 from rfl,bits_Little.l0,if_neg (by decide),h0];unfold lv;rw [if_neg (by decide)];rfl
abbrev HR:=Int × Int × Int × List S89 × Int × ByteArray × Int
def hdr (s:ByteArray):HR :=
 if s.size < 2 then (0,0,0,[],0,⟨#[]⟩,2)
 else if s.size < 3 then (lv s 0 2,0,0,[],0,⟨#[]⟩,2)
 else if lv s 2 1 ≠ 3∧lv s 2 1 ≠ 5 then (lv s 0 2,0,0,[],0,⟨#[]⟩,3)
 else if s.size < 5 then (lv s 0 2,0,0,[],0,⟨#[]⟩,2)
 else if s.size < 7 then (lv s 0 2,lv s 3 2,0,[],0,⟨#[]⟩,2)
 else if lv s 2 1=3 then
  (if s.size < 8 then (lv s 0 2,lv s 3 2,lv s 5 2,[],0,⟨#[]⟩,2)
  else if mn (lv s 3 2) (lv s 5 2) < 1 then (lv s 0 2,lv s 3 2,lv s 5 2,[],0,⟨#[]⟩,7)
  else if mx (lv s 3 2) (lv s 5 2) > 64 then (lv s 0 2,lv s 3 2,lv s 5 2,[],0,⟨#[]⟩,7)
  else (lv s 0 2,lv s 3 2,lv s 5 2,[],lv s 7 1+1,s.extract 8 s.size,0))
 else
  (if mn (lv s 3 2) (lv s 5 2) < 1 then (lv s 0 2,lv s 3 2,lv s 5 2,[],0,⟨#[]⟩,7)
  else if mx (lv s 3 2) (lv s 5 2) > 64 then (lv s 0 2,lv s 3 2,lv s 5 2,[],0,⟨#[]⟩,7)
  else (lv s 0 2,lv s 3 2,lv s 5 2,[],0,s.extract 7 s.size,0))
theorem head_rest (s : ByteArray) (hs : s.size ≤ 1000000) (k : Nat) (f : Int) (b : Bool) (h3 : 3 ≤ s.size) (hf : f = lv s 2 1) (hb : b = (f != 3 && f != 5)) :
  pixel_head.j0 (k+6) f 0 b s 24 (lv s 0 2) 0 0=some (hdr s):=by
 have L2:bits_Little.f (k+5) s 24 2=some (if 3+2≤s.size then (lv s 3 2,s,40,0) else (0,⟨#[]⟩,0,2)):=little_at s 3 2 24 rfl (by omega) hs (.inr rfl) k;unfold hdr;rw [if_neg (by omega),if_neg (by omega),show k+6=(k+5)+1 from rfl,pixel_head.j0,← hf];by_cases c:f ≠ 3∧f ≠ 5
 ·have hb1:b=true:=by rw [hb];simp [c.1,c.2]
  rw [if_pos hb1,if_pos c]
 have hb1:¬ b=true:=by
  rw [hb];intro h;simp at h;exact c h
 rw [if_neg hb1,if_neg c];rw [L2,Option.bind_some];by_cases c5:s.size < 5
 ·rw [if_neg (show ¬ 3+2≤s.size by omega),if_pos c5];simp only;rw [if_neg (by decide)]
 have L3:bits_Little.f (k+5) s 40 2=some (if 5+2≤s.size then (lv s 5 2,s,56,0) else (0,⟨#[]⟩,0,2)):=little_at s 5 2 40 rfl (by omega) hs (.inr rfl) k;rw [if_pos (show 3+2≤s.size by omega),if_neg c5];simp only;rw [if_pos trivial,L3,Option.bind_some];by_cases c7:s.size < 7
 ·rw [if_neg (show ¬ 5+2≤s.size by omega),if_pos c7];simp only;rw [if_neg (by decide)]
 rw [if_pos (show 5+2≤s.size by omega),if_neg c7];simp only;rw [if_pos trivial];have W0:Aside0 (wrap64 (Int.tdiv 56 8)=((7:Nat):Int)):=⟨by rw [show Int.tdiv 56 8=7 from rfl];exact wr (by decide) (by decide)⟩;by_cases c3:f=3;rotate_left
 ·rw [if_neg c3,if_neg c3,W0.out];by_cases d1:mn (lv s 3 2) (lv s 5 2) < 1
  ·rw [if_pos d1,if_pos d1]
  ·by_cases d2:mx (lv s 3 2) (lv s 5 2) > 64
   ·rw [if_neg d1,if_neg d1,if_pos d2,if_pos d2]
   ·rw [if_neg d1,if_neg d1,if_neg d2,if_neg d2,if_pos (by omega),if_pos (by omega),Int.toNat_natCast]
 have L4:bits_Little.f (k+5) s 56 1=some (if 7+1≤s.size then (lv s 7 1,s,64,0) else (0,⟨#[]⟩,0,2)):=little_at s 7 1 56 rfl (by omega) hs (.inl rfl) k;rw [if_pos c3,if_pos c3,L4,Option.bind_some];by_cases c8:s.size < 8
 ·rw [if_neg (show ¬ 7+1≤s.size by omega),if_pos c8];simp only;rw [if_neg (by decide)]
 have W1:Aside0 (wrap64 (Int.tdiv 64 8)=((8:Nat):Int)):=⟨by rw [show Int.tdiv 64 8=8 from rfl];exact wr (by decide) (by decide)⟩;have hr:=lv_rng s 7 1;have W2:Aside0 (wrap64 (lv s 7 1+1)=lv s 7 1+1):=⟨wr (by omega) (by omega)⟩;rw [if_pos (show 7+1≤s.size by omega),if_neg c8];simp only;rw [if_pos trivial,W1.out,W2.out];by_cases d1:mn (lv s 3 2) (lv s 5 2) < 1
 ·rw [if_pos d1,if_pos d1]
 ·by_cases d2:mx (lv s 3 2) (lv s 5 2) > 64
  ·rw [if_neg d1,if_neg d1,if_pos d2,if_pos d2]
  ·rw [if_neg d1,if_neg d1,if_neg d2,if_neg d2,if_pos (by omega),if_pos (by omega),Int.toNat_natCast]
theorem head_is (s:ByteArray) (hs:s.size≤1000000) (k:Nat):pixel_head.f (k+6) s 0=some (hdr s):=by
 have L0:bits_Little.f (k+1+5) s 0 2=some (if 0+2≤s.size then (lv s 0 2,s,16,0) else (0,⟨#[]⟩,0,2)):=little_at s 0 2 0 rfl (by omega) hs (.inr rfl) (k+1);unfold pixel_head.f;rw [show k+6=k+1+5 from rfl,L0,Option.bind_some];by_cases c2:s.size < 2
 ·rw [if_neg (show ¬ 0+2≤s.size by omega)];simp only;rw [if_neg (by decide)];unfold hdr;rw [if_pos c2]
 have L1:bits_Little.f (k+1+5) s 16 1=some (if 2+1≤s.size then (lv s 2 1,s,24,0) else (0,⟨#[]⟩,0,2)):=little_at s 2 1 16 rfl (by omega) hs (.inl rfl) (k+1);rw [if_pos (show 0+2≤s.size by omega)];simp only;rw [if_pos trivial,L1,Option.bind_some];by_cases c3:s.size < 3
 ·rw [if_neg (show ¬ 2+1≤s.size by omega)];simp only;rw [if_neg (by decide)];unfold hdr;rw [if_neg c2,if_pos c3]
 rw [if_pos (show 2+1≤s.size by omega)];simp only;rw [if_pos trivial];by_cases cf:lv s 2 1=3
 ·rw [if_pos cf];exact head_rest s hs k _ false (by omega) rfl (by rw [cf];rfl)
 ·rw [if_neg cf];exact head_rest s hs k _ _ (by omega) rfl (by simp [cf])
end Go.Proofs.Ytpbhkdamkbopkaa.Px
namespace Go.Proofs.Ytpbhkdamkbopkaa.Px
open Go.RowKit GPix GPixb PR GPtk YtpbhkdamkbopkaaW.PrintWords YtpbhkdamkbopkaaW.PrintLast YtpbhkdamkbopkaaW.PrintMore
theorem no_is (x:S89):pix_no.f x.f0 x.f1 x.f2 x.f3=some (!fb x):=by
 unfold pix_no.f;rw [faint_is x 1];rfl
theorem idx_is (l:List S89) (hl:l.length≤1000000) (d:Nat):∀ (i k:Nat),i+d=l.length → ∃ r,pix_idx.l0 (k+d+1) l (l.length:Int) (i:Int)=some r∧decide (r ≥ 0)=!((l.drop i).all fb):=by
 induction d with
 |zero =>
  intro i k hi;exact ⟨-1,by rw [pix_idx.l0,if_neg (by omega)],by rw [List.drop_eq_nil_of_le (by omega)];rfl⟩
 |succ d ih =>
  intro i k hi;obtain ⟨r,h1,h2⟩:=ih (i+1) k (by omega);have e:wrap64 ((i:Int)+1)=((i+1:Nat):Int):=by rw [wr (by omega) (by omega)];omega
  rw [show k+(d+1)+1=(k+d+1)+1 by omega,pix_idx.l0,if_pos (by omega),if_pos (by omega),if_pos (by omega),no_is,Option.bind_some,rd_drop l i (by omega),List.all_cons,e,h1];cases fb (rd_T89 l (i:Int)) with
  |true=>exact ⟨r,by rw [if_neg (by decide)],by rw [h2,Bool.true_and]⟩
  |false=>exact ⟨i,by rw [if_pos (by decide)],by rw [Bool.false_and];exact decide_eq_true (by omega)⟩
theorem right_ev (id w h:Int) (l:List S89) (hl:l.length≤1000000):Ev (fun k=>pixel_Right.f k id w h l) (rb id w h l):=by
 refine ⟨l.length+1,fun k hk=>?_⟩;obtain ⟨k,rfl⟩:∃ k1,k=k1+l.length+1:=⟨k - l.length - 1,by omega⟩;obtain ⟨r,h1,h2⟩:=idx_is l hl l.length 0 k (by omega);show pixel_Right.f (k+l.length+1) id w h l=_;unfold pixel_Right.f pix_has.f pix_idx.f rb;rw [show pix_idx.l0 (k+l.length+1) l (l.length:Int) 0=some r from h1,Option.bind_some,Option.bind_some,h2,List.drop_zero,Bool.not_not];by_cases c:nb3 id w h l.length
 ·obtain ⟨c1,c2,c3,c4,c5,c6,c7⟩:=c;have hm:=side_mul ⟨c3,c4⟩ ⟨c5,c6⟩;rw [if_pos c1,if_pos c2,if_pos c3,if_pos c4,if_pos c5,if_pos c6,if_pos (by rw [wr (by omega) (by omega)];exact c7),decide_eq_true ⟨c1,c2,c3,c4,c5,c6,c7⟩,Bool.true_and]
 ·rw [decide_eq_false c,Bool.false_and];by_cases d:id ≥ 0∧id < 65536∧w ≥ 1∧w≤64∧h ≥ 1∧h≤64
  ·obtain ⟨c1,c2,c3,c4,c5,c6⟩:=d;have hm:=side_mul ⟨c3,c4⟩ ⟨c5,c6⟩;rw [if_pos c1,if_pos c2,if_pos c3,if_pos c4,if_pos c5,if_pos c6,if_neg (by rw [wr (by omega) (by omega)];exact fun q=>c ⟨c1,c2,c3,c4,c5,c6,q⟩)]
  ·(repeat' split) <;> first | rfl | exact absurd ⟨‹_›,‹_›,‹_›,‹_›,‹_›,‹_›⟩ d
theorem rright_ev (id w h:Int) (l:List S89) (hl:l.length≤1000000):Ev (fun k=>c11_Right.f k id w h l) (rb id w h l):=⟨l.length+5,fun k hk=>refright_is id w h l hl k hk⟩
def pal (s:ByteArray) (b:Nat):S89:=⟨bt s ((4*b:Nat):Int),bt s ((4*b+1:Nat):Int),bt s ((4*b+2:Nat):Int),bt s ((4*b+3:Nat):Int)⟩
def ci (s:ByteArray) (m wide y x:Nat):Nat:=(bt s ((4*m+wide*y+x:Nat):Int)).toNat
def rowS (s:ByteArray) (m wide y:Nat):Nat → Nat → List S89 → Option (List S89)
 |0,_,L=>some L
 |e+1,x,L=>if m≤ci s m wide y x then none else rowS s m wide y e (x+1) (L ++ [pal s (ci s m wide y x)])
def rowsS (s:ByteArray) (m wide w:Nat):Nat → Nat → List S89 → Option (List S89)
 |0,_,L=>some L
 |d+1,y,L=>(rowS s m wide y w 0 L).bind fun L=>rowsS s m wide w d (y+1) L
theorem rowS_len {s:ByteArray} {m wide y:Nat}:∀ (e x:Nat) (L L':List S89),rowS s m wide y e x L=some L' → L'.length=L.length+e
 |0,x,L,L',h=>by cases h;rfl
 |e+1,x,L,L',h=>by
  unfold rowS at h
  split at h
  ·cases h
  ·have:=rowS_len e (x+1) _ L' h;rw [List.length_append,List.length_singleton] at this;omega
theorem rowsS_len {s:ByteArray} {m wide w:Nat}:∀ (d y:Nat) (L L':List S89),rowsS s m wide w d y L=some L' → L'.length=L.length+d*w
 |0,y,L,L',h=>by cases h;omega
 |d+1,y,L,L',h=>by
  unfold rowsS at h;obtain ⟨M,h1,h2⟩:=Option.bind_eq_some_iff.1 h;have a:=rowS_len w 0 L M h1;have b:=rowsS_len d (y+1) M L' h2;rw [b,a,Nat.succ_mul];omega
theorem four_pal {s:ByteArray} {b:Nat} (h:4*b+4≤s.size):pixel_four.f (s.extract (4*b) (4*b+4))=some (bt s ((4*b:Nat):Int),bt s ((4*b+1:Nat):Int),bt s ((4*b+2:Nat):Int),bt s ((4*b+3:Nat):Int)):=by
 rw [four_is _ (by rw [ByteArray.size_extract];omega)];have e:∀ j:Nat,j < 4 → bt (s.extract (4*b) (4*b+4)) (j:Int)=bt s ((4*b+j:Nat):Int):=fun j hj=>bt_ext s (4*b) (4*b+4) j (by omega) h;have e0:=e 0 (by decide);have e1:=e 1 (by decide);have e2:=e 2 (by decide);have e3:=e 3 (by decide);exact congrArg some (Prod.ext e0 (Prod.ext e1 (Prod.ext e2 e3)))
section
variable {s:ByteArray} {m w h wide:Nat} (hm:m≤256) (hw:w≤64) (hh:h≤64) (hwide:wide=(w+3) / 4*4) (hs:s.size=4*m+wide*h)
include hm hw hh hwide hs
theorem at_is {y x:Nat} (hy:y < h) (hx:x < w):Aside0 (wrap64 ((wrap64 ((wrap64 (4*(m:Int)))+(wrap64 ((y:Int)*(wide:Int)))))+(x:Int))=((4*m+wide*y+x:Nat):Int))∧4*m+wide*y+x < s.size∧ci s m wide y x < 256∧Aside0 (wrap64 (bt s ((4*m+wide*y+x:Nat):Int))=(ci s m wide y x:Int)):=by
 have hyw:wide*y+wide≤wide*h:=by
  have h1:wide*(y+1)≤wide*h:=Nat.mul_le_mul_left _ (by omega);rw [Nat.mul_add,Nat.mul_one] at h1;exact h1
 have hwh:wide*h≤64*64:=Nat.mul_le_mul (by omega) hh;have em:(y:Int)*(wide:Int)=((wide*y:Nat):Int):=by rw [Nat.mul_comm];omega
 have hb:=bt_range s ((4*m+wide*y+x:Nat):Int);refine ⟨⟨?_⟩,by omega,by unfold ci;omega,⟨?_⟩⟩
 ·rw [wr (n:=4*(m:Int)) (by omega) (by omega),em,wr (n:=((wide*y:Nat):Int)) (by omega) (by omega),wr (n:=4*(m:Int)+((wide*y:Nat):Int)) (by omega) (by omega),wr (by omega) (by omega)];omega
 ·rw [wr (by omega) (by omega)];unfold ci;omega
theorem num_row {y : Nat} (hy : y < h) {R : List S89 × Bool} : ∀ (e x : Nat) (L : List S89), x + e = w → L.length ≤ 64 * y + x →
  (∀ L',rowS s m wide y e x L=some L' → Ev (fun k=>pixel_numbered.l0 k s (m:Int) (w:Int) (wide:Int) L' (h:Int) ((y+1:Nat):Int)) R) → (rowS s m wide y e x L=none → R=([],false)) →
  Ev (fun k=>pixel_numbered.l1 k s (m:Int) (w:Int) (wide:Int) L (y:Int) (h:Int) (y:Int) (w:Int) (x:Int)) R:=by
 intro e
 induction e with
 |zero =>
  intro x L hx hL h1 h2;refine Ev.step (fun k=>?_) (h1 L rfl);rw [pixel_numbered.l1,if_neg (by omega),wr (by omega) (by omega)];rfl
 |succ e ih =>
  intro x L hx hL h1 h2;obtain ⟨a1,a2,a3,a4⟩:=at_is hm hw hh hwide hs hy (x:=x) (by omega);have ih:=ih (x+1) (L ++ [pal s (ci s m wide y x)]) (by omega) (by rw [List.length_append,List.length_singleton];omega);rw [rowS] at h1 h2
  revert ih h1 h2 a3 a4
  generalize ci s m wide y x=b;intro h1 h2 a3 a4 ih;have W6:Aside0 (wrap64 (4*(b:Int))=((4*b:Nat):Int)):=⟨by rw [wr (by omega) (by omega)];omega⟩;have W7:Aside0 (wrap64 (((4*b:Nat):Int)+4)=((4*b+4:Nat):Int)):=⟨by rw [wr (by omega) (by omega)];omega⟩;have W8:Aside0 (wrap64 ((x:Int)+1)=((x+1:Nat):Int)):=⟨by rw [wr (by omega) (by omega)];omega⟩;by_cases c:m≤b
  ·rw [if_pos c] at h2;rw [h2 rfl];refine Ev.step (fun k=>?_) (Ev.now _);rw [pixel_numbered.l1,a1.out,if_pos (by omega),if_pos (by omega),if_pos (by omega),a4.out,if_pos (by omega)]
  ·rw [if_neg c] at h1 h2;refine Ev.step (fun k=>?_) (ih h1 h2);rw [pixel_numbered.l1,a1.out,if_pos (by omega),if_pos (by omega),if_pos (by omega),a4.out,W6.out,W7.out,W8.out,if_neg (by omega),if_pos (by omega),if_pos (by omega),if_pos (by omega),Int.toNat_natCast,Int.toNat_natCast,four_pal (by omega),Option.bind_some,if_pos (by omega)];rfl
theorem num_rows {R : List S89 × Bool} : ∀ (d y : Nat) (L : List S89), y + d = h → L.length ≤ 64 * y → (match rowsS s m wide w d y L with | some L' => R = (L', true) | none => R = ([], false)) →
  Ev (fun k=>pixel_numbered.l0 k s (m:Int) (w:Int) (wide:Int) L (h:Int) (y:Int)) R
 |0,y,L,hy,hL,hR=>by
  have hR:R=(L,true):=hR;rw [hR];refine Ev.step (fun k=>?_) (Ev.now _);rw [pixel_numbered.l0,if_neg (by omega)]
 |d+1,y,L,hy,hL,hR=>by
  unfold rowsS at hR;refine Ev.step (fun k=>?_) (num_row hm hw hh hwide hs (y:=y) (by omega) (R:=R) w 0 L (by omega) (by omega) (fun L' q=>?_) fun q=>?_)
  ·rw [pixel_numbered.l0,if_pos (by omega)];rfl
  ·rw [q,Option.bind_some] at hR;exact num_rows d (y+1) L' (by omega) (by have:=rowS_len w 0 L L' q;omega) hR
  ·rw [q] at hR;exact hR
end
end Go.Proofs.Ytpbhkdamkbopkaa.Px
namespace Go.Proofs.Ytpbhkdamkbopkaa.Px
open Go.RowKit GPix GPixb PR GPtk YtpbhkdamkbopkaaW.PrintWords YtpbhkdamkbopkaaW.PrintLast YtpbhkdamkbopkaaW.PrintMore
abbrev TR:=Int × Int × Int × List S89 × Int
def fin5 (id w h:Int) (L:List S89):TR:=if rb id w h L=true then (id,w,h,L,0) else (0,0,0,[],3)
theorem bt_w (s:ByteArray) (i:Int):Aside0 (wrap64 (bt s i)=bt s i):=⟨by have:=bt_range s i;exact wr (by omega) (by omega)⟩
section
variable {s:ByteArray} {m w h wide:Nat} {id:Int} (hm:m≤256) (hw:w≤64) (hh:h≤64) (hwide:wide=(w+3) / 4*4)
section
variable (hs:s.size=4*m+wide*h)
include hm hw hh hwide hs
theorem ref_row {y : Nat} (hy : y < h) {R : TR} : ∀ (e x : Nat) (L : List S89), x + e = w → L.length ≤ 64 * y + x →
  (∀ L',rowS s m wide y e x L=some L' → Ev (fun k=>c11_Take.l1 k 3 (m:Int) s (wide:Int) ((y+1:Nat):Int) 0 0 0 id (w:Int) (h:Int) L') R) → (rowS s m wide y e x L=none → R=(0,0,0,[],3)) →
  Ev (fun k=>c11_Take.l2 k 3 (m:Int) s (wide:Int) (y:Int) (x:Int) 0 0 0 id (w:Int) (h:Int) L) R:=by
 intro e
 induction e with
 |zero =>
  intro x L hx hL h1 h2;refine Ev.step (fun k=>?_) (h1 L rfl);rw [c11_Take.l2,if_neg (by omega),wr (by omega) (by omega)];rfl
 |succ e ih =>
  intro x L hx hL h1 h2;obtain ⟨a1,a2,a3,a4⟩:=at_is hm hw hh hwide hs hy (x:=x) (by omega);have ih:=ih (x+1) (L ++ [pal s (ci s m wide y x)]) (by omega) (by rw [List.length_append,List.length_singleton];omega);rw [rowS] at h1 h2
  revert ih h1 h2 a3 a4
  generalize ci s m wide y x=b;intro h1 h2 a3 a4 ih;have W6:Aside0 (wrap64 (4*(b:Int))=((4*b:Nat):Int)):=⟨by rw [wr (by omega) (by omega)];omega⟩;have W7:Aside0 (wrap64 (((4*b:Nat):Int)+1)=((4*b+1:Nat):Int)):=⟨by rw [wr (by omega) (by omega)];omega⟩;have W8:Aside0 (wrap64 (((4*b:Nat):Int)+2)=((4*b+2:Nat):Int)):=⟨by rw [wr (by omega) (by omega)];omega⟩;have W9:Aside0 (wrap64 (((4*b:Nat):Int)+3)=((4*b+3:Nat):Int)):=⟨by rw [wr (by omega) (by omega)];omega⟩;have W10:Aside0 (wrap64 ((x:Int)+1)=((x+1:Nat):Int)):=⟨by rw [wr (by omega) (by omega)];omega⟩;by_cases c:m≤b
  ·rw [if_pos c] at h2;rw [h2 rfl];refine Ev.step (fun k=>?_) (Ev.now _);rw [c11_Take.l2,if_pos (by omega),if_neg (by decide),a1.out,if_pos (by omega),if_pos (by omega),a4.out,if_pos (by omega)]
  ·rw [if_neg c] at h1 h2;refine Ev.step (fun k=>?_) (ih h1 h2);rw [c11_Take.l2,if_pos (by omega),if_neg (by decide),a1.out,if_pos (by omega),if_pos (by omega),a4.out,if_neg (by omega),W6.out,if_pos (by omega),if_pos (by omega),W7.out,if_pos (by omega),if_pos (by omega),W8.out,if_pos (by omega),if_pos (by omega),W9.out,if_pos (by omega),if_pos (by omega),if_pos (by omega),(bt_w s _).out,(bt_w s _).out,(bt_w s _).out,(bt_w s _).out,W10.out];rfl
theorem ref_rows {R : TR} : ∀ (d y : Nat) (L : List S89), y + d = h → L.length ≤ 64 * y → (match rowsS s m wide w d y L with | some L' => R = fin5 id w h L' | none => R = (0, 0, 0, [], 3)) →
  Ev (fun k=>c11_Take.l1 k 3 (m:Int) s (wide:Int) (y:Int) 0 0 0 id (w:Int) (h:Int) L) R
 |0,y,L,hy,hL,hR=>by
  have hR:R=fin5 id w h L:=hR;rw [hR];refine Ev.step (f:=fun k=>(c11_Right.f k id (w:Int) (h:Int) L).bind fun Qa=>(if Qa=true then (some (id,(w:Int),(h:Int),L,0)) else (some (0,0,0,([]:List (S89)),3)))) (fun k=>?_) (Ev.bind (rright_ev id w h L (by omega)) ?_)
  ·rw [c11_Take.l1,if_neg (by omega)]
  ·unfold fin5;cases rb id w h L <;> exact Ev.now _
 |d+1,y,L,hy,hL,hR=>by
  unfold rowsS at hR;refine Ev.step (fun k=>?_) (ref_row (id:=id) hm hw hh hwide hs (y:=y) (by omega) (R:=R) w 0 L (by omega) (by omega) (fun L' q=>?_) fun q=>?_)
  ·rw [c11_Take.l1,if_pos (by omega)];rfl
  ·rw [q,Option.bind_some] at hR;exact ref_rows d (y+1) L' (by omega) (by have:=rowS_len w 0 L L' q;omega) hR
  ·rw [q] at hR;exact hR
end
section
variable (hs:s.size=4*(w*h))
include hw hh hs
theorem rpl_row {y : Nat} (hy : y < h) {R : TR} : ∀ (e x : Nat), x + e = w → Ev (fun k => c11_Take.l1 k 5 0 s (wide : Int) ((y + 1 : Nat) : Int) 0 0 0 id (w : Int) (h : Int) (pxs s ((y + 1) * w))) R →
  Ev (fun k=>c11_Take.l2 k 5 0 s (wide:Int) (y:Int) (x:Int) 0 0 0 id (w:Int) (h:Int) (pxs s (y*w+x))) R:=by
 intro e
 induction e with
 |zero =>
  intro x hx h1;obtain rfl:x=w:=by omega
  refine Ev.step (fun k=>?_) h1;rw [c11_Take.l2,if_neg (by omega),wr (by omega) (by omega),Nat.succ_mul];rfl
 |succ e ih =>
  intro x hx h1;have ih:=ih (x+1) (by omega) h1
  have hyw:y*w+w≤h*w:=by
   have h1:(y+1)*w≤h*w:=Nat.mul_le_mul_right _ (by omega);rw [Nat.succ_mul] at h1;exact h1
  have hwh:h*w≤64*64:=Nat.mul_le_mul hh hw;rw [Nat.mul_comm w h] at hs
  have em:Aside0 (wrap64 (wrap64 ((y:Int)*(w:Int))+(x:Int))=((y*w+x:Nat):Int)):=⟨by
   rw [show (y:Int)*(w:Int)=((y*w:Nat):Int) by omega,wr (n:=((y*w:Nat):Int)) (by omega) (by omega),wr (by omega) (by omega)];omega⟩
  rw [← Nat.add_assoc] at ih;have hpl:=pxs_len s (y*w+x)
  revert hpl ih em
  generalize hp:y*w+x=p;intro ih em hpl;rw [pxs_succ] at ih;have W6:Aside0 (wrap64 (4*(p:Int))=((4*p:Nat):Int)):=⟨by rw [wr (by omega) (by omega)];omega⟩;have W7:Aside0 (wrap64 (((4*p:Nat):Int)+1)=((4*p+1:Nat):Int)):=⟨by rw [wr (by omega) (by omega)];omega⟩;have W8:Aside0 (wrap64 (((4*p:Nat):Int)+2)=((4*p+2:Nat):Int)):=⟨by rw [wr (by omega) (by omega)];omega⟩;have W9:Aside0 (wrap64 (((4*p:Nat):Int)+3)=((4*p+3:Nat):Int)):=⟨by rw [wr (by omega) (by omega)];omega⟩;have W10:Aside0 (wrap64 ((x:Int)+1)=((x+1:Nat):Int)):=⟨by rw [wr (by omega) (by omega)];omega⟩;refine Ev.step (fun k=>?_) ih;rw [c11_Take.l2,if_pos (by omega),if_pos rfl,em.out,W6.out,W7.out,if_pos (by omega),if_pos (by omega),W8.out,if_pos (by omega),if_pos (by omega),W9.out,if_pos (by omega),if_pos (by omega),if_pos (by omega),if_pos (by omega),if_pos (by omega),(bt_w s _).out,(bt_w s _).out,(bt_w s _).out,(bt_w s _).out,W10.out];rfl
theorem rpl_rows:∀ (d y:Nat),y+d=h → Ev (fun k=>c11_Take.l1 k 5 0 s (wide:Int) (y:Int) 0 0 0 id (w:Int) (h:Int) (pxs s (y*w))) (fin5 id w h (pxs s (w*h)))
 |0,y,hy=>by
  obtain rfl:y=h:=by omega
  have hwh:y*w≤64*64:=Nat.mul_le_mul hh hw;rw [Nat.mul_comm w y];refine Ev.step (f:=fun k=>(c11_Right.f k id (w:Int) (y:Int) (pxs s (y*w))).bind fun Qa=>(if Qa=true then (some (id,(w:Int),(y:Int),pxs s (y*w),0)) else (some (0,0,0,([]:List (S89)),3)))) (fun k=>?_) (Ev.bind (rright_ev id w y (pxs s (y*w)) (by rw [pxs_len];omega)) ?_)
  ·rw [c11_Take.l1,if_neg (by omega)]
  ·unfold fin5;cases rb id w y (pxs s (y*w)) <;> exact Ev.now _
 |d+1,y,hy=>by
  refine Ev.step (fun k=>?_) (rpl_row (id:=id) hw hh hs (y:=y) (by omega) w 0 (by omega) (rpl_rows d (y+1) (by omega)));rw [c11_Take.l1,if_pos (by omega)];rfl
end
include hw hwide in
theorem widen {x5 x8:Int} {R:TR} (H:Ev (fun k=>c11_Take.l0 k x5 x8 s (wide:Int) 0 0 0 id (w:Int) (h:Int)) R):∀ (d x:Nat),x+d=wide → w≤x → Ev (fun k=>c11_Take.l0 k x5 x8 s (x:Int) 0 0 0 id (w:Int) (h:Int)) R
 |0,x,hx,_=>by
  obtain rfl:x=wide:=by omega
  exact H
 |d+1,x,hx,hxw=>by
  refine Ev.step (fun k=>?_) (widen H d (x+1) (by omega) (by omega));rw [c11_Take.l0,if_pos (by rw [Int.tmod_eq_emod_of_nonneg (by omega)];omega),wr (by omega) (by omega)];rfl
end
end Go.Proofs.Ytpbhkdamkbopkaa.Px
namespace Go.Proofs.Ytpbhkdamkbopkaa.Px
open Go.RowKit GPix GPixb PR GPtk GBack2 Go.Proofs.Ytpbhkdamkbopkaa.Pure GOpn YtpbhkdamkbopkaaW.PrintWords YtpbhkdamkbopkaaW.PrintLast YtpbhkdamkbopkaaW.PrintMore
theorem hdr_good (s:ByteArray):(hdr s).2.2.2.2.2.2=0 → 1≤(hdr s).2.1∧(hdr s).2.1≤64∧1≤(hdr s).2.2.1∧(hdr s).2.2.1≤64∧0≤(hdr s).2.2.2.2.1∧(hdr s).2.2.2.2.1≤256∧(hdr s).2.2.2.2.2.1.size≤s.size:=by
 have hm:∀ a b:Int,¬ mn a b < 1 → ¬ mx a b > 64 → 1≤a∧a≤64∧1≤b∧b≤64:=fun a b h1 h2=>by
  unfold mn at h1;unfold mx at h2
  split at h1 <;> split at h2 <;> omega
 have hb:=bt_range s 7;have h7:lv s 7 1=bt s 7:=by unfold lv;rw [if_pos rfl];rfl
 have hz:∀ a,(s.extract a s.size).size≤s.size:=fun a=>by rw [ByteArray.size_extract];omega
 unfold hdr
 (repeat' split) <;> intro he
 all_goals first
  |exact absurd he (show ¬ ((2:Int)=0) by decide)
  |exact absurd he (show ¬ ((3:Int)=0) by decide)
  |exact absurd he (show ¬ ((7:Int)=0) by decide)
  |(have q:=hm _ _ (by assumption) (by assumption);refine ⟨q.1,q.2.1,q.2.2.1,q.2.2.2,?_,?_,hz _⟩ <;> simp only [h7] <;> omega)
def bodyS (t:ByteArray) (m w h:Nat) (id:Int):TR :=
 if (opn t 262144).2=0 then
  (if 0 < m then (if (opn t 262144).1.size=4*m+(w+3) / 4*4*h then (match rowsS (opn t 262144).1 m ((w+3) / 4*4) w h 0 [] with | some L=>fin5 id w h L | none=>(0,0,0,[],3)) else (0,0,0,[],3))
  else (if (opn t 262144).1.size=4*(w*h) then fin5 id w h (pxs (opn t 262144).1 (w*h)) else (0,0,0,[],3)))
 else (0,0,0,[],(opn t 262144).2)
def takS (s:ByteArray):TR:=if (hdr s).2.2.2.2.2.2=0 then bodyS (hdr s).2.2.2.2.2.1 (hdr s).2.2.2.2.1.toNat (hdr s).2.1.toNat (hdr s).2.2.1.toNat (hdr s).1 else (0,0,0,[],(hdr s).2.2.2.2.2.2)
theorem mul_w {w h:Nat} (hw:w≤64) (hh:h≤64):wrap64 ((w:Int)*(h:Int))=((w*h:Nat):Int):=by
 have hwh:w*h≤64*64:=Nat.mul_le_mul hw hh;rw [show (w:Int)*(h:Int)=((w*h:Nat):Int) by omega];exact wr (by omega) (by omega)
theorem size_w {m w h wide:Nat} (hm:m≤256) (hw:w≤64) (hh:h≤64) (hwide:wide=(w+3) / 4*4):wrap64 (wrap64 (4*(m:Int))+wrap64 ((wide:Int)*(h:Int)))=((4*m+wide*h:Nat):Int):=by
 have hwh:wide*h≤64*64:=Nat.mul_le_mul (by omega) hh;rw [show (wide:Int)*(h:Int)=((wide*h:Nat):Int) by omega,wr (n:=4*(m:Int)) (by omega) (by omega),wr (n:=((wide*h:Nat):Int)) (by omega) (by omega),wr (by omega) (by omega)];omega
theorem num_ev (s:ByteArray) {m w h:Nat} (hm:m≤256) (hw:w≤64) (hh:h≤64):Ev (fun k=>pixel_numbered.f k s (m:Int) (w:Int) (h:Int)) (if s.size=4*m+(w+3) / 4*4*h then (match rowsS s m ((w+3) / 4*4) w h 0 [] with | some L=>(L,true) | none=>([],false)) else ([],false)):=by
 obtain ⟨wide,hwide⟩:∃ wide,wide=(w+3) / 4*4:=⟨_,rfl⟩;rw [← hwide]
 have e1:wrap64 ((wrap64 (Int.tdiv (wrap64 ((w:Int)+3)) 4))*4)=(wide:Int):=by
  rw [wr (n:=(w:Int)+3) (by omega) (by omega),Int.tdiv_eq_ediv_of_nonneg (by omega),wr (n:=((w:Int)+3) / 4) (by omega) (by omega),wr (by omega) (by omega)];omega
 refine Ev.congr (f:=fun k=>if (s.size:Int)=((4*m+wide*h:Nat):Int) then pixel_numbered.l0 k s (m:Int) (w:Int) (wide:Int) [] (h:Int) 0 else some ([],false)) (fun k=>by unfold pixel_numbered.f;rw [e1,size_w hm hw hh hwide]) ?_;by_cases c:s.size=4*m+wide*h
 ·simp only [if_pos c,if_pos (show (s.size:Int)=((4*m+wide*h:Nat):Int) by omega)];exact num_rows hm hw hh hwide c h 0 [] (by omega) (by simp) (by cases rowsS s m wide w h 0 [] <;> rfl)
 ·simp only [if_neg c,if_neg (show ¬ (s.size:Int)=((4*m+wide*h:Nat):Int) by omega)];exact Ev.now _
theorem ptake_ev (s:ByteArray) (hs:s.size≤1000000):Ev (fun k=>pixel_Take.f k s) (takS s):=by
 have hg:=hdr_good s
 have E0:Ev (fun k=>pixel_head.f k s 0) (hdr s):=⟨6,fun k hk=>by
  obtain ⟨k1,rfl⟩:∃ k1,k=k1+6:=⟨k - 6,by omega⟩;exact head_is s hs k1⟩
 refine Ev.congr (fun k=>by unfold pixel_Take.f;exact rfl) (Ev.bind E0 ?_);unfold takS;generalize hdr s=H at hg ⊢;obtain ⟨id,w,h,l,m,rest,e⟩:=H;simp only at hg ⊢;by_cases he:e=0;rotate_left
 ·simp only [if_neg he];exact Ev.now _
 obtain ⟨g1,g2,g3,g4,g5,g6,g7⟩:=hg he;obtain ⟨w,rfl⟩:=Int.eq_ofNat_of_zero_le (show 0≤w by omega);obtain ⟨h,rfl⟩:=Int.eq_ofNat_of_zero_le (show 0≤h by omega);obtain ⟨m,rfl⟩:=Int.eq_ofNat_of_zero_le g5;simp only [if_pos he,Int.toNat_natCast]
 have E1:Ev (fun k=>inflate_Open.f k rest 262144) (opn rest 262144):=⟨262146,fun k hk=>by
  obtain ⟨k1,rfl⟩:∃ k1,k=k1+1:=⟨k - 1,by omega⟩;exact openprog_is rest 262144 (by omega) k1 (by omega)⟩
 refine Ev.bind E1 ?_;unfold bodyS;generalize opn rest 262144=o
 have fin:∀ p:List S89,p.length≤1000000 → Ev (fun k=>(pixel_Right.f k id (w:Int) (h:Int) p).bind fun t=>(if t=true then (some (id,(w:Int),(h:Int),p,0)) else (some (0,0,0,([]:List S89),3)))) (fin5 id w h p):=fun p hp=>by
  refine Ev.bind (right_ev id w h p hp) ?_;unfold fin5;cases rb id w h p <;> exact Ev.now _
 have hwh:w*h≤64*64:=Nat.mul_le_mul (by omega) (by omega);by_cases c:o.2=0;rotate_left
 ·simp only [if_neg c];exact Ev.now _
 simp only [if_pos c];by_cases cm:0 < m;rotate_left
 ·simp only [if_neg cm,if_neg (show ¬ (m:Int) > 0 by omega),mul_w (show w≤64 by omega) (show h≤64 by omega)];refine Ev.bind ⟨w*h+1,fun k hk=>plain_is o.1 (w*h) (by omega) k hk⟩ ?_;by_cases cz:o.1.size=4*(w*h)
  ·simp only [if_pos cz];have q:=fin (pxs o.1 (w*h)) (by rw [pxs_len];omega)
   simpa using q
  ·simp only [if_neg cz];exact Ev.now _
 simp only [if_pos cm,if_pos (show (m:Int) > 0 by omega)];refine Ev.bind (num_ev o.1 (m:=m) (w:=w) (h:=h) (by omega) (by omega) (by omega)) ?_;by_cases cz:o.1.size=4*m+(w+3) / 4*4*h;rotate_left
 ·simp only [if_neg cz];exact Ev.now _
 simp only [if_pos cz];cases hr:rowsS o.1 m ((w+3) / 4*4) w h 0 [] with
 |none=>exact Ev.now _
 |some L =>
  have:=rowsS_len h 0 [] L hr;have q:=fin L (by rw [this,List.length_nil,Nat.mul_comm h w];omega)
  simpa using q
theorem rj3_ev {s:ByteArray} {off m w h:Nat} {id x5:Int} (hoff:off≤s.size) (hs:s.size≤1000000) (hm:m≤256) (hw:w≤64) (hh:h≤64) (hx:(x5=3∧0 < m) ∨ (x5=5∧m=0)):Ev (fun k=>c11_Take.j3 k s x5 (off:Int) (m:Int) 0 0 0 id (w:Int) (h:Int)) (bodyS (s.extract off s.size) m w h id):=by
 refine Ev.step (f:=fun k=>(c05_Open.f k (s.extract off s.size) 262144).bind fun b=>if b.2=0 then c11_Take.l0 k x5 (m:Int) b.1 (w:Int) 0 0 0 id (w:Int) (h:Int) else some (0,0,0,([]:List S89),b.2)) (fun k=>by rw [c11_Take.j3,if_pos (by omega),if_pos (by omega),Int.toNat_natCast]) (Ev.bind (openref_is _ _ (by rw [ByteArray.size_extract];omega)) ?_);unfold bodyS;generalize opn (s.extract off s.size) 262144=o;by_cases c:o.2=0;rotate_left
 ·simp only [if_neg c];exact Ev.now _
 simp only [if_pos c];obtain ⟨wide,hwide⟩:∃ wide,wide=(w+3) / 4*4:=⟨_,rfl⟩;rw [← hwide];refine widen hw hwide ?_ (wide - w) w (by omega) (Nat.le_refl _);have ht:¬ Int.tmod (wide:Int) 4 > 0:=by rw [Int.tmod_eq_emod_of_nonneg (by omega)];omega
 rcases hx with ⟨rfl,h0⟩ | ⟨rfl,rfl⟩
 ·refine Ev.step (f:=fun k=>c11_Take.j5 k 3 (m:Int) o.1 (wide:Int) ((o.1.size:Int) != ((4*m+wide*h:Nat):Int)) 0 0 0 id (w:Int) (h:Int)) (fun k=>by rw [c11_Take.l0,if_neg ht,if_neg (by decide),if_pos rfl,size_w hm hw hh hwide]) ?_;rw [if_pos h0];by_cases cz:o.1.size=4*m+wide*h
  ·rw [if_pos cz,show ((o.1.size:Int) != ((4*m+wide*h:Nat):Int))=false by rw [cz];exact bne_self_eq_false _];refine Ev.step (fun k=>?_) (ref_rows (id:=id) hm hw hh hwide cz h 0 [] (by omega) (by simp) (by cases rowsS o.1 m wide w h 0 [] <;> rfl));rw [c11_Take.j5,if_neg (by decide)];rfl
  ·rw [if_neg cz,show ((o.1.size:Int) != ((4*m+wide*h:Nat):Int))=true by rw [bne_iff_ne];omega];refine Ev.step (fun k=>?_) (Ev.now _);rw [c11_Take.j5,if_pos rfl]
 ·have hwh:w*h≤64*64:=Nat.mul_le_mul hw hh
  have e4:wrap64 (wrap64 (4*(w:Int))*(h:Int))=((4*(w*h):Nat):Int):=by
   rw [wr (n:=4*(w:Int)) (by omega) (by omega),show 4*(w:Int)*(h:Int)=((4*(w*h):Nat):Int) by rw [Int.mul_assoc];omega];exact wr (by omega) (by omega)
  rw [if_neg (Nat.lt_irrefl 0)];by_cases cz:o.1.size=4*(w*h)
  ·rw [if_pos cz];refine Ev.step (f:=fun k=>c11_Take.j5 k 5 0 o.1 (wide:Int) false 0 0 0 id (w:Int) (h:Int)) (fun k=>by rw [c11_Take.l0,if_neg ht,if_pos rfl,e4,if_pos (by omega),if_neg (by decide)];rfl) ?_;have q:=rpl_rows (id:=id) (wide:=wide) hw hh cz h 0 (by omega);rw [Nat.zero_mul] at q;refine Ev.step (fun k=>?_) q;rw [c11_Take.j5,if_neg (by decide)];rfl
  ·rw [if_neg cz];refine Ev.step (f:=fun k=>c11_Take.j5 k 5 0 o.1 (wide:Int) true 0 0 0 id (w:Int) (h:Int)) (fun k=>by rw [c11_Take.l0,if_neg ht,if_pos rfl,e4,if_neg (by omega)];rfl) ?_;refine Ev.step (fun k=>?_) (Ev.now _);rw [c11_Take.j5,if_pos rfl]
end Go.Proofs.Ytpbhkdamkbopkaa.Px
namespace Go.Proofs.Ytpbhkdamkbopkaa.Px
open Go.RowKit GPix GPixb PR GPtk GBack2 Go.Proofs.Ytpbhkdamkbopkaa.Pure GOpn YtpbhkdamkbopkaaW.PrintWords YtpbhkdamkbopkaaW.PrintLast YtpbhkdamkbopkaaW.PrintMore
theorem equal_l0 (id w h:Int) (l:List S89) (hl:l.length≤1000000) (d:Nat):∀ (i k:Nat),i+d=l.length → c11_Equal.l0 (k+d+1) (i:Int) id w h l id w h l=some true:=by
 induction d with
 |zero=>intro i k hi;rw [c11_Equal.l0,if_neg (by omega)]
 |succ d ih =>
  intro i k hi;have h1:=ih (i+1) k (by omega);have e:wrap64 ((i:Int)+1)=((i+1:Nat):Int):=by rw [wr (by omega) (by omega)];omega
  rw [show k+(d+1)+1=(k+d+1)+1 by omega,c11_Equal.l0,if_pos (by omega),if_pos (by omega),if_pos (by omega),if_neg (by simp),e];exact h1
theorem equal_is (id w h:Int) (l:List S89) (hl:l.length≤1000000) (k:Nat) (hk:l.length+2≤k):c11_Equal.f k id w h l id w h l=some true:=by
 obtain ⟨k1,rfl⟩:∃ k1,k=k1+l.length+1+1:=⟨k - l.length - 2,by omega⟩;unfold c11_Equal.f;have e:((l.length:Int) != (l.length:Int))=false:=bne_self_eq_false _;rw [if_pos rfl,if_pos rfl,if_pos rfl,e,c11_Equal.j0,if_neg (by decide)];exact equal_l0 id w h l hl l.length 0 k1 (by omega)
theorem tak_err {s:ByteArray} {a b c d e:Int} {t:ByteArray} {l:List S89} (h:hdr s=(a,b,c,l,d,t,e)) (he:e ≠ 0):takS s=(0,0,0,[],e):=by
 unfold takS;rw [h];exact if_neg he
theorem tak_ok {s:ByteArray} {id w h m:Int} {t:ByteArray} {l:List S89} (q:hdr s=(id,w,h,l,m,t,0)):takS s=bodyS t m.toNat w.toNat h.toNat id:=by
 unfold takS;rw [q];exact if_pos rfl
theorem two_w (s:ByteArray) (i j:Int):wrap64 (wrap64 (bt s i)+wrap64 (256*wrap64 (bt s j)))=bt s j*256+bt s i:=by
 have h0:=bt_range s i;have h1:=bt_range s j;rw [(bt_w s i).out,(bt_w s j).out,wr (n:=256*bt s j) (by omega) (by omega),wr (by omega) (by omega)];omega
section
variable {s:ByteArray}
def wrong (s:ByteArray):Prop:=lv s 3 2=0 ∨ lv s 3 2 > 64 ∨ lv s 5 2=0 ∨ lv s 5 2 > 64
instance (s:ByteArray):Decidable (wrong s):=by unfold wrong;infer_instance
theorem j1_is (x5:Int) (h7:¬ s.size < 7) (k:Nat):c11_Take.j1 (k+1) s x5 false 0 0 0=c11_Take.j2 k s x5 (decide (wrong s)) 0 0 0 (lv s 0 2) (lv s 3 2) (lv s 5 2):=by
 have e0:bt s 1*256+bt s 0=lv s 0 2:=rfl;have e3:bt s 4*256+bt s 3=lv s 3 2:=rfl;have e5:bt s 6*256+bt s 5=lv s 5 2:=rfl;rw [c11_Take.j1,if_neg (by decide),if_pos (by omega),if_pos (by omega),if_pos (by omega),if_pos (by omega),if_pos (by omega),if_pos (by omega),two_w,two_w,two_w,e0,e3,e5];by_cases a:lv s 3 2=0
 ·rw [if_pos a,decide_eq_true (show wrong s from .inl a)]
 by_cases b:lv s 3 2 > 64
 ·rw [if_neg a,if_pos b,decide_eq_true (show wrong s from .inr (.inl b))]
 by_cases c:lv s 5 2=0
 ·rw [if_neg a,if_neg b,if_pos c,decide_eq_true (show wrong s from .inr (.inr (.inl c)))]
 rw [if_neg a,if_neg b,if_neg c]
 exact congrArg (fun z=>c11_Take.j2 k s x5 z 0 0 0 (lv s 0 2) (lv s 3 2) (lv s 5 2)) (decide_eq_decide.2 ⟨fun h=>(show wrong s from .inr (.inr (.inr h))),fun h=>by
  unfold wrong at h;omega⟩)
theorem mnx (hw:¬ wrong s):¬ mn (lv s 3 2) (lv s 5 2) < 1∧¬ mx (lv s 3 2) (lv s 5 2) > 64:=by
 have h3:=lv_rng s 3 2;have h5:=lv_rng s 5 2;unfold wrong at hw;unfold mn mx;constructor <;> split <;> omega
theorem mnx' (hw:wrong s) (h:¬ mn (lv s 3 2) (lv s 5 2) < 1):mx (lv s 3 2) (lv s 5 2) > 64:=by
 have h3:=lv_rng s 3 2;have h5:=lv_rng s 5 2;unfold wrong at hw;unfold mn at h;unfold mx
 split at h <;> split <;> omega
theorem rtake_ev (hs:s.size≤1000000):Ev (fun k=>c11_Take.f k s) (takS s):=by
 have h2:lv s 2 1=bt s 2:=rfl;have h7:lv s 7 1=bt s 7:=rfl;by_cases c3:s.size < 3
 ·have e : takS s = (0, 0, 0, [], 2) := by
   by_cases c2:s.size < 2
   ·exact tak_err (by unfold hdr;rw [if_pos c2]) (by decide)
   ·exact tak_err (by unfold hdr;rw [if_neg c2,if_pos c3]) (by decide)
  rw [e];exact Ev.congr (fun k=>by unfold c11_Take.f;rw [if_pos (by omega)]) (Ev.now _)
 have n2:¬ s.size < 2:=by omega
 have ef:∀ k,c11_Take.f k s=c11_Take.j0 k s (bt s 2) (decide (bt s 2 ≠ 3∧bt s 2 ≠ 5)) 0 0 0:=fun k=>by
  unfold c11_Take.f;rw [if_neg (by omega),if_pos (by omega),(bt_w s 2).out];by_cases b:bt s 2=3
  ·rw [if_pos b,decide_eq_false (fun q=>q.1 b)]
  ·rw [if_neg b];exact congrArg (fun z=>c11_Take.j0 k s (bt s 2) z 0 0 0) (by by_cases q:bt s 2=5 <;> simp [q,b])
 refine Ev.congr ef ?_;by_cases cb:bt s 2 ≠ 3∧bt s 2 ≠ 5
 ·rw [tak_err (e:=3) (s:=s) (by unfold hdr;rw [if_neg n2,if_neg c3,if_pos (by rw [h2];exact cb)]) (by decide)];refine Ev.step (fun k=>?_) (Ev.now _);rw [c11_Take.j0,if_pos (decide_eq_true cb)]
 have cb':¬ (lv s 2 1 ≠ 3∧lv s 2 1 ≠ 5):=by rw [h2];exact cb
 rw [decide_eq_false cb];by_cases c7:s.size < 7
 ·have e : takS s = (0, 0, 0, [], 2) := by
   by_cases c5:s.size < 5
   ·exact tak_err (by unfold hdr;rw [if_neg n2,if_neg c3,if_neg cb',if_pos c5]) (by decide)
   ·exact tak_err (by unfold hdr;rw [if_neg n2,if_neg c3,if_neg cb',if_neg c5,if_pos c7]) (by decide)
  rw [e];refine Ev.step (f:=fun k=>c11_Take.j1 k s (bt s 2) true 0 0 0) (fun k=>by rw [c11_Take.j0,if_neg (by decide),if_pos (by omega)]) ?_;refine Ev.step (fun k=>?_) (Ev.now _);rw [c11_Take.j1,if_pos rfl]
 have n5:¬ s.size < 5:=by omega
 have r3:=lv_rng s 3 2;have r5:=lv_rng s 5 2;by_cases cf:bt s 2=3
 ·refine Ev.step (f:=fun k=>c11_Take.j1 k s 3 (decide ((s.size:Int) < 8)) 0 0 0) (fun k=>by rw [c11_Take.j0,if_neg (by decide),if_neg (by omega),if_pos cf,cf]) ?_;by_cases c8:s.size < 8
  ·rw [tak_err (e:=2) (s:=s) (by unfold hdr;rw [if_neg n2,if_neg c3,if_neg cb',if_neg n5,if_neg c7,if_pos (by rw [h2];exact cf),if_pos c8]) (by decide),decide_eq_true (by omega)];refine Ev.step (fun k=>?_) (Ev.now _);rw [c11_Take.j1,if_pos rfl]
  rw [decide_eq_false (by omega)];refine Ev.step (fun k=>j1_is 3 c7 k) ?_;by_cases cw:wrong s
  ·have e : takS s = (0, 0, 0, [], 7) := by
    by_cases cm:mn (lv s 3 2) (lv s 5 2) < 1
    ·exact tak_err (by unfold hdr;rw [if_neg n2,if_neg c3,if_neg cb',if_neg n5,if_neg c7,if_pos (by rw [h2];exact cf),if_neg c8,if_pos cm]) (by decide)
    ·exact tak_err (by unfold hdr;rw [if_neg n2,if_neg c3,if_neg cb',if_neg n5,if_neg c7,if_pos (by rw [h2];exact cf),if_neg c8,if_neg cm,if_pos (mnx' cw cm)]) (by decide)
   rw [e,decide_eq_true cw];refine Ev.step (fun k=>?_) (Ev.now _);rw [c11_Take.j2,if_pos rfl]
  rw [tak_ok (s:=s) (by unfold hdr;rw [if_neg n2,if_neg c3,if_neg cb',if_neg n5,if_neg c7,if_pos (by rw [h2];exact cf),if_neg c8,if_neg (mnx cw).1,if_neg (mnx cw).2]),decide_eq_false cw,h7];unfold wrong at cw;have b7:=bt_range s 7;obtain ⟨w,hw⟩:∃ w:Nat,lv s 3 2=w:=⟨(lv s 3 2).toNat,by omega⟩;obtain ⟨h,hh⟩:∃ h:Nat,lv s 5 2=h:=⟨(lv s 5 2).toNat,by omega⟩;obtain ⟨m,hm⟩:∃ m:Nat,bt s 7+1=m:=⟨(bt s 7+1).toNat,by omega⟩;rw [hw,hh,hm,Int.toNat_natCast,Int.toNat_natCast,Int.toNat_natCast];refine Ev.step (fun k=>?_) (rj3_ev (off:=8) (id:=lv s 0 2) (x5:=3) (by omega) hs (show m≤256 by omega) (show w≤64 by omega) (show h≤64 by omega) (.inl ⟨rfl,by omega⟩));rw [c11_Take.j2,if_neg (by decide),if_pos rfl,if_pos (by omega),(bt_w s 7).out,hm,wr (by omega) (by omega)];rfl
 ·have cf5 : bt s 2 = 5 := by
   by_cases q:bt s 2=5
   ·exact q
   ·exact absurd ⟨cf,q⟩ cb
  have nf:¬ lv s 2 1=3:=by rw [h2];exact cf
  refine Ev.step (f:=fun k=>c11_Take.j1 k s 5 false 0 0 0) (fun k=>by rw [c11_Take.j0,if_neg (by decide),if_neg (by omega),if_neg cf,cf5]) ?_;refine Ev.step (fun k=>j1_is 5 c7 k) ?_;by_cases cw:wrong s
  ·have e : takS s = (0, 0, 0, [], 7) := by
    by_cases cm:mn (lv s 3 2) (lv s 5 2) < 1
    ·exact tak_err (by unfold hdr;rw [if_neg n2,if_neg c3,if_neg cb',if_neg n5,if_neg c7,if_neg nf,if_pos cm]) (by decide)
    ·exact tak_err (by unfold hdr;rw [if_neg n2,if_neg c3,if_neg cb',if_neg n5,if_neg c7,if_neg nf,if_neg cm,if_pos (mnx' cw cm)]) (by decide)
   rw [e,decide_eq_true cw];refine Ev.step (fun k=>?_) (Ev.now _);rw [c11_Take.j2,if_pos rfl]
  rw [tak_ok (s:=s) (by unfold hdr;rw [if_neg n2,if_neg c3,if_neg cb',if_neg n5,if_neg c7,if_neg nf,if_neg (mnx cw).1,if_neg (mnx cw).2]),decide_eq_false cw];unfold wrong at cw;obtain ⟨w,hw⟩:∃ w:Nat,lv s 3 2=w:=⟨(lv s 3 2).toNat,by omega⟩;obtain ⟨h,hh⟩:∃ h:Nat,lv s 5 2=h:=⟨(lv s 5 2).toNat,by omega⟩;rw [hw,hh,Int.toNat_natCast,Int.toNat_natCast];refine Ev.step (fun k=>?_) (rj3_ev (off:=7) (m:=0) (id:=lv s 0 2) (x5:=5) (by omega) hs (by decide) (show w≤64 by omega) (show h≤64 by omega) (.inr ⟨rfl,rfl⟩));rw [c11_Take.j2,if_neg (by decide),if_neg (by decide)];rfl
end
theorem fin5_len (id w h:Int) (L:List S89):(fin5 id w h L).2.2.2.1.length≤1000000:=by
 unfold fin5;by_cases c:rb id w h L=true;rotate_left
 ·rw [if_neg c];exact Nat.zero_le _
 rw [if_pos c];unfold rb at c;rw [Bool.and_eq_true,decide_eq_true_eq] at c;obtain ⟨⟨_,_,c3,c4,c5,c6,c7⟩,_⟩:=c;have hm:=side_mul ⟨c3,c4⟩ ⟨c5,c6⟩;show L.length≤_;omega
theorem tak_len (s:ByteArray):(takS s).2.2.2.1.length≤1000000:=by
 unfold takS bodyS
 (repeat' split) <;> first | exact fin5_len _ _ _ _ | exact Nat.zero_le _
theorem law_is (a:ByteArray):∃ k,l11_PixelTakes.f k a=some true:=by
 by_cases c:(a.size:Int) > 1024
 ·exact ⟨0,by unfold l11_PixelTakes.f;rw [if_pos c];rfl⟩
 refine Ev.rounds (Ev.congr (fun k=>by unfold l11_PixelTakes.f;rw [if_neg c]) (Ev.bind (ptake_ev a (by omega)) (Ev.bind (rtake_ev (s:=a) (by omega)) ?_)));have hl:=tak_len a;generalize takS a=t at hl ⊢;obtain ⟨id,w,h,L,e⟩:=t;simp only at hl ⊢;refine Ev.congr (f:=fun k=>(c11_Equal.f k id w h L id w h L).bind fun Qa=>if Qa=true then some true else some false) (fun k=>?_) (Ev.bind ⟨L.length+2,fun k hk=>equal_is id w h L hl k hk⟩ (Ev.now _));show (c11_Equal.f k id w h L id w h L).bind _=_;rw [if_pos trivial];rfl
end Go.Proofs.Ytpbhkdamkbopkaa.Px
namespace Go.Proofs.Ytpbhkdamkbopkaa.Head
open Go
set_option maxRecDepth 100000
abbrev k (n:Nat):Char:=Char.ofNat n
theorem order : Try.prog.initOrder = "harness a7c15820a2cb1018fe4759f7c25c13e6d005c23fb6069a0d0dcc8b91bc198833 cut at celluloid/celluloidlaw04.HuffCodes celluloid/celluloidlaw04.HuffReads celluloid/celluloidlaw04.HuffBack celluloid/celluloidlaw04.HuffFull celluloid/celluloidlaw04.HuffBits celluloid/celluloidlaw06.DeflateRuns celluloid/celluloidlaw06.DeflateFinds celluloid/celluloidlaw06.DeflatePlain celluloid/celluloidlaw06.DeflateRaw celluloid/celluloidlaw05.InflateRaw celluloid/celluloidlaw05.InflateOpens celluloid/celluloidlaw05.InflateStored celluloid/celluloidlaw05.InflateEnds celluloid/celluloidlaw05.InflateBlocks celluloid/celluloidlaw06.DeflateBack celluloid/celluloidlaw06.DeflateLong celluloid/celluloidlaw11.PixelPuts celluloid/celluloidlaw11.PixelTakes celluloid/celluloidlaw11.PixelAgain celluloid/celluloidlaw11.PixelPoints celluloid/celluloidlaw11.PixelTable celluloid/celluloidlaw11.PixelNames" := by kernel_rfl
def rest:List Char:=[k 97,k 116,k 32,k 99,k 101,k 108,k 108,k 117,k 108,k 111,k 105,k 100,k 47,k 99,k 101,k 108,k 108,k 117,k 108,k 111,k 105,k 100,k 108,k 97,k 119,k 48,k 52,k 46,k 72,k 117,k 102,k 102,k 67,k 111,k 100,k 101,k 115,k 32,k 99,k 101,k 108,k 108,k 117,k 108,k 111,k 105,k 100,k 47,k 99,k 101,k 108,k 108,k 117,k 108,k 111,k 105,k 100,k 108,k 97,k 119,k 48,k 52,k 46,k 72,k 117,k 102,k 102,k 82,k 101,k 97,k 100,k 115,k 32,k 99,k 101,k 108,k 108,k 117,k 108,k 111,k 105,k 100,k 47,k 99,k 101,k 108,k 108,k 117,k 108,k 111,k 105,k 100,k 108,k 97,k 119,k 48,k 52,k 46,k 72,k 117,k 102,k 102,k 66,k 97,k 99,k 107,k 32,k 99,k 101,k 108,k 108,k 117,k 108,k 111,k 105,k 100,k 47,k 99,k 101,k 108,k 108,k 117,k 108,k 111,k 105,k 100,k 108,k 97,k 119,k 48,k 52,k 46,k 72,k 117,k 102,k 102,k 70,k 117,k 108,k 108,k 32,k 99,k 101,k 108,k 108,k 117,k 108,k 111,k 105,k 100,k 47,k 99,k 101,k 108,k 108,k 117,k 108,k 111,k 105,k 100,k 108,k 97,k 119,k 48,k 52,k 46,k 72,k 117,k 102,k 102,k 66,k 105,k 116,k 115,k 32,k 99,k 101,k 108,k 108,k 117,k 108,k 111,k 105,k 100,k 47,k 99,k 101,k 108,k 108,k 117,k 108,k 111,k 105,k 100,k 108,k 97,k 119,k 48,k 54,k 46,k 68,k 101,k 102,k 108,k 97,k 116,k 101,k 82,k 117,k 110,k 115,k 32,k 99,k 101,k 108,k 108,k 117,k 108,k 111,k 105,k 100,k 47,k 99,k 101,k 108,k 108,k 117,k 108,k 111,k 105,k 100,k 108,k 97,k 119,k 48,k 54,k 46,k 68,k 101,k 102,k 108,k 97,k 116,k 101,k 70,k 105,k 110,k 100,k 115,k 32,k 99,k 101,k 108,k 108,k 117,k 108,k 111,k 105,k 100,k 47,k 99,k 101,k 108,k 108,k 117,k 108,k 111,k 105,k 100,k 108,k 97,k 119,k 48,k 54,k 46,k 68,k 101,k 102,k 108,k 97,k 116,k 101,k 80,k 108,k 97,k 105,k 110,k 32,k 99,k 101,k 108,k 108,k 117,k 108,k 111,k 105,k 100,k 47,k 99,k 101,k 108,k 108,k 117,k 108,k 111,k 105,k 100,k 108,k 97,k 119,k 48,k 54,k 46,k 68,k 101,k 102,k 108,k 97,k 116,k 101,k 82,k 97,k 119,k 32,k 99,k 101,k 108,k 108,k 117,k 108,k 111,k 105,k 100,k 47,k 99,k 101,k 108,k 108,k 117,k 108,k 111,k 105,k 100,k 108,k 97,k 119,k 48,k 53,k 46,k 73,k 110,k 102,k 108,k 97,k 116,k 101,k 82,k 97,k 119,k 32,k 99,k 101,k 108,k 108,k 117,k 108,k 111,k 105,k 100,k 47,k 99,k 101,k 108,k 108,k 117,k 108,k 111,k 105,k 100,k 108,k 97,k 119,k 48,k 53,k 46,k 73,k 110,k 102,k 108,k 97,k 116,k 101,k 79,k 112,k 101,k 110,k 115,k 32,k 99,k 101,k 108,k 108,k 117,k 108,k 111,k 105,k 100,k 47,k 99,k 101,k 108,k 108,k 117,k 108,k 111,k 105,k 100,k 108,k 97,k 119,k 48,k 53,k 46,k 73,k 110,k 102,k 108,k 97,k 116,k 101,k 83,k 116,k 111,k 114,k 101,k 100,k 32,k 99,k 101,k 108,k 108,k 117,k 108,k 111,k 105,k 100,k 47,k 99,k 101,k 108,k 108,k 117,k 108,k 111,k 105,k 100,k 108,k 97,k 119,k 48,k 53,k 46,k 73,k 110,k 102,k 108,k 97,k 116,k 101,k 69,k 110,k 100,k 115,k 32,k 99,k 101,k 108,k 108,k 117,k 108,k 111,k 105,k 100,k 47,k 99,k 101,k 108,k 108,k 117,k 108,k 111,k 105,k 100,k 108,k 97,k 119,k 48,k 53,k 46,k 73,k 110,k 102,k 108,k 97,k 116,k 101,k 66,k 108,k 111,k 99,k 107,k 115,k 32,k 99,k 101,k 108,k 108,k 117,k 108,k 111,k 105,k 100,k 47,k 99,k 101,k 108,k 108,k 117,k 108,k 111,k 105,k 100,k 108,k 97,k 119,k 48,k 54,k 46,k 68,k 101,k 102,k 108,k 97,k 116,k 101,k 66,k 97,k 99,k 107,k 32,k 99,k 101,k 108,k 108,k 117,k 108,k 111,k 105,k 100,k 47,k 99,k 101,k 108,k 108,k 117,k 108,k 111,k 105,k 100,k 108,k 97,k 119,k 48,k 54,k 46,k 68,k 101,k 102,k 108,k 97,k 116,k 101,k 76,k 111,k 110,k 103,k 32,k 99,k 101,k 108,k 108,k 117,k 108,k 111,k 105,k 100,k 47,k 99,k 101,k 108,k 108,k 117,k 108,k 111,k 105,k 100,k 108,k 97,k 119,k 49,k 49,k 46,k 80,k 105,k 120,k 101,k 108,k 80,k 117,k 116,k 115,k 32,k 99,k 101,k 108,k 108,k 117,k 108,k 111,k 105,k 100,k 47,k 99,k 101,k 108,k 108,k 117,k 108,k 111,k 105,k 100,k 108,k 97,k 119,k 49,k 49,k 46,k 80,k 105,k 120,k 101,k 108,k 84,k 97,k 107,k 101,k 115,k 32,k 99,k 101,k 108,k 108,k 117,k 108,k 111,k 105,k 100,k 47,k 99,k 101,k 108,k 108,k 117,k 108,k 111,k 105,k 100,k 108,k 97,k 119,k 49,k 49,k 46,k 80,k 105,k 120,k 101,k 108,k 65,k 103,k 97,k 105,k 110,k 32,k 99,k 101,k 108,k 108,k 117,k 108,k 111,k 105,k 100,k 47,k 99,k 101,k 108,k 108,k 117,k 108,k 111,k 105,k 100,k 108,k 97,k 119,k 49,k 49,k 46,k 80,k 105,k 120,k 101,k 108,k 80,k 111,k 105,k 110,k 116,k 115,k 32,k 99,k 101,k 108,k 108,k 117,k 108,k 111,k 105,k 100,k 47,k 99,k 101,k 108,k 108,k 117,k 108,k 111,k 105,k 100,k 108,k 97,k 119,k 49,k 49,k 46,k 80,k 105,k 120,k 101,k 108,k 84,k 97,k 98,k 108,k 101,k 32,k 99,k 101,k 108,k 108,k 117,k 108,k 111,k 105,k 100,k 47,k 99,k 101,k 108,k 108,k 117,k 108,k 111,k 105,k 100,k 108,k 97,k 119,k 49,k 49,k 46,k 80,k 105,k 120,k 101,k 108,k 78,k 97,k 109,k 101,k 115]
theorem signs:Try.prog.initOrder.toList=[k 104,k 97,k 114,k 110,k 101,k 115,k 115] ++ (Char.ofNat 32) :: ([k 97,k 55,k 99,k 49,k 53,k 56,k 50,k 48,k 97,k 50,k 99,k 98,k 49,k 48,k 49,k 56,k 102,k 101,k 52,k 55,k 53,k 57,k 102,k 55,k 99,k 50,k 53,k 99,k 49,k 51,k 101,k 54,k 100,k 48,k 48,k 53,k 99,k 50,k 51,k 102,k 98,k 54,k 48,k 54,k 57,k 97,k 48,k 100,k 48,k 100,k 99,k 99,k 56,k 98,k 57,k 49,k 98,k 99,k 49,k 57,k 56,k 56,k 51,k 51] ++ (Char.ofNat 32) :: ([k 99,k 117,k 116] ++ (Char.ofNat 32) :: rest)):=by rw [order];exact String.toList_ofList
theorem words_cut (r:List Char):∀ (w:List Char),(∀ c ∈ w,c ≠ (Char.ofNat 32)) → wordsSigns (w ++ (Char.ofNat 32) :: r)=w :: wordsSigns r
 |[],_=>by simp [wordsSigns]
 |c :: w,h=>by
  have ih:=words_cut r w (fun x hx=>h x (List.mem_cons_of_mem _ hx));have hc:c ≠ (Char.ofNat 32):=h c List.mem_cons_self;rw [List.cons_append,wordsSigns.eq_3 _ _ hc,ih]
theorem words:behindMainWord (wordsSigns Try.prog.initOrder.toList)=[k 99,k 117,k 116] :: wordsSigns rest:=by
 rw [signs,words_cut _ _ (by decide),words_cut _ _ (by decide),words_cut _ _ (by decide)];have h1 : (([k 104, k 97, k 114, k 110, k 101, k 115, k 115] == "harness".toList || [k 104, k 97, k 114, k 110, k 101, k 115, k 115] == "ownmain".toList) && isSumSigns [k 97, k 55, k 99, k 49, k 53, k 56, k 50, k 48, k 97, k 50, k 99, k 98, k 49, k 48, k 49, k 56, k 102, k 101, k 52, k 55, k 53, k 57, k 102, k 55, k 99, k 50, k 53, k 99, k 49, k 51, k 101, k 54, k 100, k 48, k 48, k 53, k 99, k 50, k 51, k 102, k 98, k 54, k 48, k 54, k 57, k 97, k 48, k 100, k 48, k 100, k 99, k 99, k 56, k 98, k 57, k 49, k 98, k 99, k 49, k 57, k 56, k 56, k 51, k 51]) = true := by decide +kernel
 unfold behindMainWord;simp only [h1,if_true]
theorem g1 : ([k 99, k 117, k 116] == "gc".toList) = false := by decide +kernel
theorem g2 : ([k 99, k 117, k 116] == "spec".toList) = false := by decide +kernel
theorem g3 : ([k 99, k 117, k 116] == "cut".toList) = true := by decide +kernel
theorem g4 : ([k 99, k 117, k 116] == "carried".toList) = false := by decide +kernel
theorem lifts (rs:List (List Char)):stripLifts liftWords ([k 99,k 117,k 116] :: rs)=([],[k 99,k 117,k 116] :: rs):=by
 have h:liftWords.all (fun o=>!([k 99,k 117,k 116] == o.toList))=true:=by decide +kernel
 revert h
 generalize liftWords=os;intro h
 induction os with
 |nil=>rfl
 |cons o os ih =>
  rw [List.all_cons,Bool.and_eq_true,Bool.not_eq_true'] at h;rw [stripLifts.eq_3,if_neg (by rw [h.1];decide),ih h.2]
theorem make_of (P:Program) (rs:List (List Char)) (h:behindMainWord (wordsSigns P.initOrder.toList)=[k 99,k 117,k 116] :: rs):P.make=some .cut:=by
 unfold Program.make;rw [h];simp only [g1,g2,g3,Bool.false_or,Bool.true_or,if_true,Bool.false_eq_true,if_false]
theorem final_of (P:Program) (rs:List (List Char)) (h:behindMainWord (wordsSigns P.initOrder.toList)=[k 99,k 117,k 116] :: rs):P.liftsFinal=false:=by
 unfold Program.liftsFinal Program.headLifts;rw [h,lifts];rfl
theorem enters_of (P:Program) (rs:List (List Char)) (h:behindMainWord (wordsSigns P.initOrder.toList)=[k 99,k 117,k 116] :: rs) (h1:P.laysLater=false) (h2:P.bearsReflect=false) (h3:P.doorFits []=true):P.mayEnter=true:=by
 unfold Program.mayEnter;rw [h]
 dsimp only
 rw [lifts,h1,h2,h3];rfl
theorem make:Try.prog.make=some .cut:=make_of _ _ words
theorem final:Try.prog.liftsFinal=false:=final_of _ _ words
theorem later:Try.prog.laysLater=false:=by kernel_rfl
theorem reflect:Try.prog.bearsReflect=false:=by kernel_rfl
theorem door:Try.prog.doorFits []=true:=by kernel_rfl
theorem enters:Try.prog.mayEnter=true:=enters_of _ _ words later reflect door
end Go.Proofs.Ytpbhkdamkbopkaa.Head
