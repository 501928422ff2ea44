/- Parts of the proof, glued by a program of this session (wip/tools/claimfit.py). -/
import Derived.Test.YtpbhkdamkbopkaaMPTG
set_option linter.unusedVariables false
set_option linter.unusedSimpArgs false
set_option linter.unusedSectionVars false
namespace Go.Proofs.Ytpbhkdamkbopkaa.GPtk
open Go.RowKit YtpbhkdamkbopkaaW.PrintWords YtpbhkdamkbopkaaW.PrintLast YtpbhkdamkbopkaaW.PrintMore GPix GOpn
mutual
def c11_Take.j0:Nat → ByteArray → Int → Bool → Int → Int → Int → Option (Int × Int × Int × (List (S89)) × Int)
 |0,_,_,_,_,_,_=>none
 |k+1,x0,x5,x29,x205000,x205001,x205002=>if x29=true then (some (x205000,x205001,x205002,([]:List (S89)),3)) else (if (x0.size:Int) < 7 then (c11_Take.j1 k x0 x5 true x205000 x205001 x205002) else (if x5=3 then (c11_Take.j1 k x0 x5 (decide ((x0.size:Int) < 8)) x205000 x205001 x205002) else (c11_Take.j1 k x0 x5 false x205000 x205001 x205002)))
def c11_Take.j1:Nat → ByteArray → Int → Bool → Int → Int → Int → Option (Int × Int × Int × (List (S89)) × Int)
 |0,_,_,_,_,_,_=>none
 |k+1,x0,x5,x42,x205000,x205001,x205002=>if x42=true then (some (x205000,x205001,x205002,([]:List (S89)),2)) else (if 0 < (x0.size:Int) then (if 1 < (x0.size:Int) then (if 3 < (x0.size:Int) then (if 4 < (x0.size:Int) then (if 5 < (x0.size:Int) then (if 6 < (x0.size:Int) then (if (wrap64 ((wrap64 (bt x0 3))+(wrap64 (256*(wrap64 (bt x0 4))))))=0 then (c11_Take.j2 k x0 x5 true x205000 x205001 x205002 (wrap64 ((wrap64 (bt x0 0))+(wrap64 (256*(wrap64 (bt x0 1)))))) (wrap64 ((wrap64 (bt x0 3))+(wrap64 (256*(wrap64 (bt x0 4)))))) (wrap64 ((wrap64 (bt x0 5))+(wrap64 (256*(wrap64 (bt x0 6))))))) else (if (wrap64 ((wrap64 (bt x0 3))+(wrap64 (256*(wrap64 (bt x0 4)))))) > 64 then (c11_Take.j2 k x0 x5 true x205000 x205001 x205002 (wrap64 ((wrap64 (bt x0 0))+(wrap64 (256*(wrap64 (bt x0 1)))))) (wrap64 ((wrap64 (bt x0 3))+(wrap64 (256*(wrap64 (bt x0 4)))))) (wrap64 ((wrap64 (bt x0 5))+(wrap64 (256*(wrap64 (bt x0 6))))))) else (if (wrap64 ((wrap64 (bt x0 5))+(wrap64 (256*(wrap64 (bt x0 6))))))=0 then (c11_Take.j2 k x0 x5 true x205000 x205001 x205002 (wrap64 ((wrap64 (bt x0 0))+(wrap64 (256*(wrap64 (bt x0 1)))))) (wrap64 ((wrap64 (bt x0 3))+(wrap64 (256*(wrap64 (bt x0 4)))))) (wrap64 ((wrap64 (bt x0 5))+(wrap64 (256*(wrap64 (bt x0 6))))))) else (c11_Take.j2 k x0 x5 (decide ((wrap64 ((wrap64 (bt x0 5))+(wrap64 (256*(wrap64 (bt x0 6)))))) > 64)) x205000 x205001 x205002 (wrap64 ((wrap64 (bt x0 0))+(wrap64 (256*(wrap64 (bt x0 1)))))) (wrap64 ((wrap64 (bt x0 3))+(wrap64 (256*(wrap64 (bt x0 4)))))) (wrap64 ((wrap64 (bt x0 5))+(wrap64 (256*(wrap64 (bt x0 6)))))))))) else (none)) else (none)) else (none)) else (none)) else (none)) else (none))
def c11_Take.j2:Nat → ByteArray → Int → Bool → Int → Int → Int → Int → Int → Int → Option (Int × Int × Int × (List (S89)) × Int)
 |0,_,_,_,_,_,_,_,_,_=>none
 |k+1,x0,x5,x86,x205000,x205001,x205002,x206000,x206001,x206002=>if x86=true then (some (x205000,x205001,x205002,([]:List (S89)),7)) else (if x5=3 then (if 7 < (x0.size:Int) then (c11_Take.j3 k x0 x5 8 (wrap64 ((wrap64 (bt x0 7))+1)) x205000 x205001 x205002 x206000 x206001 x206002) else (none)) else (c11_Take.j3 k x0 x5 7 0 x205000 x205001 x205002 x206000 x206001 x206002))
def c11_Take.j3:Nat → ByteArray → Int → Int → Int → Int → Int → Int → Int → Int → Int → Option (Int × Int × Int × (List (S89)) × Int)
 |0,_,_,_,_,_,_,_,_,_,_=>none
 |k+1,x0,x5,x7,x8,x205000,x205001,x205002,x206000,x206001,x206002=>if 0≤x7 then (if x7≤(x0.size:Int) then ((c05_Open.f k (x0.extract (x7:Int).toNat x0.size) 262144).bind fun bt206=>(if bt206.2=0 then (c11_Take.l0 k x5 x8 bt206.1 x206001 x205000 x205001 x205002 x206000 x206001 x206002) else (some (x205000,x205001,x205002,([]:List (S89)),bt206.2)))) else (none)) else (none)
def c11_Take.l0:Nat → Int → Int → ByteArray → Int → Int → Int → Int → Int → Int → Int → Option (Int × Int × Int × (List (S89)) × Int)
 |0,_,_,_,_,_,_,_,_,_,_=>none
 |k+1,x5,x8,x9,x11,x205000,x205001,x205002,x206000,x206001,x206002=>if (Int.tmod x11 4) > 0 then (c11_Take.l0 k x5 x8 x9 (wrap64 (x11+1)) x205000 x205001 x205002 x206000 x206001 x206002) else (if x5=5 then (if (x9.size:Int)=(wrap64 ((wrap64 (4*x206001))*x206002)) then (if x5=3 then (c11_Take.j5 k x5 x8 x9 x11 ((x9.size:Int) != (wrap64 ((wrap64 (4*x8))+(wrap64 (x11*x206002))))) x205000 x205001 x205002 x206000 x206001 x206002) else (c11_Take.j5 k x5 x8 x9 x11 false x205000 x205001 x205002 x206000 x206001 x206002)) else (c11_Take.j5 k x5 x8 x9 x11 true x205000 x205001 x205002 x206000 x206001 x206002)) else (if x5=3 then (c11_Take.j5 k x5 x8 x9 x11 ((x9.size:Int) != (wrap64 ((wrap64 (4*x8))+(wrap64 (x11*x206002))))) x205000 x205001 x205002 x206000 x206001 x206002) else (c11_Take.j5 k x5 x8 x9 x11 false x205000 x205001 x205002 x206000 x206001 x206002)))
def c11_Take.j5:Nat → Int → Int → ByteArray → Int → Bool → Int → Int → Int → Int → Int → Int → Option (Int × Int × Int × (List (S89)) × Int)
 |0,_,_,_,_,_,_,_,_,_,_,_=>none
 |k+1,x5,x8,x9,x11,x140,x205000,x205001,x205002,x206000,x206001,x206002=>if x140=true then (some (x205000,x205001,x205002,([]:List (S89)),3)) else (c11_Take.l1 k x5 x8 x9 x11 0 x205000 x205001 x205002 x206000 x206001 x206002 ([]:List (S89)))
def c11_Take.l1:Nat → Int → Int → ByteArray → Int → Int → Int → Int → Int → Int → Int → Int → List (S89) → Option (Int × Int × Int × (List (S89)) × Int)
 |0,_,_,_,_,_,_,_,_,_,_,_,_=>none
 |k+1,x5,x8,x9,x11,x12,x205000,x205001,x205002,x206000,x206001,x206002,x206003=>if x12 < x206002 then (c11_Take.l2 k x5 x8 x9 x11 x12 0 x205000 x205001 x205002 x206000 x206001 x206002 x206003) else ((c11_Right.f k x206000 x206001 x206002 x206003).bind fun t208=>(if t208=true then (some (x206000,x206001,x206002,x206003,0)) else (some (x205000,x205001,x205002,([]:List (S89)),3))))
def c11_Take.l2:Nat → Int → Int → ByteArray → Int → Int → Int → Int → Int → Int → Int → Int → Int → List (S89) → Option (Int × Int × Int × (List (S89)) × Int)
 |0,_,_,_,_,_,_,_,_,_,_,_,_,_=>none
 |k+1,x5,x8,x9,x11,x12,x13,x205000,x205001,x205002,x206000,x206001,x206002,x206003=>if x13 < x206001 then (if x5=5 then (if 0≤(wrap64 ((wrap64 (4*(wrap64 ((wrap64 (x12*x206001))+x13))))+1)) then (if (wrap64 ((wrap64 (4*(wrap64 ((wrap64 (x12*x206001))+x13))))+1)) < (x9.size:Int) then (if 0≤(wrap64 ((wrap64 (4*(wrap64 ((wrap64 (x12*x206001))+x13))))+2)) then (if (wrap64 ((wrap64 (4*(wrap64 ((wrap64 (x12*x206001))+x13))))+2)) < (x9.size:Int) then (if 0≤(wrap64 ((wrap64 (4*(wrap64 ((wrap64 (x12*x206001))+x13))))+3)) then (if (wrap64 ((wrap64 (4*(wrap64 ((wrap64 (x12*x206001))+x13))))+3)) < (x9.size:Int) then (if 0≤(wrap64 (4*(wrap64 ((wrap64 (x12*x206001))+x13)))) then (if (wrap64 (4*(wrap64 ((wrap64 (x12*x206001))+x13)))) < (x9.size:Int) then (if x206003.length < 4398046511104 then (c11_Take.l2 k x5 x8 x9 x11 x12 (wrap64 (x13+1)) x205000 x205001 x205002 x206000 x206001 x206002 (x206003 ++ [(⟨wrap64 (bt x9 (wrap64 ((wrap64 (4*(wrap64 ((wrap64 (x12*x206001))+x13))))+1))),wrap64 (bt x9 (wrap64 ((wrap64 (4*(wrap64 ((wrap64 (x12*x206001))+x13))))+2))),wrap64 (bt x9 (wrap64 ((wrap64 (4*(wrap64 ((wrap64 (x12*x206001))+x13))))+3))),wrap64 (bt x9 (wrap64 (4*(wrap64 ((wrap64 (x12*x206001))+x13)))))⟩:S89)])) else (none)) else (none)) else (none)) else (none)) else (none)) else (none)) else (none)) else (none)) else (none)) else (if 0≤(wrap64 ((wrap64 ((wrap64 (4*x8))+(wrap64 (x12*x11))))+x13)) then (if (wrap64 ((wrap64 ((wrap64 (4*x8))+(wrap64 (x12*x11))))+x13)) < (x9.size:Int) then (if (wrap64 (bt x9 (wrap64 ((wrap64 ((wrap64 (4*x8))+(wrap64 (x12*x11))))+x13)))) ≥ x8 then (some (x205000,x205001,x205002,([]:List (S89)),3)) else (if 0≤(wrap64 (4*(wrap64 (bt x9 (wrap64 ((wrap64 ((wrap64 (4*x8))+(wrap64 (x12*x11))))+x13)))))) then (if (wrap64 (4*(wrap64 (bt x9 (wrap64 ((wrap64 ((wrap64 (4*x8))+(wrap64 (x12*x11))))+x13)))))) < (x9.size:Int) then (if 0≤(wrap64 ((wrap64 (4*(wrap64 (bt x9 (wrap64 ((wrap64 ((wrap64 (4*x8))+(wrap64 (x12*x11))))+x13))))))+1)) then (if (wrap64 ((wrap64 (4*(wrap64 (bt x9 (wrap64 ((wrap64 ((wrap64 (4*x8))+(wrap64 (x12*x11))))+x13))))))+1)) < (x9.size:Int) then (if 0≤(wrap64 ((wrap64 (4*(wrap64 (bt x9 (wrap64 ((wrap64 ((wrap64 (4*x8))+(wrap64 (x12*x11))))+x13))))))+2)) then (if (wrap64 ((wrap64 (4*(wrap64 (bt x9 (wrap64 ((wrap64 ((wrap64 (4*x8))+(wrap64 (x12*x11))))+x13))))))+2)) < (x9.size:Int) then (if 0≤(wrap64 ((wrap64 (4*(wrap64 (bt x9 (wrap64 ((wrap64 ((wrap64 (4*x8))+(wrap64 (x12*x11))))+x13))))))+3)) then (if (wrap64 ((wrap64 (4*(wrap64 (bt x9 (wrap64 ((wrap64 ((wrap64 (4*x8))+(wrap64 (x12*x11))))+x13))))))+3)) < (x9.size:Int) then (if x206003.length < 4398046511104 then (c11_Take.l2 k x5 x8 x9 x11 x12 (wrap64 (x13+1)) x205000 x205001 x205002 x206000 x206001 x206002 (x206003 ++ [(⟨wrap64 (bt x9 (wrap64 (4*(wrap64 (bt x9 (wrap64 ((wrap64 ((wrap64 (4*x8))+(wrap64 (x12*x11))))+x13))))))),wrap64 (bt x9 (wrap64 ((wrap64 (4*(wrap64 (bt x9 (wrap64 ((wrap64 ((wrap64 (4*x8))+(wrap64 (x12*x11))))+x13))))))+1))),wrap64 (bt x9 (wrap64 ((wrap64 (4*(wrap64 (bt x9 (wrap64 ((wrap64 ((wrap64 (4*x8))+(wrap64 (x12*x11))))+x13))))))+2))),wrap64 (bt x9 (wrap64 ((wrap64 (4*(wrap64 (bt x9 (wrap64 ((wrap64 ((wrap64 (4*x8))+(wrap64 (x12*x11))))+x13))))))+3)))⟩:S89)])) else (none)) else (none)) else (none)) else (none)) else (none)) else (none)) else (none)) else (none)) else (none))) else (none)) else (none))) else (c11_Take.l1 k x5 x8 x9 x11 (wrap64 (x12+1)) x205000 x205001 x205002 x206000 x206001 x206002 x206003)
end
def c11_Take.f (k:Nat) (a0:ByteArray):Option (Int × Int × Int × (List (S89)) × Int):=if (a0.size:Int) < 3 then (some (0,0,0,([]:List (S89)),2)) else (if 2 < (a0.size:Int) then (if (wrap64 (bt a0 2))=3 then (c11_Take.j0 k a0 (wrap64 (bt a0 2)) false 0 0 0) else (c11_Take.j0 k a0 (wrap64 (bt a0 2)) ((wrap64 (bt a0 2)) != 5) 0 0 0)) else (none))
end Go.Proofs.Ytpbhkdamkbopkaa.GPtk
namespace Go.Proofs.Ytpbhkdamkbopkaa.GPtk
open Go.RowKit YtpbhkdamkbopkaaW.PrintWords GPix GOpn GPixb
def l11_awake.f (k:Nat):Option Bool:=some true
def l11_PixelTakes.f (k:Nat) (a0:ByteArray):Option (Bool):=if (a0.size:Int) > 1024 then ((l11_awake.f k).bind fun t215=>(some t215)) else ((pixel_Take.f k a0).bind fun bt216=>((c11_Take.f k a0).bind fun bt224=>((l11_ref.f bt216.1 bt216.2.1 bt216.2.2.1 bt216.2.2.2.1).bind fun bt232=>((c11_Equal.f k bt232.1 bt232.2.1 bt232.2.2.1 bt232.2.2.2 bt224.1 bt224.2.1 bt224.2.2.1 bt224.2.2.2.1).bind fun t238=>(if t238=true then (if bt216.2.2.2.2=bt224.2.2.2.2 then ((l11_awake.f k).bind fun t239=>(some t239)) else (some false)) else (some false))))))
end Go.Proofs.Ytpbhkdamkbopkaa.GPtk
namespace Go.Proofs.Ytpbhkdamkbopkaa.Rs
open Go Go.RowKit Rf YtpbhkdamkbopkaaW.PrintWords Go.Proofs.Ytpbhkdamkbopkaa
theorem awake_calls (w:World):Calls Try.prog 49 #[] w fun e w'=>e=.returned (.bool true)∧Below w.heap.size w w':=by
 obtain ⟨n,A',hrun⟩:=awake_run;have R:Rel (fun _=>none) A0.heap.get w:=⟨fun b m e=>(nomatch e),fun b m r e=>(nomatch e),fun b m es c e=>(nomatch e),fun b m i s n l e=>(nomatch e),fun b b' m m' e=>(nomatch e)⟩;refine Calls.mono (runF_sim (P:=Try.prog) (by kernel_rfl) noO_step noO_sim (n+1) (n+1) 49 #[] A0 _ A' (fun b _=>rfl) hrun (fun _=>none) w #[] (LR.nil _) R (fun b _ _=>rfl)) fun e w' ⟨μ',v',he,hv,hp⟩=>?_;subst he;cases hv;exact ⟨rfl,hp.os,hp.tape,hp.output,hp.size,fun k hk=>hp.fr k hk (fun ⟨b,m,e,_⟩=>nomatch e)⟩
def O1:Orf:=fun a A=>bif Nat.beq a.size 0 then some (.bool true,A) else none
theorem O1_step:OM O1:=fun args A v A' h e=>by
 unfold O1 at e;cases c:Nat.beq args.size 0 with
 |true=>rw [c,cond_true] at e;cases e;exact AStep.refl h
 |false=>rw [c,cond_false] at e;cases e
theorem O1_sim:OS Try.prog O1:=fun args A v A' h e μ w args' hl R hf=>by
 unfold O1 at e;cases c:Nat.beq args.size 0 with
 |true =>
  rw [c,cond_true] at e;cases e;have hz:=Nat.eq_of_beq_eq_true c
  obtain rfl:args'=#[]:=by
   have:=hl.1;apply Array.eq_empty_of_size_eq_zero;simp only [Array.length_toList] at this;omega
  refine Calls.mono (awake_calls w) fun e w' ⟨he,bel⟩=>⟨μ,.bool true,he,.bool true,?_⟩;exact ⟨Rf.Ext.refl μ,R.keep bel.size (fun b o hb ho hd=>⟨ho,fun m hm=>bel.block _ (R.blk b m hm)⟩),bel.os,bel.tape,bel.output,bel.size,fun β hβ _=>bel.block β hβ,fun β _ h=>h,fun b m e=>.inl e,Nat.le_refl _⟩
 |false=>rw [c,cond_false] at e;cases e
def O1c:Orc:=⟨O1,O1_step⟩
theorem awake_sp (k:Nat) (r:Bool) (H:GPtk.l11_awake.f k=some r):Sp (KT:=kt) Try.prog O1c 49 [] [] (c1 (.bool r)) []:=by
 cases H;refine ⟨by kernel_rfl,fun Γ ν A args s d hnp=>⟨1,.bool true,A,?_,ν,s,rfl⟩⟩;cases args with
 |nil=>rfl
 |cons x l=>exact d.elim
end Go.Proofs.Ytpbhkdamkbopkaa.Rs
namespace Go.Proofs.Ytpbhkdamkbopkaa.Rs
open Go Go.RowKit Rf YtpbhkdamkbopkaaW.PrintWords Go.Proofs.Ytpbhkdamkbopkaa GPix
set_option maxRecDepth 10000
set_option maxHeartbeats 4000000
variable {O:Orc}
theorem ref11_Right_sp (k:Nat) (Qg:Int) (Qe:Int) (Qf:Int) (Qa:List (S89)) (r:Bool) (H:c11_Right.f k Qg Qe Qf Qa=some r):Sp (KT:=kt) Try.prog O 51 [.v (.agg [.n Qg,.n Qe,.n Qf,.sl 0 Qa.length])] [⟨.view 89 Qa,0,false⟩] (c1 (.bool r)) [⟨.view 89 Qa,0,false⟩]:=by
 refine Sp.of tok (by kernel_rfl) Try.func51 rfl rfl fun Γ hnp=>?_;unfold c11_Right.f at H;refine WS.seq ?_;refine wrg ?_;refine wr 2 ?_;refine wn ?_;refine WS.seq ?_;refine WS.join (fun ρ h=>∃ k1,∃ (g:Nat → SV) (x43:Bool) (Qb:Int) (Qc:Int) (Qd:Int),k1≤k∧ρ=upds g [(43,c1 (.bool x43)),(0,.v (.agg [.n Qg,.n Qe,.n Qf,.sl 0 Qa.length])),(1,c1 (.ptr 1 0 0 0))]∧h=[⟨.view 89 Qa,0,false⟩,⟨.box [.n Qb,.n Qc,.n Qd,.sl 0 Qa.length],1,true⟩]∧c11_Right.j0 k1 x43 Qb Qc Qd Qa=some r) ?_ ?_
 ·
  refine wrg ?_;refine wr 4 ?_;refine WR.split 8 rfl (fun b1=>?_) (fun b1=>?_)
  ·
   rw [ifP b1] at H;replace b1:=dT b1;refine wr 35 ?_;refine wn ?_;intro kk;refine wcut [some 0,some 1] [(43,c1 (.bool true)),(0,.v (.agg [.n Qg,.n Qe,.n Qf,.sl 0 Qa.length])),(1,c1 (.ptr 1 0 0 0))] [⟨.view 89 Qa,0,false⟩,⟨.box [.n Qg,.n Qe,.n Qf,.sl 0 Qa.length],1,true⟩] (n2 rfl (n2 rfl (n2 rfl tv))) (n2 rfl (n2 (rw_ rfl rfl) tv)) (by rw [hnp];rfl) (fun g=>?_);exact kk _ _ ⟨_,g,_,_,_,_,by omega,rfl,rfl,H⟩
  ·
   rw [ifN b1] at H;replace b1:=dF b1;refine wr 5 ?_;refine WR.split 13 rfl (fun b2=>?_) (fun b2=>?_)
   ·
    rw [ifP b2] at H;replace b2:=dT b2;refine wr 30 ?_;refine wn ?_;intro kk;refine wcut [some 0,some 1] [(43,c1 (.bool true)),(0,.v (.agg [.n Qg,.n Qe,.n Qf,.sl 0 Qa.length])),(1,c1 (.ptr 1 0 0 0))] [⟨.view 89 Qa,0,false⟩,⟨.box [.n Qg,.n Qe,.n Qf,.sl 0 Qa.length],1,true⟩] (n2 rfl (n2 rfl (n2 rfl tv))) (n2 rfl (n2 (rw_ rfl rfl) tv)) (by rw [hnp];rfl) (fun g=>?_);exact kk _ _ ⟨_,g,_,_,_,_,by omega,rfl,rfl,H⟩
   ·
    rw [ifN b2] at H;replace b2:=dF b2;refine wr 5 ?_;refine WR.split 18 rfl (fun b3=>?_) (fun b3=>?_)
    ·
     rw [ifP b3] at H;replace b3:=dT b3;refine wr 25 ?_;refine wn ?_;intro kk;refine wcut [some 0,some 1] [(43,c1 (.bool true)),(0,.v (.agg [.n Qg,.n Qe,.n Qf,.sl 0 Qa.length])),(1,c1 (.ptr 1 0 0 0))] [⟨.view 89 Qa,0,false⟩,⟨.box [.n Qg,.n Qe,.n Qf,.sl 0 Qa.length],1,true⟩] (n2 rfl (n2 rfl (n2 rfl tv))) (n2 rfl (n2 (rw_ rfl rfl) tv)) (by rw [hnp];rfl) (fun g=>?_);exact kk _ _ ⟨_,g,_,_,_,_,by omega,rfl,rfl,H⟩
    ·
     rw [ifN b3] at H;replace b3:=dF b3;refine wr 5 ?_;refine WR.split 23 rfl (fun b4=>?_) (fun b4=>?_)
     ·
      rw [ifP b4] at H;replace b4:=dT b4;refine wr 20 ?_;refine wn ?_;intro kk;refine wcut [some 0,some 1] [(43,c1 (.bool true)),(0,.v (.agg [.n Qg,.n Qe,.n Qf,.sl 0 Qa.length])),(1,c1 (.ptr 1 0 0 0))] [⟨.view 89 Qa,0,false⟩,⟨.box [.n Qg,.n Qe,.n Qf,.sl 0 Qa.length],1,true⟩] (n2 rfl (n2 rfl (n2 rfl tv))) (n2 rfl (n2 (rw_ rfl rfl) tv)) (by rw [hnp];rfl) (fun g=>?_);exact kk _ _ ⟨_,g,_,_,_,_,by omega,rfl,rfl,H⟩
     ·
      rw [ifN b4] at H;replace b4:=dF b4;refine wr 5 ?_;refine WR.split 28 rfl (fun b5=>?_) (fun b5=>?_)
      ·
       rw [ifP b5] at H;replace b5:=dT b5;refine wr 15 ?_;refine wn ?_;intro kk;refine wcut [some 0,some 1] [(43,c1 (.bool true)),(0,.v (.agg [.n Qg,.n Qe,.n Qf,.sl 0 Qa.length])),(1,c1 (.ptr 1 0 0 0))] [⟨.view 89 Qa,0,false⟩,⟨.box [.n Qg,.n Qe,.n Qf,.sl 0 Qa.length],1,true⟩] (n2 rfl (n2 rfl (n2 rfl tv))) (n2 rfl (n2 (rw_ rfl rfl) tv)) (by rw [hnp];rfl) (fun g=>?_);exact kk _ _ ⟨_,g,_,_,_,_,by omega,rfl,rfl,H⟩
      ·
       rw [ifN b5] at H;replace b5:=dF b5;refine wr 5 ?_;refine WR.split 33 rfl (fun b6=>?_) (fun b6=>?_)
       ·
        rw [ifP b6] at H;replace b6:=dT b6;refine wr 10 ?_;refine wn ?_;intro kk;refine wcut [some 0,some 1] [(43,c1 (.bool true)),(0,.v (.agg [.n Qg,.n Qe,.n Qf,.sl 0 Qa.length])),(1,c1 (.ptr 1 0 0 0))] [⟨.view 89 Qa,0,false⟩,⟨.box [.n Qg,.n Qe,.n Qf,.sl 0 Qa.length],1,true⟩] (n2 rfl (n2 rfl (n2 rfl tv))) (n2 rfl (n2 (rw_ rfl rfl) tv)) (by rw [hnp];rfl) (fun g=>?_);exact kk _ _ ⟨_,g,_,_,_,_,by omega,rfl,rfl,H⟩
       ·
        rw [ifN b6] at H;replace b6:=dF b6;refine wr 10 ?_;refine wn ?_;intro kk;refine wcut [some 0,some 1] [(43,c1 (.bool (((Qa.length:Int) != (wrap64 (Qe*Qf)))))),(0,.v (.agg [.n Qg,.n Qe,.n Qf,.sl 0 Qa.length])),(1,c1 (.ptr 1 0 0 0))] [⟨.view 89 Qa,0,false⟩,⟨.box [.n Qg,.n Qe,.n Qf,.sl 0 Qa.length],1,true⟩] (n2 rfl (n2 rfl (n2 rfl tv))) (n2 rfl (n2 (rw_ rfl rfl) tv)) (by rw [hnp];rfl) (fun g=>?_);exact kk _ _ ⟨_,g,_,_,_,_,by omega,rfl,rfl,H⟩
 rintro ρ h ⟨k,g,x43,Qb,Qc,Qd,hk7,rfl,rfl,H⟩
 rcases k with _ | k
 ·exact nn H
 simp only [c11_Right.j0] at H;refine WS.cond rfl (fun b8=>?_) (fun b8=>?_)
 ·
  rw [ifB b8] at H;refine WS.seq ?_;refine wrg ?_;refine wr 1 ?_;refine wn ?_;refine WS.ret ?_;cases H;exact ⟨tv,[some 0],_,rfl,rfl,(n2 rfl tv),rfl,rfl,rfl⟩
 ·
  rw [ifBn b8] at H;refine WS.skip ?_;refine WS.seq ?_;refine WS.seq ?_;refine wrg ?_;refine wr 1 ?_;refine wn ?_;refine WS.block ?_;refine wcut [some 0,some 1] [(3,c1 (.n 0)),(0,.v (.agg [.n Qg,.n Qe,.n Qf,.sl 0 Qa.length])),(1,c1 (.ptr 1 0 0 0))] [⟨.view 89 Qa,0,false⟩,⟨.box [.n Qb,.n Qc,.n Qd,.sl 0 Qa.length],1,true⟩] (n2 rfl (n2 rfl (n2 rfl tv))) (n2 rfl (n2 (rw_ rfl rfl) tv)) (by rw [hnp];rfl) (fun g=>?_);refine WS.loop (fun k1 ρ h=>∃ (g:Nat → SV) (x3:Int) (Qb:Int) (Qc:Int) (Qd:Int),k1≤k∧ρ=upds g [(3,c1 (.n x3)),(0,.v (.agg [.n Qg,.n Qe,.n Qf,.sl 0 Qa.length])),(1,c1 (.ptr 1 0 0 0))]∧h=[⟨.view 89 Qa,0,false⟩,⟨.box [.n Qb,.n Qc,.n Qd,.sl 0 Qa.length],1,true⟩]∧c11_Right.l0 k1 x3 Qb Qc Qd Qa=some r) ?_ (n:=k) ⟨g,_,_,_,_,Nat.le_refl _,rfl,rfl,H⟩;rintro k ρ h ih9 ⟨g,x3,Qb,Qc,Qd,hkih9,rfl,rfl,H⟩
  rcases k with _ | k
  ·exact nn H
  simp only [c11_Right.l0] at H;refine WS.seq ?_;refine WS.seq ?_;refine wrg ?_;refine wr 5 ?_;refine wn ?_;refine WS.cond rfl (fun b10=>?_) (fun b10=>?_)
  ·
   rw [ifP b10] at H;replace b10:=dT b10;refine WS.skip ?_;refine WS.seq ?_;refine WS.block ?_;refine WS.seq ?_;refine wrg ?_;obtain ⟨g11,H⟩:=gd H;refine wr 7 ?_;refine wn ?_;refine WS.seq ?_;refine wrg ?_;refine wr 4 ?_;refine WR.split 59 rfl (fun b12=>?_) (fun b12=>?_)
   ·
    rw [ifP b12] at H;replace b12:=dT b12;refine wr 35 ?_;refine wn ?_;refine WS.cond rfl (fun _=>?_) (fun h=>nomatch h);refine WS.seq ?_;refine wrg ?_;refine wr 1 ?_;refine wn ?_;refine WS.ret ?_;cases H;exact ⟨tv,[some 0],_,rfl,rfl,(n2 rfl tv),rfl,rfl,rfl⟩
   ·
    rw [ifN b12] at H;replace b12:=dF b12;refine wr 5 ?_;refine WR.split 64 rfl (fun b14=>?_) (fun b14=>?_)
    ·
     rw [ifP b14] at H;replace b14:=dT b14;refine wr 30 ?_;refine wn ?_;refine WS.cond rfl (fun _=>?_) (fun h=>nomatch h);refine WS.seq ?_;refine wrg ?_;refine wr 1 ?_;refine wn ?_;refine WS.ret ?_;cases H;exact ⟨tv,[some 0],_,rfl,rfl,(n2 rfl tv),rfl,rfl,rfl⟩
    ·
     rw [ifN b14] at H;replace b14:=dF b14;refine wr 5 ?_;refine WR.split 69 rfl (fun b16=>?_) (fun b16=>?_)
     ·
      rw [ifP b16] at H;replace b16:=dT b16;refine wr 25 ?_;refine wn ?_;refine WS.cond rfl (fun _=>?_) (fun h=>nomatch h);refine WS.seq ?_;refine wrg ?_;refine wr 1 ?_;refine wn ?_;refine WS.ret ?_;cases H;exact ⟨tv,[some 0],_,rfl,rfl,(n2 rfl tv),rfl,rfl,rfl⟩
     ·
      rw [ifN b16] at H;replace b16:=dF b16;refine wr 5 ?_;refine WR.split 74 rfl (fun b18=>?_) (fun b18=>?_)
      ·
       rw [ifP b18] at H;replace b18:=dT b18;refine wr 20 ?_;refine wn ?_;refine WS.cond rfl (fun _=>?_) (fun h=>nomatch h);refine WS.seq ?_;refine wrg ?_;refine wr 1 ?_;refine wn ?_;refine WS.ret ?_;cases H;exact ⟨tv,[some 0],_,rfl,rfl,(n2 rfl tv),rfl,rfl,rfl⟩
      ·
       rw [ifN b18] at H;replace b18:=dF b18;refine wr 7 ?_;refine WR.split 81 rfl (fun b20=>?_) (fun b20=>?_)
       ·
        rw [ifP b20] at H;replace b20:=dT b20;refine wr 13 ?_;refine wn ?_;refine WS.cond rfl (fun _=>?_) (fun h=>nomatch h);refine WS.seq ?_;refine wrg ?_;refine wr 1 ?_;refine wn ?_;refine WS.ret ?_;cases H;exact ⟨tv,[some 0],_,rfl,rfl,(n2 rfl tv),rfl,rfl,rfl⟩
       ·
        rw [ifN b20] at H;replace b20:=dF b20;refine wr 7 ?_;refine WR.split 88 rfl (fun b22=>?_) (fun b22=>?_)
        ·
         rw [ifP b22] at H;replace b22:=dT b22;refine wr 6 ?_;refine wn ?_;refine WS.cond rfl (fun _=>?_) (fun h=>nomatch h);refine WS.seq ?_;refine wrg ?_;refine wr 1 ?_;refine wn ?_;refine WS.ret ?_;cases H;exact ⟨tv,[some 0],_,rfl,rfl,(n2 rfl tv),rfl,rfl,rfl⟩
        ·
         rw [ifN b22] at H;replace b22:=dF b22;refine wr 6 ?_;refine wn ?_;refine WS.cond rfl (fun b24=>?_) (fun b24=>?_)
         ·
          rw [ifP b24] at H;replace b24:=dT b24;refine WS.seq ?_;refine wrg ?_;refine wr 1 ?_;refine wn ?_;refine WS.ret ?_;cases H;exact ⟨tv,[some 0],_,rfl,rfl,(n2 rfl tv),rfl,rfl,rfl⟩
         ·
          rw [ifN b24] at H;replace b24:=dF b24;refine WS.skip ?_;refine wrg ?_;refine wr 3 ?_;refine wn ?_;refine wcut [some 0,some 1] [(3,c1 (.n ((wrap64 (x3+1))))),(0,.v (.agg [.n Qg,.n Qe,.n Qf,.sl 0 Qa.length])),(1,c1 (.ptr 1 0 0 0))] [⟨.view 89 Qa,0,false⟩,⟨.box [.n Qb,.n Qc,.n Qd,.sl 0 Qa.length],1,true⟩] (n2 rfl (n2 rfl (n2 rfl tv))) (n2 rfl (n2 (rw_ rfl rfl) tv)) (by rw [hnp];rfl) (fun g=>?_);exact ih9 k (by omega) _ _ ⟨g,_,_,_,_,by omega,rfl,rfl,H⟩
  ·
   rw [ifN b10] at H;replace b10:=dF b10;refine WS.exit ?_;refine WS.seq ?_;refine wrg ?_;refine wr 1 ?_;refine wn ?_;refine WS.ret ?_;cases H;exact ⟨tv,[some 0],_,rfl,rfl,(n2 rfl tv),rfl,rfl,rfl⟩
theorem law11_ref_sp (Qb:Int) (Qc:Int) (Qd:Int) (Qa:List (S89)) (r:Int × Int × Int × List S89) (H:l11_ref.f Qb Qc Qd Qa=some r):Sp (KT:=kt) Try.prog O 52 [.v (.agg [.n Qb,.n Qc,.n Qd,.sl 0 Qa.length])] [⟨.view 89 Qa,0,false⟩] (.v (.agg [.n r.1,.n r.2.1,.n r.2.2.1,.sl 0 Qa.length])) [⟨.view 89 Qa,0,false⟩]:=by
 refine Sp.of tok (by kernel_rfl) Try.func52 rfl rfl fun Γ hnp=>?_;unfold l11_ref.f at H;refine WS.seq ?_;refine wrg ?_;refine wr 2 ?_;refine wn ?_;refine WS.seq ?_;refine wrg ?_;refine wr 2 ?_;refine wn ?_;refine WS.ret ?_;cases H;exact ⟨tv,[some 0],_,rfl,rfl,(n2 rfl tv),rfl,rfl,rfl⟩
end Go.Proofs.Ytpbhkdamkbopkaa.Rs
namespace Go.Proofs.Ytpbhkdamkbopkaa.Rs
open Go Go.RowKit Rf YtpbhkdamkbopkaaW.PrintWords Go.Proofs.Ytpbhkdamkbopkaa GHuff GInfr GPix
set_option maxRecDepth 10000
set_option maxHeartbeats 4000000
variable {O:Orc}
theorem ref04_Bit_sp (k:Nat) (a0:ByteArray) (a1:Int) (r:Int) (H:c04_Bit.f k a0 a1=some r):Sp (KT:=kt) Try.prog O 35 [c1 (.str a0),c1 (.n a1)] [] (c1 (.n r)) []:=by
 refine Sp.of tok (by kernel_rfl) Try.func35 rfl rfl fun Γ hnp=>?_;unfold c04_Bit.f at H;refine WS.seq ?_;refine wrg ?_;refine wr 1 ?_;refine wn ?_;refine WS.seq ?_;refine WS.seq ?_;refine wrg ?_;refine wr 3 ?_;refine WR.split 9 rfl (fun b1=>?_) (fun b1=>?_)
 ·
  rw [ifP b1] at H;replace b1:=dT b1;refine wr 6 ?_;refine wn ?_;replace H:c04_Bit.j0 k ..=some _:=H
  rcases k with _ | k
  ·exact nn H
  simp only [c04_Bit.j0] at H;first | rw [ifT] at H | rw [ifB rfl] at H
  refine WS.cond rfl (fun _=>?_) (fun h=>nomatch h);refine WS.seq ?_;refine wrg ?_;refine wr 1 ?_;refine wn ?_;refine WS.ret ?_;cases H;exact ⟨tv,[],_,rfl,rfl,tv,rfl,rfl,rfl⟩
 ·
  rw [ifN b1] at H;replace b1:=dF b1;replace H:c04_Bit.j0 k ..=some _:=H
  rcases k with _ | k
  ·exact nn H
  simp only [c04_Bit.j0] at H;refine wr 6 ?_;refine wn ?_;refine WS.cond rfl (fun b3=>?_) (fun b3=>?_)
  ·
   rw [ifB b3] at H;refine WS.seq ?_;refine wrg ?_;refine wr 1 ?_;refine wn ?_;refine WS.ret ?_;cases H;exact ⟨tv,[],_,rfl,rfl,tv,rfl,rfl,rfl⟩
  ·
   rw [ifBn b3] at H;refine WS.skip ?_;refine WS.seq ?_;refine wrg ?_;obtain ⟨g4,H⟩:=gd H;obtain ⟨g5,H⟩:=gd H;refine wr 6 ?_;refine wn ?_;refine WS.seq ?_;refine WS.seq ?_;refine wrg ?_;refine wr 1 ?_;refine wn ?_;refine WS.block ?_;refine wcut [] [(1,c1 (.n a1)),(5,c1 (.n ((wrap64 (bt a0 (wrap64 (Int.tdiv a1 8))))))),(6,c1 (.n 0)),(0,c1 (.str a0))] [] (n2 rfl (n2 rfl (n2 rfl (n2 rfl tv)))) tv (by rw [hnp];rfl) (fun g=>?_);refine WS.loop (fun k1 ρ h=>∃ (g:Nat → SV) (x5:Int) (x6:Int),k1≤k∧ρ=upds g [(1,c1 (.n a1)),(5,c1 (.n x5)),(6,c1 (.n x6)),(0,c1 (.str a0))]∧h=[]∧c04_Bit.l0 k1 a1 x5 x6=some r) ?_ (n:=k) ⟨g,_,_,Nat.le_refl _,rfl,rfl,H⟩;rintro k ρ h ih6 ⟨g,x5,x6,hkih6,rfl,rfl,H⟩
   rcases k with _ | k
   ·exact nn H
   simp only [c04_Bit.l0] at H;refine WS.seq ?_;refine WS.seq ?_;refine wrg ?_;refine wr 4 ?_;refine wn ?_;refine WS.cond rfl (fun b7=>?_) (fun b7=>?_)
   ·
    rw [ifP b7] at H;replace b7:=dT b7;refine WS.skip ?_;refine WS.seq ?_;refine WS.block ?_;refine wrg ?_;refine wr 3 ?_;refine wn ?_;refine wrg ?_;refine wr 3 ?_;refine wn ?_;refine wcut [] [(1,c1 (.n a1)),(5,c1 (.n ((wrap64 (Int.tdiv x5 2))))),(6,c1 (.n ((wrap64 (x6+1))))),(0,c1 (.str a0))] [] (n2 rfl (n2 rfl (n2 rfl (n2 rfl tv)))) tv (by rw [hnp];rfl) (fun g=>?_);exact ih6 k (by omega) _ _ ⟨g,_,_,by omega,rfl,rfl,H⟩
   ·
    rw [ifN b7] at H;replace b7:=dF b7;refine WS.exit ?_;refine WS.seq ?_;refine wrg ?_;refine wr 3 ?_;refine wn ?_;refine WS.ret ?_;cases H;exact ⟨tv,[],_,rfl,rfl,tv,rfl,rfl,rfl⟩
theorem ref04_Bits_sp (k:Nat) (a0:ByteArray) (a1:Int) (a2:Int) (r:Int × Int × Int) (H:c04_Bits.f k a0 a1 a2=some r):Sp (KT:=kt) Try.prog O 33 [c1 (.str a0),c1 (.n a1),c1 (.n a2)] [] (.t [.c (.n r.1),.c (.n r.2.1),.c (.n r.2.2)]) []:=by
 refine Sp.of tok (by kernel_rfl) Try.func33 rfl rfl fun Γ hnp=>?_;unfold c04_Bits.f at H;refine WS.seq ?_;refine wrg ?_;refine wr 3 ?_;refine wn ?_;refine WS.seq ?_;refine WS.join (fun ρ h=>∃ k1,∃ (g:Nat → SV) (x22:Bool),k1≤k∧ρ=upds g [(0,c1 (.str a0)),(1,c1 (.n a1)),(2,c1 (.n a2)),(22,c1 (.bool x22))]∧h=[]∧c04_Bits.j0 k1 a0 a1 a2 x22=some r) ?_ ?_
 ·
  refine wrg ?_;refine wr 3 ?_;refine WR.split 15 rfl (fun b1=>?_) (fun b1=>?_)
  ·
   rw [ifP b1] at H;replace b1:=dT b1;refine wr 7 ?_;refine wn ?_;intro kk;refine wcut [] [(0,c1 (.str a0)),(1,c1 (.n a1)),(2,c1 (.n a2)),(22,c1 (.bool true))] [] (n2 rfl (n2 rfl (n2 rfl (n2 rfl tv)))) tv (by rw [hnp];rfl) (fun g=>?_);exact kk _ _ ⟨_,g,_,by omega,rfl,rfl,H⟩
  ·
   rw [ifN b1] at H;replace b1:=dF b1;refine wr 4 ?_;refine WR.split 19 rfl (fun b2=>?_) (fun b2=>?_)
   ·
    rw [ifP b2] at H;replace b2:=dT b2;refine wr 3 ?_;refine wn ?_;intro kk;refine wcut [] [(0,c1 (.str a0)),(1,c1 (.n a1)),(2,c1 (.n a2)),(22,c1 (.bool true))] [] (n2 rfl (n2 rfl (n2 rfl (n2 rfl tv)))) tv (by rw [hnp];rfl) (fun g=>?_);exact kk _ _ ⟨_,g,_,by omega,rfl,rfl,H⟩
   ·
    rw [ifN b2] at H;replace b2:=dF b2;refine wr 3 ?_;refine wn ?_;intro kk;refine wcut [] [(0,c1 (.str a0)),(1,c1 (.n a1)),(2,c1 (.n a2)),(22,c1 (.bool ((decide (a2 > 16)))))] [] (n2 rfl (n2 rfl (n2 rfl (n2 rfl tv)))) tv (by rw [hnp];rfl) (fun g=>?_);exact kk _ _ ⟨_,g,_,by omega,rfl,rfl,H⟩
 rintro ρ h ⟨k,g,x22,hk3,rfl,rfl,H⟩
 rcases k with _ | k
 ·exact nn H
 simp only [c04_Bits.j0] at H;refine WS.cond rfl (fun b4=>?_) (fun b4=>?_)
 ·
  rw [ifB b4] at H;refine WS.seq ?_;refine wrg ?_;refine wr 3 ?_;refine wn ?_;refine WS.ret ?_;cases H;exact ⟨tv,[],_,rfl,rfl,tv,rfl,rfl,rfl⟩
 ·
  rw [ifBn b4] at H;refine WS.skip ?_;refine WS.seq ?_;refine wrg ?_;refine wr 2 ?_;refine wn ?_;refine WS.seq ?_;refine WS.seq ?_;refine wrg ?_;refine wr 1 ?_;refine wn ?_;refine WS.block ?_;refine wcut [] [(0,c1 (.str a0)),(1,c1 (.n a1)),(2,c1 (.n a2)),(9,c1 (.n 0)),(10,c1 (.n 1)),(11,c1 (.n 0))] [] (n2 rfl (n2 rfl (n2 rfl (n2 rfl (n2 rfl (n2 rfl tv)))))) tv (by rw [hnp];rfl) (fun g=>?_);refine WS.loop (fun k1 ρ h=>∃ (g:Nat → SV) (x9:Int) (x10:Int) (x11:Int),k1≤k∧ρ=upds g [(0,c1 (.str a0)),(1,c1 (.n a1)),(2,c1 (.n a2)),(9,c1 (.n x9)),(10,c1 (.n x10)),(11,c1 (.n x11))]∧h=[]∧c04_Bits.l0 k1 a0 a1 a2 x9 x10 x11=some r) ?_ (n:=k) ⟨g,_,_,_,Nat.le_refl _,rfl,rfl,H⟩;rintro k ρ h ih5 ⟨g,x9,x10,x11,hkih5,rfl,rfl,H⟩
  rcases k with _ | k
  ·exact nn H
  simp only [c04_Bits.l0] at H;refine WS.seq ?_;refine WS.seq ?_;refine wrg ?_;refine wr 3 ?_;refine wn ?_;refine WS.cond rfl (fun b6=>?_) (fun b6=>?_)
  ·
   rw [ifP b6] at H;replace b6:=dT b6;refine WS.skip ?_;refine WS.seq ?_;refine WS.block ?_;refine WS.seq ?_;refine wrg ?_;refine wr 4 ?_;obtain ⟨Qa,ht228,H⟩:=bd H;refine WR.call (ref04_Bit_sp _ _ _ _ ht228) [] rfl rfl rfl rfl rfl tv rfl rfl rfl rfl rfl ?_;refine wr 1 ?_;refine wn ?_;refine WS.seq ?_;refine WS.seq ?_;refine wrg ?_;refine wr 2 ?_;refine wn ?_;refine WS.cond rfl (fun b7=>?_) (fun b7=>?_)
   ·
    rw [ifP b7] at H;replace b7:=dT b7;refine WS.seq ?_;refine wrg ?_;refine wr 3 ?_;refine wn ?_;refine WS.ret ?_;cases H;exact ⟨tv,[],_,rfl,rfl,tv,rfl,rfl,rfl⟩
   ·
    rw [ifN b7] at H;replace b7:=dF b7;refine WS.skip ?_;refine WS.seq ?_;refine wrg ?_;refine wr 6 ?_;refine wn ?_;refine wrg ?_;refine wr 3 ?_;refine wn ?_;refine wrg ?_;refine wr 3 ?_;refine wn ?_;refine wcut [] [(0,c1 (.str a0)),(1,c1 (.n a1)),(2,c1 (.n a2)),(9,c1 (.n ((wrap64 (x9+(wrap64 (x10*Qa))))))),(10,c1 (.n ((wrap64 (x10*2))))),(11,c1 (.n ((wrap64 (x11+1)))))] [] (n2 rfl (n2 rfl (n2 rfl (n2 rfl (n2 rfl (n2 rfl tv)))))) tv (by rw [hnp];rfl) (fun g=>?_);exact ih5 k (by omega) _ _ ⟨g,_,_,_,by omega,rfl,rfl,H⟩
  ·
   rw [ifN b6] at H;replace b6:=dF b6;refine WS.exit ?_;refine WS.seq ?_;refine WS.seq ?_;refine wrg ?_;refine wr 3 ?_;refine WR.split 44 rfl (fun b8=>?_) (fun b8=>?_)
   ·
    rw [ifE b8] at H;replace b8:=eq_of_beq b8;refine wr 6 ?_;refine wn ?_;refine WS.cond rfl (fun b9=>?_) (fun b9=>?_)
    ·
     rw [ifP b9] at H;replace b9:=dT b9;refine WS.seq ?_;refine wrg ?_;refine wr 3 ?_;refine wn ?_;refine WS.ret ?_;cases H;exact ⟨tv,[],_,rfl,rfl,tv,rfl,rfl,rfl⟩
    ·
     rw [ifN b9] at H;replace b9:=dF b9;refine WS.skip ?_;refine WS.seq ?_;refine wrg ?_;refine wr 7 ?_;refine wn ?_;refine WS.ret ?_;cases H;exact ⟨tv,[],_,rfl,rfl,tv,rfl,rfl,rfl⟩
   ·
    rw [ifEn b8] at H;replace b8:=bF b8;refine wr 6 ?_;refine wn ?_;refine WS.cond rfl (fun h=>nomatch h) (fun _=>?_);refine WS.skip ?_;refine WS.seq ?_;refine wrg ?_;refine wr 7 ?_;refine wn ?_;refine WS.ret ?_;cases H;exact ⟨tv,[],_,rfl,rfl,tv,rfl,rfl,rfl⟩
theorem number_keep {k:Nat} {a0:ByteArray} {l:List Int} {a b c:Int} {r:Int × List Int × Int × Int} (h:c05_number.f k a0 l a b c=some r):r.2.1=l:=by
 unfold c05_number.f at h
 split at h
 ·obtain ⟨_,_,h⟩:=bd h;cases h;rfl
 ·cases h;rfl
theorem ref05_number_sp (k:Nat) (a0:ByteArray) (Qa:List Int) (Qb:Int) (Qc:Int) (a2:Int) (r:Int × List Int × Int × Int) (H:c05_number.f k a0 Qa Qb Qc a2=some r):Sp (KT:=kt) Try.prog O 73 [c1 (.str a0),.v (.agg [.sl 0 Qa.length,.n Qb,.n Qc]),c1 (.n a2)] [⟨.view 5 Qa,0,false⟩] (.t [.c (.n r.1),.agg [.sl 0 Qa.length,.n r.2.2.1,.n r.2.2.2]]) [⟨.view 5 Qa,0,false⟩]:=by
 refine Sp.of tok (by kernel_rfl) Try.func73 rfl rfl fun Γ hnp=>?_;unfold c05_number.f at H;refine WS.seq ?_;refine wrg ?_;refine wr 3 ?_;refine wn ?_;refine WS.seq ?_;refine WS.seq ?_;refine wrg ?_;refine wr 3 ?_;refine wn ?_;refine WS.cond rfl (fun b1=>?_) (fun b1=>?_)
 ·
  rw [ifX b1] at H;replace b1:=nT b1;refine WS.seq ?_;refine wrg ?_;refine wr 3 ?_;refine wn ?_;refine WS.ret ?_;cases H;exact ⟨tv,[some 0],_,rfl,rfl,(n2 rfl tv),rfl,rfl,rfl⟩
 ·
  rw [ifXn b1] at H;replace b1:=nF b1;refine WS.skip ?_;refine WS.seq ?_;refine wrg ?_;refine wr 4 ?_;obtain ⟨bt224,hbt224,H⟩:=bd H;refine WR.call (ref04_Bits_sp _ _ _ _ _ hbt224) [] rfl rfl rfl rfl rfl tv rfl rfl rfl rfl rfl ?_;refine wr 7 ?_;refine wn ?_;refine WS.seq ?_;refine wrg ?_;refine wr 6 ?_;refine wn ?_;refine WS.seq ?_;refine wrg ?_;refine wr 4 ?_;refine wn ?_;refine WS.ret ?_;cases H;exact ⟨tv,[some 0],_,rfl,rfl,(n2 rfl tv),rfl,rfl,rfl⟩
theorem ref05_Length_sp (k:Nat) (a0:Int) (r:Int × Int) (H:c05_Length.f k a0=some r):Sp (KT:=kt) Try.prog O 68 [c1 (.n a0)] [] (.t [.c (.n r.1),.c (.n r.2)]) []:=by
 refine Sp.of tok (by kernel_rfl) Try.func68 rfl rfl fun Γ hnp=>?_;unfold c05_Length.f at H;refine WS.seq ?_;refine wrg ?_;refine wr 2 ?_;refine wn ?_;refine WS.seq ?_;refine wrg ?_;refine wr 3 ?_;refine wn ?_;refine WS.seq ?_;refine WS.seq ?_;refine wrg ?_;refine wr 2 ?_;refine wn ?_;refine WS.cond rfl (fun b1=>?_) (fun b1=>?_)
 ·
  rw [ifP b1] at H;replace b1:=dT b1;refine WS.seq ?_;refine wrg ?_;refine wr 4 ?_;refine wn ?_;refine WS.ret ?_;cases H;exact ⟨tv,[],_,rfl,rfl,tv,rfl,rfl,rfl⟩
 ·
  rw [ifN b1] at H;replace b1:=dF b1;refine WS.skip ?_;refine WS.seq ?_;refine WS.seq ?_;refine wrg ?_;refine wr 2 ?_;refine wn ?_;refine WS.cond rfl (fun b2=>?_) (fun b2=>?_)
  ·
   rw [ifE b2] at H;replace b2:=eq_of_beq b2;refine WS.seq ?_;refine wrg ?_;refine wr 2 ?_;refine wn ?_;refine WS.ret ?_;cases H;exact ⟨tv,[],_,rfl,rfl,tv,rfl,rfl,rfl⟩
  ·
   rw [ifEn b2] at H;replace b2:=bF b2;refine WS.skip ?_;refine WS.seq ?_;refine wrg ?_;refine wr 4 ?_;refine wn ?_;refine WS.seq ?_;refine wrg ?_;refine wr 4 ?_;refine wn ?_;refine WS.seq ?_;refine WS.seq ?_;refine wrg ?_;refine wr 1 ?_;refine wn ?_;refine WS.block ?_;refine wcut [] [(5,c1 (.n ((wrap64 ((wrap64 (Int.tdiv (wrap64 (a0 - 257)) 4)) - 1))))),(6,c1 (.n ((wrap64 (4+(Int.tmod (wrap64 (a0 - 257)) 4)))))),(7,c1 (.n 0)),(0,c1 (.n a0))] [] (n2 rfl (n2 rfl (n2 rfl (n2 rfl tv)))) tv (by rw [hnp];rfl) (fun g=>?_);refine WS.loop (fun k1 ρ h=>∃ (g:Nat → SV) (x5:Int) (x6:Int) (x7:Int),k1≤k∧ρ=upds g [(5,c1 (.n x5)),(6,c1 (.n x6)),(7,c1 (.n x7)),(0,c1 (.n a0))]∧h=[]∧c05_Length.l0 k1 x5 x6 x7=some r) ?_ (n:=k) ⟨g,_,_,_,Nat.le_refl _,rfl,rfl,H⟩;rintro k ρ h ih3 ⟨g,x5,x6,x7,hkih3,rfl,rfl,H⟩
   rcases k with _ | k
   ·exact nn H
   simp only [c05_Length.l0] at H;refine WS.seq ?_;refine WS.seq ?_;refine wrg ?_;refine wr 3 ?_;refine wn ?_;refine WS.cond rfl (fun b4=>?_) (fun b4=>?_)
   ·
    rw [ifP b4] at H;replace b4:=dT b4;refine WS.skip ?_;refine WS.seq ?_;refine WS.block ?_;refine wrg ?_;refine wr 3 ?_;refine wn ?_;refine wrg ?_;refine wr 3 ?_;refine wn ?_;refine wcut [] [(5,c1 (.n x5)),(6,c1 (.n ((wrap64 (x6*2))))),(7,c1 (.n ((wrap64 (x7+1))))),(0,c1 (.n a0))] [] (n2 rfl (n2 rfl (n2 rfl (n2 rfl tv)))) tv (by rw [hnp];rfl) (fun g=>?_);exact ih3 k (by omega) _ _ ⟨g,_,_,_,by omega,rfl,rfl,H⟩
   ·
    rw [ifN b4] at H;replace b4:=dF b4;refine WS.exit ?_;refine WS.seq ?_;refine wrg ?_;refine wr 5 ?_;refine wn ?_;refine WS.ret ?_;cases H;exact ⟨tv,[],_,rfl,rfl,tv,rfl,rfl,rfl⟩
theorem ref05_Distance_sp (k:Nat) (a0:Int) (r:Int × Int) (H:c05_Distance.f k a0=some r):Sp (KT:=kt) Try.prog O 70 [c1 (.n a0)] [] (.t [.c (.n r.1),.c (.n r.2)]) []:=by
 refine Sp.of tok (by kernel_rfl) Try.func70 rfl rfl fun Γ hnp=>?_;unfold c05_Distance.f at H;refine WS.seq ?_;refine wrg ?_;refine wr 2 ?_;refine wn ?_;refine WS.seq ?_;refine WS.seq ?_;refine wrg ?_;refine wr 2 ?_;refine wn ?_;refine WS.cond rfl (fun b1=>?_) (fun b1=>?_)
 ·
  rw [ifP b1] at H;replace b1:=dT b1;refine WS.seq ?_;refine wrg ?_;refine wr 4 ?_;refine wn ?_;refine WS.ret ?_;cases H;exact ⟨tv,[],_,rfl,rfl,tv,rfl,rfl,rfl⟩
 ·
  rw [ifN b1] at H;replace b1:=dF b1;refine WS.skip ?_;refine WS.seq ?_;refine wrg ?_;refine wr 4 ?_;refine wn ?_;refine WS.seq ?_;refine wrg ?_;refine wr 4 ?_;refine wn ?_;refine WS.seq ?_;refine WS.seq ?_;refine wrg ?_;refine wr 1 ?_;refine wn ?_;refine WS.block ?_;refine wcut [] [(4,c1 (.n ((wrap64 ((wrap64 (Int.tdiv a0 2)) - 1))))),(5,c1 (.n ((wrap64 (2+(Int.tmod a0 2)))))),(6,c1 (.n 0)),(0,c1 (.n a0))] [] (n2 rfl (n2 rfl (n2 rfl (n2 rfl tv)))) tv (by rw [hnp];rfl) (fun g=>?_);refine WS.loop (fun k1 ρ h=>∃ (g:Nat → SV) (x4:Int) (x5:Int) (x6:Int),k1≤k∧ρ=upds g [(4,c1 (.n x4)),(5,c1 (.n x5)),(6,c1 (.n x6)),(0,c1 (.n a0))]∧h=[]∧c05_Distance.l0 k1 x4 x5 x6=some r) ?_ (n:=k) ⟨g,_,_,_,Nat.le_refl _,rfl,rfl,H⟩;rintro k ρ h ih2 ⟨g,x4,x5,x6,hkih2,rfl,rfl,H⟩
  rcases k with _ | k
  ·exact nn H
  simp only [c05_Distance.l0] at H;refine WS.seq ?_;refine WS.seq ?_;refine wrg ?_;refine wr 3 ?_;refine wn ?_;refine WS.cond rfl (fun b3=>?_) (fun b3=>?_)
  ·
   rw [ifP b3] at H;replace b3:=dT b3;refine WS.skip ?_;refine WS.seq ?_;refine WS.block ?_;refine wrg ?_;refine wr 3 ?_;refine wn ?_;refine wrg ?_;refine wr 3 ?_;refine wn ?_;refine wcut [] [(4,c1 (.n x4)),(5,c1 (.n ((wrap64 (x5*2))))),(6,c1 (.n ((wrap64 (x6+1))))),(0,c1 (.n a0))] [] (n2 rfl (n2 rfl (n2 rfl (n2 rfl tv)))) tv (by rw [hnp];rfl) (fun g=>?_);exact ih2 k (by omega) _ _ ⟨g,_,_,_,by omega,rfl,rfl,H⟩
  ·
   rw [ifN b3] at H;replace b3:=dF b3;refine WS.exit ?_;refine WS.seq ?_;refine wrg ?_;refine wr 5 ?_;refine wn ?_;refine WS.ret ?_;cases H;exact ⟨tv,[],_,rfl,rfl,tv,rfl,rfl,rfl⟩
theorem ref04_Error_sp (k:Nat) (l0:List Int) (r:Int) (H:c04_Error.f k l0=some r):Sp (KT:=kt) Try.prog O 28 [c1 (.sl 0 l0.length)] [⟨.view 3 l0,0,false⟩] (c1 (.n r)) [⟨.view 3 l0,0,false⟩]:=by
 refine Sp.of tok (by kernel_rfl) Try.func28 rfl rfl fun Γ hnp=>?_;unfold c04_Error.f at H;refine WS.seq ?_;refine wrg ?_;refine wr 1 ?_;refine wn ?_;refine WS.seq ?_;refine WS.seq ?_;refine wrg ?_;refine wr 3 ?_;refine wn ?_;refine WS.cond rfl (fun b1=>?_) (fun b1=>?_)
 ·
  rw [ifP b1] at H;replace b1:=dT b1;refine WS.seq ?_;refine wrg ?_;refine wr 1 ?_;refine wn ?_;refine WS.ret ?_;cases H;exact ⟨tv,[some 0],_,rfl,rfl,(n2 rfl tv),rfl,rfl,rfl⟩
 ·
  rw [ifN b1] at H;replace b1:=dF b1;refine WS.skip ?_;refine WS.seq ?_;refine wrg ?_;refine wr 3 ?_;refine wn ?_;refine WS.seq ?_;refine WS.seq ?_;refine wrg ?_;refine wr 1 ?_;refine wn ?_;refine WS.block ?_;refine wcut [some 0] [(0,c1 (.sl 0 l0.length)),(3,c1 (.n 0)),(4,c1 (.n 0)),(5,c1 (.n 0)),(6,c1 (.n 0))] [⟨.view 3 l0,0,false⟩] (n2 rfl (n2 rfl (n2 rfl (n2 rfl (n2 rfl tv))))) (n2 rfl tv) (by rw [hnp];rfl) (fun g=>?_);refine WS.loop (fun k1 ρ h=>∃ (g:Nat → SV) (x3:Int) (x4:Int) (x5:Int) (x6:Int),k1≤k∧ρ=upds g [(0,c1 (.sl 0 l0.length)),(3,c1 (.n x3)),(4,c1 (.n x4)),(5,c1 (.n x5)),(6,c1 (.n x6))]∧h=[⟨.view 3 l0,0,false⟩]∧c04_Error.l0 k1 l0 x3 x4 x5 x6=some r) ?_ (n:=k) ⟨g,_,_,_,_,Nat.le_refl _,rfl,rfl,H⟩;rintro k ρ h ih2 ⟨g,x3,x4,x5,x6,hkih2,rfl,rfl,H⟩
  rcases k with _ | k
  ·exact nn H
  simp only [c04_Error.l0] at H;refine WS.seq ?_;refine WS.seq ?_;refine wrg ?_;refine wr 4 ?_;refine wn ?_;refine WS.cond rfl (fun b3=>?_) (fun b3=>?_)
  ·
   rw [ifP b3] at H;replace b3:=dT b3;refine WS.skip ?_;refine WS.seq ?_;refine WS.block ?_;refine WS.seq ?_;refine WS.seq ?_;refine wrg ?_;obtain ⟨g4,H⟩:=gd H;refine wr 6 ?_;refine WR.split 23 rfl (fun b5=>?_) (fun b5=>?_)
   ·
    rw [ifP b5] at H;replace b5:=dT b5;refine wr 6 ?_;refine wn ?_;replace H:c04_Error.j1 k ..=some _:=H
    rcases k with _ | k
    ·exact nn H
    simp only [c04_Error.j1] at H;(first | rw [ifT] at H | rw [ifB rfl] at H);refine WS.cond rfl (fun _=>?_) (fun h=>nomatch h);refine WS.seq ?_;refine wrg ?_;refine wr 1 ?_;refine wn ?_;refine WS.ret ?_;cases H;exact ⟨tv,[some 0],_,rfl,rfl,(n2 rfl tv),rfl,rfl,rfl⟩
   ·
    rw [ifN b5] at H;replace b5:=dF b5;replace H:c04_Error.j1 k ..=some _:=H
    rcases k with _ | k
    ·exact nn H
    simp only [c04_Error.j1] at H;refine wr 6 ?_;refine wn ?_;refine WS.cond rfl (fun b7=>?_) (fun b7=>?_)
    ·
     rw [ifB b7] at H;refine WS.seq ?_;refine wrg ?_;refine wr 1 ?_;refine wn ?_;refine WS.ret ?_;cases H;exact ⟨tv,[some 0],_,rfl,rfl,(n2 rfl tv),rfl,rfl,rfl⟩
    ·
     rw [ifBn b7] at H;refine WS.skip ?_;refine WS.seq ?_;refine WS.seq ?_;refine wrg ?_;obtain ⟨g8,H⟩:=gd H;obtain ⟨g9,H⟩:=gd H;refine wr 5 ?_;refine wn ?_;refine WS.cond rfl (fun b10=>?_) (fun b10=>?_)
     ·
      rw [ifP b10] at H;replace b10:=dT b10;refine WS.seq ?_;refine wrg ?_;refine wr 3 ?_;refine wn ?_;refine WS.seq ?_;refine wrg ?_;refine wr 1 ?_;refine wn ?_;refine WS.seq ?_;refine WS.seq ?_;refine wrg ?_;refine wr 1 ?_;refine wn ?_;refine WS.block ?_;refine wcut [some 0] [(0,c1 (.sl 0 l0.length)),(3,c1 (.n x3)),(4,c1 (.n ((wrap64 (x4+1))))),(5,c1 (.n x5)),(6,c1 (.n x6)),(7,c1 (.n 32768)),(8,c1 (.n 0))] [⟨.view 3 l0,0,false⟩] (n2 rfl (n2 rfl (n2 rfl (n2 rfl (n2 rfl (n2 rfl (n2 rfl tv))))))) (n2 rfl tv) (by rw [hnp];rfl) (fun g=>?_);refine WS.loop (fun k1 ρ h=>∃ (g:Nat → SV) (x3:Int) (x4:Int) (x5:Int) (x6:Int) (x7:Int) (x8:Int),k1≤k∧ρ=upds g [(0,c1 (.sl 0 l0.length)),(3,c1 (.n x3)),(4,c1 (.n x4)),(5,c1 (.n x5)),(6,c1 (.n x6)),(7,c1 (.n x7)),(8,c1 (.n x8))]∧h=[⟨.view 3 l0,0,false⟩]∧c04_Error.l1 k1 l0 x3 x4 x5 x6 x7 x8=some r) ?_ (n:=k) ⟨g,_,_,_,_,_,_,Nat.le_refl _,rfl,rfl,H⟩;rintro k ρ h ih11 ⟨g,x3,x4,x5,x6,x7,x8,hkih11,rfl,rfl,H⟩
      rcases k with _ | k
      ·exact nn H
      simp only [c04_Error.l1] at H;refine WS.seq ?_;refine WS.seq ?_;refine wrg ?_;obtain ⟨g12,H⟩:=gd H;obtain ⟨g13,H⟩:=gd H;refine wr 6 ?_;refine wn ?_;refine WS.cond rfl (fun b14=>?_) (fun b14=>?_)
      ·
       rw [ifP b14] at H;replace b14:=dT b14;refine WS.skip ?_;refine WS.seq ?_;refine WS.block ?_;refine wrg ?_;refine wr 3 ?_;refine wn ?_;refine wrg ?_;refine wr 3 ?_;refine wn ?_;refine wcut [some 0] [(0,c1 (.sl 0 l0.length)),(3,c1 (.n x3)),(4,c1 (.n x4)),(5,c1 (.n x5)),(6,c1 (.n x6)),(7,c1 (.n ((wrap64 (Int.tdiv x7 2))))),(8,c1 (.n ((wrap64 (x8+1)))))] [⟨.view 3 l0,0,false⟩] (n2 rfl (n2 rfl (n2 rfl (n2 rfl (n2 rfl (n2 rfl (n2 rfl tv))))))) (n2 rfl tv) (by rw [hnp];rfl) (fun g=>?_);exact ih11 k (by omega) _ _ ⟨g,_,_,_,_,_,_,by omega,rfl,rfl,H⟩
      ·
       rw [ifN b14] at H;replace b14:=dF b14;refine WS.exit ?_;refine wrg ?_;refine wr 4 ?_;refine wn ?_;refine WS.seq ?_;refine wrg ?_;refine wr 5 ?_;refine wn ?_;refine WS.cond rfl (fun b15=>?_) (fun b15=>?_)
       ·
        rw [ifE b15] at H;replace b15:=eq_of_beq b15;refine wrg ?_;refine wr 3 ?_;refine wn ?_;refine wrg ?_;refine wr 3 ?_;refine wn ?_;refine wcut [some 0] [(0,c1 (.sl 0 l0.length)),(3,c1 (.n ((wrap64 (x3+x7))))),(4,c1 (.n x4)),(5,c1 (.n ((wrap64 (x5+1))))),(6,c1 (.n ((wrap64 (x6+1)))))] [⟨.view 3 l0,0,false⟩] (n2 rfl (n2 rfl (n2 rfl (n2 rfl (n2 rfl tv))))) (n2 rfl tv) (by rw [hnp];rfl) (fun g=>?_);exact ih2 k (by omega) _ _ ⟨g,_,_,_,_,by omega,rfl,rfl,H⟩
       ·
        rw [ifEn b15] at H;replace b15:=bF b15;refine WS.skip ?_;refine wrg ?_;refine wr 3 ?_;refine wn ?_;refine wcut [some 0] [(0,c1 (.sl 0 l0.length)),(3,c1 (.n ((wrap64 (x3+x7))))),(4,c1 (.n x4)),(5,c1 (.n x5)),(6,c1 (.n ((wrap64 (x6+1)))))] [⟨.view 3 l0,0,false⟩] (n2 rfl (n2 rfl (n2 rfl (n2 rfl (n2 rfl tv))))) (n2 rfl tv) (by rw [hnp];rfl) (fun g=>?_);exact ih2 k (by omega) _ _ ⟨g,_,_,_,_,by omega,rfl,rfl,H⟩
     ·
      rw [ifN b10] at H;replace b10:=dF b10;refine WS.skip ?_;refine WS.seq ?_;refine wrg ?_;refine wr 5 ?_;refine wn ?_;refine WS.cond rfl (fun b16=>?_) (fun b16=>?_)
      ·
       rw [ifE b16] at H;replace b16:=eq_of_beq b16;refine wrg ?_;refine wr 3 ?_;refine wn ?_;refine wrg ?_;refine wr 3 ?_;refine wn ?_;refine wcut [some 0] [(0,c1 (.sl 0 l0.length)),(3,c1 (.n x3)),(4,c1 (.n x4)),(5,c1 (.n ((wrap64 (x5+1))))),(6,c1 (.n ((wrap64 (x6+1)))))] [⟨.view 3 l0,0,false⟩] (n2 rfl (n2 rfl (n2 rfl (n2 rfl (n2 rfl tv))))) (n2 rfl tv) (by rw [hnp];rfl) (fun g=>?_);exact ih2 k (by omega) _ _ ⟨g,_,_,_,_,by omega,rfl,rfl,H⟩
      ·
       rw [ifEn b16] at H;replace b16:=bF b16;refine WS.skip ?_;refine wrg ?_;refine wr 3 ?_;refine wn ?_;refine wcut [some 0] [(0,c1 (.sl 0 l0.length)),(3,c1 (.n x3)),(4,c1 (.n x4)),(5,c1 (.n x5)),(6,c1 (.n ((wrap64 (x6+1)))))] [⟨.view 3 l0,0,false⟩] (n2 rfl (n2 rfl (n2 rfl (n2 rfl (n2 rfl tv))))) (n2 rfl tv) (by rw [hnp];rfl) (fun g=>?_);exact ih2 k (by omega) _ _ ⟨g,_,_,_,_,by omega,rfl,rfl,H⟩
  ·
   rw [ifN b3] at H;replace b3:=dF b3;refine WS.exit ?_;refine WS.seq ?_;refine WS.seq ?_;refine wrg ?_;refine wr 3 ?_;refine WR.split 59 rfl (fun b17=>?_) (fun b17=>?_)
   ·
    rw [ifE b17] at H;replace b17:=eq_of_beq b17;refine wr 11 ?_;refine wn ?_;refine WS.cond rfl (fun _=>?_) (fun h=>nomatch h);refine WS.seq ?_;refine wrg ?_;refine wr 1 ?_;refine wn ?_;refine WS.ret ?_;cases H;exact ⟨tv,[some 0],_,rfl,rfl,(n2 rfl tv),rfl,rfl,rfl⟩
   ·
    rw [ifEn b17] at H;replace b17:=bF b17;refine wr 4 ?_;refine WR.split 63 rfl (fun b19=>?_) (fun b19=>?_)
    ·
     rw [ifE b19] at H;replace b19:=eq_of_beq b19;refine wr 7 ?_;refine wn ?_;refine WS.cond rfl (fun _=>?_) (fun h=>nomatch h);refine WS.seq ?_;refine wrg ?_;refine wr 1 ?_;refine wn ?_;refine WS.ret ?_;cases H;exact ⟨tv,[some 0],_,rfl,rfl,(n2 rfl tv),rfl,rfl,rfl⟩
    ·
     rw [ifEn b19] at H;replace b19:=bF b19;refine wr 3 ?_;refine WR.split 66 rfl (fun b21=>?_) (fun b21=>?_)
     ·
      rw [ifE b21] at H;replace b21:=eq_of_beq b21;refine wr 4 ?_;refine wn ?_;refine WS.cond rfl (fun b22=>?_) (fun b22=>?_)
      ·
       rw [ifE b22] at H;replace b22:=eq_of_beq b22;refine WS.seq ?_;refine wrg ?_;refine wr 1 ?_;refine wn ?_;refine WS.ret ?_;cases H;exact ⟨tv,[some 0],_,rfl,rfl,(n2 rfl tv),rfl,rfl,rfl⟩
      ·
       rw [ifEn b22] at H;replace b22:=bF b22;refine WS.skip ?_;refine WS.seq ?_;refine wrg ?_;refine wr 1 ?_;refine wn ?_;refine WS.ret ?_;cases H;exact ⟨tv,[some 0],_,rfl,rfl,(n2 rfl tv),rfl,rfl,rfl⟩
     ·
      rw [ifEn b21] at H;replace b21:=bF b21;refine wr 4 ?_;refine wn ?_;refine WS.cond rfl (fun h=>nomatch h) (fun _=>?_);refine WS.skip ?_;refine WS.seq ?_;refine wrg ?_;refine wr 1 ?_;refine wn ?_;refine WS.ret ?_;cases H;exact ⟨tv,[some 0],_,rfl,rfl,(n2 rfl tv),rfl,rfl,rfl⟩
theorem ref04_Codes_sp (k:Nat) (l0:List Int) (r:List Int) (H:c04_Codes.f k l0=some r):Sp (KT:=kt) Try.prog O 29 [c1 (.sl 0 l0.length)] [⟨.view 3 l0,0,false⟩] (c1 (.sl 1 r.length)) [⟨.view 3 l0,0,false⟩,⟨.own 3 r,1,true⟩]:=by
 refine Sp.of tok (by kernel_rfl) Try.func29 rfl rfl fun Γ hnp=>?_;unfold c04_Codes.f at H;refine WS.seq ?_;refine wrg ?_;refine wr 1 ?_;refine wn ?_;refine WS.seq ?_;refine wrg ?_;obtain ⟨g1,H⟩:=gd H;obtain ⟨g2,H⟩:=gd H;refine wr 4 ?_;refine wn ?_;refine WS.seq ?_;refine WS.seq ?_;refine wrg ?_;refine wr 1 ?_;refine wn ?_;refine WS.block ?_;refine wcut [some 0,some 1] [(0,c1 (.sl 0 l0.length)),(3,c1 (.sl 1 ((List.replicate ((l0.length:Int):Int).toNat 0)).length)),(4,c1 (.n 0))] [⟨.view 3 l0,0,false⟩,⟨.own 3 (((List.replicate ((l0.length:Int):Int).toNat 0)):List Int),1,true⟩] (n2 rfl (n2 rfl (n2 rfl tv))) (n2 rfl (n2 (rw_ rfl rfl) tv)) (by rw [hnp];rfl) (fun g=>?_);refine WS.loop (fun k1 ρ h=>∃ (g:Nat → SV) (x3:List Int) (x4:Int),k1≤k∧ρ=upds g [(0,c1 (.sl 0 l0.length)),(3,c1 (.sl 1 x3.length)),(4,c1 (.n x4))]∧h=[⟨.view 3 l0,0,false⟩,⟨.own 3 x3,1,true⟩]∧c04_Codes.l0 k1 l0 x3 x4=some r) ?_ (n:=k) ⟨g,_,_,Nat.le_refl _,rfl,rfl,H⟩;rintro k ρ h ih3 ⟨g,x3,x4,hkih3,rfl,rfl,H⟩
 rcases k with _ | k
 ·exact nn H
 simp only [c04_Codes.l0] at H;refine WS.seq ?_;refine WS.seq ?_;refine wrg ?_;refine wr 4 ?_;refine wn ?_;refine WS.cond rfl (fun b4=>?_) (fun b4=>?_)
 ·
  rw [ifP b4] at H;replace b4:=dT b4;refine WS.skip ?_;refine WS.seq ?_;refine WS.block ?_;refine WS.seq ?_;refine WS.seq ?_;refine wrg ?_;obtain ⟨g5,H⟩:=gd H;refine wr 5 ?_;refine wn ?_;refine WS.cond rfl (fun b6=>?_) (fun b6=>?_)
  ·
   rw [ifE b6] at H;replace b6:=eq_of_beq b6;refine WS.exit ?_;refine wrg ?_;refine wr 3 ?_;refine wn ?_;refine wcut [some 0,some 1] [(0,c1 (.sl 0 l0.length)),(3,c1 (.sl 1 x3.length)),(4,c1 (.n ((wrap64 (x4+1)))))] [⟨.view 3 l0,0,false⟩,⟨.own 3 x3,1,true⟩] (n2 rfl (n2 rfl (n2 rfl tv))) (n2 rfl (n2 (rw_ rfl rfl) tv)) (by rw [hnp];rfl) (fun g=>?_);exact ih3 k (by omega) _ _ ⟨g,_,_,by omega,rfl,rfl,H⟩
  ·
   rw [ifEn b6] at H;replace b6:=bF b6;refine WS.skip ?_;refine WS.seq ?_;refine wrg ?_;refine wr 1 ?_;refine wn ?_;refine WS.seq ?_;refine WS.seq ?_;refine wrg ?_;refine wr 1 ?_;refine wn ?_;refine WS.block ?_;refine wcut [some 0,some 1] [(0,c1 (.sl 0 l0.length)),(3,c1 (.sl 1 x3.length)),(4,c1 (.n x4)),(5,c1 (.n 0)),(6,c1 (.n 0))] [⟨.view 3 l0,0,false⟩,⟨.own 3 x3,1,true⟩] (n2 rfl (n2 rfl (n2 rfl (n2 rfl (n2 rfl tv))))) (n2 rfl (n2 (rw_ rfl rfl) tv)) (by rw [hnp];rfl) (fun g=>?_);refine WS.loop (fun k1 ρ h=>∃ (g:Nat → SV) (x3:List Int) (x4:Int) (x5:Int) (x6:Int),k1≤k∧ρ=upds g [(0,c1 (.sl 0 l0.length)),(3,c1 (.sl 1 x3.length)),(4,c1 (.n x4)),(5,c1 (.n x5)),(6,c1 (.n x6))]∧h=[⟨.view 3 l0,0,false⟩,⟨.own 3 x3,1,true⟩]∧c04_Codes.l1 k1 l0 x3 x4 x5 x6=some r) ?_ (n:=k) ⟨g,_,_,_,_,Nat.le_refl _,rfl,rfl,H⟩;rintro k ρ h ih7 ⟨g,x3,x4,x5,x6,hkih7,rfl,rfl,H⟩
   rcases k with _ | k
   ·exact nn H
   simp only [c04_Codes.l1] at H;refine WS.seq ?_;refine WS.seq ?_;refine wrg ?_;refine wr 4 ?_;refine wn ?_;refine WS.cond rfl (fun b8=>?_) (fun b8=>?_)
   ·
    rw [ifP b8] at H;replace b8:=dT b8;refine WS.skip ?_;refine WS.seq ?_;refine WS.block ?_;refine WS.join (fun ρ h=>∃ k1,∃ (g:Nat → SV) (x3:List Int) (x4:Int) (x5:Int) (x6:Int) (x61:Bool),k1≤k∧ρ=upds g [(0,c1 (.sl 0 l0.length)),(3,c1 (.sl 1 x3.length)),(4,c1 (.n x4)),(5,c1 (.n x5)),(6,c1 (.n x6)),(61,c1 (.bool x61))]∧h=[⟨.view 3 l0,0,false⟩,⟨.own 3 x3,1,true⟩]∧c04_Codes.j2 k1 l0 x3 x4 x5 x6 x61=some r) ?_ ?_
    ·
     refine wrg ?_;obtain ⟨g9,H⟩:=gd H;refine wr 6 ?_;refine WR.split 35 rfl (fun b10=>?_) (fun b10=>?_)
     ·
      rw [ifP b10] at H;replace b10:=dT b10;obtain ⟨g11,H⟩:=gd H;obtain ⟨g12,H⟩:=gd H;refine wr 10 ?_;refine WR.split 45 rfl (fun b13=>?_) (fun b13=>?_)
      ·
       rw [ifP b13] at H;replace b13:=dT b13;refine wr 16 ?_;refine wn ?_;intro kk;refine wcut [some 0,some 1] [(0,c1 (.sl 0 l0.length)),(3,c1 (.sl 1 x3.length)),(4,c1 (.n x4)),(5,c1 (.n x5)),(6,c1 (.n x6)),(61,c1 (.bool true))] [⟨.view 3 l0,0,false⟩,⟨.own 3 x3,1,true⟩] (n2 rfl (n2 rfl (n2 rfl (n2 rfl (n2 rfl (n2 rfl tv)))))) (n2 rfl (n2 (rw_ rfl rfl) tv)) (by rw [hnp];rfl) (fun g=>?_);exact kk _ _ ⟨_,g,_,_,_,_,_,by omega,rfl,rfl,H⟩
      ·
       rw [ifN b13] at H;replace b13:=dF b13;refine wr 10 ?_;refine WR.split 55 rfl (fun b14=>?_) (fun b14=>?_)
       ·
        rw [ifE b14] at H;replace b14:=eq_of_beq b14;refine wr 6 ?_;refine wn ?_;intro kk;refine wcut [some 0,some 1] [(0,c1 (.sl 0 l0.length)),(3,c1 (.sl 1 x3.length)),(4,c1 (.n x4)),(5,c1 (.n x5)),(6,c1 (.n x6)),(61,c1 (.bool ((decide (x6 < x4)))))] [⟨.view 3 l0,0,false⟩,⟨.own 3 x3,1,true⟩] (n2 rfl (n2 rfl (n2 rfl (n2 rfl (n2 rfl (n2 rfl tv)))))) (n2 rfl (n2 (rw_ rfl rfl) tv)) (by rw [hnp];rfl) (fun g=>?_);exact kk _ _ ⟨_,g,_,_,_,_,_,by omega,rfl,rfl,H⟩
       ·
        rw [ifEn b14] at H;replace b14:=bF b14;refine wr 6 ?_;refine wn ?_;intro kk;refine wcut [some 0,some 1] [(0,c1 (.sl 0 l0.length)),(3,c1 (.sl 1 x3.length)),(4,c1 (.n x4)),(5,c1 (.n x5)),(6,c1 (.n x6)),(61,c1 (.bool false))] [⟨.view 3 l0,0,false⟩,⟨.own 3 x3,1,true⟩] (n2 rfl (n2 rfl (n2 rfl (n2 rfl (n2 rfl (n2 rfl tv)))))) (n2 rfl (n2 (rw_ rfl rfl) tv)) (by rw [hnp];rfl) (fun g=>?_);exact kk _ _ ⟨_,g,_,_,_,_,_,by omega,rfl,rfl,H⟩
     ·
      rw [ifN b10] at H;replace b10:=dF b10;refine wr 26 ?_;refine wn ?_;intro kk;refine wcut [some 0,some 1] [(0,c1 (.sl 0 l0.length)),(3,c1 (.sl 1 x3.length)),(4,c1 (.n x4)),(5,c1 (.n x5)),(6,c1 (.n x6)),(61,c1 (.bool false))] [⟨.view 3 l0,0,false⟩,⟨.own 3 x3,1,true⟩] (n2 rfl (n2 rfl (n2 rfl (n2 rfl (n2 rfl (n2 rfl tv)))))) (n2 rfl (n2 (rw_ rfl rfl) tv)) (by rw [hnp];rfl) (fun g=>?_);exact kk _ _ ⟨_,g,_,_,_,_,_,by omega,rfl,rfl,H⟩
    rintro ρ h ⟨k,g,x3,x4,x5,x6,x61,hk15,rfl,rfl,H⟩
    rcases k with _ | k
    ·exact nn H
    simp only [c04_Codes.j2] at H;refine WS.cond rfl (fun b16=>?_) (fun b16=>?_)
    ·
     rw [ifB b16] at H;refine WS.seq ?_;refine wrg ?_;refine wr 1 ?_;refine wn ?_;refine WS.seq ?_;refine WS.seq ?_;refine wrg ?_;refine wr 1 ?_;refine wn ?_;refine WS.block ?_;refine wcut [some 0,some 1] [(0,c1 (.sl 0 l0.length)),(3,c1 (.sl 1 x3.length)),(4,c1 (.n x4)),(5,c1 (.n x5)),(6,c1 (.n x6)),(7,c1 (.n 32768)),(8,c1 (.n 0))] [⟨.view 3 l0,0,false⟩,⟨.own 3 x3,1,true⟩] (n2 rfl (n2 rfl (n2 rfl (n2 rfl (n2 rfl (n2 rfl (n2 rfl tv))))))) (n2 rfl (n2 (rw_ rfl rfl) tv)) (by rw [hnp];rfl) (fun g=>?_);refine WS.loop (fun k1 ρ h=>∃ (g:Nat → SV) (x3:List Int) (x4:Int) (x5:Int) (x6:Int) (x7:Int) (x8:Int),k1≤k∧ρ=upds g [(0,c1 (.sl 0 l0.length)),(3,c1 (.sl 1 x3.length)),(4,c1 (.n x4)),(5,c1 (.n x5)),(6,c1 (.n x6)),(7,c1 (.n x7)),(8,c1 (.n x8))]∧h=[⟨.view 3 l0,0,false⟩,⟨.own 3 x3,1,true⟩]∧c04_Codes.l2 k1 l0 x3 x4 x5 x6 x7 x8=some r) ?_ (n:=k) ⟨g,_,_,_,_,_,_,Nat.le_refl _,rfl,rfl,H⟩;rintro k ρ h ih17 ⟨g,x3,x4,x5,x6,x7,x8,hkih17,rfl,rfl,H⟩
     rcases k with _ | k
     ·exact nn H
     simp only [c04_Codes.l2] at H;refine WS.seq ?_;refine WS.seq ?_;refine wrg ?_;obtain ⟨g18,H⟩:=gd H;obtain ⟨g19,H⟩:=gd H;refine wr 6 ?_;refine wn ?_;refine WS.cond rfl (fun b20=>?_) (fun b20=>?_)
     ·
      rw [ifP b20] at H;replace b20:=dT b20;refine WS.skip ?_;refine WS.seq ?_;refine WS.block ?_;refine wrg ?_;refine wr 3 ?_;refine wn ?_;refine wrg ?_;refine wr 3 ?_;refine wn ?_;refine wcut [some 0,some 1] [(0,c1 (.sl 0 l0.length)),(3,c1 (.sl 1 x3.length)),(4,c1 (.n x4)),(5,c1 (.n x5)),(6,c1 (.n x6)),(7,c1 (.n ((wrap64 (Int.tdiv x7 2))))),(8,c1 (.n ((wrap64 (x8+1)))))] [⟨.view 3 l0,0,false⟩,⟨.own 3 x3,1,true⟩] (n2 rfl (n2 rfl (n2 rfl (n2 rfl (n2 rfl (n2 rfl (n2 rfl tv))))))) (n2 rfl (n2 (rw_ rfl rfl) tv)) (by rw [hnp];rfl) (fun g=>?_);exact ih17 k (by omega) _ _ ⟨g,_,_,_,_,_,_,by omega,rfl,rfl,H⟩
     ·
      rw [ifN b20] at H;replace b20:=dF b20;refine WS.exit ?_;refine wrg ?_;refine wr 4 ?_;refine wn ?_;refine wrg ?_;refine wr 3 ?_;refine wn ?_;refine wcut [some 0,some 1] [(0,c1 (.sl 0 l0.length)),(3,c1 (.sl 1 x3.length)),(4,c1 (.n x4)),(5,c1 (.n ((wrap64 (x5+x7))))),(6,c1 (.n ((wrap64 (x6+1)))))] [⟨.view 3 l0,0,false⟩,⟨.own 3 x3,1,true⟩] (n2 rfl (n2 rfl (n2 rfl (n2 rfl (n2 rfl tv))))) (n2 rfl (n2 (rw_ rfl rfl) tv)) (by rw [hnp];rfl) (fun g=>?_);exact ih7 k (by omega) _ _ ⟨g,_,_,_,_,by omega,rfl,rfl,H⟩
    ·
     rw [ifBn b16] at H;refine WS.skip ?_;refine wrg ?_;refine wr 3 ?_;refine wn ?_;refine wcut [some 0,some 1] [(0,c1 (.sl 0 l0.length)),(3,c1 (.sl 1 x3.length)),(4,c1 (.n x4)),(5,c1 (.n x5)),(6,c1 (.n ((wrap64 (x6+1)))))] [⟨.view 3 l0,0,false⟩,⟨.own 3 x3,1,true⟩] (n2 rfl (n2 rfl (n2 rfl (n2 rfl (n2 rfl tv))))) (n2 rfl (n2 (rw_ rfl rfl) tv)) (by rw [hnp];rfl) (fun g=>?_);exact ih7 k (by omega) _ _ ⟨g,_,_,_,_,by omega,rfl,rfl,H⟩
   ·
    rw [ifN b8] at H;replace b8:=dF b8;refine WS.exit ?_;refine WS.seq ?_;refine WS.seq ?_;refine wrg ?_;obtain ⟨g21,H⟩:=gd H;obtain ⟨g22,H⟩:=gd H;refine wr 5 ?_;refine wn ?_;refine WS.block ?_;refine wcut [some 0,some 1] [(0,c1 (.sl 0 l0.length)),(3,c1 (.sl 1 x3.length)),(4,c1 (.n x4)),(5,c1 (.n x5)),(9,c1 (.n ((rd l0 x4))))] [⟨.view 3 l0,0,false⟩,⟨.own 3 x3,1,true⟩] (n2 rfl (n2 rfl (n2 rfl (n2 rfl (n2 rfl tv))))) (n2 rfl (n2 (rw_ rfl rfl) tv)) (by rw [hnp];rfl) (fun g=>?_);refine WS.loop (fun k1 ρ h=>∃ (g:Nat → SV) (x3:List Int) (x4:Int) (x5:Int) (x9:Int),k1≤k∧ρ=upds g [(0,c1 (.sl 0 l0.length)),(3,c1 (.sl 1 x3.length)),(4,c1 (.n x4)),(5,c1 (.n x5)),(9,c1 (.n x9))]∧h=[⟨.view 3 l0,0,false⟩,⟨.own 3 x3,1,true⟩]∧c04_Codes.l3 k1 l0 x3 x4 x5 x9=some r) ?_ (n:=k) ⟨g,_,_,_,_,Nat.le_refl _,rfl,rfl,H⟩;rintro k ρ h ih23 ⟨g,x3,x4,x5,x9,hkih23,rfl,rfl,H⟩
    rcases k with _ | k
    ·exact nn H
    simp only [c04_Codes.l3] at H;refine WS.seq ?_;refine WS.seq ?_;refine wrg ?_;refine wr 2 ?_;refine wn ?_;refine WS.cond rfl (fun b24=>?_) (fun b24=>?_)
    ·
     rw [ifP b24] at H;replace b24:=dT b24;refine WS.skip ?_;refine WS.seq ?_;refine WS.block ?_;refine wrg ?_;refine wr 3 ?_;refine wn ?_;refine wrg ?_;refine wr 3 ?_;refine wn ?_;refine wcut [some 0,some 1] [(0,c1 (.sl 0 l0.length)),(3,c1 (.sl 1 x3.length)),(4,c1 (.n x4)),(5,c1 (.n ((wrap64 (Int.tdiv x5 2))))),(9,c1 (.n ((wrap64 (x9+1)))))] [⟨.view 3 l0,0,false⟩,⟨.own 3 x3,1,true⟩] (n2 rfl (n2 rfl (n2 rfl (n2 rfl (n2 rfl tv))))) (n2 rfl (n2 (rw_ rfl rfl) tv)) (by rw [hnp];rfl) (fun g=>?_);exact ih23 k (by omega) _ _ ⟨g,_,_,_,_,by omega,rfl,rfl,H⟩
    ·
     rw [ifN b24] at H;replace b24:=dF b24;refine WS.exit ?_;refine wrg ?_;obtain ⟨g25,H⟩:=gd H;obtain ⟨g26,H⟩:=gd H;refine wr 5 ?_;refine wn ?_;refine wrg ?_;refine wr 3 ?_;refine wn ?_;refine wcut [some 0,some 1] [(0,c1 (.sl 0 l0.length)),(3,c1 (.sl 1 ((x3.set (x4:Int).toNat x5)).length)),(4,c1 (.n ((wrap64 (x4+1)))))] [⟨.view 3 l0,0,false⟩,⟨.own 3 (((x3.set (x4:Int).toNat x5)):List Int),1,true⟩] (n2 rfl (n2 (sl_ rfl rfl (by simp)) (n2 rfl tv))) (n2 rfl (n2 (rw_ rfl rfl) tv)) (by rw [hnp];rfl) (fun g=>?_);exact ih3 k (by omega) _ _ ⟨g,_,_,by omega,rfl,rfl,H⟩
 ·
  rw [ifN b4] at H;replace b4:=dF b4;refine WS.exit ?_;refine WS.seq ?_;refine wrg ?_;refine wr 2 ?_;refine wn ?_;refine WS.ret ?_;cases H;exact ⟨tv,[some 0,some 1],_,rfl,rfl,(n2 rfl (n2 (rw_ rfl rfl) tv)),rfl,rfl,rfl⟩
theorem ref04_Next_sp (k:Nat) (l0:List Int) (a1:ByteArray) (a2:Int) (r:Int × Int × Int) (H:c04_Next.f k l0 a1 a2=some r):Sp (KT:=kt) Try.prog O 31 [c1 (.sl 0 l0.length),c1 (.str a1),c1 (.n a2)] [⟨.view 3 l0,0,false⟩] (.t [.c (.n r.1),.c (.n r.2.1),.c (.n r.2.2)]) [⟨.view 3 l0,0,false⟩]:=by
 refine Sp.of tok (by kernel_rfl) Try.func31 rfl rfl fun Γ hnp=>?_;unfold c04_Next.f at H;refine WS.seq ?_;refine wrg ?_;refine wr 3 ?_;refine wn ?_;refine WS.seq ?_;refine WS.seq ?_;refine wrg ?_;refine wr 2 ?_;refine wn ?_;refine WS.cond rfl (fun b1=>?_) (fun b1=>?_)
 ·
  rw [ifP b1] at H;replace b1:=dT b1;refine WS.seq ?_;refine wrg ?_;refine wr 3 ?_;refine wn ?_;refine WS.ret ?_;cases H;exact ⟨tv,[some 0],_,rfl,rfl,(n2 rfl tv),rfl,rfl,rfl⟩
 ·
  rw [ifN b1] at H;replace b1:=dF b1;refine WS.skip ?_;refine WS.seq ?_;refine wrg ?_;refine wr 1 ?_;obtain ⟨Qa,ht153,H⟩:=bd H;refine WR.call (ref04_Codes_sp _ _ _ ht153) [some 0] rfl rfl rfl rfl rfl (n2 rfl tv) rfl rfl rfl rfl rfl ?_;refine wr 1 ?_;refine wn ?_;refine WS.seq ?_;refine wrg ?_;refine wr 1 ?_;refine wn ?_;refine WS.seq ?_;refine WS.seq ?_;refine wrg ?_;refine wr 1 ?_;refine wn ?_;refine WS.block ?_;refine wcut [some 0,some 1] [(0,c1 (.sl 0 l0.length)),(1,c1 (.str a1)),(2,c1 (.n a2)),(9,c1 (.sl 1 Qa.length)),(10,c1 (.n 0)),(11,c1 (.n 0))] [⟨.view 3 l0,0,false⟩,⟨.own 3 Qa,1,true⟩] (n2 rfl (n2 rfl (n2 rfl (n2 rfl (n2 rfl (n2 rfl tv)))))) (n2 rfl (n2 (rw_ rfl rfl) tv)) (by rw [hnp];rfl) (fun g=>?_);refine WS.loop (fun k1 ρ h=>∃ (g:Nat → SV) (x9:List Int) (x10:Int) (x11:Int),k1≤k∧ρ=upds g [(0,c1 (.sl 0 l0.length)),(1,c1 (.str a1)),(2,c1 (.n a2)),(9,c1 (.sl 1 x9.length)),(10,c1 (.n x10)),(11,c1 (.n x11))]∧h=[⟨.view 3 l0,0,false⟩,⟨.own 3 x9,1,true⟩]∧c04_Next.l0 k1 l0 a1 a2 x9 x10 x11=some r) ?_ (n:=k) ⟨g,_,_,_,Nat.le_refl _,rfl,rfl,H⟩;rintro k ρ h ih2 ⟨g,x9,x10,x11,hkih2,rfl,rfl,H⟩
  rcases k with _ | k
  ·exact nn H
  simp only [c04_Next.l0] at H;refine WS.seq ?_;refine WS.seq ?_;refine wrg ?_;refine wr 2 ?_;refine wn ?_;refine WS.cond rfl (fun b3=>?_) (fun b3=>?_)
  ·
   rw [ifP b3] at H;replace b3:=dT b3;refine WS.skip ?_;refine WS.seq ?_;refine WS.block ?_;refine WS.seq ?_;refine wrg ?_;refine wr 1 ?_;refine wn ?_;refine WS.seq ?_;refine WS.seq ?_;refine wrg ?_;refine wr 1 ?_;refine wn ?_;refine WS.block ?_;refine wcut [some 0,some 1] [(0,c1 (.sl 0 l0.length)),(1,c1 (.str a1)),(2,c1 (.n a2)),(9,c1 (.sl 1 x9.length)),(10,c1 (.n x10)),(11,c1 (.n x11)),(12,c1 (.bool false)),(13,c1 (.n 0))] [⟨.view 3 l0,0,false⟩,⟨.own 3 x9,1,true⟩] (n2 rfl (n2 rfl (n2 rfl (n2 rfl (n2 rfl (n2 rfl (n2 rfl (n2 rfl tv)))))))) (n2 rfl (n2 (rw_ rfl rfl) tv)) (by rw [hnp];rfl) (fun g=>?_);refine WS.loop (fun k1 ρ h=>∃ (g:Nat → SV) (x9:List Int) (x10:Int) (x11:Int) (x12:Bool) (x13:Int),k1≤k∧ρ=upds g [(0,c1 (.sl 0 l0.length)),(1,c1 (.str a1)),(2,c1 (.n a2)),(9,c1 (.sl 1 x9.length)),(10,c1 (.n x10)),(11,c1 (.n x11)),(12,c1 (.bool x12)),(13,c1 (.n x13))]∧h=[⟨.view 3 l0,0,false⟩,⟨.own 3 x9,1,true⟩]∧c04_Next.l1 k1 l0 a1 a2 x9 x10 x11 x12 x13=some r) ?_ (n:=k) ⟨g,_,_,_,_,_,Nat.le_refl _,rfl,rfl,H⟩;rintro k ρ h ih4 ⟨g,x9,x10,x11,x12,x13,hkih4,rfl,rfl,H⟩
   rcases k with _ | k
   ·exact nn H
   simp only [c04_Next.l1] at H;refine WS.seq ?_;refine WS.seq ?_;refine wrg ?_;refine wr 4 ?_;refine wn ?_;refine WS.cond rfl (fun b5=>?_) (fun b5=>?_)
   ·
    rw [ifP b5] at H;replace b5:=dT b5;refine WS.skip ?_;refine WS.seq ?_;refine WS.block ?_;refine WS.seq ?_;refine WS.seq ?_;refine wrg ?_;obtain ⟨g6,H⟩:=gd H;refine wr 7 ?_;refine WR.split 37 rfl (fun b7=>?_) (fun b7=>?_)
    ·
     rw [ifP b7] at H;replace b7:=dT b7;refine wr 6 ?_;refine wn ?_;replace H:c04_Next.j2 k ..=some _:=H
     rcases k with _ | k
     ·exact nn H
     simp only [c04_Next.j2] at H;(first | rw [ifT] at H | rw [ifB rfl] at H);refine WS.cond rfl (fun _=>?_) (fun h=>nomatch h);refine WS.exit ?_;refine wrg ?_;refine wr 3 ?_;refine wn ?_;refine wcut [some 0,some 1] [(0,c1 (.sl 0 l0.length)),(1,c1 (.str a1)),(2,c1 (.n a2)),(9,c1 (.sl 1 x9.length)),(10,c1 (.n x10)),(11,c1 (.n x11)),(12,c1 (.bool x12)),(13,c1 (.n ((wrap64 (x13+1)))))] [⟨.view 3 l0,0,false⟩,⟨.own 3 x9,1,true⟩] (n2 rfl (n2 rfl (n2 rfl (n2 rfl (n2 rfl (n2 rfl (n2 rfl (n2 rfl tv)))))))) (n2 rfl (n2 (rw_ rfl rfl) tv)) (by rw [hnp];rfl) (fun g=>?_);exact ih4 k (by omega) _ _ ⟨g,_,_,_,_,_,by omega,rfl,rfl,H⟩
    ·
     rw [ifN b7] at H;replace b7:=dF b7;replace H:c04_Next.j2 k ..=some _:=H
     rcases k with _ | k
     ·exact nn H
     simp only [c04_Next.j2] at H;refine wr 6 ?_;refine wn ?_;refine WS.cond rfl (fun b9=>?_) (fun b9=>?_)
     ·
      rw [ifB b9] at H;refine WS.exit ?_;refine wrg ?_;refine wr 3 ?_;refine wn ?_;refine wcut [some 0,some 1] [(0,c1 (.sl 0 l0.length)),(1,c1 (.str a1)),(2,c1 (.n a2)),(9,c1 (.sl 1 x9.length)),(10,c1 (.n x10)),(11,c1 (.n x11)),(12,c1 (.bool x12)),(13,c1 (.n ((wrap64 (x13+1)))))] [⟨.view 3 l0,0,false⟩,⟨.own 3 x9,1,true⟩] (n2 rfl (n2 rfl (n2 rfl (n2 rfl (n2 rfl (n2 rfl (n2 rfl (n2 rfl tv)))))))) (n2 rfl (n2 (rw_ rfl rfl) tv)) (by rw [hnp];rfl) (fun g=>?_);exact ih4 k (by omega) _ _ ⟨g,_,_,_,_,_,by omega,rfl,rfl,H⟩
     ·
      rw [ifBn b9] at H;refine WS.skip ?_;refine WS.seq ?_;refine wrg ?_;obtain ⟨g10,H⟩:=gd H;obtain ⟨g11,H⟩:=gd H;refine wr 5 ?_;refine wn ?_;refine WS.seq ?_;refine WS.seq ?_;refine wrg ?_;refine wr 2 ?_;refine wn ?_;refine WS.block ?_;refine wcut [some 0,some 1] [(0,c1 (.sl 0 l0.length)),(1,c1 (.str a1)),(2,c1 (.n a2)),(9,c1 (.sl 1 x9.length)),(10,c1 (.n x10)),(11,c1 (.n x11)),(12,c1 (.bool x12)),(13,c1 (.n x13)),(14,c1 (.n ((rd x9 x13)))),(15,c1 (.n x11))] [⟨.view 3 l0,0,false⟩,⟨.own 3 x9,1,true⟩] (n2 rfl (n2 rfl (n2 rfl (n2 rfl (n2 rfl (n2 rfl (n2 rfl (n2 rfl (n2 rfl (n2 rfl tv)))))))))) (n2 rfl (n2 (rw_ rfl rfl) tv)) (by rw [hnp];rfl) (fun g=>?_);refine WS.loop (fun k1 ρ h=>∃ (g:Nat → SV) (x9:List Int) (x10:Int) (x11:Int) (x12:Bool) (x13:Int) (x14:Int) (x15:Int),k1≤k∧ρ=upds g [(0,c1 (.sl 0 l0.length)),(1,c1 (.str a1)),(2,c1 (.n a2)),(9,c1 (.sl 1 x9.length)),(10,c1 (.n x10)),(11,c1 (.n x11)),(12,c1 (.bool x12)),(13,c1 (.n x13)),(14,c1 (.n x14)),(15,c1 (.n x15))]∧h=[⟨.view 3 l0,0,false⟩,⟨.own 3 x9,1,true⟩]∧c04_Next.l2 k1 l0 a1 a2 x9 x10 x11 x12 x13 x14 x15=some r) ?_ (n:=k) ⟨g,_,_,_,_,_,_,_,Nat.le_refl _,rfl,rfl,H⟩;rintro k ρ h ih12 ⟨g,x9,x10,x11,x12,x13,x14,x15,hkih12,rfl,rfl,H⟩
      rcases k with _ | k
      ·exact nn H
      simp only [c04_Next.l2] at H;refine WS.seq ?_;refine WS.seq ?_;refine wrg ?_;obtain ⟨g13,H⟩:=gd H;obtain ⟨g14,H⟩:=gd H;refine wr 6 ?_;refine wn ?_;refine WS.cond rfl (fun b15=>?_) (fun b15=>?_)
      ·
       rw [ifP b15] at H;replace b15:=dT b15;refine WS.skip ?_;refine WS.seq ?_;refine WS.block ?_;refine wrg ?_;refine wr 3 ?_;refine wn ?_;refine wrg ?_;refine wr 3 ?_;refine wn ?_;refine wcut [some 0,some 1] [(0,c1 (.sl 0 l0.length)),(1,c1 (.str a1)),(2,c1 (.n a2)),(9,c1 (.sl 1 x9.length)),(10,c1 (.n x10)),(11,c1 (.n x11)),(12,c1 (.bool x12)),(13,c1 (.n x13)),(14,c1 (.n ((wrap64 (Int.tdiv x14 2))))),(15,c1 (.n ((wrap64 (x15+1)))))] [⟨.view 3 l0,0,false⟩,⟨.own 3 x9,1,true⟩] (n2 rfl (n2 rfl (n2 rfl (n2 rfl (n2 rfl (n2 rfl (n2 rfl (n2 rfl (n2 rfl (n2 rfl tv)))))))))) (n2 rfl (n2 (rw_ rfl rfl) tv)) (by rw [hnp];rfl) (fun g=>?_);exact ih12 k (by omega) _ _ ⟨g,_,_,_,_,_,_,_,by omega,rfl,rfl,H⟩
      ·
       rw [ifN b15] at H;replace b15:=dF b15;refine WS.exit ?_;refine WS.seq ?_;refine WS.seq ?_;refine wrg ?_;refine wr 3 ?_;refine wn ?_;refine WS.cond rfl (fun b16=>?_) (fun b16=>?_)
       ·
        rw [ifX b16] at H;replace b16:=nT b16;refine WS.exit ?_;refine wrg ?_;refine wr 3 ?_;refine wn ?_;refine wcut [some 0,some 1] [(0,c1 (.sl 0 l0.length)),(1,c1 (.str a1)),(2,c1 (.n a2)),(9,c1 (.sl 1 x9.length)),(10,c1 (.n x10)),(11,c1 (.n x11)),(12,c1 (.bool x12)),(13,c1 (.n ((wrap64 (x13+1)))))] [⟨.view 3 l0,0,false⟩,⟨.own 3 x9,1,true⟩] (n2 rfl (n2 rfl (n2 rfl (n2 rfl (n2 rfl (n2 rfl (n2 rfl (n2 rfl tv)))))))) (n2 rfl (n2 (rw_ rfl rfl) tv)) (by rw [hnp];rfl) (fun g=>?_);exact ih4 k (by omega) _ _ ⟨g,_,_,_,_,_,by omega,rfl,rfl,H⟩
       ·
        rw [ifXn b16] at H;replace b16:=nF b16;refine WS.skip ?_;refine WS.seq ?_;refine WS.seq ?_;refine wrg ?_;refine wr 6 ?_;refine wn ?_;refine WS.cond rfl (fun b17=>?_) (fun b17=>?_)
        ·
         rw [ifE b17] at H;replace b17:=eq_of_beq b17;refine WS.seq ?_;refine wrg ?_;refine wr 7 ?_;refine wn ?_;refine WS.ret ?_;cases H;exact ⟨tv,[some 0],_,rfl,rfl,(n2 rfl tv),rfl,rfl,rfl⟩
        ·
         rw [ifEn b17] at H;replace b17:=bF b17;refine WS.skip ?_;refine wrg ?_;refine wr 1 ?_;refine wn ?_;refine wrg ?_;refine wr 3 ?_;refine wn ?_;refine wcut [some 0,some 1] [(0,c1 (.sl 0 l0.length)),(1,c1 (.str a1)),(2,c1 (.n a2)),(9,c1 (.sl 1 x9.length)),(10,c1 (.n x10)),(11,c1 (.n x11)),(12,c1 (.bool true)),(13,c1 (.n ((wrap64 (x13+1)))))] [⟨.view 3 l0,0,false⟩,⟨.own 3 x9,1,true⟩] (n2 rfl (n2 rfl (n2 rfl (n2 rfl (n2 rfl (n2 rfl (n2 rfl (n2 rfl tv)))))))) (n2 rfl (n2 (rw_ rfl rfl) tv)) (by rw [hnp];rfl) (fun g=>?_);exact ih4 k (by omega) _ _ ⟨g,_,_,_,_,_,by omega,rfl,rfl,H⟩
   ·
    rw [ifN b5] at H;replace b5:=dF b5;refine WS.exit ?_;refine WS.seq ?_;refine WS.seq ?_;refine wrg ?_;refine wr 2 ?_;refine wn ?_;refine WS.cond rfl (fun b18=>?_) (fun b18=>?_)
    ·
     rw [ifZ b18] at H;refine WS.seq ?_;refine wrg ?_;refine wr 3 ?_;refine wn ?_;refine WS.ret ?_;cases H;exact ⟨tv,[some 0],_,rfl,rfl,(n2 rfl tv),rfl,rfl,rfl⟩
    ·
     rw [ifZn b18] at H;refine WS.skip ?_;refine WS.seq ?_;refine wrg ?_;refine wr 4 ?_;obtain ⟨Qb,ht161,H⟩:=bd H;refine WR.call (ref04_Bit_sp _ _ _ _ ht161) [] rfl rfl rfl rfl rfl tv rfl rfl rfl rfl rfl ?_;refine wr 1 ?_;refine wn ?_;refine WS.seq ?_;refine WS.seq ?_;refine wrg ?_;refine wr 2 ?_;refine wn ?_;refine WS.cond rfl (fun b19=>?_) (fun b19=>?_)
     ·
      rw [ifP b19] at H;replace b19:=dT b19;refine WS.seq ?_;refine wrg ?_;refine wr 3 ?_;refine wn ?_;refine WS.ret ?_;cases H;exact ⟨tv,[some 0],_,rfl,rfl,(n2 rfl tv),rfl,rfl,rfl⟩
     ·
      rw [ifN b19] at H;replace b19:=dF b19;refine WS.skip ?_;refine wrg ?_;refine wr 5 ?_;refine wn ?_;refine wrg ?_;refine wr 3 ?_;refine wn ?_;refine wcut [some 0,some 1] [(0,c1 (.sl 0 l0.length)),(1,c1 (.str a1)),(2,c1 (.n a2)),(9,c1 (.sl 1 x9.length)),(10,c1 (.n ((wrap64 ((wrap64 (2*x10))+Qb))))),(11,c1 (.n ((wrap64 (x11+1)))))] [⟨.view 3 l0,0,false⟩,⟨.own 3 x9,1,true⟩] (n2 rfl (n2 rfl (n2 rfl (n2 rfl (n2 rfl (n2 rfl tv)))))) (n2 rfl (n2 (rw_ rfl rfl) tv)) (by rw [hnp];rfl) (fun g=>?_);exact ih2 k (by omega) _ _ ⟨g,_,_,_,by omega,rfl,rfl,H⟩
  ·
   rw [ifN b3] at H;replace b3:=dF b3;refine WS.exit ?_;refine WS.seq ?_;refine wrg ?_;refine wr 3 ?_;refine wn ?_;refine WS.ret ?_;cases H;exact ⟨tv,[some 0],_,rfl,rfl,(n2 rfl tv),rfl,rfl,rfl⟩
theorem symbol_keep {k:Nat} {a0:ByteArray} {l:List Int} {a b:Int} {c:List Int} {r:Int × List Int × Int × Int} (h:c05_symbol.f k a0 l a b c=some r):r.2.1=l:=by
 unfold c05_symbol.f at h
 split at h
 ·obtain ⟨_,_,h⟩:=bd h;cases h;rfl
 ·cases h;rfl
theorem ref05_symbol_sp (k:Nat) (a0:ByteArray) (Qa:List Int) (Qb:Int) (Qc:Int) (l2:List Int) (r:Int × List Int × Int × Int) (H:c05_symbol.f k a0 Qa Qb Qc l2=some r):Sp (KT:=kt) Try.prog O 101 [c1 (.str a0),.v (.agg [.sl 0 Qa.length,.n Qb,.n Qc]),c1 (.sl 1 l2.length)] [⟨.view 5 Qa,0,false⟩,⟨.view 3 l2,1,false⟩] (.t [.c (.n r.1),.agg [.sl 0 Qa.length,.n r.2.2.1,.n r.2.2.2]]) [⟨.view 5 Qa,0,false⟩,⟨.view 3 l2,1,false⟩]:=by
 refine Sp.of tok (by kernel_rfl) Try.func101 rfl rfl fun Γ hnp=>?_;unfold c05_symbol.f at H;refine WS.seq ?_;refine wrg ?_;refine wr 3 ?_;refine wn ?_;refine WS.seq ?_;refine WS.seq ?_;refine wrg ?_;refine wr 3 ?_;refine wn ?_;refine WS.cond rfl (fun b1=>?_) (fun b1=>?_)
 ·
  rw [ifX b1] at H;replace b1:=nT b1;refine WS.seq ?_;refine wrg ?_;refine wr 3 ?_;refine wn ?_;refine WS.ret ?_;cases H;exact ⟨tv,[some 0,some 1],_,rfl,rfl,(n2 rfl (n2 rfl tv)),rfl,rfl,rfl⟩
 ·
  rw [ifXn b1] at H;replace b1:=nF b1;refine WS.skip ?_;refine WS.seq ?_;refine wrg ?_;refine wr 4 ?_;obtain ⟨bt248,hbt248,H⟩:=bd H;refine WR.call (ref04_Next_sp _ _ _ _ _ hbt248) [some 1] rfl rfl rfl rfl rfl (n2 rfl tv) rfl rfl rfl rfl rfl ?_;refine wr 7 ?_;refine wn ?_;refine WS.seq ?_;refine wrg ?_;refine wr 6 ?_;refine wn ?_;refine WS.seq ?_;refine wrg ?_;refine wr 4 ?_;refine wn ?_;refine WS.ret ?_;cases H;exact ⟨tv,[some 0,some 1],_,rfl,rfl,(n2 rfl (n2 rfl tv)),rfl,rfl,rfl⟩
end Go.Proofs.Ytpbhkdamkbopkaa.Rs
namespace Go.Proofs.Ytpbhkdamkbopkaa.Rs
open Go Go.RowKit Rf YtpbhkdamkbopkaaW.PrintWords Go.Proofs.Ytpbhkdamkbopkaa GInfr GPix
set_option maxRecDepth 10000
set_option maxHeartbeats 4000000
variable {O:Orc}
theorem ref05_stored_sp (k:Nat) (a0:ByteArray) (Qd:List Int) (Qe:Int) (Qf:Int) (a2:Int) (r:List Int × Int × Int) (H:c05_stored.f k a0 Qd Qe Qf a2=some r):Sp (KT:=kt) Try.prog O 74 [c1 (.str a0),.v (.agg [.sl 0 Qd.length,.n Qe,.n Qf]),c1 (.n a2)] [⟨.own 5 Qd,0,true⟩] (.v (.agg [.sl 1 r.1.length,.n r.2.1,.n r.2.2])) [⟨.dead,0,true⟩,⟨.own 5 r.1,0,true⟩]:=by
 refine Sp.of tok (by kernel_rfl) Try.func74 rfl rfl fun Γ hnp=>?_;unfold c05_stored.f at H;refine WS.seq ?_;refine wrg ?_;refine wr 2 ?_;refine wn ?_;refine WS.seq ?_;refine WS.block ?_;refine wcut [some 0,some 1,some 0,some 2] [(0,c1 (.str a0)),(2,c1 (.n a2)),(1,.v (.agg [.sl 0 Qd.length,.n Qe,.n Qf])),(4,c1 (.ptr 1 0 0 0)),(6,c1 (.ptr 3 0 0 0))] [⟨.dead,0,true⟩,⟨.box [.sl 2 Qd.length,.n Qe,.n Qf],1,true⟩,⟨.own 5 Qd,0,true⟩,⟨.box [.nils,.n 0,.n 0],3,true⟩] (n2 rfl (n2 rfl (n2 rfl (n2 rfl (n2 rfl tv))))) (n2 (rd_ rfl) (n2 (rw_ rfl rfl) (n2 (rw_ rfl rfl) (n2 (rw_ rfl rfl) tv)))) (by rw [hnp];rfl) (fun g=>?_);refine WS.loop (fun k1 ρ h=>∃ (g:Nat → SV) (Qa:List Int) (Qb:Int) (Qc:Int),k1≤k∧ρ=upds g [(0,c1 (.str a0)),(2,c1 (.n a2)),(1,.v (.agg [.sl 0 Qd.length,.n Qe,.n Qf])),(4,c1 (.ptr 1 0 0 0)),(6,c1 (.ptr 3 0 0 0))]∧h=[⟨.dead,0,true⟩,⟨.box [.sl 2 Qa.length,.n Qb,.n Qc],1,true⟩,⟨.own 5 Qa,0,true⟩,⟨.box [.nils,.n 0,.n 0],3,true⟩]∧c05_stored.l0 k1 a0 a2 Qa Qb Qc=some r) ?_ (n:=k) ⟨g,_,_,_,Nat.le_refl _,rfl,rfl,H⟩;rintro k ρ h ih1 ⟨g,Qa,Qb,Qc,hkih1,rfl,rfl,H⟩
 rcases k with _ | k
 ·exact nn H
 simp only [c05_stored.l0] at H;refine WS.seq ?_;refine WS.seq ?_;refine wrg ?_;refine wr 4 ?_;refine wn ?_;refine WS.cond rfl (fun b2=>?_) (fun b2=>?_)
 ·
  rw [ifX b2] at H;replace b2:=nT b2;refine WS.skip ?_;refine WS.block ?_;refine wrg ?_;refine wr 5 ?_;refine wn ?_;refine wcut [some 0,some 1,some 2,some 3] [(0,c1 (.str a0)),(2,c1 (.n a2)),(1,.v (.agg [.sl 0 Qd.length,.n Qe,.n Qf])),(4,c1 (.ptr 1 0 0 0)),(6,c1 (.ptr 3 0 0 0))] [⟨.dead,0,true⟩,⟨.box [.sl 2 Qa.length,.n ((wrap64 (Qb+1))),.n Qc],1,true⟩,⟨.own 5 Qa,0,true⟩,⟨.box [.nils,.n 0,.n 0],3,true⟩] (n2 rfl (n2 rfl (n2 rfl (n2 rfl (n2 rfl tv))))) (n2 (rd_ rfl) (n2 (rw_ rfl rfl) (n2 (rw_ rfl rfl) (n2 (rw_ rfl rfl) tv)))) (by rw [hnp];rfl) (fun g=>?_);exact ih1 k (by omega) _ _ ⟨g,_,_,_,by omega,rfl,rfl,H⟩
 ·
  rw [ifXn b2] at H;replace b2:=nF b2;refine WS.exit ?_;refine WS.seq ?_;refine wrg ?_;refine wr 2 ?_;refine wn ?_;refine WS.seq ?_;refine wrg ?_;refine wr 2 ?_;obtain ⟨Qh,hbt229,H⟩:=bd H;try rw [number_keep hbt229] at H
  refine WR.call (ref05_number_sp _ _ _ _ _ _ _ hbt229) [some 2] rfl rfl rfl rfl rfl (n2 rfl tv) rfl rfl rfl rfl rfl ?_;refine wr 5 ?_;refine wn ?_;refine WS.seq ?_;refine wrg ?_;refine wr 2 ?_;obtain ⟨Qg,hbt235,H⟩:=bd H;try rw [number_keep hbt235] at H
  refine WR.call (ref05_number_sp _ _ _ _ _ _ _ hbt235) [some 2] rfl rfl rfl rfl rfl (n2 rfl tv) rfl rfl rfl rfl rfl ?_;refine wr 5 ?_;refine wn ?_;refine WS.seq ?_;refine WS.seq ?_;refine wrg ?_;refine wr 3 ?_;refine wn ?_;refine WS.cond rfl (fun b3=>?_) (fun b3=>?_)
  ·
   rw [ifX b3] at H;replace b3:=nT b3;refine WS.seq ?_;refine wrg ?_;refine wr 2 ?_;refine wn ?_;refine WS.ret ?_;cases H;exact ⟨tv,[some 0,some 2],_,rfl,rfl,(n2 (rd_ rfl) (n2 (rw_ rfl rfl) tv)),rfl,rfl,rfl⟩
  ·
   rw [ifXn b3] at H;replace b3:=nF b3;refine WS.skip ?_;refine WS.seq ?_;refine WS.seq ?_;refine wrg ?_;refine wr 4 ?_;refine wn ?_;refine WS.cond rfl (fun b4=>?_) (fun b4=>?_)
   ·
    rw [ifX b4] at H;replace b4:=nT b4;refine WS.seq ?_;refine wrg ?_;refine wr 2 ?_;refine wn ?_;refine WS.seq ?_;refine wrg ?_;refine wr 2 ?_;refine wn ?_;refine WS.ret ?_;cases H;exact ⟨tv,[some 0,some 2],_,rfl,rfl,(n2 (rd_ rfl) (n2 (rw_ rfl rfl) tv)),rfl,rfl,rfl⟩
   ·
    rw [ifXn b4] at H;replace b4:=nF b4;refine WS.skip ?_;refine WS.seq ?_;refine WS.seq ?_;refine wrg ?_;refine wr 1 ?_;refine wn ?_;refine WS.block ?_;refine wcut [some 0,some 1,some 2,some 3] [(0,c1 (.str a0)),(2,c1 (.n a2)),(7,c1 (.n Qh.1)),(9,c1 (.n 0)),(1,.v (.agg [.sl 0 Qd.length,.n Qe,.n Qf])),(4,c1 (.ptr 1 0 0 0)),(6,c1 (.ptr 3 0 0 0))] [⟨.dead,0,true⟩,⟨.box [.sl 2 Qa.length,.n Qg.2.2.1,.n Qg.2.2.2],1,true⟩,⟨.own 5 Qa,0,true⟩,⟨.box [.nils,.n 0,.n 0],3,true⟩] (n2 rfl (n2 rfl (n2 rfl (n2 rfl (n2 rfl (n2 rfl (n2 rfl tv))))))) (n2 (rd_ rfl) (n2 (rw_ rfl rfl) (n2 (rw_ rfl rfl) (n2 (rw_ rfl rfl) tv)))) (by rw [hnp];rfl) (fun g=>?_);refine WS.loop (fun k1 ρ h=>∃ (g:Nat → SV) (x7:Int) (x9:Int) (Qa:List Int) (Qb:Int) (Qc:Int),k1≤k∧ρ=upds g [(0,c1 (.str a0)),(2,c1 (.n a2)),(7,c1 (.n x7)),(9,c1 (.n x9)),(1,.v (.agg [.sl 0 Qd.length,.n Qe,.n Qf])),(4,c1 (.ptr 1 0 0 0)),(6,c1 (.ptr 3 0 0 0))]∧h=[⟨.dead,0,true⟩,⟨.box [.sl 2 Qa.length,.n Qb,.n Qc],1,true⟩,⟨.own 5 Qa,0,true⟩,⟨.box [.nils,.n 0,.n 0],3,true⟩]∧c05_stored.l1 k1 a0 a2 x7 x9 Qa Qb Qc=some r) ?_ (n:=k) ⟨g,_,_,_,_,_,Nat.le_refl _,rfl,rfl,H⟩;rintro k ρ h ih5 ⟨g,x7,x9,Qa,Qb,Qc,hkih5,rfl,rfl,H⟩
    rcases k with _ | k
    ·exact nn H
    simp only [c05_stored.l1] at H;refine WS.seq ?_;refine WS.seq ?_;refine wrg ?_;refine wr 2 ?_;refine wn ?_;refine WS.cond rfl (fun b6=>?_) (fun b6=>?_)
    ·
     rw [ifP b6] at H;replace b6:=dT b6;refine WS.skip ?_;refine WS.seq ?_;refine WS.block ?_;refine WS.seq ?_;refine wrg ?_;refine wr 6 ?_;obtain ⟨t241,ht241,H⟩:=bd H;refine WR.call (ref04_Bit_sp _ _ _ _ ht241) [] rfl rfl rfl rfl rfl tv rfl rfl rfl rfl rfl ?_;refine wr 6 ?_;obtain ⟨t242,ht242,H⟩:=bd H;refine WR.call (ref04_Bit_sp _ _ _ _ ht242) [] rfl rfl rfl rfl rfl tv rfl rfl rfl rfl rfl ?_;refine wr 1 ?_;refine wn ?_;refine WS.cond rfl (fun b7=>?_) (fun b7=>?_)
     ·
      rw [ifE b7] at H;replace b7:=eq_of_beq b7;refine WS.seq ?_;refine wrg ?_;refine wr 2 ?_;refine wn ?_;refine WS.seq ?_;refine wrg ?_;refine wr 2 ?_;refine wn ?_;refine WS.ret ?_;cases H;exact ⟨tv,[some 0,some 2],_,rfl,rfl,(n2 (rd_ rfl) (n2 (rw_ rfl rfl) tv)),rfl,rfl,rfl⟩
     ·
      rw [ifEn b7] at H;replace b7:=bF b7;refine WS.skip ?_;refine wrg ?_;refine wr 3 ?_;refine wn ?_;refine wcut [some 0,some 1,some 2,some 3] [(0,c1 (.str a0)),(2,c1 (.n a2)),(7,c1 (.n x7)),(9,c1 (.n ((wrap64 (x9+1))))),(1,.v (.agg [.sl 0 Qd.length,.n Qe,.n Qf])),(4,c1 (.ptr 1 0 0 0)),(6,c1 (.ptr 3 0 0 0))] [⟨.dead,0,true⟩,⟨.box [.sl 2 Qa.length,.n Qb,.n Qc],1,true⟩,⟨.own 5 Qa,0,true⟩,⟨.box [.nils,.n 0,.n 0],3,true⟩] (n2 rfl (n2 rfl (n2 rfl (n2 rfl (n2 rfl (n2 rfl (n2 rfl tv))))))) (n2 (rd_ rfl) (n2 (rw_ rfl rfl) (n2 (rw_ rfl rfl) (n2 (rw_ rfl rfl) tv)))) (by rw [hnp];rfl) (fun g=>?_);exact ih5 k (by omega) _ _ ⟨g,_,_,_,_,_,by omega,rfl,rfl,H⟩
    ·
     rw [ifN b6] at H;replace b6:=dF b6;refine WS.exit ?_;refine WS.seq ?_;refine WS.seq ?_;refine wrg ?_;refine wr 7 ?_;refine wn ?_;refine WS.cond rfl (fun b8=>?_) (fun b8=>?_)
     ·
      rw [ifP b8] at H;replace b8:=dT b8;refine WS.seq ?_;refine wrg ?_;refine wr 2 ?_;refine wn ?_;refine WS.seq ?_;refine wrg ?_;refine wr 2 ?_;refine wn ?_;refine WS.ret ?_;cases H;exact ⟨tv,[some 0,some 2],_,rfl,rfl,(n2 (rd_ rfl) (n2 (rw_ rfl rfl) tv)),rfl,rfl,rfl⟩
     ·
      rw [ifN b8] at H;replace b8:=dF b8;refine WS.skip ?_;refine WS.seq ?_;refine wrg ?_;refine wr 4 ?_;refine wn ?_;refine WS.seq ?_;refine WS.seq ?_;refine wrg ?_;refine wr 6 ?_;refine wn ?_;refine WS.cond rfl (fun b9=>?_) (fun b9=>?_)
      ·
       rw [ifP b9] at H;replace b9:=dT b9;refine WS.seq ?_;refine wrg ?_;refine wr 2 ?_;refine wn ?_;refine WS.seq ?_;refine wrg ?_;refine wr 2 ?_;refine wn ?_;refine WS.ret ?_;cases H;exact ⟨tv,[some 0,some 2],_,rfl,rfl,(n2 (rd_ rfl) (n2 (rw_ rfl rfl) tv)),rfl,rfl,rfl⟩
      ·
       rw [ifN b9] at H;replace b9:=dF b9;refine WS.skip ?_;refine WS.seq ?_;refine WS.seq ?_;refine wrg ?_;refine wr 1 ?_;refine wn ?_;refine WS.block ?_;refine wcut [some 0,some 1,some 2,some 3] [(0,c1 (.str a0)),(7,c1 (.n x7)),(10,c1 (.n ((wrap64 (Int.tdiv Qb 8))))),(11,c1 (.n 0)),(1,.v (.agg [.sl 0 Qd.length,.n Qe,.n Qf])),(2,c1 (.n a2)),(4,c1 (.ptr 1 0 0 0)),(6,c1 (.ptr 3 0 0 0))] [⟨.dead,0,true⟩,⟨.box [.sl 2 Qa.length,.n Qb,.n Qc],1,true⟩,⟨.own 5 Qa,0,true⟩,⟨.box [.nils,.n 0,.n 0],3,true⟩] (n2 rfl (n2 rfl (n2 rfl (n2 rfl (n2 rfl (n2 rfl (n2 rfl (n2 rfl tv)))))))) (n2 (rd_ rfl) (n2 (rw_ rfl rfl) (n2 (rw_ rfl rfl) (n2 (rw_ rfl rfl) tv)))) (by rw [hnp];rfl) (fun g=>?_);refine WS.loop (fun k1 ρ h=>∃ (g:Nat → SV) (x7:Int) (x10:Int) (x11:Int) (Qa:List Int) (Qb:Int) (Qc:Int),k1≤k∧ρ=upds g [(0,c1 (.str a0)),(7,c1 (.n x7)),(10,c1 (.n x10)),(11,c1 (.n x11)),(1,.v (.agg [.sl 0 Qd.length,.n Qe,.n Qf])),(2,c1 (.n a2)),(4,c1 (.ptr 1 0 0 0)),(6,c1 (.ptr 3 0 0 0))]∧h=[⟨.dead,0,true⟩,⟨.box [.sl 2 Qa.length,.n Qb,.n Qc],1,true⟩,⟨.own 5 Qa,0,true⟩,⟨.box [.nils,.n 0,.n 0],3,true⟩]∧c05_stored.l2 k1 a0 x7 x10 x11 Qa Qb Qc=some r) ?_ (n:=k) ⟨g,_,_,_,_,_,_,Nat.le_refl _,rfl,rfl,H⟩;rintro k ρ h ih10 ⟨g,x7,x10,x11,Qa,Qb,Qc,hkih10,rfl,rfl,H⟩
       rcases k with _ | k
       ·exact nn H
       simp only [c05_stored.l2] at H;refine WS.seq ?_;refine WS.seq ?_;refine wrg ?_;refine wr 3 ?_;refine wn ?_;refine WS.cond rfl (fun b11=>?_) (fun b11=>?_)
       ·
        rw [ifP b11] at H;replace b11:=dT b11;refine WS.skip ?_;refine WS.seq ?_;refine WS.block ?_;refine wrg ?_;obtain ⟨g12,H⟩:=gd H;obtain ⟨g13,H⟩:=gd H;obtain ⟨g14,H⟩:=gd H;refine wr 11 ?_;refine wn ?_;refine wrg ?_;refine wr 3 ?_;refine wn ?_;refine wcut [some 0,some 1,some 5,some 3] [(0,c1 (.str a0)),(7,c1 (.n x7)),(10,c1 (.n x10)),(11,c1 (.n ((wrap64 (x11+1))))),(1,.v (.agg [.sl 0 Qd.length,.n Qe,.n Qf])),(2,c1 (.n a2)),(4,c1 (.ptr 1 0 0 0)),(6,c1 (.ptr 3 0 0 0))] [⟨.dead,0,true⟩,⟨.box [.sl 2 ((Qa ++ [bt a0 (wrap64 (x10+x11))])).length,.n Qb,.n Qc],1,true⟩,⟨.own 5 (((Qa ++ [bt a0 (wrap64 (x10+x11))])):List Int),0,true⟩,⟨.box [.nils,.n 0,.n 0],3,true⟩] (n2 rfl (n2 rfl (n2 rfl (n2 rfl (n2 rfl (n2 rfl (n2 rfl (n2 rfl tv)))))))) (n2 (rd_ rfl) (n2 (rw_ rfl rfl) (n2 (rw_ rfl rfl) (n2 (rw_ rfl rfl) tv)))) (by rw [hnp];rfl) (fun g=>?_);exact ih10 k (by omega) _ _ ⟨g,_,_,_,_,_,_,by omega,rfl,rfl,H⟩
       ·
        rw [ifN b11] at H;replace b11:=dF b11;refine WS.exit ?_;refine WS.seq ?_;refine wrg ?_;refine wr 6 ?_;refine wn ?_;refine WS.seq ?_;refine wrg ?_;refine wr 2 ?_;refine wn ?_;refine WS.ret ?_;cases H;exact ⟨tv,[some 0,some 2],_,rfl,rfl,(n2 (rd_ rfl) (n2 (rw_ rfl rfl) tv)),rfl,rfl,rfl⟩
theorem ref05_codes_sp (k:Nat) (a0:ByteArray) (Qd:List Int) (Qe:Int) (Qf:Int) (a2:Int) (l3:List Int) (l4:List Int) (r:List Int × Int × Int) (H:c05_codes.f k a0 Qd Qe Qf a2 l3 l4=some r):Sp (KT:=kt) Try.prog O 75 [c1 (.str a0),.v (.agg [.sl 0 Qd.length,.n Qe,.n Qf]),c1 (.n a2),c1 (.sl 1 l3.length),c1 (.sl 2 l4.length)] [⟨.own 5 Qd,0,true⟩,⟨.view 3 l3,1,false⟩,⟨.view 3 l4,2,false⟩] (.v (.agg [.sl 3 r.1.length,.n r.2.1,.n r.2.2])) [⟨.dead,0,true⟩,⟨.view 3 l3,1,false⟩,⟨.view 3 l4,2,false⟩,⟨.own 5 r.1,0,true⟩]:=by
 refine Sp.of tok (by kernel_rfl) Try.func75 rfl rfl fun Γ hnp=>?_;unfold c05_codes.f at H;refine WS.seq ?_;refine wrg ?_;refine wr 2 ?_;refine wn ?_;refine WS.join (fun ρ h=>∃ k1,∃ (g:Nat → SV) (Qa:List Int) (Qb:Int) (Qc:Int),k1≤k∧ρ=upds g [(0,c1 (.str a0)),(2,c1 (.n a2)),(3,c1 (.sl 1 l3.length)),(4,c1 (.sl 2 l4.length)),(1,.v (.agg [.sl 0 Qd.length,.n Qe,.n Qf])),(6,c1 (.ptr 3 0 0 0)),(10,c1 (.ptr 5 0 0 0))]∧h=[⟨.dead,0,true⟩,⟨.view 3 l3,1,false⟩,⟨.view 3 l4,2,false⟩,⟨.box [.sl 4 Qa.length,.n Qb,.n Qc],3,true⟩,⟨.own 5 Qa,0,true⟩,⟨.box [.nils,.n 0,.n 0],5,true⟩]∧c05_codes.j0 k1 a0 a2 l3 l4 Qa Qb Qc=some r) ?_ ?_
 ·
  refine WS.seq ?_;refine wrg ?_;refine wr 3 ?_;refine wn ?_;refine WS.cond rfl (fun b1=>?_) (fun b1=>?_)
  ·
   rw [ifE b1] at H;replace b1:=eq_of_beq b1;refine wrg ?_;refine wr 1 ?_;obtain ⟨Qm,ht253,H⟩:=bd H;refine WR.call (ref04_Error_sp _ _ _ ht253) [some 1] rfl rfl rfl rfl rfl (n2 rfl tv) rfl rfl rfl rfl rfl ?_;refine wr 2 ?_;refine wn ?_;intro kk;refine wcut [some 0,some 1,some 2,some 3,some 0,some 4] [(0,c1 (.str a0)),(2,c1 (.n a2)),(3,c1 (.sl 1 l3.length)),(4,c1 (.sl 2 l4.length)),(1,.v (.agg [.sl 0 Qd.length,.n Qe,.n Qf])),(6,c1 (.ptr 3 0 0 0)),(10,c1 (.ptr 5 0 0 0))] [⟨.dead,0,true⟩,⟨.view 3 l3,1,false⟩,⟨.view 3 l4,2,false⟩,⟨.box [.sl 4 Qd.length,.n Qe,.n Qm],3,true⟩,⟨.own 5 Qd,0,true⟩,⟨.box [.nils,.n 0,.n 0],5,true⟩] (n2 rfl (n2 rfl (n2 rfl (n2 rfl (n2 rfl (n2 rfl (n2 rfl tv))))))) (n2 (rd_ rfl) (n2 rfl (n2 rfl (n2 (rw_ rfl rfl) (n2 (rw_ rfl rfl) (n2 (rw_ rfl rfl) tv)))))) (by rw [hnp];rfl) (fun g=>?_);exact kk _ _ ⟨_,g,_,_,_,by omega,rfl,rfl,H⟩
  ·
   rw [ifEn b1] at H;replace b1:=bF b1;refine WS.skip ?_;intro kk;refine wcut [some 0,some 1,some 2,some 3,some 0,some 4] [(0,c1 (.str a0)),(2,c1 (.n a2)),(3,c1 (.sl 1 l3.length)),(4,c1 (.sl 2 l4.length)),(1,.v (.agg [.sl 0 Qd.length,.n Qe,.n Qf])),(6,c1 (.ptr 3 0 0 0)),(10,c1 (.ptr 5 0 0 0))] [⟨.dead,0,true⟩,⟨.view 3 l3,1,false⟩,⟨.view 3 l4,2,false⟩,⟨.box [.sl 4 Qd.length,.n Qe,.n Qf],3,true⟩,⟨.own 5 Qd,0,true⟩,⟨.box [.nils,.n 0,.n 0],5,true⟩] (n2 rfl (n2 rfl (n2 rfl (n2 rfl (n2 rfl (n2 rfl (n2 rfl tv))))))) (n2 (rd_ rfl) (n2 rfl (n2 rfl (n2 (rw_ rfl rfl) (n2 (rw_ rfl rfl) (n2 (rw_ rfl rfl) tv)))))) (by rw [hnp];rfl) (fun g=>?_);exact kk _ _ ⟨_,g,_,_,_,by omega,rfl,rfl,H⟩
 rintro ρ h ⟨k,g,Qa,Qb,Qc,hk2,rfl,rfl,H⟩
 rcases k with _ | k
 ·exact nn H
 simp only [c05_codes.j0] at H;refine WS.join (fun ρ h=>∃ k1,∃ (g:Nat → SV) (Qa:List Int) (Qb:Int) (Qc:Int),k1≤k∧ρ=upds g [(0,c1 (.str a0)),(2,c1 (.n a2)),(3,c1 (.sl 1 l3.length)),(4,c1 (.sl 2 l4.length)),(1,.v (.agg [.sl 0 Qd.length,.n Qe,.n Qf])),(6,c1 (.ptr 3 0 0 0)),(10,c1 (.ptr 5 0 0 0))]∧h=[⟨.dead,0,true⟩,⟨.view 3 l3,1,false⟩,⟨.view 3 l4,2,false⟩,⟨.box [.sl 4 Qa.length,.n Qb,.n Qc],3,true⟩,⟨.own 5 Qa,0,true⟩,⟨.box [.nils,.n 0,.n 0],5,true⟩]∧c05_codes.j1 k1 a0 a2 l3 l4 Qa Qb Qc=some r) ?_ ?_
 ·
  refine WS.seq ?_;refine wrg ?_;refine wr 3 ?_;refine wn ?_;refine WS.cond rfl (fun b3=>?_) (fun b3=>?_)
  ·
   rw [ifE b3] at H;replace b3:=eq_of_beq b3;refine wrg ?_;refine wr 1 ?_;obtain ⟨Qn,ht254,H⟩:=bd H;refine WR.call (ref04_Error_sp _ _ _ ht254) [some 2] rfl rfl rfl rfl rfl (n2 rfl tv) rfl rfl rfl rfl rfl ?_;refine wr 2 ?_;refine wn ?_;intro kk;refine wcut [some 0,some 1,some 2,some 3,some 4,some 5] [(0,c1 (.str a0)),(2,c1 (.n a2)),(3,c1 (.sl 1 l3.length)),(4,c1 (.sl 2 l4.length)),(1,.v (.agg [.sl 0 Qd.length,.n Qe,.n Qf])),(6,c1 (.ptr 3 0 0 0)),(10,c1 (.ptr 5 0 0 0))] [⟨.dead,0,true⟩,⟨.view 3 l3,1,false⟩,⟨.view 3 l4,2,false⟩,⟨.box [.sl 4 Qa.length,.n Qb,.n Qn],3,true⟩,⟨.own 5 Qa,0,true⟩,⟨.box [.nils,.n 0,.n 0],5,true⟩] (n2 rfl (n2 rfl (n2 rfl (n2 rfl (n2 rfl (n2 rfl (n2 rfl tv))))))) (n2 (rd_ rfl) (n2 rfl (n2 rfl (n2 (rw_ rfl rfl) (n2 (rw_ rfl rfl) (n2 (rw_ rfl rfl) tv)))))) (by rw [hnp];rfl) (fun g=>?_);exact kk _ _ ⟨_,g,_,_,_,by omega,rfl,rfl,H⟩
  ·
   rw [ifEn b3] at H;replace b3:=bF b3;refine WS.skip ?_;intro kk;refine wcut [some 0,some 1,some 2,some 3,some 4,some 5] [(0,c1 (.str a0)),(2,c1 (.n a2)),(3,c1 (.sl 1 l3.length)),(4,c1 (.sl 2 l4.length)),(1,.v (.agg [.sl 0 Qd.length,.n Qe,.n Qf])),(6,c1 (.ptr 3 0 0 0)),(10,c1 (.ptr 5 0 0 0))] [⟨.dead,0,true⟩,⟨.view 3 l3,1,false⟩,⟨.view 3 l4,2,false⟩,⟨.box [.sl 4 Qa.length,.n Qb,.n Qc],3,true⟩,⟨.own 5 Qa,0,true⟩,⟨.box [.nils,.n 0,.n 0],5,true⟩] (n2 rfl (n2 rfl (n2 rfl (n2 rfl (n2 rfl (n2 rfl (n2 rfl tv))))))) (n2 (rd_ rfl) (n2 rfl (n2 rfl (n2 (rw_ rfl rfl) (n2 (rw_ rfl rfl) (n2 (rw_ rfl rfl) tv)))))) (by rw [hnp];rfl) (fun g=>?_);exact kk _ _ ⟨_,g,_,_,_,by omega,rfl,rfl,H⟩
 rintro ρ h ⟨k,g,Qa,Qb,Qc,hk4,rfl,rfl,H⟩
 rcases k with _ | k
 ·exact nn H
 simp only [c05_codes.j1] at H;refine WS.seq ?_;refine WS.block ?_;refine wcut [some 0,some 1,some 2,some 3,some 4,some 5] [(0,c1 (.str a0)),(2,c1 (.n a2)),(3,c1 (.sl 1 l3.length)),(4,c1 (.sl 2 l4.length)),(1,.v (.agg [.sl 0 Qd.length,.n Qe,.n Qf])),(6,c1 (.ptr 3 0 0 0)),(10,c1 (.ptr 5 0 0 0))] [⟨.dead,0,true⟩,⟨.view 3 l3,1,false⟩,⟨.view 3 l4,2,false⟩,⟨.box [.sl 4 Qa.length,.n Qb,.n Qc],3,true⟩,⟨.own 5 Qa,0,true⟩,⟨.box [.nils,.n 0,.n 0],5,true⟩] (n2 rfl (n2 rfl (n2 rfl (n2 rfl (n2 rfl (n2 rfl (n2 rfl tv))))))) (n2 (rd_ rfl) (n2 rfl (n2 rfl (n2 (rw_ rfl rfl) (n2 (rw_ rfl rfl) (n2 (rw_ rfl rfl) tv)))))) (by rw [hnp];rfl) (fun g=>?_);refine WS.loop (fun k1 ρ h=>∃ (g:Nat → SV) (Qa:List Int) (Qb:Int) (Qc:Int),k1≤k∧ρ=upds g [(0,c1 (.str a0)),(2,c1 (.n a2)),(3,c1 (.sl 1 l3.length)),(4,c1 (.sl 2 l4.length)),(1,.v (.agg [.sl 0 Qd.length,.n Qe,.n Qf])),(6,c1 (.ptr 3 0 0 0)),(10,c1 (.ptr 5 0 0 0))]∧h=[⟨.dead,0,true⟩,⟨.view 3 l3,1,false⟩,⟨.view 3 l4,2,false⟩,⟨.box [.sl 4 Qa.length,.n Qb,.n Qc],3,true⟩,⟨.own 5 Qa,0,true⟩,⟨.box [.nils,.n 0,.n 0],5,true⟩]∧c05_codes.l0 k1 a0 a2 l3 l4 Qa Qb Qc=some r) ?_ (n:=k) ⟨g,_,_,_,Nat.le_refl _,rfl,rfl,H⟩;rintro k ρ h ih5 ⟨g,Qa,Qb,Qc,hkih5,rfl,rfl,H⟩
 rcases k with _ | k
 ·exact nn H
 simp only [c05_codes.l0] at H;refine WS.seq ?_;refine WS.seq ?_;refine wrg ?_;refine wr 3 ?_;refine wn ?_;refine WS.cond rfl (fun b6=>?_) (fun b6=>?_)
 ·
  rw [ifE b6] at H;replace b6:=eq_of_beq b6;refine WS.skip ?_;refine WS.block ?_;refine WS.seq ?_;refine wrg ?_;refine wr 2 ?_;refine wn ?_;refine WS.seq ?_;refine wrg ?_;refine wr 3 ?_;obtain ⟨Qg,hbt255,H⟩:=bd H;try rw [symbol_keep hbt255] at H
  refine WR.call (ref05_symbol_sp _ _ _ _ _ _ _ hbt255) [some 4,some 1] rfl rfl rfl rfl rfl (n2 rfl (n2 rfl tv)) rfl rfl rfl rfl rfl ?_;refine wr 5 ?_;refine wn ?_;refine WS.seq ?_;refine WS.join (fun ρ h=>∃ k1,∃ (g:Nat → SV) (x11:Int) (x45:Bool) (Qa:List Int) (Qb:Int) (Qc:Int),k1≤k∧ρ=upds g [(0,c1 (.str a0)),(2,c1 (.n a2)),(3,c1 (.sl 1 l3.length)),(4,c1 (.sl 2 l4.length)),(11,c1 (.n x11)),(45,c1 (.bool x45)),(1,.v (.agg [.sl 0 Qd.length,.n Qe,.n Qf])),(6,c1 (.ptr 3 0 0 0)),(10,c1 (.ptr 5 0 0 0))]∧h=[⟨.dead,0,true⟩,⟨.view 3 l3,1,false⟩,⟨.view 3 l4,2,false⟩,⟨.box [.sl 4 Qa.length,.n Qb,.n Qc],3,true⟩,⟨.own 5 Qa,0,true⟩,⟨.box [.nils,.n 0,.n 0],5,true⟩]∧c05_codes.j3 k1 a0 a2 l3 l4 x11 x45 Qa Qb Qc=some r) ?_ ?_
  ·
   refine wrg ?_;refine wr 4 ?_;refine WR.split 42 rfl (fun b7=>?_) (fun b7=>?_)
   ·
    rw [ifX b7] at H;replace b7:=nT b7;refine wr 3 ?_;refine wn ?_;intro kk;refine wcut [some 0,some 1,some 2,some 3,some 4,some 5] [(0,c1 (.str a0)),(2,c1 (.n a2)),(3,c1 (.sl 1 l3.length)),(4,c1 (.sl 2 l4.length)),(11,c1 (.n Qg.1)),(45,c1 (.bool true)),(1,.v (.agg [.sl 0 Qd.length,.n Qe,.n Qf])),(6,c1 (.ptr 3 0 0 0)),(10,c1 (.ptr 5 0 0 0))] [⟨.dead,0,true⟩,⟨.view 3 l3,1,false⟩,⟨.view 3 l4,2,false⟩,⟨.box [.sl 4 Qa.length,.n Qg.2.2.1,.n Qg.2.2.2],3,true⟩,⟨.own 5 Qa,0,true⟩,⟨.box [.nils,.n 0,.n 0],5,true⟩] (n2 rfl (n2 rfl (n2 rfl (n2 rfl (n2 rfl (n2 rfl (n2 rfl (n2 rfl (n2 rfl tv))))))))) (n2 (rd_ rfl) (n2 rfl (n2 rfl (n2 (rw_ rfl rfl) (n2 (rw_ rfl rfl) (n2 (rw_ rfl rfl) tv)))))) (by rw [hnp];rfl) (fun g=>?_);exact kk _ _ ⟨_,g,_,_,_,_,_,by omega,rfl,rfl,H⟩
   ·
    rw [ifXn b7] at H;replace b7:=nF b7;refine wr 3 ?_;refine wn ?_;intro kk;refine wcut [some 0,some 1,some 2,some 3,some 4,some 5] [(0,c1 (.str a0)),(2,c1 (.n a2)),(3,c1 (.sl 1 l3.length)),(4,c1 (.sl 2 l4.length)),(11,c1 (.n Qg.1)),(45,c1 (.bool ((Qg.1 == 256)))),(1,.v (.agg [.sl 0 Qd.length,.n Qe,.n Qf])),(6,c1 (.ptr 3 0 0 0)),(10,c1 (.ptr 5 0 0 0))] [⟨.dead,0,true⟩,⟨.view 3 l3,1,false⟩,⟨.view 3 l4,2,false⟩,⟨.box [.sl 4 Qa.length,.n Qg.2.2.1,.n Qg.2.2.2],3,true⟩,⟨.own 5 Qa,0,true⟩,⟨.box [.nils,.n 0,.n 0],5,true⟩] (n2 rfl (n2 rfl (n2 rfl (n2 rfl (n2 rfl (n2 rfl (n2 rfl (n2 rfl (n2 rfl tv))))))))) (n2 (rd_ rfl) (n2 rfl (n2 rfl (n2 (rw_ rfl rfl) (n2 (rw_ rfl rfl) (n2 (rw_ rfl rfl) tv)))))) (by rw [hnp];rfl) (fun g=>?_);exact kk _ _ ⟨_,g,_,_,_,_,_,by omega,rfl,rfl,H⟩
  rintro ρ h ⟨k,g,x11,x45,Qa,Qb,Qc,hk8,rfl,rfl,H⟩
  rcases k with _ | k
  ·exact nn H
  simp only [c05_codes.j3] at H;refine WS.cond rfl (fun b9=>?_) (fun b9=>?_)
  ·
   rw [ifB b9] at H;refine WS.seq ?_;refine wrg ?_;refine wr 2 ?_;refine wn ?_;refine WS.ret ?_;cases H;exact ⟨tv,[some 0,some 1,some 2,some 4],_,rfl,rfl,(n2 (rd_ rfl) (n2 rfl (n2 rfl (n2 (rw_ rfl rfl) tv)))),rfl,rfl,rfl⟩
  ·
   rw [ifBn b9] at H;refine WS.skip ?_;refine WS.seq ?_;refine WS.seq ?_;refine wrg ?_;refine wr 2 ?_;refine wn ?_;refine WS.cond rfl (fun b10=>?_) (fun b10=>?_)
   ·
    rw [ifP b10] at H;replace b10:=dT b10;refine WS.seq ?_;refine WS.seq ?_;refine wrg ?_;refine wr 5 ?_;refine wn ?_;refine WS.cond rfl (fun b11=>?_) (fun b11=>?_)
    ·
     rw [ifP b11] at H;replace b11:=dT b11;refine WS.seq ?_;refine wrg ?_;refine wr 2 ?_;refine wn ?_;refine WS.seq ?_;refine wrg ?_;refine wr 2 ?_;refine wn ?_;refine WS.ret ?_;cases H;exact ⟨tv,[some 0,some 1,some 2,some 4],_,rfl,rfl,(n2 (rd_ rfl) (n2 rfl (n2 rfl (n2 (rw_ rfl rfl) tv)))),rfl,rfl,rfl⟩
    ·
     rw [ifN b11] at H;replace b11:=dF b11;refine WS.skip ?_;refine WS.seq ?_;refine wrg ?_;obtain ⟨g12,H⟩:=gd H;refine wr 8 ?_;refine wn ?_;refine WS.exit ?_;refine wcut [some 0,some 1,some 2,some 3,some 7,some 5] [(0,c1 (.str a0)),(2,c1 (.n a2)),(3,c1 (.sl 1 l3.length)),(4,c1 (.sl 2 l4.length)),(1,.v (.agg [.sl 0 Qd.length,.n Qe,.n Qf])),(6,c1 (.ptr 3 0 0 0)),(10,c1 (.ptr 5 0 0 0))] [⟨.dead,0,true⟩,⟨.view 3 l3,1,false⟩,⟨.view 3 l4,2,false⟩,⟨.box [.sl 4 ((Qa ++ [(x11) % 256])).length,.n Qb,.n Qc],3,true⟩,⟨.own 5 (((Qa ++ [(x11) % 256])):List Int),0,true⟩,⟨.box [.nils,.n 0,.n 0],5,true⟩] (n2 rfl (n2 rfl (n2 rfl (n2 rfl (n2 rfl (n2 rfl (n2 rfl tv))))))) (n2 (rd_ rfl) (n2 rfl (n2 rfl (n2 (rw_ rfl rfl) (n2 (rw_ rfl rfl) (n2 (rw_ rfl rfl) tv)))))) (by rw [hnp];rfl) (fun g=>?_);exact ih5 k (by omega) _ _ ⟨g,_,_,_,by omega,rfl,rfl,H⟩
   ·
    rw [ifN b10] at H;replace b10:=dF b10;refine WS.skip ?_;refine WS.seq ?_;refine WS.seq ?_;refine wrg ?_;refine wr 2 ?_;refine wn ?_;refine WS.cond rfl (fun b13=>?_) (fun b13=>?_)
    ·
     rw [ifP b13] at H;replace b13:=dT b13;refine WS.seq ?_;refine wrg ?_;refine wr 2 ?_;refine wn ?_;refine WS.seq ?_;refine wrg ?_;refine wr 2 ?_;refine wn ?_;refine WS.ret ?_;cases H;exact ⟨tv,[some 0,some 1,some 2,some 4],_,rfl,rfl,(n2 (rd_ rfl) (n2 rfl (n2 rfl (n2 (rw_ rfl rfl) tv)))),rfl,rfl,rfl⟩
    ·
     rw [ifN b13] at H;replace b13:=dF b13;refine WS.skip ?_;refine WS.seq ?_;refine wrg ?_;refine wr 1 ?_;obtain ⟨Qj,hbt264,H⟩:=bd H;refine WR.call (ref05_Length_sp _ _ _ hbt264) [] rfl rfl rfl rfl rfl tv rfl rfl rfl rfl rfl ?_;refine wr 5 ?_;refine wn ?_;refine WS.seq ?_;refine wrg ?_;refine wr 1 ?_;refine wn ?_;refine WS.seq ?_;refine wrg ?_;refine wr 3 ?_;obtain ⟨Qk,hbt266,H⟩:=bd H;(try rw [number_keep hbt266] at H);refine WR.call (ref05_number_sp _ _ _ _ _ _ _ hbt266) [some 4] rfl rfl rfl rfl rfl (n2 rfl tv) rfl rfl rfl rfl rfl ?_;refine wr 5 ?_;refine wn ?_;refine WS.seq ?_;refine wrg ?_;refine wr 4 ?_;refine wn ?_;refine WS.seq ?_;refine wrg ?_;refine wr 3 ?_;obtain ⟨Qh,hbt272,H⟩:=bd H;(try rw [symbol_keep hbt272] at H);refine WR.call (ref05_symbol_sp _ _ _ _ _ _ _ hbt272) [some 4,some 2] rfl rfl rfl rfl rfl (n2 rfl (n2 rfl tv)) rfl rfl rfl rfl rfl ?_;refine wr 5 ?_;refine wn ?_;refine WS.join (fun ρ h=>∃ k1,∃ (g:Nat → SV) (x11:Int) (x12:Int) (Qa:List Int) (Qb:Int) (Qc:Int),k1≤k∧ρ=upds g [(0,c1 (.str a0)),(2,c1 (.n a2)),(3,c1 (.sl 1 l3.length)),(4,c1 (.sl 2 l4.length)),(11,c1 (.n x11)),(12,c1 (.n x12)),(1,.v (.agg [.sl 0 Qd.length,.n Qe,.n Qf])),(6,c1 (.ptr 3 0 0 0)),(10,c1 (.ptr 5 0 0 0))]∧h=[⟨.dead,0,true⟩,⟨.view 3 l3,1,false⟩,⟨.view 3 l4,2,false⟩,⟨.box [.sl 4 Qa.length,.n Qb,.n Qc],3,true⟩,⟨.own 5 Qa,0,true⟩,⟨.box [.nils,.n 0,.n 0],5,true⟩]∧c05_codes.j5 k1 a0 a2 l3 l4 x11 x12 Qa Qb Qc=some r) ?_ ?_
     ·
      refine WS.join (fun ρ h=>∃ k1,∃ (g:Nat → SV) (x11:Int) (x12:Int) (x95:Bool) (Qa:List Int) (Qb:Int) (Qc:Int),k1≤k∧ρ=upds g [(0,c1 (.str a0)),(2,c1 (.n a2)),(3,c1 (.sl 1 l3.length)),(4,c1 (.sl 2 l4.length)),(11,c1 (.n x11)),(12,c1 (.n x12)),(95,c1 (.bool x95)),(1,.v (.agg [.sl 0 Qd.length,.n Qe,.n Qf])),(6,c1 (.ptr 3 0 0 0)),(10,c1 (.ptr 5 0 0 0))]∧h=[⟨.dead,0,true⟩,⟨.view 3 l3,1,false⟩,⟨.view 3 l4,2,false⟩,⟨.box [.sl 4 Qa.length,.n Qb,.n Qc],3,true⟩,⟨.own 5 Qa,0,true⟩,⟨.box [.nils,.n 0,.n 0],5,true⟩]∧c05_codes.j4 k1 a0 a2 l3 l4 x11 x12 x95 Qa Qb Qc=some r) ?_ ?_
      ·
       refine wrg ?_;refine wr 4 ?_;refine WR.split 92 rfl (fun b14=>?_) (fun b14=>?_)
       ·
        rw [ifE b14] at H;replace b14:=eq_of_beq b14;refine wr 3 ?_;refine wn ?_;intro kk;refine wcut [some 0,some 1,some 2,some 3,some 4,some 5] [(0,c1 (.str a0)),(2,c1 (.n a2)),(3,c1 (.sl 1 l3.length)),(4,c1 (.sl 2 l4.length)),(11,c1 (.n ((wrap64 (Qj.1+Qk.1))))),(12,c1 (.n Qh.1)),(95,c1 (.bool ((decide (Qh.1 > 29))))),(1,.v (.agg [.sl 0 Qd.length,.n Qe,.n Qf])),(6,c1 (.ptr 3 0 0 0)),(10,c1 (.ptr 5 0 0 0))] [⟨.dead,0,true⟩,⟨.view 3 l3,1,false⟩,⟨.view 3 l4,2,false⟩,⟨.box [.sl 4 Qa.length,.n Qh.2.2.1,.n Qh.2.2.2],3,true⟩,⟨.own 5 Qa,0,true⟩,⟨.box [.nils,.n 0,.n 0],5,true⟩] (n2 rfl (n2 rfl (n2 rfl (n2 rfl (n2 rfl (n2 rfl (n2 rfl (n2 rfl (n2 rfl (n2 rfl tv)))))))))) (n2 (rd_ rfl) (n2 rfl (n2 rfl (n2 (rw_ rfl rfl) (n2 (rw_ rfl rfl) (n2 (rw_ rfl rfl) tv)))))) (by rw [hnp];rfl) (fun g=>?_);exact kk _ _ ⟨_,g,_,_,_,_,_,_,by omega,rfl,rfl,H⟩
       ·
        rw [ifEn b14] at H;replace b14:=bF b14;refine wr 3 ?_;refine wn ?_;intro kk;refine wcut [some 0,some 1,some 2,some 3,some 4,some 5] [(0,c1 (.str a0)),(2,c1 (.n a2)),(3,c1 (.sl 1 l3.length)),(4,c1 (.sl 2 l4.length)),(11,c1 (.n ((wrap64 (Qj.1+Qk.1))))),(12,c1 (.n Qh.1)),(95,c1 (.bool false)),(1,.v (.agg [.sl 0 Qd.length,.n Qe,.n Qf])),(6,c1 (.ptr 3 0 0 0)),(10,c1 (.ptr 5 0 0 0))] [⟨.dead,0,true⟩,⟨.view 3 l3,1,false⟩,⟨.view 3 l4,2,false⟩,⟨.box [.sl 4 Qa.length,.n Qh.2.2.1,.n Qh.2.2.2],3,true⟩,⟨.own 5 Qa,0,true⟩,⟨.box [.nils,.n 0,.n 0],5,true⟩] (n2 rfl (n2 rfl (n2 rfl (n2 rfl (n2 rfl (n2 rfl (n2 rfl (n2 rfl (n2 rfl (n2 rfl tv)))))))))) (n2 (rd_ rfl) (n2 rfl (n2 rfl (n2 (rw_ rfl rfl) (n2 (rw_ rfl rfl) (n2 (rw_ rfl rfl) tv)))))) (by rw [hnp];rfl) (fun g=>?_);exact kk _ _ ⟨_,g,_,_,_,_,_,_,by omega,rfl,rfl,H⟩
      rintro ρ h ⟨k,g,x11,x12,x95,Qa,Qb,Qc,hk15,rfl,rfl,H⟩
      rcases k with _ | k
      ·exact nn H
      simp only [c05_codes.j4] at H;refine WS.cond rfl (fun b16=>?_) (fun b16=>?_)
      ·
       rw [ifB b16] at H;refine wrg ?_;refine wr 2 ?_;refine wn ?_;intro kk;refine wcut [some 0,some 1,some 2,some 3,some 4,some 5] [(0,c1 (.str a0)),(2,c1 (.n a2)),(3,c1 (.sl 1 l3.length)),(4,c1 (.sl 2 l4.length)),(11,c1 (.n x11)),(12,c1 (.n x12)),(1,.v (.agg [.sl 0 Qd.length,.n Qe,.n Qf])),(6,c1 (.ptr 3 0 0 0)),(10,c1 (.ptr 5 0 0 0))] [⟨.dead,0,true⟩,⟨.view 3 l3,1,false⟩,⟨.view 3 l4,2,false⟩,⟨.box [.sl 4 Qa.length,.n Qb,.n 3],3,true⟩,⟨.own 5 Qa,0,true⟩,⟨.box [.nils,.n 0,.n 0],5,true⟩] (n2 rfl (n2 rfl (n2 rfl (n2 rfl (n2 rfl (n2 rfl (n2 rfl (n2 rfl (n2 rfl tv))))))))) (n2 (rd_ rfl) (n2 rfl (n2 rfl (n2 (rw_ rfl rfl) (n2 (rw_ rfl rfl) (n2 (rw_ rfl rfl) tv)))))) (by rw [hnp];rfl) (fun g=>?_);exact kk _ _ ⟨_,g,_,_,_,_,_,by omega,rfl,rfl,H⟩
      ·
       rw [ifBn b16] at H;refine WS.skip ?_;intro kk;refine wcut [some 0,some 1,some 2,some 3,some 4,some 5] [(0,c1 (.str a0)),(2,c1 (.n a2)),(3,c1 (.sl 1 l3.length)),(4,c1 (.sl 2 l4.length)),(11,c1 (.n x11)),(12,c1 (.n x12)),(1,.v (.agg [.sl 0 Qd.length,.n Qe,.n Qf])),(6,c1 (.ptr 3 0 0 0)),(10,c1 (.ptr 5 0 0 0))] [⟨.dead,0,true⟩,⟨.view 3 l3,1,false⟩,⟨.view 3 l4,2,false⟩,⟨.box [.sl 4 Qa.length,.n Qb,.n Qc],3,true⟩,⟨.own 5 Qa,0,true⟩,⟨.box [.nils,.n 0,.n 0],5,true⟩] (n2 rfl (n2 rfl (n2 rfl (n2 rfl (n2 rfl (n2 rfl (n2 rfl (n2 rfl (n2 rfl tv))))))))) (n2 (rd_ rfl) (n2 rfl (n2 rfl (n2 (rw_ rfl rfl) (n2 (rw_ rfl rfl) (n2 (rw_ rfl rfl) tv)))))) (by rw [hnp];rfl) (fun g=>?_);exact kk _ _ ⟨_,g,_,_,_,_,_,by omega,rfl,rfl,H⟩
     rintro ρ h ⟨k,g,x11,x12,Qa,Qb,Qc,hk17,rfl,rfl,H⟩
     rcases k with _ | k
     ·exact nn H
     simp only [c05_codes.j5] at H;refine WS.seq ?_;refine WS.seq ?_;refine wrg ?_;refine wr 3 ?_;refine wn ?_;refine WS.cond rfl (fun b18=>?_) (fun b18=>?_)
     ·
      rw [ifX b18] at H;replace b18:=nT b18;refine WS.seq ?_;refine wrg ?_;refine wr 2 ?_;refine wn ?_;refine WS.ret ?_;cases H;exact ⟨tv,[some 0,some 1,some 2,some 4],_,rfl,rfl,(n2 (rd_ rfl) (n2 rfl (n2 rfl (n2 (rw_ rfl rfl) tv)))),rfl,rfl,rfl⟩
     ·
      rw [ifXn b18] at H;replace b18:=nF b18;refine WS.skip ?_;refine WS.seq ?_;refine wrg ?_;refine wr 1 ?_;obtain ⟨Ql,hbt278,H⟩:=bd H;refine WR.call (ref05_Distance_sp _ _ _ hbt278) [] rfl rfl rfl rfl rfl tv rfl rfl rfl rfl rfl ?_;refine wr 5 ?_;refine wn ?_;refine WS.seq ?_;refine wrg ?_;refine wr 3 ?_;obtain ⟨Qi,hbt280,H⟩:=bd H;(try rw [number_keep hbt280] at H);refine WR.call (ref05_number_sp _ _ _ _ _ _ _ hbt280) [some 4] rfl rfl rfl rfl rfl (n2 rfl tv) rfl rfl rfl rfl rfl ?_;refine wr 5 ?_;refine wn ?_;refine WS.seq ?_;refine wrg ?_;refine wr 4 ?_;refine wn ?_;refine WS.seq ?_;refine WS.seq ?_;refine wrg ?_;refine wr 3 ?_;refine wn ?_;refine WS.cond rfl (fun b19=>?_) (fun b19=>?_)
      ·
       rw [ifX b19] at H;replace b19:=nT b19;refine WS.seq ?_;refine wrg ?_;refine wr 2 ?_;refine wn ?_;refine WS.ret ?_;cases H;exact ⟨tv,[some 0,some 1,some 2,some 4],_,rfl,rfl,(n2 (rd_ rfl) (n2 rfl (n2 rfl (n2 (rw_ rfl rfl) tv)))),rfl,rfl,rfl⟩
      ·
       rw [ifXn b19] at H;replace b19:=nF b19;refine WS.skip ?_;refine WS.seq ?_;refine WS.seq ?_;refine wrg ?_;refine wr 5 ?_;refine wn ?_;refine WS.cond rfl (fun b20=>?_) (fun b20=>?_)
       ·
        rw [ifP b20] at H;replace b20:=dT b20;refine WS.seq ?_;refine wrg ?_;refine wr 2 ?_;refine wn ?_;refine WS.seq ?_;refine wrg ?_;refine wr 2 ?_;refine wn ?_;refine WS.ret ?_;cases H;exact ⟨tv,[some 0,some 1,some 2,some 4],_,rfl,rfl,(n2 (rd_ rfl) (n2 rfl (n2 rfl (n2 (rw_ rfl rfl) tv)))),rfl,rfl,rfl⟩
       ·
        rw [ifN b20] at H;replace b20:=dF b20;refine WS.skip ?_;refine WS.seq ?_;refine WS.seq ?_;refine wrg ?_;refine wr 7 ?_;refine wn ?_;refine WS.cond rfl (fun b21=>?_) (fun b21=>?_)
        ·
         rw [ifP b21] at H;replace b21:=dT b21;refine WS.seq ?_;refine wrg ?_;refine wr 2 ?_;refine wn ?_;refine WS.seq ?_;refine wrg ?_;refine wr 2 ?_;refine wn ?_;refine WS.ret ?_;cases H;exact ⟨tv,[some 0,some 1,some 2,some 4],_,rfl,rfl,(n2 (rd_ rfl) (n2 rfl (n2 rfl (n2 (rw_ rfl rfl) tv)))),rfl,rfl,rfl⟩
        ·
         rw [ifN b21] at H;replace b21:=dF b21;refine WS.skip ?_;refine WS.seq ?_;refine wrg ?_;refine wr 1 ?_;refine wn ?_;refine WS.block ?_;refine wcut [some 0,some 1,some 2,some 3,some 4,some 5] [(0,c1 (.str a0)),(2,c1 (.n a2)),(3,c1 (.sl 1 l3.length)),(4,c1 (.sl 2 l4.length)),(11,c1 (.n x11)),(12,c1 (.n ((wrap64 (Ql.1+Qi.1))))),(16,c1 (.n 0)),(1,.v (.agg [.sl 0 Qd.length,.n Qe,.n Qf])),(6,c1 (.ptr 3 0 0 0)),(10,c1 (.ptr 5 0 0 0))] [⟨.dead,0,true⟩,⟨.view 3 l3,1,false⟩,⟨.view 3 l4,2,false⟩,⟨.box [.sl 4 Qa.length,.n Qi.2.2.1,.n Qi.2.2.2],3,true⟩,⟨.own 5 Qa,0,true⟩,⟨.box [.nils,.n 0,.n 0],5,true⟩] (n2 rfl (n2 rfl (n2 rfl (n2 rfl (n2 rfl (n2 rfl (n2 rfl (n2 rfl (n2 rfl (n2 rfl tv)))))))))) (n2 (rd_ rfl) (n2 rfl (n2 rfl (n2 (rw_ rfl rfl) (n2 (rw_ rfl rfl) (n2 (rw_ rfl rfl) tv)))))) (by rw [hnp];rfl) (fun g=>?_);refine WS.loop (fun k1 ρ h=>∃ (g:Nat → SV) (x11:Int) (x12:Int) (x16:Int) (Qa:List Int) (Qb:Int) (Qc:Int),k1≤k∧ρ=upds g [(0,c1 (.str a0)),(2,c1 (.n a2)),(3,c1 (.sl 1 l3.length)),(4,c1 (.sl 2 l4.length)),(11,c1 (.n x11)),(12,c1 (.n x12)),(16,c1 (.n x16)),(1,.v (.agg [.sl 0 Qd.length,.n Qe,.n Qf])),(6,c1 (.ptr 3 0 0 0)),(10,c1 (.ptr 5 0 0 0))]∧h=[⟨.dead,0,true⟩,⟨.view 3 l3,1,false⟩,⟨.view 3 l4,2,false⟩,⟨.box [.sl 4 Qa.length,.n Qb,.n Qc],3,true⟩,⟨.own 5 Qa,0,true⟩,⟨.box [.nils,.n 0,.n 0],5,true⟩]∧c05_codes.l1 k1 a0 a2 l3 l4 x11 x12 x16 Qa Qb Qc=some r) ?_ (n:=k) ⟨g,_,_,_,_,_,_,Nat.le_refl _,rfl,rfl,H⟩;rintro k ρ h ih22 ⟨g,x11,x12,x16,Qa,Qb,Qc,hkih22,rfl,rfl,H⟩
         rcases k with _ | k
         ·exact nn H
         simp only [c05_codes.l1] at H;refine WS.seq ?_;refine WS.seq ?_;refine wrg ?_;refine wr 3 ?_;refine wn ?_;refine WS.cond rfl (fun b23=>?_) (fun b23=>?_)
         ·
          rw [ifP b23] at H;replace b23:=dT b23;refine WS.skip ?_;refine WS.seq ?_;refine WS.block ?_;refine wrg ?_;obtain ⟨g24,H⟩:=gd H;obtain ⟨g25,H⟩:=gd H;obtain ⟨g26,H⟩:=gd H;refine wr 15 ?_;refine wn ?_;refine wrg ?_;refine wr 3 ?_;refine wn ?_;refine wcut [some 0,some 1,some 2,some 3,some 7,some 5] [(0,c1 (.str a0)),(2,c1 (.n a2)),(3,c1 (.sl 1 l3.length)),(4,c1 (.sl 2 l4.length)),(11,c1 (.n x11)),(12,c1 (.n x12)),(16,c1 (.n ((wrap64 (x16+1))))),(1,.v (.agg [.sl 0 Qd.length,.n Qe,.n Qf])),(6,c1 (.ptr 3 0 0 0)),(10,c1 (.ptr 5 0 0 0))] [⟨.dead,0,true⟩,⟨.view 3 l3,1,false⟩,⟨.view 3 l4,2,false⟩,⟨.box [.sl 4 ((Qa ++ [rd Qa (wrap64 ((Qa.length:Int) - x12))])).length,.n Qb,.n Qc],3,true⟩,⟨.own 5 (((Qa ++ [rd Qa (wrap64 ((Qa.length:Int) - x12))])):List Int),0,true⟩,⟨.box [.nils,.n 0,.n 0],5,true⟩] (n2 rfl (n2 rfl (n2 rfl (n2 rfl (n2 rfl (n2 rfl (n2 rfl (n2 rfl (n2 rfl (n2 rfl tv)))))))))) (n2 (rd_ rfl) (n2 rfl (n2 rfl (n2 (rw_ rfl rfl) (n2 (rw_ rfl rfl) (n2 (rw_ rfl rfl) tv)))))) (by rw [hnp];rfl) (fun g=>?_);exact ih22 k (by omega) _ _ ⟨g,_,_,_,_,_,_,by omega,rfl,rfl,H⟩
         ·
          rw [ifN b23] at H;replace b23:=dF b23;refine WS.exit ?_;refine wcut [some 0,some 1,some 2,some 3,some 4,some 5] [(0,c1 (.str a0)),(2,c1 (.n a2)),(3,c1 (.sl 1 l3.length)),(4,c1 (.sl 2 l4.length)),(1,.v (.agg [.sl 0 Qd.length,.n Qe,.n Qf])),(6,c1 (.ptr 3 0 0 0)),(10,c1 (.ptr 5 0 0 0))] [⟨.dead,0,true⟩,⟨.view 3 l3,1,false⟩,⟨.view 3 l4,2,false⟩,⟨.box [.sl 4 Qa.length,.n Qb,.n Qc],3,true⟩,⟨.own 5 Qa,0,true⟩,⟨.box [.nils,.n 0,.n 0],5,true⟩] (n2 rfl (n2 rfl (n2 rfl (n2 rfl (n2 rfl (n2 rfl (n2 rfl tv))))))) (n2 (rd_ rfl) (n2 rfl (n2 rfl (n2 (rw_ rfl rfl) (n2 (rw_ rfl rfl) (n2 (rw_ rfl rfl) tv)))))) (by rw [hnp];rfl) (fun g=>?_);exact ih5 k (by omega) _ _ ⟨g,_,_,_,by omega,rfl,rfl,H⟩
 ·
  rw [ifEn b6] at H;replace b6:=bF b6;refine WS.exit ?_;refine WS.seq ?_;refine wrg ?_;refine wr 2 ?_;refine wn ?_;refine WS.ret ?_;cases H;exact ⟨tv,[some 0,some 1,some 2,some 4],_,rfl,rfl,(n2 (rd_ rfl) (n2 rfl (n2 rfl (n2 (rw_ rfl rfl) tv)))),rfl,rfl,rfl⟩
end Go.Proofs.Ytpbhkdamkbopkaa.Rs
namespace Go.Proofs.Ytpbhkdamkbopkaa.Rs
open Go Go.RowKit Rf YtpbhkdamkbopkaaW.PrintWords Go.Proofs.Ytpbhkdamkbopkaa GInfr GPix
set_option maxRecDepth 10000
set_option maxHeartbeats 4000000
variable {O:Orc}
theorem lengths_keep_l:∀ k,(∀ {x0 x7 x8 x9 x47 Qa Qb Qc r},c05_lengths.j0 k x0 x7 x8 x9 x47 Qa Qb Qc=some r → r.2.2.1=Qa)∧(∀ {x0 x7 x8 x9 Qa Qb Qc r},c05_lengths.j1 k x0 x7 x8 x9 Qa Qb Qc=some r → r.2.2.1=Qa)∧(∀ {x0 x7 x8 x9 x10 x11 x12 Qa Qb Qc r},c05_lengths.l0 k x0 x7 x8 x9 x10 x11 x12 Qa Qb Qc=some r → r.2.2.1=Qa)∧(∀ {x0 x7 x8 x10 Qa Qb Qc r},c05_lengths.j3 k x0 x7 x8 x10 Qa Qb Qc=some r → r.2.2.1=Qa)∧(∀ {x7 x13 x14 Qa Qb Qc r},c05_lengths.j8 k x7 x13 x14 Qa Qb Qc=some r → r.2.2.1=Qa)∧(∀ {x7 x13 Qd Qa Qb Qc r},c05_lengths.j9 k x7 x13 Qd Qa Qb Qc=some r → r.2.2.1=Qa)∧(∀ {x0 x7 x10 x13 x14 Qa Qb Qc r},c05_lengths.l1 k x0 x7 x10 x13 x14 Qa Qb Qc=some r → r.2.2.1=Qa)∧(∀ {x0 x7 x10 x13 x14 x87 Qa Qb Qc r},c05_lengths.j5 k x0 x7 x10 x13 x14 x87 Qa Qb Qc=some r → r.2.2.1=Qa)∧(∀ {x0 x7 x10 x13 x14 x16 x17 Qa Qb Qc r},c05_lengths.j6 k x0 x7 x10 x13 x14 x16 x17 Qa Qb Qc=some r → r.2.2.1=Qa)∧(∀ {x0 x7 x10 x13 x14 x16 x17 x18 Qa Qb Qc r},c05_lengths.l2 k x0 x7 x10 x13 x14 x16 x17 x18 Qa Qb Qc=some r → r.2.2.1=Qa):=by
 intro k
 induction k with
 |zero=>exact ⟨(fun h=>nomatch (show none=some _ from h)),(fun h=>nomatch (show none=some _ from h)),(fun h=>nomatch (show none=some _ from h)),(fun h=>nomatch (show none=some _ from h)),(fun h=>nomatch (show none=some _ from h)),(fun h=>nomatch (show none=some _ from h)),(fun h=>nomatch (show none=some _ from h)),(fun h=>nomatch (show none=some _ from h)),(fun h=>nomatch (show none=some _ from h)),(fun h=>nomatch (show none=some _ from h))⟩
 |succ k ih =>
  obtain ⟨ij0,ij1,il0,ij3,ij8,ij9,il1,ij5,ij6,il2⟩:=ih
  refine ⟨?_,?_,?_,?_,?_,?_,?_,?_,?_,?_⟩ <;> intros <;> rename_i h <;> simp only [c05_lengths.j0,c05_lengths.j1,c05_lengths.l0,c05_lengths.j3,c05_lengths.j8,c05_lengths.j9,c05_lengths.l1,c05_lengths.j5,c05_lengths.j6,c05_lengths.l2] at h <;> (repeat' first
   |exact ij0 h | exact ij1 h | exact il0 h | exact ij3 h | exact ij8 h | exact ij9 h | exact il1 h | exact ij5 h | exact ij6 h | exact il2 h
   |(cases h;rfl)
   |(cases h;done)
   |(split at h)
   |(obtain ⟨_,hy,h⟩:=bd h;first | rw [number_keep hy] at h | rw [symbol_keep hy] at h | skip))
theorem lengths_keep {k:Nat} {a0:ByteArray} {l:List Int} {a b:Int} {r:List Int × List Int × List Int × Int × Int} (h:c05_lengths.f k a0 l a b=some r):r.2.2.1=l:=by
 obtain ⟨ij0,ij1,il0,ij3,ij8,ij9,il1,ij5,ij6,il2⟩:=lengths_keep_l k;unfold c05_lengths.f at h
 repeat' first
  |exact ij0 h | exact ij1 h | exact il0 h | exact ij3 h | exact ij8 h | exact ij9 h | exact il1 h | exact ij5 h | exact ij6 h | exact il2 h
  |(cases h;rfl)
  |(cases h;done)
  |(split at h)
  |(obtain ⟨_,hy,h⟩:=bd h;first | rw [number_keep hy] at h | rw [symbol_keep hy] at h | skip)
theorem ref05_lengths_sp (k:Nat) (a0:ByteArray) (Qc:List Int) (Qd:Int) (Qe:Int) (r:List Int × List Int × List Int × Int × Int) (H:c05_lengths.f k a0 Qc Qd Qe=some r):Sp (KT:=kt) Try.prog O 76 [c1 (.str a0),.v (.agg [.sl 0 Qc.length,.n Qd,.n Qe])] [⟨.view 5 Qc,0,false⟩] (.t [.c (.sl 1 (r.1.take (r.2.1.headD 0).toNat).length),.c (.sl 2 (r.1.drop (r.2.1.headD 0).toNat).length),.agg [.sl 0 Qc.length,.n r.2.2.2.1,.n r.2.2.2.2]]) [⟨.view 5 Qc,0,false⟩,⟨.view 3 (r.1.take (r.2.1.headD 0).toNat:List Int),1,true⟩,⟨.view 3 (r.1.drop (r.2.1.headD 0).toNat:List Int),1,true⟩]:=by
 refine Sp.of tok (by kernel_rfl) Try.func76 rfl rfl fun Γ hnp=>?_;unfold c05_lengths.f at H;refine WS.seq ?_;refine wrg ?_;refine wr 4 ?_;refine wn ?_;refine WS.seq ?_;refine wrg ?_;refine wr 3 ?_;refine wn ?_;refine WS.seq ?_;refine wrg ?_;refine wr 2 ?_;obtain ⟨Qj,hbt292,H⟩:=bd H;try rw [number_keep hbt292] at H
 refine WR.call (ref05_number_sp _ _ _ _ _ _ _ hbt292) [some 0] rfl rfl rfl rfl rfl (n2 rfl tv) rfl rfl rfl rfl rfl ?_;refine wr 5 ?_;refine wn ?_;refine WS.seq ?_;refine wrg ?_;refine wr 2 ?_;obtain ⟨Qh,hbt298,H⟩:=bd H;try rw [number_keep hbt298] at H
 refine WR.call (ref05_number_sp _ _ _ _ _ _ _ hbt298) [some 0] rfl rfl rfl rfl rfl (n2 rfl tv) rfl rfl rfl rfl rfl ?_;refine wr 5 ?_;refine wn ?_;refine WS.seq ?_;refine wrg ?_;refine wr 2 ?_;obtain ⟨Qf,hbt304,H⟩:=bd H;try rw [number_keep hbt304] at H
 refine WR.call (ref05_number_sp _ _ _ _ _ _ _ hbt304) [some 0] rfl rfl rfl rfl rfl (n2 rfl tv) rfl rfl rfl rfl rfl ?_;refine wr 5 ?_;refine wn ?_;refine WS.join (fun ρ h=>∃ k1,∃ (g:Nat → SV) (x7:Int) (x8:Int) (x9:Int) (Qa:Int) (Qb:Int),k1≤k∧ρ=upds g [(0,c1 (.str a0)),(7,c1 (.n x7)),(8,c1 (.n x8)),(9,c1 (.n x9)),(1,.v (.agg [.sl 0 Qc.length,.n Qd,.n Qe])),(3,c1 (.ptr 1 0 0 0)),(6,c1 (.ptr 2 0 0 0))]∧h=[⟨.view 5 Qc,0,false⟩,⟨.box [.sl 0 Qc.length,.n Qa,.n Qb],1,true⟩,⟨.box [.nils,.n 0,.n 0],2,true⟩]∧c05_lengths.j1 k1 a0 x7 x8 x9 Qc Qa Qb=some r) ?_ ?_
 ·
  refine WS.join (fun ρ h=>∃ k1,∃ (g:Nat → SV) (x7:Int) (x8:Int) (x9:Int) (x47:Bool) (Qa:Int) (Qb:Int),k1≤k∧ρ=upds g [(0,c1 (.str a0)),(7,c1 (.n x7)),(8,c1 (.n x8)),(9,c1 (.n x9)),(47,c1 (.bool x47)),(1,.v (.agg [.sl 0 Qc.length,.n Qd,.n Qe])),(3,c1 (.ptr 1 0 0 0)),(6,c1 (.ptr 2 0 0 0))]∧h=[⟨.view 5 Qc,0,false⟩,⟨.box [.sl 0 Qc.length,.n Qa,.n Qb],1,true⟩,⟨.box [.nils,.n 0,.n 0],2,true⟩]∧c05_lengths.j0 k1 a0 x7 x8 x9 x47 Qc Qa Qb=some r) ?_ ?_
  ·
   refine wrg ?_;refine wr 4 ?_;refine WR.split 40 rfl (fun b1=>?_) (fun b1=>?_)
   ·
    rw [ifE b1] at H;replace b1:=eq_of_beq b1;refine wr 3 ?_;refine WR.split 43 rfl (fun b2=>?_) (fun b2=>?_)
    ·
     rw [ifP b2] at H;replace b2:=dT b2;refine wr 4 ?_;refine wn ?_;intro kk;refine wcut [some 0,some 1,some 2] [(0,c1 (.str a0)),(7,c1 (.n Qj.1)),(8,c1 (.n Qh.1)),(9,c1 (.n Qf.1)),(47,c1 (.bool true)),(1,.v (.agg [.sl 0 Qc.length,.n Qd,.n Qe])),(3,c1 (.ptr 1 0 0 0)),(6,c1 (.ptr 2 0 0 0))] [⟨.view 5 Qc,0,false⟩,⟨.box [.sl 0 Qc.length,.n Qf.2.2.1,.n Qf.2.2.2],1,true⟩,⟨.box [.nils,.n 0,.n 0],2,true⟩] (n2 rfl (n2 rfl (n2 rfl (n2 rfl (n2 rfl (n2 rfl (n2 rfl (n2 rfl tv)))))))) (n2 rfl (n2 (rw_ rfl rfl) (n2 (rw_ rfl rfl) tv))) (by rw [hnp];rfl) (fun g=>?_);exact kk _ _ ⟨_,g,_,_,_,_,_,_,by omega,rfl,rfl,H⟩
    ·
     rw [ifN b2] at H;replace b2:=dF b2;refine wr 4 ?_;refine wn ?_;intro kk;refine wcut [some 0,some 1,some 2] [(0,c1 (.str a0)),(7,c1 (.n Qj.1)),(8,c1 (.n Qh.1)),(9,c1 (.n Qf.1)),(47,c1 (.bool ((decide (Qh.1 > 29))))),(1,.v (.agg [.sl 0 Qc.length,.n Qd,.n Qe])),(3,c1 (.ptr 1 0 0 0)),(6,c1 (.ptr 2 0 0 0))] [⟨.view 5 Qc,0,false⟩,⟨.box [.sl 0 Qc.length,.n Qf.2.2.1,.n Qf.2.2.2],1,true⟩,⟨.box [.nils,.n 0,.n 0],2,true⟩] (n2 rfl (n2 rfl (n2 rfl (n2 rfl (n2 rfl (n2 rfl (n2 rfl (n2 rfl tv)))))))) (n2 rfl (n2 (rw_ rfl rfl) (n2 (rw_ rfl rfl) tv))) (by rw [hnp];rfl) (fun g=>?_);exact kk _ _ ⟨_,g,_,_,_,_,_,_,by omega,rfl,rfl,H⟩
   ·
    rw [ifEn b1] at H;replace b1:=bF b1;refine wr 7 ?_;refine wn ?_;intro kk;refine wcut [some 0,some 1,some 2] [(0,c1 (.str a0)),(7,c1 (.n Qj.1)),(8,c1 (.n Qh.1)),(9,c1 (.n Qf.1)),(47,c1 (.bool false)),(1,.v (.agg [.sl 0 Qc.length,.n Qd,.n Qe])),(3,c1 (.ptr 1 0 0 0)),(6,c1 (.ptr 2 0 0 0))] [⟨.view 5 Qc,0,false⟩,⟨.box [.sl 0 Qc.length,.n Qf.2.2.1,.n Qf.2.2.2],1,true⟩,⟨.box [.nils,.n 0,.n 0],2,true⟩] (n2 rfl (n2 rfl (n2 rfl (n2 rfl (n2 rfl (n2 rfl (n2 rfl (n2 rfl tv)))))))) (n2 rfl (n2 (rw_ rfl rfl) (n2 (rw_ rfl rfl) tv))) (by rw [hnp];rfl) (fun g=>?_);exact kk _ _ ⟨_,g,_,_,_,_,_,_,by omega,rfl,rfl,H⟩
  rintro ρ h ⟨k,g,x7,x8,x9,x47,Qa,Qb,hk3,rfl,rfl,H⟩
  rcases k with _ | k
  ·exact nn H
  simp only [c05_lengths.j0] at H;refine WS.cond rfl (fun b4=>?_) (fun b4=>?_)
  ·
   rw [ifB b4] at H;refine wrg ?_;refine wr 2 ?_;refine wn ?_;intro kk;refine wcut [some 0,some 1,some 2] [(0,c1 (.str a0)),(7,c1 (.n x7)),(8,c1 (.n x8)),(9,c1 (.n x9)),(1,.v (.agg [.sl 0 Qc.length,.n Qd,.n Qe])),(3,c1 (.ptr 1 0 0 0)),(6,c1 (.ptr 2 0 0 0))] [⟨.view 5 Qc,0,false⟩,⟨.box [.sl 0 Qc.length,.n Qa,.n 3],1,true⟩,⟨.box [.nils,.n 0,.n 0],2,true⟩] (n2 rfl (n2 rfl (n2 rfl (n2 rfl (n2 rfl (n2 rfl (n2 rfl tv))))))) (n2 rfl (n2 (rw_ rfl rfl) (n2 (rw_ rfl rfl) tv))) (by rw [hnp];rfl) (fun g=>?_);exact kk _ _ ⟨_,g,_,_,_,_,_,by omega,rfl,rfl,H⟩
  ·
   rw [ifBn b4] at H;refine WS.skip ?_;intro kk;refine wcut [some 0,some 1,some 2] [(0,c1 (.str a0)),(7,c1 (.n x7)),(8,c1 (.n x8)),(9,c1 (.n x9)),(1,.v (.agg [.sl 0 Qc.length,.n Qd,.n Qe])),(3,c1 (.ptr 1 0 0 0)),(6,c1 (.ptr 2 0 0 0))] [⟨.view 5 Qc,0,false⟩,⟨.box [.sl 0 Qc.length,.n Qa,.n Qb],1,true⟩,⟨.box [.nils,.n 0,.n 0],2,true⟩] (n2 rfl (n2 rfl (n2 rfl (n2 rfl (n2 rfl (n2 rfl (n2 rfl tv))))))) (n2 rfl (n2 (rw_ rfl rfl) (n2 (rw_ rfl rfl) tv))) (by rw [hnp];rfl) (fun g=>?_);exact kk _ _ ⟨_,g,_,_,_,_,_,by omega,rfl,rfl,H⟩
 rintro ρ h ⟨k,g,x7,x8,x9,Qa,Qb,hk5,rfl,rfl,H⟩
 rcases k with _ | k
 ·exact nn H
 simp only [c05_lengths.j1] at H;refine WS.seq ?_;refine wrg ?_;obtain ⟨g6,H⟩:=gd H;refine wr 2 ?_;refine wn ?_;refine WS.seq ?_;refine wrg ?_;refine wr 2 ?_;refine wn ?_;refine WS.seq ?_;refine WS.seq ?_;refine wrg ?_;refine wr 1 ?_;refine wn ?_;refine WS.block ?_;refine wcut [some 0,some 3,some 4,some 1,some 2] [(0,c1 (.str a0)),(7,c1 (.n x7)),(8,c1 (.n x8)),(9,c1 (.n x9)),(10,c1 (.sl 1 ((List.replicate 19 0)).length)),(11,c1 (.sl 2 ((([16,17,18,0,8,7,9,6,10,5,11,4,12,3,13,2,14,1,15]:List Int))).length)),(12,c1 (.n 0)),(1,.v (.agg [.sl 0 Qc.length,.n Qd,.n Qe])),(3,c1 (.ptr 3 0 0 0)),(6,c1 (.ptr 4 0 0 0))] [⟨.view 5 Qc,0,false⟩,⟨.own 3 (((List.replicate 19 0)):List Int),1,true⟩,⟨.own 3 (((([16,17,18,0,8,7,9,6,10,5,11,4,12,3,13,2,14,1,15]:List Int))):List Int),2,true⟩,⟨.box [.sl 0 Qc.length,.n Qa,.n Qb],3,true⟩,⟨.box [.nils,.n 0,.n 0],4,true⟩] (n2 rfl (n2 rfl (n2 rfl (n2 rfl (n2 rfl (n2 rfl (n2 rfl (n2 rfl (n2 rfl (n2 rfl tv)))))))))) (n2 rfl (n2 (rw_ rfl rfl) (n2 (rw_ rfl rfl) (n2 (rw_ rfl rfl) (n2 (rw_ rfl rfl) tv))))) (by rw [hnp];rfl) (fun g=>?_);refine WS.loop (fun k1 ρ h=>∃ (g:Nat → SV) (x7:Int) (x8:Int) (x9:Int) (x10:List Int) (x11:List Int) (x12:Int) (Qa:Int) (Qb:Int),k1≤k∧ρ=upds g [(0,c1 (.str a0)),(7,c1 (.n x7)),(8,c1 (.n x8)),(9,c1 (.n x9)),(10,c1 (.sl 1 x10.length)),(11,c1 (.sl 2 x11.length)),(12,c1 (.n x12)),(1,.v (.agg [.sl 0 Qc.length,.n Qd,.n Qe])),(3,c1 (.ptr 3 0 0 0)),(6,c1 (.ptr 4 0 0 0))]∧h=[⟨.view 5 Qc,0,false⟩,⟨.own 3 x10,1,true⟩,⟨.own 3 x11,2,true⟩,⟨.box [.sl 0 Qc.length,.n Qa,.n Qb],3,true⟩,⟨.box [.nils,.n 0,.n 0],4,true⟩]∧c05_lengths.l0 k1 a0 x7 x8 x9 x10 x11 x12 Qc Qa Qb=some r) ?_ (n:=k) ⟨g,_,_,_,_,_,_,_,_,Nat.le_refl _,rfl,rfl,H⟩
 rintro k ρ h ih7 ⟨g,x7,x8,x9,x10,x11,x12,Qa,Qb,hkih7,rfl,rfl,H⟩
 rcases k with _ | k
 ·exact nn H
 simp only [c05_lengths.l0] at H;refine WS.seq ?_;refine WS.seq ?_;refine wrg ?_;refine wr 4 ?_;refine wn ?_;refine WS.cond rfl (fun b8=>?_) (fun b8=>?_)
 ·
  rw [ifP b8] at H;replace b8:=dT b8;refine WS.skip ?_;refine WS.seq ?_;refine WS.block ?_;refine wrg ?_;obtain ⟨g9,H⟩:=gd H;obtain ⟨g10,H⟩:=gd H;refine wr 7 ?_;obtain ⟨Qi,hbt317,H⟩:=bd H;try rw [number_keep hbt317] at H
  refine WR.call (ref05_number_sp _ _ _ _ _ _ _ hbt317) [some 0] rfl rfl rfl rfl rfl (n2 rfl tv) rfl rfl rfl rfl rfl ?_;obtain ⟨g11,H⟩:=gd H;obtain ⟨g12,H⟩:=gd H;refine wr 6 ?_;refine wn ?_;refine wrg ?_;refine wr 3 ?_;refine wn ?_;refine wcut [some 0,some 1,some 2,some 3,some 4] [(0,c1 (.str a0)),(7,c1 (.n x7)),(8,c1 (.n x8)),(9,c1 (.n x9)),(10,c1 (.sl 1 ((x10.set ((rd x11 x12):Int).toNat Qi.1)).length)),(11,c1 (.sl 2 x11.length)),(12,c1 (.n ((wrap64 (x12+1))))),(1,.v (.agg [.sl 0 Qc.length,.n Qd,.n Qe])),(3,c1 (.ptr 3 0 0 0)),(6,c1 (.ptr 4 0 0 0))] [⟨.view 5 Qc,0,false⟩,⟨.own 3 (((x10.set ((rd x11 x12):Int).toNat Qi.1)):List Int),1,true⟩,⟨.own 3 x11,2,true⟩,⟨.box [.sl 0 Qc.length,.n Qi.2.2.1,.n Qi.2.2.2],3,true⟩,⟨.box [.nils,.n 0,.n 0],4,true⟩] (n2 rfl (n2 rfl (n2 rfl (n2 rfl (n2 (sl_ rfl rfl (by simp)) (n2 rfl (n2 rfl (n2 rfl (n2 rfl (n2 rfl tv)))))))))) (n2 rfl (n2 (rw_ rfl rfl) (n2 (rw_ rfl rfl) (n2 (rw_ rfl rfl) (n2 (rw_ rfl rfl) tv))))) (by rw [hnp];rfl) (fun g=>?_);exact ih7 k (by omega) _ _ ⟨g,_,_,_,_,_,_,_,_,by omega,rfl,rfl,H⟩
 ·
  rw [ifN b8] at H;replace b8:=dF b8;refine WS.exit ?_;refine WS.join (fun ρ h=>∃ k1,∃ (g:Nat → SV) (x7:Int) (x8:Int) (x10:List Int) (Qa:Int) (Qb:Int),k1≤k∧ρ=upds g [(0,c1 (.str a0)),(7,c1 (.n x7)),(8,c1 (.n x8)),(10,c1 (.sl 1 x10.length)),(1,.v (.agg [.sl 0 Qc.length,.n Qd,.n Qe])),(3,c1 (.ptr 2 0 0 0)),(6,c1 (.ptr 3 0 0 0))]∧h=[⟨.view 5 Qc,0,false⟩,⟨.own 3 x10,1,true⟩,⟨.box [.sl 0 Qc.length,.n Qa,.n Qb],2,true⟩,⟨.box [.nils,.n 0,.n 0],3,true⟩]∧c05_lengths.j3 k1 a0 x7 x8 x10 Qc Qa Qb=some r) ?_ ?_
  ·
   refine WS.seq ?_;refine wrg ?_;refine wr 3 ?_;refine wn ?_;refine WS.cond rfl (fun b13=>?_) (fun b13=>?_)
   ·
    rw [ifE b13] at H;replace b13:=eq_of_beq b13;refine wrg ?_;refine wr 1 ?_;obtain ⟨Qo,ht324,H⟩:=bd H;refine WR.call (ref04_Error_sp _ _ _ ht324) [some 1] rfl rfl rfl rfl rfl (n2 rfl tv) rfl rfl rfl rfl rfl ?_;refine wr 2 ?_;refine wn ?_;intro kk;refine wcut [some 0,some 1,some 3,some 4] [(0,c1 (.str a0)),(7,c1 (.n x7)),(8,c1 (.n x8)),(10,c1 (.sl 1 x10.length)),(1,.v (.agg [.sl 0 Qc.length,.n Qd,.n Qe])),(3,c1 (.ptr 2 0 0 0)),(6,c1 (.ptr 3 0 0 0))] [⟨.view 5 Qc,0,false⟩,⟨.own 3 x10,1,true⟩,⟨.box [.sl 0 Qc.length,.n Qa,.n Qo],2,true⟩,⟨.box [.nils,.n 0,.n 0],3,true⟩] (n2 rfl (n2 rfl (n2 rfl (n2 rfl (n2 rfl (n2 rfl (n2 rfl tv))))))) (n2 rfl (n2 (rw_ rfl rfl) (n2 (rw_ rfl rfl) (n2 (rw_ rfl rfl) tv)))) (by rw [hnp];rfl) (fun g=>?_);exact kk _ _ ⟨_,g,_,_,_,_,_,by omega,rfl,rfl,H⟩
   ·
    rw [ifEn b13] at H;replace b13:=bF b13;refine WS.skip ?_;intro kk;refine wcut [some 0,some 1,some 3,some 4] [(0,c1 (.str a0)),(7,c1 (.n x7)),(8,c1 (.n x8)),(10,c1 (.sl 1 x10.length)),(1,.v (.agg [.sl 0 Qc.length,.n Qd,.n Qe])),(3,c1 (.ptr 2 0 0 0)),(6,c1 (.ptr 3 0 0 0))] [⟨.view 5 Qc,0,false⟩,⟨.own 3 x10,1,true⟩,⟨.box [.sl 0 Qc.length,.n Qa,.n Qb],2,true⟩,⟨.box [.nils,.n 0,.n 0],3,true⟩] (n2 rfl (n2 rfl (n2 rfl (n2 rfl (n2 rfl (n2 rfl (n2 rfl tv))))))) (n2 rfl (n2 (rw_ rfl rfl) (n2 (rw_ rfl rfl) (n2 (rw_ rfl rfl) tv)))) (by rw [hnp];rfl) (fun g=>?_);exact kk _ _ ⟨_,g,_,_,_,_,_,by omega,rfl,rfl,H⟩
  rintro ρ h ⟨k,g,x7,x8,x10,Qa,Qb,hk14,rfl,rfl,H⟩
  rcases k with _ | k
  ·exact nn H
  simp only [c05_lengths.j3] at H;refine WS.seq ?_;refine wrg ?_;refine wr 1 ?_;refine wn ?_;refine WS.seq ?_;refine wrg ?_;refine wr 5 ?_;refine wn ?_;refine WS.join (fun ρ h=>∃ k1,∃ (g:Nat → SV) (x7:Int) (x13:List Int) (x14:Int) (Qa:Int) (Qb:Int),k1≤k∧ρ=upds g [(7,c1 (.n x7)),(13,c1 (.sl 1 x13.length)),(14,c1 (.n x14)),(0,c1 (.str a0)),(1,.v (.agg [.sl 0 Qc.length,.n Qd,.n Qe])),(3,c1 (.ptr 2 0 0 0)),(6,c1 (.ptr 3 0 0 0))]∧h=[⟨.view 5 Qc,0,false⟩,⟨.own 3 x13,1,true⟩,⟨.box [.sl 0 Qc.length,.n Qa,.n Qb],2,true⟩,⟨.box [.nils,.n 0,.n 0],3,true⟩]∧c05_lengths.j8 k1 x7 x13 x14 Qc Qa Qb=some r) ?_ ?_
  ·
   refine WS.block ?_;refine wcut [some 0,some 1,none,some 2,some 3] [(0,c1 (.str a0)),(7,c1 (.n x7)),(10,c1 (.sl 1 x10.length)),(13,c1 (.sl 2 (([]:List Int)).length)),(14,c1 (.n ((wrap64 ((wrap64 (x7+x8))+258))))),(1,.v (.agg [.sl 0 Qc.length,.n Qd,.n Qe])),(3,c1 (.ptr 3 0 0 0)),(6,c1 (.ptr 4 0 0 0))] [⟨.view 5 Qc,0,false⟩,⟨.own 3 x10,1,true⟩,⟨.own 3 ((([]:List Int)):List Int),2,true⟩,⟨.box [.sl 0 Qc.length,.n Qa,.n Qb],3,true⟩,⟨.box [.nils,.n 0,.n 0],4,true⟩] (n2 rfl (n2 rfl (n2 rfl (n2 rfl (n2 rfl (n2 rfl (n2 rfl (n2 rfl tv)))))))) (n2 rfl (n2 (rw_ rfl rfl) (n2 rfl (n2 (rw_ rfl rfl) (n2 (rw_ rfl rfl) tv))))) (by rw [hnp];rfl) (fun g=>?_);refine WS.loop (fun k1 ρ h=>∃ (g:Nat → SV) (x7:Int) (x10:List Int) (x13:List Int) (x14:Int) (Qa:Int) (Qb:Int),k1≤k∧ρ=upds g [(0,c1 (.str a0)),(7,c1 (.n x7)),(10,c1 (.sl 1 x10.length)),(13,c1 (.sl 2 x13.length)),(14,c1 (.n x14)),(1,.v (.agg [.sl 0 Qc.length,.n Qd,.n Qe])),(3,c1 (.ptr 3 0 0 0)),(6,c1 (.ptr 4 0 0 0))]∧h=[⟨.view 5 Qc,0,false⟩,⟨.own 3 x10,1,true⟩,⟨.own 3 x13,2,true⟩,⟨.box [.sl 0 Qc.length,.n Qa,.n Qb],3,true⟩,⟨.box [.nils,.n 0,.n 0],4,true⟩]∧c05_lengths.l1 k1 a0 x7 x10 x13 x14 Qc Qa Qb=some r) ?_ (n:=k) ⟨g,_,_,_,_,_,_,Nat.le_refl _,rfl,rfl,H⟩;rintro k ρ h ih15 ⟨g,x7,x10,x13,x14,Qa,Qb,hkih15,rfl,rfl,H⟩
   rcases k with _ | k
   ·exact nn H
   simp only [c05_lengths.l1] at H;refine WS.seq ?_;refine WS.join (fun ρ h=>∃ k1,∃ (g:Nat → SV) (x7:Int) (x10:List Int) (x13:List Int) (x14:Int) (x87:Bool) (Qa:Int) (Qb:Int),k1≤k∧ρ=upds g [(0,c1 (.str a0)),(7,c1 (.n x7)),(10,c1 (.sl 1 x10.length)),(13,c1 (.sl 2 x13.length)),(14,c1 (.n x14)),(87,c1 (.bool x87)),(1,.v (.agg [.sl 0 Qc.length,.n Qd,.n Qe])),(3,c1 (.ptr 3 0 0 0)),(6,c1 (.ptr 4 0 0 0))]∧h=[⟨.view 5 Qc,0,false⟩,⟨.own 3 x10,1,true⟩,⟨.own 3 x13,2,true⟩,⟨.box [.sl 0 Qc.length,.n Qa,.n Qb],3,true⟩,⟨.box [.nils,.n 0,.n 0],4,true⟩]∧c05_lengths.j5 k1 a0 x7 x10 x13 x14 x87 Qc Qa Qb=some r) ?_ ?_
   ·
    refine wrg ?_;refine wr 4 ?_;refine WR.split 82 rfl (fun b16=>?_) (fun b16=>?_)
    ·
     rw [ifE b16] at H;replace b16:=eq_of_beq b16;refine wr 5 ?_;refine wn ?_;intro kk;refine wcut [some 0,some 1,some 2,some 3,some 4] [(0,c1 (.str a0)),(7,c1 (.n x7)),(10,c1 (.sl 1 x10.length)),(13,c1 (.sl 2 x13.length)),(14,c1 (.n x14)),(87,c1 (.bool ((decide ((x13.length:Int) < x14))))),(1,.v (.agg [.sl 0 Qc.length,.n Qd,.n Qe])),(3,c1 (.ptr 3 0 0 0)),(6,c1 (.ptr 4 0 0 0))] [⟨.view 5 Qc,0,false⟩,⟨.own 3 x10,1,true⟩,⟨.own 3 x13,2,true⟩,⟨.box [.sl 0 Qc.length,.n Qa,.n Qb],3,true⟩,⟨.box [.nils,.n 0,.n 0],4,true⟩] (n2 rfl (n2 rfl (n2 rfl (n2 rfl (n2 rfl (n2 rfl (n2 rfl (n2 rfl (n2 rfl tv))))))))) (n2 rfl (n2 (rw_ rfl rfl) (n2 (rw_ rfl rfl) (n2 (rw_ rfl rfl) (n2 (rw_ rfl rfl) tv))))) (by rw [hnp];rfl) (fun g=>?_);exact kk _ _ ⟨_,g,_,_,_,_,_,_,_,by omega,rfl,rfl,H⟩
    ·
     rw [ifEn b16] at H;replace b16:=bF b16;refine wr 5 ?_;refine wn ?_;intro kk;refine wcut [some 0,some 1,some 2,some 3,some 4] [(0,c1 (.str a0)),(7,c1 (.n x7)),(10,c1 (.sl 1 x10.length)),(13,c1 (.sl 2 x13.length)),(14,c1 (.n x14)),(87,c1 (.bool false)),(1,.v (.agg [.sl 0 Qc.length,.n Qd,.n Qe])),(3,c1 (.ptr 3 0 0 0)),(6,c1 (.ptr 4 0 0 0))] [⟨.view 5 Qc,0,false⟩,⟨.own 3 x10,1,true⟩,⟨.own 3 x13,2,true⟩,⟨.box [.sl 0 Qc.length,.n Qa,.n Qb],3,true⟩,⟨.box [.nils,.n 0,.n 0],4,true⟩] (n2 rfl (n2 rfl (n2 rfl (n2 rfl (n2 rfl (n2 rfl (n2 rfl (n2 rfl (n2 rfl tv))))))))) (n2 rfl (n2 (rw_ rfl rfl) (n2 (rw_ rfl rfl) (n2 (rw_ rfl rfl) (n2 (rw_ rfl rfl) tv))))) (by rw [hnp];rfl) (fun g=>?_);exact kk _ _ ⟨_,g,_,_,_,_,_,_,_,by omega,rfl,rfl,H⟩
   rintro ρ h ⟨k,g,x7,x10,x13,x14,x87,Qa,Qb,hk17,rfl,rfl,H⟩
   rcases k with _ | k
   ·exact nn H
   simp only [c05_lengths.j5] at H;refine WS.cond rfl (fun b18=>?_) (fun b18=>?_)
   ·
    rw [ifB b18] at H;refine WS.skip ?_;refine WS.block ?_;refine WS.seq ?_;refine wrg ?_;refine wr 1 ?_;refine wn ?_;refine WS.seq ?_;refine wrg ?_;refine wr 3 ?_;obtain ⟨Qg,hbt325,H⟩:=bd H;(try rw [symbol_keep hbt325] at H);refine WR.call (ref05_symbol_sp _ _ _ _ _ _ _ hbt325) [some 0,some 1] rfl rfl rfl rfl rfl (n2 rfl (n2 rfl tv)) rfl rfl rfl rfl rfl ?_;refine wr 5 ?_;refine wn ?_;refine WS.seq ?_;refine WS.seq ?_;refine wrg ?_;refine wr 3 ?_;refine wn ?_;refine WS.cond rfl (fun b19=>?_) (fun b19=>?_)
    ·
     rw [ifX b19] at H;replace b19:=nT b19;refine WS.exit ?_;intro kk;refine wcut [some 0,some 2,some 3,some 4] [(7,c1 (.n x7)),(13,c1 (.sl 1 x13.length)),(14,c1 (.n x14)),(0,c1 (.str a0)),(1,.v (.agg [.sl 0 Qc.length,.n Qd,.n Qe])),(3,c1 (.ptr 2 0 0 0)),(6,c1 (.ptr 3 0 0 0))] [⟨.view 5 Qc,0,false⟩,⟨.own 3 x13,1,true⟩,⟨.box [.sl 0 Qc.length,.n Qg.2.2.1,.n Qg.2.2.2],2,true⟩,⟨.box [.nils,.n 0,.n 0],3,true⟩] (n2 rfl (n2 rfl (n2 rfl (n2 rfl (n2 rfl (n2 rfl (n2 rfl tv))))))) (n2 rfl (n2 (rw_ rfl rfl) (n2 (rw_ rfl rfl) (n2 (rw_ rfl rfl) tv)))) (by rw [hnp];rfl) (fun g=>?_);exact kk _ _ ⟨_,g,_,_,_,_,_,by omega,rfl,rfl,H⟩
    ·
     rw [ifXn b19] at H;replace b19:=nF b19;refine WS.skip ?_;refine WS.seq ?_;refine WS.seq ?_;refine wrg ?_;refine wr 2 ?_;refine wn ?_;refine WS.cond rfl (fun b20=>?_) (fun b20=>?_)
     ·
      rw [ifP b20] at H;replace b20:=dT b20;refine WS.seq ?_;refine wrg ?_;obtain ⟨g21,H⟩:=gd H;refine wr 5 ?_;refine wn ?_;refine WS.exit ?_;refine wcut [some 0,some 1,some 6,some 3,some 4] [(0,c1 (.str a0)),(7,c1 (.n x7)),(10,c1 (.sl 1 x10.length)),(13,c1 (.sl 2 ((x13 ++ [Qg.1])).length)),(14,c1 (.n x14)),(1,.v (.agg [.sl 0 Qc.length,.n Qd,.n Qe])),(3,c1 (.ptr 3 0 0 0)),(6,c1 (.ptr 4 0 0 0))] [⟨.view 5 Qc,0,false⟩,⟨.own 3 x10,1,true⟩,⟨.own 3 (((x13 ++ [Qg.1])):List Int),2,true⟩,⟨.box [.sl 0 Qc.length,.n Qg.2.2.1,.n Qg.2.2.2],3,true⟩,⟨.box [.nils,.n 0,.n 0],4,true⟩] (n2 rfl (n2 rfl (n2 rfl (n2 rfl (n2 rfl (n2 rfl (n2 rfl (n2 rfl tv)))))))) (n2 rfl (n2 (rw_ rfl rfl) (n2 (rw_ rfl rfl) (n2 (rw_ rfl rfl) (n2 (rw_ rfl rfl) tv))))) (by rw [hnp];rfl) (fun g=>?_);exact ih15 k (by omega) _ _ ⟨g,_,_,_,_,_,_,by omega,rfl,rfl,H⟩
     ·
      rw [ifN b20] at H;replace b20:=dF b20;refine WS.skip ?_;refine WS.seq ?_;refine wrg ?_;refine wr 2 ?_;refine wn ?_;refine WS.join (fun ρ h=>∃ k1,∃ (g:Nat → SV) (x7:Int) (x10:List Int) (x13:List Int) (x14:Int) (x16:Int) (x17:Int) (Qa:Int) (Qb:Int),k1≤k∧ρ=upds g [(0,c1 (.str a0)),(7,c1 (.n x7)),(10,c1 (.sl 1 x10.length)),(13,c1 (.sl 2 x13.length)),(14,c1 (.n x14)),(16,c1 (.n x16)),(17,c1 (.n x17)),(1,.v (.agg [.sl 0 Qc.length,.n Qd,.n Qe])),(3,c1 (.ptr 3 0 0 0)),(6,c1 (.ptr 4 0 0 0))]∧h=[⟨.view 5 Qc,0,false⟩,⟨.own 3 x10,1,true⟩,⟨.own 3 x13,2,true⟩,⟨.box [.sl 0 Qc.length,.n Qa,.n Qb],3,true⟩,⟨.box [.nils,.n 0,.n 0],4,true⟩]∧c05_lengths.j6 k1 a0 x7 x10 x13 x14 x16 x17 Qc Qa Qb=some r) ?_ ?_
      ·
       refine WS.seq ?_;refine wrg ?_;refine wr 1 ?_;refine wn ?_;refine WS.block ?_;refine WS.seq ?_;refine wrg ?_;refine wr 2 ?_;refine wn ?_;refine WS.cond rfl (fun b22=>?_) (fun b22=>?_)
       ·
        rw [ifE b22] at H;replace b22:=eq_of_beq b22;refine WS.seq ?_;refine WS.seq ?_;refine wrg ?_;refine wr 3 ?_;refine wn ?_;refine WS.cond rfl (fun b23=>?_) (fun b23=>?_)
        ·
         rw [ifE b23] at H;replace b23:=eq_of_beq b23;refine WS.seq ?_;refine wrg ?_;refine wr 2 ?_;refine wn ?_;refine WS.seq ?_;refine wrg ?_;refine wr 4 ?_;refine wn ?_;refine WS.ret ?_;cases H;exact ⟨tv,[some 0,none,none],_,rfl,rfl,(n2 rfl (n2 rfl (n2 rfl tv))),rfl,rfl,rfl⟩
        ·
         rw [ifEn b23] at H;replace b23:=bF b23;refine WS.skip ?_;refine WS.seq ?_;refine wrg ?_;obtain ⟨g24,H⟩:=gd H;obtain ⟨g25,H⟩:=gd H;refine wr 7 ?_;refine wn ?_;refine WS.seq ?_;refine wrg ?_;refine wr 2 ?_;obtain ⟨Qk,hbt335,H⟩:=bd H;(try rw [number_keep hbt335] at H);refine WR.call (ref05_number_sp _ _ _ _ _ _ _ hbt335) [some 0] rfl rfl rfl rfl rfl (n2 rfl tv) rfl rfl rfl rfl rfl ?_;refine wr 5 ?_;refine wn ?_;refine wrg ?_;refine wr 3 ?_;refine wn ?_;intro kk;refine wcut [some 0,some 1,some 2,some 3,some 4] [(0,c1 (.str a0)),(7,c1 (.n x7)),(10,c1 (.sl 1 x10.length)),(13,c1 (.sl 2 x13.length)),(14,c1 (.n x14)),(16,c1 (.n ((rd x13 (wrap64 ((x13.length:Int) - 1)))))),(17,c1 (.n ((wrap64 (Qk.1+3))))),(1,.v (.agg [.sl 0 Qc.length,.n Qd,.n Qe])),(3,c1 (.ptr 3 0 0 0)),(6,c1 (.ptr 4 0 0 0))] [⟨.view 5 Qc,0,false⟩,⟨.own 3 x10,1,true⟩,⟨.own 3 x13,2,true⟩,⟨.box [.sl 0 Qc.length,.n Qk.2.2.1,.n Qk.2.2.2],3,true⟩,⟨.box [.nils,.n 0,.n 0],4,true⟩] (n2 rfl (n2 rfl (n2 rfl (n2 rfl (n2 rfl (n2 rfl (n2 rfl (n2 rfl (n2 rfl (n2 rfl tv)))))))))) (n2 rfl (n2 (rw_ rfl rfl) (n2 (rw_ rfl rfl) (n2 (rw_ rfl rfl) (n2 (rw_ rfl rfl) tv))))) (by rw [hnp];rfl) (fun g=>?_);exact kk _ _ ⟨_,g,_,_,_,_,_,_,_,_,by omega,rfl,rfl,H⟩
       ·
        rw [ifEn b22] at H;replace b22:=bF b22;refine WS.seq ?_;refine wrg ?_;refine wr 2 ?_;refine wn ?_;refine WS.cond rfl (fun b26=>?_) (fun b26=>?_)
        ·
         rw [ifE b26] at H;replace b26:=eq_of_beq b26;refine WS.seq ?_;refine wrg ?_;refine wr 2 ?_;obtain ⟨Ql,hbt341,H⟩:=bd H;(try rw [number_keep hbt341] at H);refine WR.call (ref05_number_sp _ _ _ _ _ _ _ hbt341) [some 0] rfl rfl rfl rfl rfl (n2 rfl tv) rfl rfl rfl rfl rfl ?_;refine wr 5 ?_;refine wn ?_;refine wrg ?_;refine wr 3 ?_;refine wn ?_;intro kk;refine wcut [some 0,some 1,some 2,some 3,some 4] [(0,c1 (.str a0)),(7,c1 (.n x7)),(10,c1 (.sl 1 x10.length)),(13,c1 (.sl 2 x13.length)),(14,c1 (.n x14)),(16,c1 (.n 0)),(17,c1 (.n ((wrap64 (Ql.1+3))))),(1,.v (.agg [.sl 0 Qc.length,.n Qd,.n Qe])),(3,c1 (.ptr 3 0 0 0)),(6,c1 (.ptr 4 0 0 0))] [⟨.view 5 Qc,0,false⟩,⟨.own 3 x10,1,true⟩,⟨.own 3 x13,2,true⟩,⟨.box [.sl 0 Qc.length,.n Ql.2.2.1,.n Ql.2.2.2],3,true⟩,⟨.box [.nils,.n 0,.n 0],4,true⟩] (n2 rfl (n2 rfl (n2 rfl (n2 rfl (n2 rfl (n2 rfl (n2 rfl (n2 rfl (n2 rfl (n2 rfl tv)))))))))) (n2 rfl (n2 (rw_ rfl rfl) (n2 (rw_ rfl rfl) (n2 (rw_ rfl rfl) (n2 (rw_ rfl rfl) tv))))) (by rw [hnp];rfl) (fun g=>?_);exact kk _ _ ⟨_,g,_,_,_,_,_,_,_,_,by omega,rfl,rfl,H⟩
        ·
         rw [ifEn b26] at H;replace b26:=bF b26;refine WS.seq ?_;refine wrg ?_;refine wr 2 ?_;refine wn ?_;refine WS.cond rfl (fun b27=>?_) (fun b27=>?_)
         ·
          rw [ifE b27] at H;replace b27:=eq_of_beq b27;refine WS.seq ?_;refine wrg ?_;refine wr 2 ?_;obtain ⟨Qm,hbt347,H⟩:=bd H;(try rw [number_keep hbt347] at H);refine WR.call (ref05_number_sp _ _ _ _ _ _ _ hbt347) [some 0] rfl rfl rfl rfl rfl (n2 rfl tv) rfl rfl rfl rfl rfl ?_;refine wr 5 ?_;refine wn ?_;refine wrg ?_;refine wr 3 ?_;refine wn ?_;intro kk;refine wcut [some 0,some 1,some 2,some 3,some 4] [(0,c1 (.str a0)),(7,c1 (.n x7)),(10,c1 (.sl 1 x10.length)),(13,c1 (.sl 2 x13.length)),(14,c1 (.n x14)),(16,c1 (.n 0)),(17,c1 (.n ((wrap64 (Qm.1+11))))),(1,.v (.agg [.sl 0 Qc.length,.n Qd,.n Qe])),(3,c1 (.ptr 3 0 0 0)),(6,c1 (.ptr 4 0 0 0))] [⟨.view 5 Qc,0,false⟩,⟨.own 3 x10,1,true⟩,⟨.own 3 x13,2,true⟩,⟨.box [.sl 0 Qc.length,.n Qm.2.2.1,.n Qm.2.2.2],3,true⟩,⟨.box [.nils,.n 0,.n 0],4,true⟩] (n2 rfl (n2 rfl (n2 rfl (n2 rfl (n2 rfl (n2 rfl (n2 rfl (n2 rfl (n2 rfl (n2 rfl tv)))))))))) (n2 rfl (n2 (rw_ rfl rfl) (n2 (rw_ rfl rfl) (n2 (rw_ rfl rfl) (n2 (rw_ rfl rfl) tv))))) (by rw [hnp];rfl) (fun g=>?_);exact kk _ _ ⟨_,g,_,_,_,_,_,_,_,_,by omega,rfl,rfl,H⟩
         ·
          rw [ifEn b27] at H;replace b27:=bF b27;refine WS.skip ?_;intro kk;refine wcut [some 0,some 1,some 2,some 3,some 4] [(0,c1 (.str a0)),(7,c1 (.n x7)),(10,c1 (.sl 1 x10.length)),(13,c1 (.sl 2 x13.length)),(14,c1 (.n x14)),(16,c1 (.n 0)),(17,c1 (.n 0)),(1,.v (.agg [.sl 0 Qc.length,.n Qd,.n Qe])),(3,c1 (.ptr 3 0 0 0)),(6,c1 (.ptr 4 0 0 0))] [⟨.view 5 Qc,0,false⟩,⟨.own 3 x10,1,true⟩,⟨.own 3 x13,2,true⟩,⟨.box [.sl 0 Qc.length,.n Qg.2.2.1,.n Qg.2.2.2],3,true⟩,⟨.box [.nils,.n 0,.n 0],4,true⟩] (n2 rfl (n2 rfl (n2 rfl (n2 rfl (n2 rfl (n2 rfl (n2 rfl (n2 rfl (n2 rfl (n2 rfl tv)))))))))) (n2 rfl (n2 (rw_ rfl rfl) (n2 (rw_ rfl rfl) (n2 (rw_ rfl rfl) (n2 (rw_ rfl rfl) tv))))) (by rw [hnp];rfl) (fun g=>?_);exact kk _ _ ⟨_,g,_,_,_,_,_,_,_,_,by omega,rfl,rfl,H⟩
      rintro ρ h ⟨k,g,x7,x10,x13,x14,x16,x17,Qa,Qb,hk28,rfl,rfl,H⟩
      rcases k with _ | k
      ·exact nn H
      simp only [c05_lengths.j6] at H;refine WS.seq ?_;refine wrg ?_;refine wr 1 ?_;refine wn ?_;refine WS.block ?_;refine wcut [some 0,some 1,some 2,some 3,some 4] [(0,c1 (.str a0)),(7,c1 (.n x7)),(10,c1 (.sl 1 x10.length)),(13,c1 (.sl 2 x13.length)),(14,c1 (.n x14)),(16,c1 (.n x16)),(17,c1 (.n x17)),(18,c1 (.n 0)),(1,.v (.agg [.sl 0 Qc.length,.n Qd,.n Qe])),(3,c1 (.ptr 3 0 0 0)),(6,c1 (.ptr 4 0 0 0))] [⟨.view 5 Qc,0,false⟩,⟨.own 3 x10,1,true⟩,⟨.own 3 x13,2,true⟩,⟨.box [.sl 0 Qc.length,.n Qa,.n Qb],3,true⟩,⟨.box [.nils,.n 0,.n 0],4,true⟩] (n2 rfl (n2 rfl (n2 rfl (n2 rfl (n2 rfl (n2 rfl (n2 rfl (n2 rfl (n2 rfl (n2 rfl (n2 rfl tv))))))))))) (n2 rfl (n2 (rw_ rfl rfl) (n2 (rw_ rfl rfl) (n2 (rw_ rfl rfl) (n2 (rw_ rfl rfl) tv))))) (by rw [hnp];rfl) (fun g=>?_);refine WS.loop (fun k1 ρ h=>∃ (g:Nat → SV) (x7:Int) (x10:List Int) (x13:List Int) (x14:Int) (x16:Int) (x17:Int) (x18:Int) (Qa:Int) (Qb:Int),k1≤k∧ρ=upds g [(0,c1 (.str a0)),(7,c1 (.n x7)),(10,c1 (.sl 1 x10.length)),(13,c1 (.sl 2 x13.length)),(14,c1 (.n x14)),(16,c1 (.n x16)),(17,c1 (.n x17)),(18,c1 (.n x18)),(1,.v (.agg [.sl 0 Qc.length,.n Qd,.n Qe])),(3,c1 (.ptr 3 0 0 0)),(6,c1 (.ptr 4 0 0 0))]∧h=[⟨.view 5 Qc,0,false⟩,⟨.own 3 x10,1,true⟩,⟨.own 3 x13,2,true⟩,⟨.box [.sl 0 Qc.length,.n Qa,.n Qb],3,true⟩,⟨.box [.nils,.n 0,.n 0],4,true⟩]∧c05_lengths.l2 k1 a0 x7 x10 x13 x14 x16 x17 x18 Qc Qa Qb=some r) ?_ (n:=k) ⟨g,_,_,_,_,_,_,_,_,_,Nat.le_refl _,rfl,rfl,H⟩;rintro k ρ h ih29 ⟨g,x7,x10,x13,x14,x16,x17,x18,Qa,Qb,hkih29,rfl,rfl,H⟩
      rcases k with _ | k
      ·exact nn H
      simp only [c05_lengths.l2] at H;refine WS.seq ?_;refine WS.seq ?_;refine wrg ?_;refine wr 3 ?_;refine wn ?_;refine WS.cond rfl (fun b30=>?_) (fun b30=>?_)
      ·
       rw [ifP b30] at H;replace b30:=dT b30;refine WS.skip ?_;refine WS.seq ?_;refine WS.block ?_;refine wrg ?_;obtain ⟨g31,H⟩:=gd H;refine wr 5 ?_;refine wn ?_;refine wrg ?_;refine wr 3 ?_;refine wn ?_;refine wcut [some 0,some 1,some 6,some 3,some 4] [(0,c1 (.str a0)),(7,c1 (.n x7)),(10,c1 (.sl 1 x10.length)),(13,c1 (.sl 2 ((x13 ++ [x16])).length)),(14,c1 (.n x14)),(16,c1 (.n x16)),(17,c1 (.n x17)),(18,c1 (.n ((wrap64 (x18+1))))),(1,.v (.agg [.sl 0 Qc.length,.n Qd,.n Qe])),(3,c1 (.ptr 3 0 0 0)),(6,c1 (.ptr 4 0 0 0))] [⟨.view 5 Qc,0,false⟩,⟨.own 3 x10,1,true⟩,⟨.own 3 (((x13 ++ [x16])):List Int),2,true⟩,⟨.box [.sl 0 Qc.length,.n Qa,.n Qb],3,true⟩,⟨.box [.nils,.n 0,.n 0],4,true⟩] (n2 rfl (n2 rfl (n2 rfl (n2 rfl (n2 rfl (n2 rfl (n2 rfl (n2 rfl (n2 rfl (n2 rfl (n2 rfl tv))))))))))) (n2 rfl (n2 (rw_ rfl rfl) (n2 (rw_ rfl rfl) (n2 (rw_ rfl rfl) (n2 (rw_ rfl rfl) tv))))) (by rw [hnp];rfl) (fun g=>?_);exact ih29 k (by omega) _ _ ⟨g,_,_,_,_,_,_,_,_,_,by omega,rfl,rfl,H⟩
      ·
       rw [ifN b30] at H;replace b30:=dF b30;refine WS.exit ?_;refine wcut [some 0,some 1,some 2,some 3,some 4] [(0,c1 (.str a0)),(7,c1 (.n x7)),(10,c1 (.sl 1 x10.length)),(13,c1 (.sl 2 x13.length)),(14,c1 (.n x14)),(1,.v (.agg [.sl 0 Qc.length,.n Qd,.n Qe])),(3,c1 (.ptr 3 0 0 0)),(6,c1 (.ptr 4 0 0 0))] [⟨.view 5 Qc,0,false⟩,⟨.own 3 x10,1,true⟩,⟨.own 3 x13,2,true⟩,⟨.box [.sl 0 Qc.length,.n Qa,.n Qb],3,true⟩,⟨.box [.nils,.n 0,.n 0],4,true⟩] (n2 rfl (n2 rfl (n2 rfl (n2 rfl (n2 rfl (n2 rfl (n2 rfl (n2 rfl tv)))))))) (n2 rfl (n2 (rw_ rfl rfl) (n2 (rw_ rfl rfl) (n2 (rw_ rfl rfl) (n2 (rw_ rfl rfl) tv))))) (by rw [hnp];rfl) (fun g=>?_);exact ih15 k (by omega) _ _ ⟨g,_,_,_,_,_,_,by omega,rfl,rfl,H⟩
   ·
    rw [ifBn b18] at H;refine WS.exit ?_;intro kk;refine wcut [some 0,some 2,some 3,some 4] [(7,c1 (.n x7)),(13,c1 (.sl 1 x13.length)),(14,c1 (.n x14)),(0,c1 (.str a0)),(1,.v (.agg [.sl 0 Qc.length,.n Qd,.n Qe])),(3,c1 (.ptr 2 0 0 0)),(6,c1 (.ptr 3 0 0 0))] [⟨.view 5 Qc,0,false⟩,⟨.own 3 x13,1,true⟩,⟨.box [.sl 0 Qc.length,.n Qa,.n Qb],2,true⟩,⟨.box [.nils,.n 0,.n 0],3,true⟩] (n2 rfl (n2 rfl (n2 rfl (n2 rfl (n2 rfl (n2 rfl (n2 rfl tv))))))) (n2 rfl (n2 (rw_ rfl rfl) (n2 (rw_ rfl rfl) (n2 (rw_ rfl rfl) tv)))) (by rw [hnp];rfl) (fun g=>?_);exact kk _ _ ⟨_,g,_,_,_,_,_,by omega,rfl,rfl,H⟩
  rintro ρ h ⟨k,g,x7,x13,x14,Qa,Qb,hk32,rfl,rfl,H⟩
  rcases k with _ | k
  ·exact nn H
  simp only [c05_lengths.j8] at H;refine WS.seq ?_;refine WS.join (fun ρ h=>∃ k1,∃ (g:Nat → SV) (x7:Int) (x13:List Int) (Qn:Bool) (Qa:Int) (Qb:Int),k1≤k∧ρ=upds g [(7,c1 (.n x7)),(13,c1 (.sl 1 x13.length)),(169,c1 (.bool Qn)),(0,c1 (.str a0)),(1,.v (.agg [.sl 0 Qc.length,.n Qd,.n Qe])),(3,c1 (.ptr 2 0 0 0)),(6,c1 (.ptr 3 0 0 0))]∧h=[⟨.view 5 Qc,0,false⟩,⟨.own 3 x13,1,true⟩,⟨.box [.sl 0 Qc.length,.n Qa,.n Qb],2,true⟩,⟨.box [.nils,.n 0,.n 0],3,true⟩]∧c05_lengths.j9 k1 x7 x13 Qn Qc Qa Qb=some r) ?_ ?_
  ·
   refine wrg ?_;refine wr 4 ?_;refine WR.split 158 rfl (fun b33=>?_) (fun b33=>?_)
   ·
    rw [ifE b33] at H;replace b33:=eq_of_beq b33;refine wr 5 ?_;refine WR.split 163 rfl (fun b34=>?_) (fun b34=>?_)
    ·
     rw [ifX b34] at H;replace b34:=nT b34;refine wr 6 ?_;refine wn ?_;intro kk;refine wcut [some 0,some 1,some 2,some 3] [(7,c1 (.n x7)),(13,c1 (.sl 1 x13.length)),(169,c1 (.bool true)),(0,c1 (.str a0)),(1,.v (.agg [.sl 0 Qc.length,.n Qd,.n Qe])),(3,c1 (.ptr 2 0 0 0)),(6,c1 (.ptr 3 0 0 0))] [⟨.view 5 Qc,0,false⟩,⟨.own 3 x13,1,true⟩,⟨.box [.sl 0 Qc.length,.n Qa,.n Qb],2,true⟩,⟨.box [.nils,.n 0,.n 0],3,true⟩] (n2 rfl (n2 rfl (n2 rfl (n2 rfl (n2 rfl (n2 rfl (n2 rfl tv))))))) (n2 rfl (n2 (rw_ rfl rfl) (n2 (rw_ rfl rfl) (n2 (rw_ rfl rfl) tv)))) (by rw [hnp];rfl) (fun g=>?_);exact kk _ _ ⟨_,g,_,_,_,_,_,by omega,rfl,rfl,H⟩
    ·
     rw [ifXn b34] at H;replace b34:=nF b34;obtain ⟨g35,H⟩:=gd H;refine wr 6 ?_;refine wn ?_;intro kk;refine wcut [some 0,some 1,some 2,some 3] [(7,c1 (.n x7)),(13,c1 (.sl 1 x13.length)),(169,c1 (.bool (((rd x13 256) == 0)))),(0,c1 (.str a0)),(1,.v (.agg [.sl 0 Qc.length,.n Qd,.n Qe])),(3,c1 (.ptr 2 0 0 0)),(6,c1 (.ptr 3 0 0 0))] [⟨.view 5 Qc,0,false⟩,⟨.own 3 x13,1,true⟩,⟨.box [.sl 0 Qc.length,.n Qa,.n Qb],2,true⟩,⟨.box [.nils,.n 0,.n 0],3,true⟩] (n2 rfl (n2 rfl (n2 rfl (n2 rfl (n2 rfl (n2 rfl (n2 rfl tv))))))) (n2 rfl (n2 (rw_ rfl rfl) (n2 (rw_ rfl rfl) (n2 (rw_ rfl rfl) tv)))) (by rw [hnp];rfl) (fun g=>?_);exact kk _ _ ⟨_,g,_,_,_,_,_,by omega,rfl,rfl,H⟩
   ·
    rw [ifEn b33] at H;replace b33:=bF b33;refine wr 11 ?_;refine wn ?_;intro kk;refine wcut [some 0,some 1,some 2,some 3] [(7,c1 (.n x7)),(13,c1 (.sl 1 x13.length)),(169,c1 (.bool false)),(0,c1 (.str a0)),(1,.v (.agg [.sl 0 Qc.length,.n Qd,.n Qe])),(3,c1 (.ptr 2 0 0 0)),(6,c1 (.ptr 3 0 0 0))] [⟨.view 5 Qc,0,false⟩,⟨.own 3 x13,1,true⟩,⟨.box [.sl 0 Qc.length,.n Qa,.n Qb],2,true⟩,⟨.box [.nils,.n 0,.n 0],3,true⟩] (n2 rfl (n2 rfl (n2 rfl (n2 rfl (n2 rfl (n2 rfl (n2 rfl tv))))))) (n2 rfl (n2 (rw_ rfl rfl) (n2 (rw_ rfl rfl) (n2 (rw_ rfl rfl) tv)))) (by rw [hnp];rfl) (fun g=>?_);exact kk _ _ ⟨_,g,_,_,_,_,_,by omega,rfl,rfl,H⟩
  rintro ρ h ⟨k,g,x7,x13,Qn,Qa,Qb,hk36,rfl,rfl,H⟩
  rcases k with _ | k
  ·exact nn H
  simp only [c05_lengths.j9] at H;refine WS.cond rfl (fun b37=>?_) (fun b37=>?_)
  ·
   rw [ifB b37] at H;refine wrg ?_;refine wr 2 ?_;refine wn ?_;refine WS.seq ?_;refine WS.seq ?_;refine wrg ?_;refine wr 3 ?_;refine wn ?_;refine WS.cond rfl (fun b38=>?_) (fun b38=>?_)
   ·
    rw [if_neg (by decide)] at H;refine WS.seq ?_;refine wrg ?_;refine wr 4 ?_;refine wn ?_;refine WS.ret ?_;cases H;exact ⟨tv,[some 0,none,none],_,rfl,rfl,(n2 rfl (n2 rfl (n2 rfl tv))),rfl,rfl,rfl⟩
   ·
    exact absurd b38 (by decide)
  ·
   rw [ifBn b37] at H;refine WS.skip ?_;refine WS.seq ?_;refine WS.seq ?_;refine wrg ?_;refine wr 3 ?_;refine wn ?_;refine WS.cond rfl (fun b39=>?_) (fun b39=>?_)
   ·
    rw [ifX b39] at H;replace b39:=nT b39;refine WS.seq ?_;refine wrg ?_;refine wr 4 ?_;refine wn ?_;refine WS.ret ?_;cases H;exact ⟨tv,[some 0,none,none],_,rfl,rfl,(n2 rfl (n2 rfl (n2 rfl tv))),rfl,rfl,rfl⟩
   ·
    rw [ifXn b39] at H;replace b39:=nF b39;refine WS.skip ?_;refine WS.seq ?_;refine wrg ?_;obtain ⟨g40,H⟩:=gd H;obtain ⟨g41,H⟩:=gd H;refine wr 12 ?_;refine wn ?_;refine WS.ret ?_;cases H;exact ⟨tv,[some 0,some 4,some 5],_,rfl,rfl,(n2 rfl (n2 rfl (n2 rfl tv))),rfl,rfl,rfl⟩
end Go.Proofs.Ytpbhkdamkbopkaa.Rs
namespace Go.Proofs.Ytpbhkdamkbopkaa.Rs
open Go Go.RowKit Rf YtpbhkdamkbopkaaW.PrintWords Go.Proofs.Ytpbhkdamkbopkaa GInfr GOpn GPix
set_option maxRecDepth 10000
set_option maxHeartbeats 4000000
variable {O:Orc}
theorem ref05_Plain_sp (k:Nat)  (r:List Int × List Int) (H:c05_Plain.f k =some r):Sp (KT:=kt) Try.prog O 66 [] [] (.t [.c (.sl 0 r.1.length),.c (.sl 1 r.2.length)]) [⟨.own 3 r.1,0,true⟩,⟨.own 3 r.2,1,true⟩]:=by
 refine Sp.of tok (by kernel_rfl) Try.func66 rfl rfl fun Γ hnp=>?_;unfold c05_Plain.f at H;refine WS.seq ?_;refine wrg ?_;refine wr 2 ?_;refine wn ?_;refine WS.seq ?_;refine wrg ?_;refine wr 2 ?_;refine wn ?_;refine WS.seq ?_;refine WS.seq ?_;refine wrg ?_;refine wr 1 ?_;refine wn ?_;refine WS.block ?_;refine wcut [none] [(2,c1 (.sl 0 (([]:List Int)).length)),(4,c1 (.n 0)),(3,c1 (.nils))] [⟨.own 3 ((([]:List Int)):List Int),0,true⟩] (n2 rfl (n2 rfl (n2 rfl tv))) (n2 rfl tv) (by rw [hnp];rfl) (fun g=>?_);refine WS.loop (fun k1 ρ h=>∃ (g:Nat → SV) (x2:List Int) (x4:Int),k1≤k∧ρ=upds g [(2,c1 (.sl 0 x2.length)),(4,c1 (.n x4)),(3,c1 (.nils))]∧h=[⟨.own 3 x2,0,true⟩]∧c05_Plain.l0 k1 x2 x4=some r) ?_ (n:=k) ⟨g,_,_,Nat.le_refl _,rfl,rfl,H⟩;rintro k ρ h ih1 ⟨g,x2,x4,hkih1,rfl,rfl,H⟩
 rcases k with _ | k
 ·exact nn H
 simp only [c05_Plain.l0] at H;refine WS.seq ?_;refine WS.seq ?_;refine wrg ?_;refine wr 2 ?_;refine wn ?_;refine WS.cond rfl (fun b2=>?_) (fun b2=>?_)
 ·
  rw [ifP b2] at H;replace b2:=dT b2;refine WS.skip ?_;refine WS.seq ?_;refine WS.block ?_;refine WS.seq ?_;refine wrg ?_;refine wr 1 ?_;refine wn ?_;refine WS.seq ?_;refine WS.join (fun ρ h=>∃ k1,∃ (g:Nat → SV) (x2:List Int) (x4:Int) (x5:Int) (x16:Bool),k1≤k∧ρ=upds g [(2,c1 (.sl 0 x2.length)),(4,c1 (.n x4)),(5,c1 (.n x5)),(16,c1 (.bool x16)),(3,c1 (.nils))]∧h=[⟨.own 3 x2,0,true⟩]∧c05_Plain.j1 k1 x2 x4 x5 x16=some r) ?_ ?_
  ·
   refine wrg ?_;refine wr 3 ?_;refine WR.split 13 rfl (fun b3=>?_) (fun b3=>?_)
   ·
    rw [ifP b3] at H;replace b3:=dT b3;refine wr 3 ?_;refine wn ?_;intro kk;refine wcut [some 0] [(2,c1 (.sl 0 x2.length)),(4,c1 (.n x4)),(5,c1 (.n 8)),(16,c1 (.bool ((decide (x4 < 256))))),(3,c1 (.nils))] [⟨.own 3 x2,0,true⟩] (n2 rfl (n2 rfl (n2 rfl (n2 rfl (n2 rfl tv))))) (n2 (rw_ rfl rfl) tv) (by rw [hnp];rfl) (fun g=>?_);exact kk _ _ ⟨_,g,_,_,_,_,by omega,rfl,rfl,H⟩
   ·
    rw [ifN b3] at H;replace b3:=dF b3;refine wr 3 ?_;refine wn ?_;intro kk;refine wcut [some 0] [(2,c1 (.sl 0 x2.length)),(4,c1 (.n x4)),(5,c1 (.n 8)),(16,c1 (.bool false)),(3,c1 (.nils))] [⟨.own 3 x2,0,true⟩] (n2 rfl (n2 rfl (n2 rfl (n2 rfl (n2 rfl tv))))) (n2 (rw_ rfl rfl) tv) (by rw [hnp];rfl) (fun g=>?_);exact kk _ _ ⟨_,g,_,_,_,_,by omega,rfl,rfl,H⟩
  rintro ρ h ⟨k,g,x2,x4,x5,x16,hk4,rfl,rfl,H⟩
  rcases k with _ | k
  ·exact nn H
  simp only [c05_Plain.j1] at H;refine WS.cond rfl (fun b5=>?_) (fun b5=>?_)
  ·
   rw [ifB b5] at H;refine wrg ?_;refine wr 1 ?_;refine wn ?_;refine WS.seq ?_;refine WS.seq ?_;refine wrg ?_;refine wr 3 ?_;refine WR.split 19 rfl (fun b6=>?_) (fun b6=>?_)
   ·
    rw [ifP b6] at H;replace b6:=dT b6;refine wr 3 ?_;refine wn ?_;refine WS.cond rfl (fun b7=>?_) (fun b7=>?_)
    ·
     rw [ifP b7] at H;replace b7:=dT b7;refine wrg ?_;refine wr 1 ?_;refine wn ?_;refine wrg ?_;obtain ⟨g8,H⟩:=gd H;refine wr 5 ?_;refine wn ?_;refine wrg ?_;refine wr 3 ?_;refine wn ?_;refine wcut [some 2] [(2,c1 (.sl 0 ((x2 ++ [7])).length)),(4,c1 (.n ((wrap64 (x4+1))))),(3,c1 (.nils))] [⟨.own 3 (by exact ((x2 ++ [7])):List Int),0,true⟩] (n2 rfl (n2 rfl (n2 rfl tv))) (n2 (rw_ rfl rfl) tv) (by rw [hnp];rfl) (fun g=>?_);exact ih1 k (by omega) _ _ ⟨g,_,_,by omega,rfl,rfl,H⟩
    ·
     rw [ifN b7] at H;replace b7:=dF b7;refine WS.skip ?_;refine wrg ?_;obtain ⟨g9,H⟩:=gd H;refine wr 5 ?_;refine wn ?_;refine wrg ?_;refine wr 3 ?_;refine wn ?_;refine wcut [some 2] [(2,c1 (.sl 0 ((x2 ++ [9])).length)),(4,c1 (.n ((wrap64 (x4+1))))),(3,c1 (.nils))] [⟨.own 3 (by exact ((x2 ++ [9])):List Int),0,true⟩] (n2 rfl (n2 rfl (n2 rfl tv))) (n2 (rw_ rfl rfl) tv) (by rw [hnp];rfl) (fun g=>?_);exact ih1 k (by omega) _ _ ⟨g,_,_,by omega,rfl,rfl,H⟩
   ·
    rw [ifN b6] at H;replace b6:=dF b6;refine wr 3 ?_;refine wn ?_;obtain ⟨g11,H⟩:=gd H;refine WS.cond rfl (fun h=>nomatch h) (fun _=>?_);refine WS.skip ?_;refine wrg ?_;refine wr 5 ?_;refine wn ?_;refine wrg ?_;refine wr 3 ?_;refine wn ?_;refine wcut [some 2] [(2,c1 (.sl 0 ((x2 ++ [9])).length)),(4,c1 (.n ((wrap64 (x4+1))))),(3,c1 (.nils))] [⟨.own 3 (by exact ((x2 ++ [9])):List Int),0,true⟩] (n2 rfl (n2 rfl (n2 rfl tv))) (n2 (rw_ rfl rfl) tv) (by rw [hnp];rfl) (fun g=>?_);exact ih1 k (by omega) _ _ ⟨g,_,_,by omega,rfl,rfl,H⟩
  ·
   rw [ifBn b5] at H;refine WS.skip ?_;refine WS.seq ?_;refine WS.seq ?_;refine wrg ?_;refine wr 3 ?_;refine WR.split 19 rfl (fun b12=>?_) (fun b12=>?_)
   ·
    rw [ifP b12] at H;replace b12:=dT b12;refine wr 3 ?_;refine wn ?_;refine WS.cond rfl (fun b13=>?_) (fun b13=>?_)
    ·
     rw [ifP b13] at H;replace b13:=dT b13;refine wrg ?_;refine wr 1 ?_;refine wn ?_;refine wrg ?_;obtain ⟨g14,H⟩:=gd H;refine wr 5 ?_;refine wn ?_;refine wrg ?_;refine wr 3 ?_;refine wn ?_;refine wcut [some 2] [(2,c1 (.sl 0 ((x2 ++ [7])).length)),(4,c1 (.n ((wrap64 (x4+1))))),(3,c1 (.nils))] [⟨.own 3 (by exact ((x2 ++ [7])):List Int),0,true⟩] (n2 rfl (n2 rfl (n2 rfl tv))) (n2 (rw_ rfl rfl) tv) (by rw [hnp];rfl) (fun g=>?_);exact ih1 k (by omega) _ _ ⟨g,_,_,by omega,rfl,rfl,H⟩
    ·
     rw [ifN b13] at H;replace b13:=dF b13;refine WS.skip ?_;refine wrg ?_;obtain ⟨g15,H⟩:=gd H;refine wr 5 ?_;refine wn ?_;refine wrg ?_;refine wr 3 ?_;refine wn ?_;refine wcut [some 2] [(2,c1 (.sl 0 ((x2 ++ [x5])).length)),(4,c1 (.n ((wrap64 (x4+1))))),(3,c1 (.nils))] [⟨.own 3 (((x2 ++ [x5])):List Int),0,true⟩] (n2 rfl (n2 rfl (n2 rfl tv))) (n2 (rw_ rfl rfl) tv) (by rw [hnp];rfl) (fun g=>?_);exact ih1 k (by omega) _ _ ⟨g,_,_,by omega,rfl,rfl,H⟩
   ·
    rw [ifN b12] at H;replace b12:=dF b12;refine wr 3 ?_;refine wn ?_;obtain ⟨g17,H⟩:=gd H;refine WS.cond rfl (fun h=>nomatch h) (fun _=>?_);refine WS.skip ?_;refine wrg ?_;refine wr 5 ?_;refine wn ?_;refine wrg ?_;refine wr 3 ?_;refine wn ?_;refine wcut [some 2] [(2,c1 (.sl 0 ((x2 ++ [x5])).length)),(4,c1 (.n ((wrap64 (x4+1))))),(3,c1 (.nils))] [⟨.own 3 (((x2 ++ [x5])):List Int),0,true⟩] (n2 rfl (n2 rfl (n2 rfl tv))) (n2 (rw_ rfl rfl) tv) (by rw [hnp];rfl) (fun g=>?_);exact ih1 k (by omega) _ _ ⟨g,_,_,by omega,rfl,rfl,H⟩
 ·
  rw [ifN b2] at H;replace b2:=dF b2;refine WS.exit ?_;refine WS.seq ?_;refine WS.seq ?_;refine wrg ?_;refine wr 1 ?_;refine wn ?_;refine WS.block ?_;refine wcut [some 0,none] [(2,c1 (.sl 0 x2.length)),(3,c1 (.sl 1 (([]:List Int)).length)),(6,c1 (.n 0))] [⟨.own 3 x2,0,true⟩,⟨.own 3 ((([]:List Int)):List Int),1,true⟩] (n2 rfl (n2 rfl (n2 rfl tv))) (n2 (rw_ rfl rfl) (n2 rfl tv)) (by rw [hnp];rfl) (fun g=>?_);refine WS.loop (fun k1 ρ h=>∃ (g:Nat → SV) (x2:List Int) (x3:List Int) (x6:Int),k1≤k∧ρ=upds g [(2,c1 (.sl 0 x2.length)),(3,c1 (.sl 1 x3.length)),(6,c1 (.n x6))]∧h=[⟨.own 3 x2,0,true⟩,⟨.own 3 x3,1,true⟩]∧c05_Plain.l1 k1 x2 x3 x6=some r) ?_ (n:=k) ⟨g,_,_,_,Nat.le_refl _,rfl,rfl,H⟩;rintro k ρ h ih18 ⟨g,x2,x3,x6,hkih18,rfl,rfl,H⟩
  rcases k with _ | k
  ·exact nn H
  simp only [c05_Plain.l1] at H;refine WS.seq ?_;refine WS.seq ?_;refine wrg ?_;refine wr 2 ?_;refine wn ?_;refine WS.cond rfl (fun b19=>?_) (fun b19=>?_)
  ·
   rw [ifP b19] at H;replace b19:=dT b19;refine WS.skip ?_;refine WS.seq ?_;refine WS.block ?_;refine wrg ?_;obtain ⟨g20,H⟩:=gd H;refine wr 4 ?_;refine wn ?_;refine wrg ?_;refine wr 3 ?_;refine wn ?_;refine wcut [some 0,some 3] [(2,c1 (.sl 0 x2.length)),(3,c1 (.sl 1 ((x3 ++ [5])).length)),(6,c1 (.n ((wrap64 (x6+1)))))] [⟨.own 3 x2,0,true⟩,⟨.own 3 (by exact ((x3 ++ [5])):List Int),1,true⟩] (n2 rfl (n2 rfl (n2 rfl tv))) (n2 (rw_ rfl rfl) (n2 (rw_ rfl rfl) tv)) (by rw [hnp];rfl) (fun g=>?_);exact ih18 k (by omega) _ _ ⟨g,_,_,_,by omega,rfl,rfl,H⟩
  ·
   rw [ifN b19] at H;replace b19:=dF b19;refine WS.exit ?_;refine WS.seq ?_;refine wrg ?_;refine wr 4 ?_;refine wn ?_;refine WS.ret ?_;cases H;exact ⟨tv,[some 0,some 1],_,rfl,rfl,(n2 (rw_ rfl rfl) (n2 (rw_ rfl rfl) tv)),rfl,rfl,rfl⟩
theorem w_in (n:Int) (h0:0≤n) (h1:n < 9223372036854775808):wrap64 n=n:=by unfold wrap64;omega
theorem low_eq (a:Int):a % 4294967296 % 65536 % 65521=((wrap64 (a % 4294967296)).tmod 65536).tmod 65521:=by
 rw [w_in _ (by omega) (by omega),Int.tmod_eq_emod_of_nonneg (a:=a % 4294967296) (by omega),Int.tmod_eq_emod_of_nonneg (by omega)]
theorem high_eq (a:Int):a % 4294967296 / 65536 % 65521=(wrap64 ((wrap64 (a % 4294967296)).tdiv 65536)).tmod 65521:=by
 rw [w_in (a % 4294967296) (by omega) (by omega),Int.tdiv_eq_ediv_of_nonneg (by omega),w_in _ (by omega) (by omega),Int.tmod_eq_emod_of_nonneg (by omega)]
theorem ref03_low_sp (a0:Int) (r:Int) (H:c03_low.f a0=some r):Sp (KT:=kt) Try.prog O 107 [c1 (.n a0)] [] (c1 (.n r)) []:=by
 refine Sp.of tok (by kernel_rfl) Try.func107 rfl rfl fun Γ hnp=>?_;unfold c03_low.f at H;refine WS.seq ?_;refine wrg ?_;refine wr 1 ?_;refine wn ?_;refine WS.seq ?_;refine wrg ?_;refine wr 6 ?_;refine wn ?_;refine WS.ret ?_;cases H;exact ⟨tv,[],_,rfl,(congrArg (fun z=>some (c1 (.n z))) (low_eq a0)),tv,rfl,rfl,rfl⟩
theorem ref03_high_sp (a0:Int) (r:Int) (H:c03_high.f a0=some r):Sp (KT:=kt) Try.prog O 108 [c1 (.n a0)] [] (c1 (.n r)) []:=by
 refine Sp.of tok (by kernel_rfl) Try.func108 rfl rfl fun Γ hnp=>?_;unfold c03_high.f at H;refine WS.seq ?_;refine wrg ?_;refine wr 1 ?_;refine wn ?_;refine WS.seq ?_;refine wrg ?_;refine wr 6 ?_;refine wn ?_;refine WS.ret ?_;cases H;exact ⟨tv,[],_,rfl,(congrArg (fun z=>some (c1 (.n z))) (high_eq a0)),tv,rfl,rfl,rfl⟩
theorem ref03_More_sp (k:Nat) (a0:Int) (a1:ByteArray) (r:Int) (H:c03_More.f k a0 a1=some r):Sp (KT:=kt) Try.prog O 93 [c1 (.n a0),c1 (.str a1)] [] (c1 (.n r)) []:=by
 refine Sp.of tok (by kernel_rfl) Try.func93 rfl rfl fun Γ hnp=>?_;unfold c03_More.f at H;refine WS.seq ?_;refine wrg ?_;refine wr 1 ?_;refine wn ?_;refine WS.seq ?_;refine wrg ?_;refine wr 1 ?_;obtain ⟨Qa,ht201,H⟩:=bd H;refine WR.call (ref03_low_sp _ _ ht201) [] rfl rfl rfl rfl rfl tv rfl rfl rfl rfl rfl ?_;refine wr 1 ?_;obtain ⟨Qb,ht202,H⟩:=bd H;refine WR.call (ref03_high_sp _ _ ht202) [] rfl rfl rfl rfl rfl tv rfl rfl rfl rfl rfl ?_;refine wr 2 ?_;refine wn ?_;refine WS.seq ?_;refine wrg ?_;refine wr 3 ?_;refine wn ?_;refine WS.seq ?_;refine wrg ?_;refine wr 7 ?_;refine wn ?_;refine WS.seq ?_;refine WS.seq ?_;refine wrg ?_;refine wr 1 ?_;refine wn ?_;refine WS.block ?_;refine wcut [] [(1,c1 (.str a1)),(5,c1 (.n Qa)),(6,c1 (.n ((wrap64 (Qb+(wrap64 (((a1.size:Int) % 65521)*Qa))))))),(7,c1 (.n ((a1.size:Int)))),(8,c1 (.n 0)),(0,c1 (.n a0))] [] (n2 rfl (n2 rfl (n2 rfl (n2 rfl (n2 rfl (n2 rfl tv)))))) tv (by rw [hnp];rfl) (fun g=>?_);refine WS.loop (fun k1 ρ h=>∃ (g:Nat → SV) (x5:Int) (x6:Int) (x7:Int) (x8:Int),k1≤k∧ρ=upds g [(1,c1 (.str a1)),(5,c1 (.n x5)),(6,c1 (.n x6)),(7,c1 (.n x7)),(8,c1 (.n x8)),(0,c1 (.n a0))]∧h=[]∧c03_More.l0 k1 a1 x5 x6 x7 x8=some r) ?_ (n:=k) ⟨g,_,_,_,_,Nat.le_refl _,rfl,rfl,H⟩;rintro k ρ h ih1 ⟨g,x5,x6,x7,x8,hkih1,rfl,rfl,H⟩
 rcases k with _ | k
 ·exact nn H
 simp only [c03_More.l0] at H;refine WS.seq ?_;refine WS.seq ?_;refine wrg ?_;refine wr 3 ?_;refine wn ?_;refine WS.cond rfl (fun b2=>?_) (fun b2=>?_)
 ·
  rw [ifP b2] at H;replace b2:=dT b2;refine WS.skip ?_;refine WS.seq ?_;refine WS.block ?_;refine WS.seq ?_;refine wrg ?_;obtain ⟨g3,H⟩:=gd H;obtain ⟨g4,H⟩:=gd H;refine wr 7 ?_;refine wn ?_;refine wrg ?_;refine wr 12 ?_;refine wn ?_;refine wrg ?_;refine wr 3 ?_;refine wn ?_;refine wcut [] [(1,c1 (.str a1)),(5,c1 (.n ((wrap64 (x5+(wrap64 (bt a1 x8))))))),(6,c1 (.n ((Int.tmod (wrap64 (x6+(wrap64 ((wrap64 (bt a1 x8))*(wrap64 (x7 - x8)))))) 65521)))),(7,c1 (.n x7)),(8,c1 (.n ((wrap64 (x8+1))))),(0,c1 (.n a0))] [] (n2 rfl (n2 rfl (n2 rfl (n2 rfl (n2 rfl (n2 rfl tv)))))) tv (by rw [hnp];rfl) (fun g=>?_);exact ih1 k (by omega) _ _ ⟨g,_,_,_,_,by omega,rfl,rfl,H⟩
 ·
  rw [ifN b2] at H;replace b2:=dF b2;refine WS.exit ?_;refine WS.seq ?_;refine wrg ?_;refine wr 7 ?_;refine wn ?_;refine WS.ret ?_;cases H;exact ⟨tv,[],_,rfl,rfl,tv,rfl,rfl,rfl⟩
theorem ref03_Sum_sp (k:Nat) (a0:ByteArray) (r:Int) (H:c03_Sum.f k a0=some r):Sp (KT:=kt) Try.prog O 71 [c1 (.str a0)] [] (c1 (.n r)) []:=by
 refine Sp.of tok (by kernel_rfl) Try.func71 rfl rfl fun Γ hnp=>?_;unfold c03_Sum.f at H;refine WS.seq ?_;refine wrg ?_;refine wr 1 ?_;refine wn ?_;refine WS.seq ?_;refine wrg ?_;refine wr 1 ?_;obtain ⟨t203,ht203,H⟩:=bd H;refine WR.call (ref03_More_sp _ _ _ _ ht203) [] rfl rfl rfl rfl rfl tv rfl rfl rfl rfl rfl ?_;refine wr 1 ?_;refine wn ?_;refine WS.ret ?_;cases H;exact ⟨tv,[],_,rfl,rfl,tv,rfl,rfl,rfl⟩
end Go.Proofs.Ytpbhkdamkbopkaa.Rs
namespace Go.Proofs.Ytpbhkdamkbopkaa.Rs
open Go Go.RowKit Rf YtpbhkdamkbopkaaW.PrintWords Go.Proofs.Ytpbhkdamkbopkaa GInfr GPix
set_option maxRecDepth 10000
set_option maxHeartbeats 4000000
variable {O:Orc}
theorem ref05_Raw_sp (k:Nat) (a0:ByteArray) (a1:Int) (r:ByteArray × Int × Int) (H:c05_Raw.f k a0 a1=some r):Sp (KT:=kt) Try.prog O 45 [c1 (.str a0),c1 (.n a1)] [] (.t [.c (.str r.1),.c (.n r.2.1),.c (.n r.2.2)]) []:=by
 refine Sp.of tok (by kernel_rfl) Try.func45 rfl rfl fun Γ hnp=>?_;unfold c05_Raw.f at H;refine WS.seq ?_;refine wrg ?_;refine wr 3 ?_;refine wn ?_;refine WS.seq ?_;refine WS.join (fun ρ h=>∃ k1,∃ (g:Nat → SV) (x20:Bool),k1≤k∧ρ=upds g [(0,c1 (.str a0)),(1,c1 (.n a1)),(20,c1 (.bool x20))]∧h=[]∧c05_Raw.j0 k1 a0 a1 x20=some r) ?_ ?_
 ·
  refine wrg ?_;refine wr 3 ?_;refine WR.split 17 rfl (fun b1=>?_) (fun b1=>?_)
  ·
   rw [ifP b1] at H;replace b1:=dT b1;refine wr 3 ?_;refine wn ?_;intro kk;refine wcut [] [(0,c1 (.str a0)),(1,c1 (.n a1)),(20,c1 (.bool true))] [] (n2 rfl (n2 rfl (n2 rfl tv))) tv (by rw [hnp];rfl) (fun g=>?_);exact kk _ _ ⟨_,g,_,by omega,rfl,rfl,H⟩
  ·
   rw [ifN b1] at H;replace b1:=dF b1;refine wr 3 ?_;refine wn ?_;intro kk;refine wcut [] [(0,c1 (.str a0)),(1,c1 (.n a1)),(20,c1 (.bool ((decide (a1 > 262144)))))] [] (n2 rfl (n2 rfl (n2 rfl tv))) tv (by rw [hnp];rfl) (fun g=>?_);exact kk _ _ ⟨_,g,_,by omega,rfl,rfl,H⟩
 rintro ρ h ⟨k,g,x20,hk2,rfl,rfl,H⟩
 rcases k with _ | k
 ·exact nn H
 simp only [c05_Raw.j0] at H;refine WS.cond rfl (fun b3=>?_) (fun b3=>?_)
 ·
  rw [ifB b3] at H;refine WS.seq ?_;refine wrg ?_;refine wr 3 ?_;refine wn ?_;refine WS.ret ?_;cases H;exact ⟨tv,[],_,rfl,rfl,tv,rfl,rfl,rfl⟩
 ·
  rw [ifBn b3] at H;refine WS.skip ?_;refine WS.seq ?_;refine wrg ?_;refine wr 3 ?_;refine wn ?_;refine WS.seq ?_;refine wrg ?_;refine wr 1 ?_;refine wn ?_;refine WS.seq ?_;refine WS.block ?_;refine wcut [some 0,none] [(0,c1 (.str a0)),(1,c1 (.n a1)),(8,c1 (.n 0)),(7,c1 (.ptr 0 0 0 0))] [⟨.box [.sl 1 (([]:List Int)).length,.n 0,.n 0],0,true⟩,⟨.own 5 ((([]:List Int)):List Int),1,true⟩] (n2 rfl (n2 rfl (n2 rfl (n2 rfl tv)))) (n2 (rw_ rfl rfl) (n2 rfl tv)) (by rw [hnp];rfl) (fun g=>?_);refine WS.loop (fun k1 ρ h=>∃ (g:Nat → SV) (x8:Int) (Qa:List Int) (Qb:Int) (Qc:Int),k1≤k∧ρ=upds g [(0,c1 (.str a0)),(1,c1 (.n a1)),(8,c1 (.n x8)),(7,c1 (.ptr 0 0 0 0))]∧h=[⟨.box [.sl 1 Qa.length,.n Qb,.n Qc],0,true⟩,⟨.own 5 Qa,1,true⟩]∧c05_Raw.l0 k1 a0 a1 x8 Qa Qb Qc=some r) ?_ (n:=k) ⟨g,_,_,_,_,Nat.le_refl _,rfl,rfl,H⟩;rintro k ρ h ih4 ⟨g,x8,Qa,Qb,Qc,hkih4,rfl,rfl,H⟩
  rcases k with _ | k
  ·exact nn H
  simp only [c05_Raw.l0] at H;refine WS.seq ?_;refine WS.join (fun ρ h=>∃ k1,∃ (g:Nat → SV) (x28:Bool) (Qa:List Int) (Qb:Int) (Qc:Int),k1≤k∧ρ=upds g [(0,c1 (.str a0)),(1,c1 (.n a1)),(28,c1 (.bool x28)),(7,c1 (.ptr 0 0 0 0))]∧h=[⟨.box [.sl 1 Qa.length,.n Qb,.n Qc],0,true⟩,⟨.own 5 Qa,1,true⟩]∧c05_Raw.j2 k1 a0 a1 x28 Qa Qb Qc=some r) ?_ ?_
  ·
   refine wrg ?_;refine wr 3 ?_;refine WR.split 24 rfl (fun b5=>?_) (fun b5=>?_)
   ·
    rw [ifE b5] at H;replace b5:=eq_of_beq b5;refine wr 4 ?_;refine wn ?_;intro kk;refine wcut [some 0,some 1] [(0,c1 (.str a0)),(1,c1 (.n a1)),(28,c1 (.bool ((Qc == 0)))),(7,c1 (.ptr 0 0 0 0))] [⟨.box [.sl 1 Qa.length,.n Qb,.n Qc],0,true⟩,⟨.own 5 Qa,1,true⟩] (n2 rfl (n2 rfl (n2 rfl (n2 rfl tv)))) (n2 (rw_ rfl rfl) (n2 (rw_ rfl rfl) tv)) (by rw [hnp];rfl) (fun g=>?_);exact kk _ _ ⟨_,g,_,_,_,_,by omega,rfl,rfl,H⟩
   ·
    rw [ifEn b5] at H;replace b5:=bF b5;refine wr 4 ?_;refine wn ?_;intro kk;refine wcut [some 0,some 1] [(0,c1 (.str a0)),(1,c1 (.n a1)),(28,c1 (.bool false)),(7,c1 (.ptr 0 0 0 0))] [⟨.box [.sl 1 Qa.length,.n Qb,.n Qc],0,true⟩,⟨.own 5 Qa,1,true⟩] (n2 rfl (n2 rfl (n2 rfl (n2 rfl tv)))) (n2 (rw_ rfl rfl) (n2 (rw_ rfl rfl) tv)) (by rw [hnp];rfl) (fun g=>?_);exact kk _ _ ⟨_,g,_,_,_,_,by omega,rfl,rfl,H⟩
  rintro ρ h ⟨k,g,x28,Qa,Qb,Qc,hk6,rfl,rfl,H⟩
  rcases k with _ | k
  ·exact nn H
  simp only [c05_Raw.j2] at H;refine WS.cond rfl (fun b7=>?_) (fun b7=>?_)
  ·
   rw [ifB b7] at H;refine WS.skip ?_;refine WS.block ?_;refine WS.seq ?_;refine wrg ?_;refine wr 1 ?_;refine wn ?_;refine WS.seq ?_;refine wrg ?_;refine wr 2 ?_;obtain ⟨Qh,hbt366,H⟩:=bd H;(try rw [number_keep hbt366] at H);refine WR.call (ref05_number_sp _ _ _ _ _ _ _ hbt366) [some 1] rfl rfl rfl rfl rfl (n2 rfl tv) rfl rfl rfl rfl rfl ?_;refine wr 5 ?_;refine wn ?_;refine WS.seq ?_;refine wrg ?_;refine wr 2 ?_;obtain ⟨Qe,hbt372,H⟩:=bd H;(try rw [number_keep hbt372] at H);refine WR.call (ref05_number_sp _ _ _ _ _ _ _ hbt372) [some 1] rfl rfl rfl rfl rfl (n2 rfl tv) rfl rfl rfl rfl rfl ?_;refine wr 5 ?_;refine wn ?_;refine WS.seq ?_;refine WS.seq ?_;refine wrg ?_;refine wr 3 ?_;refine wn ?_;refine WS.cond rfl (fun b8=>?_) (fun b8=>?_)
   ·
    rw [ifX b8] at H;replace b8:=nT b8;refine WS.exit ?_;refine WS.seq ?_;refine WS.seq ?_;refine wrg ?_;refine wr 3 ?_;refine wn ?_;refine WS.cond rfl (fun b9=>?_) (fun b9=>?_)
    ·
     refine WS.seq ?_;refine wrg ?_;refine wr 5 ?_;refine wn ?_;refine WS.ret ?_;cases H;first | exact ⟨tv,[],_,rfl,rfl,tv,rfl,rfl,rfl⟩ | exact absurd (by assumption) (nT b9)
    ·
     refine WS.skip ?_;refine WS.seq ?_;refine wrg ?_;refine wr 10 ?_;refine wn ?_;refine WS.ret ?_;cases H;first | exact ⟨tv,[],_,rfl,rfl,tv,rfl,rfl,rfl⟩ | exact absurd (nF b9) (by assumption)
   ·
    rw [ifXn b8] at H;replace b8:=nF b8;refine WS.skip ?_;refine WS.join (fun ρ h=>∃ k1,∃ (g:Nat → SV) (x8:Int) (x9:Int) (Qa:List Int) (Qb:Int) (Qc:Int),k1≤k∧ρ=upds g [(0,c1 (.str a0)),(1,c1 (.n a1)),(8,c1 (.n x8)),(9,c1 (.n x9)),(7,c1 (.ptr 0 0 0 0))]∧h=[⟨.box [.sl 1 Qa.length,.n Qb,.n Qc],0,true⟩,⟨.own 5 Qa,1,true⟩]∧c05_Raw.j3 k1 a0 a1 x8 x9 Qa Qb Qc=some r) ?_ ?_
    ·
     refine WS.seq ?_;refine wrg ?_;refine wr 2 ?_;refine wn ?_;refine WS.cond rfl (fun b10=>?_) (fun b10=>?_)
     ·
      rw [ifE b10] at H;replace b10:=eq_of_beq b10;refine wrg ?_;refine wr 3 ?_;obtain ⟨Qf,hbt378,H⟩:=bd H;refine WR.call (ref05_stored_sp _ _ _ _ _ _ _ hbt378) [some 1] rfl rfl rfl rfl rfl (n2 (rw_ rfl rfl) tv) rfl rfl rfl rfl rfl ?_;refine wr 1 ?_;refine wn ?_;intro kk;refine wcut [some 0,some 2] [(0,c1 (.str a0)),(1,c1 (.n a1)),(8,c1 (.n Qh.1)),(9,c1 (.n Qe.1)),(7,c1 (.ptr 0 0 0 0))] [⟨.box [.sl 1 Qf.1.length,.n Qf.2.1,.n Qf.2.2],0,true⟩,⟨.own 5 Qf.1,1,true⟩] (n2 rfl (n2 rfl (n2 rfl (n2 rfl (n2 rfl tv))))) (n2 (rw_ rfl rfl) (n2 (rw_ rfl rfl) tv)) (by rw [hnp];rfl) (fun g=>?_);exact kk _ _ ⟨_,g,_,_,_,_,_,by omega,rfl,rfl,H⟩
     ·
      rw [ifEn b10] at H;replace b10:=bF b10;refine WS.skip ?_;intro kk;refine wcut [some 0,some 1] [(0,c1 (.str a0)),(1,c1 (.n a1)),(8,c1 (.n Qh.1)),(9,c1 (.n Qe.1)),(7,c1 (.ptr 0 0 0 0))] [⟨.box [.sl 1 Qa.length,.n Qe.2.2.1,.n Qe.2.2.2],0,true⟩,⟨.own 5 Qa,1,true⟩] (n2 rfl (n2 rfl (n2 rfl (n2 rfl (n2 rfl tv))))) (n2 (rw_ rfl rfl) (n2 (rw_ rfl rfl) tv)) (by rw [hnp];rfl) (fun g=>?_);exact kk _ _ ⟨_,g,_,_,_,_,_,by omega,rfl,rfl,H⟩
    rintro ρ h ⟨k,g,x8,x9,Qa,Qb,Qc,hk11,rfl,rfl,H⟩
    rcases k with _ | k
    ·exact nn H
    simp only [c05_Raw.j3] at H;refine WS.join (fun ρ h=>∃ k1,∃ (g:Nat → SV) (x8:Int) (x9:Int) (Qa:List Int) (Qb:Int) (Qc:Int),k1≤k∧ρ=upds g [(0,c1 (.str a0)),(1,c1 (.n a1)),(8,c1 (.n x8)),(9,c1 (.n x9)),(7,c1 (.ptr 0 0 0 0))]∧h=[⟨.box [.sl 1 Qa.length,.n Qb,.n Qc],0,true⟩,⟨.own 5 Qa,1,true⟩]∧c05_Raw.j4 k1 a0 a1 x8 x9 Qa Qb Qc=some r) ?_ ?_
    ·
     refine WS.seq ?_;refine wrg ?_;refine wr 2 ?_;refine wn ?_;refine WS.cond rfl (fun b12=>?_) (fun b12=>?_)
     ·
      rw [ifE b12] at H;replace b12:=eq_of_beq b12;refine WS.seq ?_;refine wrg ?_;obtain ⟨bt383,hbt383,H⟩:=bd H;refine WR.call (ref05_Plain_sp _  _ hbt383) [] rfl rfl rfl rfl rfl tv rfl rfl rfl rfl rfl ?_;refine wr 5 ?_;refine wn ?_;refine wrg ?_;refine wr 5 ?_;obtain ⟨Qg,hbt389,H⟩:=bd H;refine WR.call (ref05_codes_sp _ _ _ _ _ _ _ _ _ hbt389) [some 1,some 2,some 3] rfl rfl rfl rfl rfl (n2 (rw_ rfl rfl) (n2 rfl (n2 rfl tv))) rfl rfl rfl rfl rfl ?_;refine wr 1 ?_;refine wn ?_;intro kk;refine wcut [some 0,some 4] [(0,c1 (.str a0)),(1,c1 (.n a1)),(8,c1 (.n x8)),(9,c1 (.n x9)),(7,c1 (.ptr 0 0 0 0))] [⟨.box [.sl 1 Qg.1.length,.n Qg.2.1,.n Qg.2.2],0,true⟩,⟨.own 5 Qg.1,1,true⟩] (n2 rfl (n2 rfl (n2 rfl (n2 rfl (n2 rfl tv))))) (n2 (rw_ rfl rfl) (n2 (rw_ rfl rfl) tv)) (by rw [hnp];rfl) (fun g=>?_);exact kk _ _ ⟨_,g,_,_,_,_,_,by omega,rfl,rfl,H⟩
     ·
      rw [ifEn b12] at H;replace b12:=bF b12;refine WS.skip ?_;intro kk;refine wcut [some 0,some 1] [(0,c1 (.str a0)),(1,c1 (.n a1)),(8,c1 (.n x8)),(9,c1 (.n x9)),(7,c1 (.ptr 0 0 0 0))] [⟨.box [.sl 1 Qa.length,.n Qb,.n Qc],0,true⟩,⟨.own 5 Qa,1,true⟩] (n2 rfl (n2 rfl (n2 rfl (n2 rfl (n2 rfl tv))))) (n2 (rw_ rfl rfl) (n2 (rw_ rfl rfl) tv)) (by rw [hnp];rfl) (fun g=>?_);exact kk _ _ ⟨_,g,_,_,_,_,_,by omega,rfl,rfl,H⟩
    rintro ρ h ⟨k,g,x8,x9,Qa,Qb,Qc,hk13,rfl,rfl,H⟩
    rcases k with _ | k
    ·exact nn H
    simp only [c05_Raw.j4] at H;refine WS.seq ?_;refine WS.seq ?_;refine wrg ?_;refine wr 2 ?_;refine wn ?_;refine WS.cond rfl (fun b14=>?_) (fun b14=>?_)
    ·
     rw [ifE b14] at H;replace b14:=eq_of_beq b14;refine WS.seq ?_;refine wrg ?_;refine wr 2 ?_;obtain ⟨Qd,hzbt394,H⟩:=bd H;obtain ⟨zbt394,hz1bt394,hz2bt394⟩:=bd hzbt394;refine WR.call (ref05_lengths_sp _ _ _ _ _ _ hz1bt394) [some 1] rfl rfl rfl rfl rfl (n2 rfl tv) rfl rfl rfl rfl rfl ?_;refine wr 8 ?_;refine wn ?_;refine wrg ?_;refine wr 5 ?_;(try rw [lengths_keep hz1bt394] at hz2bt394);refine WR.call (ref05_codes_sp _ _ _ _ _ _ _ _ _ hz2bt394) [some 1,some 2,some 3] rfl rfl rfl rfl rfl (n2 (rw_ rfl rfl) (n2 rfl (n2 rfl tv))) rfl rfl rfl rfl rfl ?_;refine wr 1 ?_;refine wn ?_;refine WS.seq ?_;refine wrg ?_;refine wr 2 ?_;refine wn ?_;refine WS.cond rfl (fun b15=>?_) (fun b15=>?_)
     ·
      rw [ifE b15] at H;replace b15:=eq_of_beq b15;refine wrg ?_;refine wr 2 ?_;refine wn ?_;refine wcut [some 0,some 5] [(0,c1 (.str a0)),(1,c1 (.n a1)),(8,c1 (.n x8)),(7,c1 (.ptr 0 0 0 0))] [⟨.box [.sl 1 Qd.1.length,.n Qd.2.1,.n 3],0,true⟩,⟨.own 5 Qd.1,1,true⟩] (n2 rfl (n2 rfl (n2 rfl (n2 rfl tv)))) (n2 (rw_ rfl rfl) (n2 (rw_ rfl rfl) tv)) (by rw [hnp];rfl) (fun g=>?_);exact ih4 k (by omega) _ _ ⟨g,_,_,_,_,by omega,rfl,rfl,H⟩
     ·
      rw [ifEn b15] at H;replace b15:=bF b15;refine WS.skip ?_;refine wcut [some 0,some 5] [(0,c1 (.str a0)),(1,c1 (.n a1)),(8,c1 (.n x8)),(7,c1 (.ptr 0 0 0 0))] [⟨.box [.sl 1 Qd.1.length,.n Qd.2.1,.n Qd.2.2],0,true⟩,⟨.own 5 Qd.1,1,true⟩] (n2 rfl (n2 rfl (n2 rfl (n2 rfl tv)))) (n2 (rw_ rfl rfl) (n2 (rw_ rfl rfl) tv)) (by rw [hnp];rfl) (fun g=>?_);exact ih4 k (by omega) _ _ ⟨g,_,_,_,_,by omega,rfl,rfl,H⟩
    ·
     rw [ifEn b14] at H;replace b14:=bF b14;refine WS.skip ?_;refine WS.seq ?_;refine wrg ?_;refine wr 2 ?_;refine wn ?_;refine WS.cond rfl (fun b16=>?_) (fun b16=>?_)
     ·
      rw [ifE b16] at H;replace b16:=eq_of_beq b16;refine wrg ?_;refine wr 2 ?_;refine wn ?_;refine wcut [some 0,some 1] [(0,c1 (.str a0)),(1,c1 (.n a1)),(8,c1 (.n x8)),(7,c1 (.ptr 0 0 0 0))] [⟨.box [.sl 1 Qa.length,.n Qb,.n 3],0,true⟩,⟨.own 5 Qa,1,true⟩] (n2 rfl (n2 rfl (n2 rfl (n2 rfl tv)))) (n2 (rw_ rfl rfl) (n2 (rw_ rfl rfl) tv)) (by rw [hnp];rfl) (fun g=>?_);exact ih4 k (by omega) _ _ ⟨g,_,_,_,_,by omega,rfl,rfl,H⟩
     ·
      rw [ifEn b16] at H;replace b16:=bF b16;refine WS.skip ?_;refine wcut [some 0,some 1] [(0,c1 (.str a0)),(1,c1 (.n a1)),(8,c1 (.n x8)),(7,c1 (.ptr 0 0 0 0))] [⟨.box [.sl 1 Qa.length,.n Qb,.n Qc],0,true⟩,⟨.own 5 Qa,1,true⟩] (n2 rfl (n2 rfl (n2 rfl (n2 rfl tv)))) (n2 (rw_ rfl rfl) (n2 (rw_ rfl rfl) tv)) (by rw [hnp];rfl) (fun g=>?_);exact ih4 k (by omega) _ _ ⟨g,_,_,_,_,by omega,rfl,rfl,H⟩
  ·
   rw [ifBn b7] at H;refine WS.exit ?_;refine WS.seq ?_;refine WS.seq ?_;refine wrg ?_;refine wr 3 ?_;refine wn ?_;refine WS.cond rfl (fun b17=>?_) (fun b17=>?_)
   ·
    rw [ifX b17] at H;replace b17:=nT b17;refine WS.seq ?_;refine wrg ?_;refine wr 5 ?_;refine wn ?_;refine WS.ret ?_;cases H;exact ⟨tv,[],_,rfl,rfl,tv,rfl,rfl,rfl⟩
   ·
    rw [ifXn b17] at H;replace b17:=nF b17;refine WS.skip ?_;refine WS.seq ?_;refine wrg ?_;refine wr 10 ?_;refine wn ?_;refine WS.ret ?_;cases H;exact ⟨tv,[],_,rfl,rfl,tv,rfl,rfl,rfl⟩
end Go.Proofs.Ytpbhkdamkbopkaa.Rs
namespace Go.Proofs.Ytpbhkdamkbopkaa.Rs
open Go Go.RowKit Rf YtpbhkdamkbopkaaW.PrintWords Go.Proofs.Ytpbhkdamkbopkaa GOpn GPix
set_option maxRecDepth 10000
set_option maxHeartbeats 4000000
variable {O:Orc}
theorem ref05_Open_sp (k:Nat) (a0:ByteArray) (a1:Int) (r:ByteArray × Int) (H:c05_Open.f k a0 a1=some r):Sp (KT:=kt) Try.prog O 47 [c1 (.str a0),c1 (.n a1)] [] (.t [.c (.str r.1),.c (.n r.2)]) []:=by
 refine Sp.of tok (by kernel_rfl) Try.func47 rfl rfl fun Γ hnp=>?_;unfold c05_Open.f at H;refine WS.seq ?_;refine wrg ?_;refine wr 2 ?_;refine wn ?_;refine WS.seq ?_;refine WS.join (fun ρ h=>∃ k1,∃ (g:Nat → SV) (x19:Bool),k1≤k∧ρ=upds g [(0,c1 (.str a0)),(1,c1 (.n a1)),(19,c1 (.bool x19))]∧h=[]∧c05_Open.j0 k1 a0 a1 x19=some r) ?_ ?_
 ·
  refine wrg ?_;refine wr 3 ?_;refine WR.split 16 rfl (fun b1=>?_) (fun b1=>?_)
  ·
   rw [ifP b1] at H;replace b1:=dT b1;refine wr 3 ?_;refine wn ?_;intro kk;refine wcut [] [(0,c1 (.str a0)),(1,c1 (.n a1)),(19,c1 (.bool true))] [] (n2 rfl (n2 rfl (n2 rfl tv))) tv (by rw [hnp];rfl) (fun g=>?_);exact kk _ _ ⟨_,g,_,by omega,rfl,rfl,H⟩
  ·
   rw [ifN b1] at H;replace b1:=dF b1;refine wr 3 ?_;refine wn ?_;intro kk;refine wcut [] [(0,c1 (.str a0)),(1,c1 (.n a1)),(19,c1 (.bool ((decide (a1 > 262144)))))] [] (n2 rfl (n2 rfl (n2 rfl tv))) tv (by rw [hnp];rfl) (fun g=>?_);exact kk _ _ ⟨_,g,_,by omega,rfl,rfl,H⟩
 rintro ρ h ⟨k,g,x19,hk2,rfl,rfl,H⟩
 rcases k with _ | k
 ·exact nn H
 simp only [c05_Open.j0] at H;refine WS.cond rfl (fun b3=>?_) (fun b3=>?_)
 ·
  rw [ifB b3] at H;refine WS.seq ?_;refine wrg ?_;refine wr 2 ?_;refine wn ?_;refine WS.ret ?_;cases H;exact ⟨tv,[],_,rfl,rfl,tv,rfl,rfl,rfl⟩
 ·
  rw [ifBn b3] at H;refine WS.skip ?_;refine WS.seq ?_;refine WS.seq ?_;refine wrg ?_;refine wr 3 ?_;refine wn ?_;refine WS.cond rfl (fun b4=>?_) (fun b4=>?_)
  ·
   rw [ifP b4] at H;replace b4:=dT b4;refine WS.seq ?_;refine wrg ?_;refine wr 2 ?_;refine wn ?_;refine WS.ret ?_;cases H;exact ⟨tv,[],_,rfl,rfl,tv,rfl,rfl,rfl⟩
  ·
   rw [ifN b4] at H;replace b4:=dF b4;refine WS.skip ?_;refine WS.seq ?_;refine wrg ?_;obtain ⟨g5,H⟩:=gd H;obtain ⟨g6,H⟩:=gd H;refine wr 8 ?_;refine wn ?_;refine WS.seq ?_;refine WS.seq ?_;refine wrg ?_;refine wr 4 ?_;refine WR.split 32 rfl (fun b7=>?_) (fun b7=>?_)
   ·
    rw [ifX b7] at H;replace b7:=nT b7;refine wr 18 ?_;refine wn ?_;replace H:c05_Open.j1 k ..=some _:=H
    rcases k with _ | k
    ·exact nn H
    simp only [c05_Open.j1] at H;(first | rw [ifT] at H | rw [ifB rfl] at H);refine WS.cond rfl (fun _=>?_) (fun h=>nomatch h);refine WS.seq ?_;refine wrg ?_;refine wr 2 ?_;refine wn ?_;refine WS.ret ?_;cases H;exact ⟨tv,[],_,rfl,rfl,tv,rfl,rfl,rfl⟩
   ·
    rw [ifXn b7] at H;replace b7:=nF b7;refine wr 5 ?_;refine WR.split 37 rfl (fun b9=>?_) (fun b9=>?_)
    ·
     rw [ifP b9] at H;replace b9:=dT b9;refine wr 13 ?_;refine wn ?_;replace H:c05_Open.j1 k ..=some _:=H
     rcases k with _ | k
     ·exact nn H
     simp only [c05_Open.j1] at H;(first | rw [ifT] at H | rw [ifB rfl] at H);refine WS.cond rfl (fun _=>?_) (fun h=>nomatch h);refine WS.seq ?_;refine wrg ?_;refine wr 2 ?_;refine wn ?_;refine WS.ret ?_;cases H;exact ⟨tv,[],_,rfl,rfl,tv,rfl,rfl,rfl⟩
    ·
     rw [ifN b9] at H;replace b9:=dF b9;refine wr 8 ?_;refine WR.split 45 rfl (fun b11=>?_) (fun b11=>?_)
     ·
      rw [ifX b11] at H;replace b11:=nT b11;refine wr 5 ?_;refine wn ?_;replace H:c05_Open.j1 k ..=some _:=H
      rcases k with _ | k
      ·exact nn H
      simp only [c05_Open.j1] at H;(first | rw [ifT] at H | rw [ifB rfl] at H);refine WS.cond rfl (fun _=>?_) (fun h=>nomatch h);refine WS.seq ?_;refine wrg ?_;refine wr 2 ?_;refine wn ?_;refine WS.ret ?_;cases H;exact ⟨tv,[],_,rfl,rfl,tv,rfl,rfl,rfl⟩
     ·
      rw [ifXn b11] at H;replace b11:=nF b11;replace H:c05_Open.j1 k ..=some _:=H
      rcases k with _ | k
      ·exact nn H
      simp only [c05_Open.j1] at H;refine wr 5 ?_;refine wn ?_;refine WS.cond rfl (fun b13=>?_) (fun b13=>?_)
      ·
       rw [ifB b13] at H;refine WS.seq ?_;refine wrg ?_;refine wr 2 ?_;refine wn ?_;refine WS.ret ?_;cases H;exact ⟨tv,[],_,rfl,rfl,tv,rfl,rfl,rfl⟩
      ·
       rw [ifBn b13] at H;refine WS.skip ?_;refine WS.seq ?_;refine wrg ?_;obtain ⟨g14,H⟩:=gd H;refine wr 3 ?_;obtain ⟨Qa,hbt204,H⟩:=bd H;refine WR.call (ref05_Raw_sp _ _ _ _ hbt204) [] rfl rfl rfl rfl rfl tv rfl rfl rfl rfl rfl ?_;refine wr 7 ?_;refine wn ?_;refine WS.seq ?_;refine WS.seq ?_;refine wrg ?_;refine wr 2 ?_;refine wn ?_;refine WS.cond rfl (fun b15=>?_) (fun b15=>?_)
       ·
        rw [ifX b15] at H;replace b15:=nT b15;refine WS.seq ?_;refine wrg ?_;refine wr 3 ?_;refine wn ?_;refine WS.ret ?_;cases H;exact ⟨tv,[],_,rfl,rfl,tv,rfl,rfl,rfl⟩
       ·
        rw [ifXn b15] at H;replace b15:=nF b15;refine WS.skip ?_;refine WS.seq ?_;refine wrg ?_;obtain ⟨g16,H⟩:=gd H;obtain ⟨g17,H⟩:=gd H;refine wr 5 ?_;refine wn ?_;refine WS.seq ?_;refine WS.seq ?_;refine wrg ?_;refine wr 3 ?_;refine wn ?_;refine WS.cond rfl (fun b18=>?_) (fun b18=>?_)
        ·
         rw [ifP b18] at H;replace b18:=dT b18;refine WS.seq ?_;refine wrg ?_;refine wr 2 ?_;refine wn ?_;refine WS.ret ?_;cases H;exact ⟨tv,[],_,rfl,rfl,tv,rfl,rfl,rfl⟩
        ·
         rw [ifN b18] at H;replace b18:=dF b18;refine WS.skip ?_;refine WS.seq ?_;refine wrg ?_;refine wr 1 ?_;refine wn ?_;refine WS.seq ?_;refine WS.seq ?_;refine wrg ?_;refine wr 1 ?_;refine wn ?_;refine WS.block ?_;refine wcut [] [(8,c1 (.str Qa.1)),(11,c1 (.str ((a0.extract ((wrap64 (2+Qa.2.1)):Int).toNat a0.size)))),(12,c1 (.n 0)),(13,c1 (.n 0)),(0,c1 (.str a0)),(1,c1 (.n a1))] [] (n2 rfl (n2 rfl (n2 rfl (n2 rfl (n2 rfl (n2 rfl tv)))))) tv (by rw [hnp];rfl) (fun g=>?_);refine WS.loop (fun k1 ρ h=>∃ (g:Nat → SV) (x8:ByteArray) (x11:ByteArray) (x12:Int) (x13:Int),k1≤k∧ρ=upds g [(8,c1 (.str x8)),(11,c1 (.str x11)),(12,c1 (.n x12)),(13,c1 (.n x13)),(0,c1 (.str a0)),(1,c1 (.n a1))]∧h=[]∧c05_Open.l0 k1 x8 x11 x12 x13=some r) ?_ (n:=k) ⟨g,_,_,_,_,Nat.le_refl _,rfl,rfl,H⟩;rintro k ρ h ih19 ⟨g,x8,x11,x12,x13,hkih19,rfl,rfl,H⟩
         rcases k with _ | k
         ·exact nn H
         simp only [c05_Open.l0] at H;refine WS.seq ?_;refine WS.seq ?_;refine wrg ?_;refine wr 2 ?_;refine wn ?_;refine WS.cond rfl (fun b20=>?_) (fun b20=>?_)
         ·
          rw [ifP b20] at H;replace b20:=dT b20;refine WS.skip ?_;refine WS.seq ?_;refine WS.block ?_;refine wrg ?_;obtain ⟨g21,H⟩:=gd H;obtain ⟨g22,H⟩:=gd H;refine wr 8 ?_;refine wn ?_;refine wrg ?_;refine wr 3 ?_;refine wn ?_;refine wcut [] [(8,c1 (.str x8)),(11,c1 (.str x11)),(12,c1 (.n ((wrap64 ((wrap64 (256*x12))+(wrap64 (bt x11 x13))))))),(13,c1 (.n ((wrap64 (x13+1))))),(0,c1 (.str a0)),(1,c1 (.n a1))] [] (n2 rfl (n2 rfl (n2 rfl (n2 rfl (n2 rfl (n2 rfl tv)))))) tv (by rw [hnp];rfl) (fun g=>?_);exact ih19 k (by omega) _ _ ⟨g,_,_,_,_,by omega,rfl,rfl,H⟩
         ·
          rw [ifN b20] at H;replace b20:=dF b20;refine WS.exit ?_;refine WS.seq ?_;refine WS.seq ?_;refine wrg ?_;refine wr 2 ?_;obtain ⟨t207,ht207,H⟩:=bd H;refine WR.call (ref03_Sum_sp _ _ _ ht207) [] rfl rfl rfl rfl rfl tv rfl rfl rfl rfl rfl ?_;refine wr 1 ?_;refine wn ?_;refine WS.cond rfl (fun b23=>?_) (fun b23=>?_)
          ·
           rw [ifX b23] at H;replace b23:=nT b23;refine WS.seq ?_;refine wrg ?_;refine wr 2 ?_;refine wn ?_;refine WS.ret ?_;cases H;exact ⟨tv,[],_,rfl,rfl,tv,rfl,rfl,rfl⟩
          ·
           rw [ifXn b23] at H;replace b23:=nF b23;refine WS.skip ?_;refine WS.seq ?_;refine WS.seq ?_;refine wrg ?_;refine wr 3 ?_;refine wn ?_;refine WS.cond rfl (fun b24=>?_) (fun b24=>?_)
           ·
            rw [ifP b24] at H;replace b24:=dT b24;refine WS.seq ?_;refine wrg ?_;refine wr 2 ?_;refine wn ?_;refine WS.ret ?_;cases H;exact ⟨tv,[],_,rfl,rfl,tv,rfl,rfl,rfl⟩
           ·
            rw [ifN b24] at H;replace b24:=dF b24;refine WS.skip ?_;refine WS.seq ?_;refine wrg ?_;refine wr 3 ?_;refine wn ?_;refine WS.ret ?_;cases H;exact ⟨tv,[],_,rfl,rfl,tv,rfl,rfl,rfl⟩
end Go.Proofs.Ytpbhkdamkbopkaa.Rs
