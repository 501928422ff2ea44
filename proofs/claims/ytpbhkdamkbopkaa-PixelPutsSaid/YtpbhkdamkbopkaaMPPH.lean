/- Parts of the proof, glued by a program of this session (wip/tools/claimfit.py). -/
import Derived.Test.YtpbhkdamkbopkaaMPPG
namespace Go.Proofs.Ytpbhkdamkbopkaa.GPxp
open Go.Proofs.Ytpbhkdamkbopkaa.Sq
open Go.RowKit Go.Proofs.YtpbhkdamkbopkaaW.PrintWords Go.Proofs.YtpbhkdamkbopkaaW.PrintLast Go.Proofs.YtpbhkdamkbopkaaW.PrintMore Go.Proofs.Ytpbhkdamkbopkaa.Wr2 Go.Proofs.Ytpbhkdamkbopkaa.Wr1 Go.Proofs.Ytpbhkdamkbopkaa.GRuns Go.Proofs.Ytpbhkdamkbopkaa.GBack2 Go.Proofs.Ytpbhkdamkbopkaa.GPix Go.Proofs.Ytpbhkdamkbopkaa.PR Go.Proofs.Ytpbhkdamkbopkaa.GPixb Go.Proofs.Ytpbhkdamkbopkaa.GDefl
attribute [local go_sem] max2_int min2_int max_two min_two max_three min_three max_four min_four
set_option linter.unusedVariables false
set_option linter.unusedSimpArgs false
set_option maxHeartbeats 8000000 in
set_option maxRecDepth 100000 in
theorem celluloidref11_Raw.calls (k : Nat) (Qk : Int) (Ql : Int) (Qm : Int) (Qz : Option Addr) (Qw : Nat) (Qa : List (S89)) (r : ByteArray) (w : World) (hr0_3 : Kd.C k89 w Qz Qa.length Qa) (hc0_3 : Qa.length ≤ Qw) (h : celluloidref11_Raw.f k Qk Ql Qm Qa = some r) :
  Calls Try.prog 87 #[.agg #[.int .i64 Qk,.int .i64 Ql,.int .i64 Qm,.slice Qz Qa.length Qw]] w fun e w'=>e=.returned (.string r)∧Below w.heap.size w w':=by
 have hu79:=Try.underlying79;have hu89:=Try.underlying89;have QG:=Aside0.mk hr0_3;have HC0_3:=Aside0.mk hc0_3;clear hr0_3 hc0_3;have HB:=Aside0.mk (Below.refl w.heap.size w);have H:=h;unfold celluloidref11_Raw.f at H;clear h;have H':=Aside0.mk H;clear H;go_enter Try.func87,Try.ntmps87;go_wp2_with (first | ((with_reducible refine gate_dst (N:=1) rfl ?_);refine boxQ 1 #[.int .i64 Qk,.int .i64 Ql,.int .i64 Qm,.slice Qz Qa.length Qw] 79 ?_;intro Qy hg w2 hbox hb;have Qd:=Aside0.mk hbox;have GW206:=gs HB hg;have GE206:=gs HB hg;replace HB:=hs HB hb;clear hb hbox hg))
 go_loopg [3,4] k (fun kq v3 v4 w'=>∃ (Qp:List Int) (Qb:Int),v4=.int .i64 Qb∧Aside0 (celluloidref11_Raw.l0 kq Qp Qb Qk Ql Qm Qa=some r)∧Aside0 (kq≤k)∧Aside0 (Kd.R (Kd.int .u8) 5 w' w.heap.size (fun _=>True) v3 Qp)∧Aside0 (w'.heap[Qy]?=some (.cells #[.int .i64 Qk,.int .i64 Ql,.int .i64 Qm,(.slice Qz Qa.length Qw)] 79 (0,0)))∧Aside0 (Below w.heap.size w w'))
 case atStart=>exact ⟨(([]:List Int)),(0),(by first | rfl | (simp;done) | (simp [*];done)),H',⟨Nat.le_refl _⟩,⟨by first | exact Kd.R_nil _ _ _ _ _ | exact Kd.N_nil _ _ _ _ _ | exact Kd.V_nil _ _ _ _ _ | exact Kd.Q_nil _ _ _ _ _ | exact Kd.S_nil _ _ _ _ _⟩,⟨bk Qd⟩,⟨hn HB⟩⟩
 clear H';obtain ⟨Qp,Qb,rfl,HA,HK1,Qn,Qd,HB⟩:=hrel
 rcases gk with _ | k1
 ·exact absurd HA.out (by simp [celluloidref11_Raw.l0])
 have H:=HA.out;clear HA;simp only [celluloidref11_Raw.l0] at H;by_cases c3:Qb < (Qa.length:Int);rotate_left
 ·rw [if_neg c3] at H;have QP:=decide_eq_false c3;clear c3;obtain rfl:=Option.some.inj H;obtain ⟨_,_,_,_⟩:=cc4 Qd;obtain ⟨_,_,_,_⟩:=ff4 Qd;have hcv34:=own_string (P:=Try.prog) Try.underlying40 Try.underlying5 Try.underlying9 (Kd.own_of_R Qn.out);go_wp2;go_ret;exact ⟨by first | rfl | (simp [errW_none,errW_some] <;> rfl) | (simp [*,errW_none,errW_some] <;> rfl),hn HB⟩
 rw [if_pos c3] at H;have QP:=decide_eq_true c3;clear c3;by_cases c4:0≤Qb;rotate_left
 ·rw [if_neg c4] at H;exact absurd H (by simp)
 rw [if_pos c4] at H;have c4b0:=decide_eq_true c4;clear c4;obtain ⟨Qv,hy209⟩:∃ y_:List Int,y_=(([((rd_T89 Qa Qb).f3) % 256]:List Int)):=⟨_,rfl⟩;replace H:(if Qp.length+Qv.length < 140737488355328 then ((some (Qp ++ Qv:List Int)).bind fun Qq=>((some (([((rd_T89 Qa Qb).f0) % 256]:List Int):List Int)).bind fun Qo=>(if Qq.length+Qo.length < 140737488355328 then ((some (Qq ++ Qo:List Int)).bind fun Qj=>((some (([((rd_T89 Qa Qb).f1) % 256]:List Int):List Int)).bind fun Qg=>(if Qj.length+Qg.length < 140737488355328 then ((some (Qj ++ Qg:List Int)).bind fun Qf=>((some (([((rd_T89 Qa Qb).f2) % 256]:List Int):List Int)).bind fun Qe=>(if Qf.length+Qe.length < 140737488355328 then (celluloidref11_Raw.l0 k1 (Qf ++ Qe) (wrap64 (Qb+1)) Qk Ql Qm Qa) else (none)))) else (none)))) else (none)))) else (none))=some r:=by first | (rw [hy209];with_reducible exact H) | (have H2_:=(Option.bind_some _ _).symm.trans H;rw [hy209];with_reducible exact H2_) | (have H2_:=(Option.bind_some _ _).symm.trans H;with_reducible exact H2_) | with_reducible exact H | (rw [hy209];exact H) | exact H
 have QH:=Aside0.mk hy209;clear hy209;by_cases c5:Qp.length+Qv.length < 140737488355328;rotate_left
 ·rw [if_neg c5] at H;exact absurd H (by simp)
 rw [if_pos c5] at H;have QQ:=Aside0.mk c5;clear c5;obtain ⟨Qq,hy212⟩:∃ y_:List Int,y_=(Qp ++ Qv):=⟨_,rfl⟩;replace H:((some (([((rd_T89 Qa Qb).f0) % 256]:List Int):List Int)).bind fun Qo=>(if Qq.length+Qo.length < 140737488355328 then ((some (Qq ++ Qo:List Int)).bind fun Qj=>((some (([((rd_T89 Qa Qb).f1) % 256]:List Int):List Int)).bind fun Qg=>(if Qj.length+Qg.length < 140737488355328 then ((some (Qj ++ Qg:List Int)).bind fun Qf=>((some (([((rd_T89 Qa Qb).f2) % 256]:List Int):List Int)).bind fun Qe=>(if Qf.length+Qe.length < 140737488355328 then (celluloidref11_Raw.l0 k1 (Qf ++ Qe) (wrap64 (Qb+1)) Qk Ql Qm Qa) else (none)))) else (none)))) else (none)))=some r:=by first | (rw [hy212];with_reducible exact H) | (have H2_:=(Option.bind_some _ _).symm.trans H;rw [hy212];with_reducible exact H2_) | (have H2_:=(Option.bind_some _ _).symm.trans H;with_reducible exact H2_) | with_reducible exact H | (rw [hy212];exact H) | exact H
 have QI:=Aside0.mk hy212;clear hy212;obtain ⟨Qo,hy215⟩:∃ y_:List Int,y_=(([((rd_T89 Qa Qb).f0) % 256]:List Int)):=⟨_,rfl⟩;replace H:(if Qq.length+Qo.length < 140737488355328 then ((some (Qq ++ Qo:List Int)).bind fun Qj=>((some (([((rd_T89 Qa Qb).f1) % 256]:List Int):List Int)).bind fun Qg=>(if Qj.length+Qg.length < 140737488355328 then ((some (Qj ++ Qg:List Int)).bind fun Qf=>((some (([((rd_T89 Qa Qb).f2) % 256]:List Int):List Int)).bind fun Qe=>(if Qf.length+Qe.length < 140737488355328 then (celluloidref11_Raw.l0 k1 (Qf ++ Qe) (wrap64 (Qb+1)) Qk Ql Qm Qa) else (none)))) else (none)))) else (none))=some r:=by first | (rw [hy215];with_reducible exact H) | (have H2_:=(Option.bind_some _ _).symm.trans H;rw [hy215];with_reducible exact H2_) | (have H2_:=(Option.bind_some _ _).symm.trans H;with_reducible exact H2_) | with_reducible exact H | (rw [hy215];exact H) | exact H
 have QJ:=Aside0.mk hy215;clear hy215;by_cases c6:Qq.length+Qo.length < 140737488355328;rotate_left
 ·rw [if_neg c6] at H;exact absurd H (by simp)
 rw [if_pos c6] at H;have QR:=Aside0.mk c6;clear c6;obtain ⟨Qj,hy218⟩:∃ y_:List Int,y_=(Qq ++ Qo):=⟨_,rfl⟩;replace H:((some (([((rd_T89 Qa Qb).f1) % 256]:List Int):List Int)).bind fun Qg=>(if Qj.length+Qg.length < 140737488355328 then ((some (Qj ++ Qg:List Int)).bind fun Qf=>((some (([((rd_T89 Qa Qb).f2) % 256]:List Int):List Int)).bind fun Qe=>(if Qf.length+Qe.length < 140737488355328 then (celluloidref11_Raw.l0 k1 (Qf ++ Qe) (wrap64 (Qb+1)) Qk Ql Qm Qa) else (none)))) else (none)))=some r:=by first | (rw [hy218];with_reducible exact H) | (have H2_:=(Option.bind_some _ _).symm.trans H;rw [hy218];with_reducible exact H2_) | (have H2_:=(Option.bind_some _ _).symm.trans H;with_reducible exact H2_) | with_reducible exact H | (rw [hy218];exact H) | exact H
 have QK:=Aside0.mk hy218;clear hy218;obtain ⟨Qg,hy221⟩:∃ y_:List Int,y_=(([((rd_T89 Qa Qb).f1) % 256]:List Int)):=⟨_,rfl⟩;replace H:(if Qj.length+Qg.length < 140737488355328 then ((some (Qj ++ Qg:List Int)).bind fun Qf=>((some (([((rd_T89 Qa Qb).f2) % 256]:List Int):List Int)).bind fun Qe=>(if Qf.length+Qe.length < 140737488355328 then (celluloidref11_Raw.l0 k1 (Qf ++ Qe) (wrap64 (Qb+1)) Qk Ql Qm Qa) else (none)))) else (none))=some r:=by first | (rw [hy221];with_reducible exact H) | (have H2_:=(Option.bind_some _ _).symm.trans H;rw [hy221];with_reducible exact H2_) | (have H2_:=(Option.bind_some _ _).symm.trans H;with_reducible exact H2_) | with_reducible exact H | (rw [hy221];exact H) | exact H
 have QL:=Aside0.mk hy221;clear hy221;by_cases c7:Qj.length+Qg.length < 140737488355328;rotate_left
 ·rw [if_neg c7] at H;exact absurd H (by simp)
 rw [if_pos c7] at H;have QS:=Aside0.mk c7;clear c7;obtain ⟨Qf,hy224⟩:∃ y_:List Int,y_=(Qj ++ Qg):=⟨_,rfl⟩;replace H:((some (([((rd_T89 Qa Qb).f2) % 256]:List Int):List Int)).bind fun Qe=>(if Qf.length+Qe.length < 140737488355328 then (celluloidref11_Raw.l0 k1 (Qf ++ Qe) (wrap64 (Qb+1)) Qk Ql Qm Qa) else (none)))=some r:=by first | (rw [hy224];with_reducible exact H) | (have H2_:=(Option.bind_some _ _).symm.trans H;rw [hy224];with_reducible exact H2_) | (have H2_:=(Option.bind_some _ _).symm.trans H;with_reducible exact H2_) | with_reducible exact H | (rw [hy224];exact H) | exact H
 have QM:=Aside0.mk hy224;clear hy224;obtain ⟨Qe,hy227⟩:∃ y_:List Int,y_=(([((rd_T89 Qa Qb).f2) % 256]:List Int)):=⟨_,rfl⟩;replace H:(if Qf.length+Qe.length < 140737488355328 then (celluloidref11_Raw.l0 k1 (Qf ++ Qe) (wrap64 (Qb+1)) Qk Ql Qm Qa) else (none))=some r:=by first | (rw [hy227];with_reducible exact H) | (have H2_:=(Option.bind_some _ _).symm.trans H;rw [hy227];with_reducible exact H2_) | (have H2_:=(Option.bind_some _ _).symm.trans H;with_reducible exact H2_) | with_reducible exact H | (rw [hy227];exact H) | exact H
 have QN:=Aside0.mk hy227;clear hy227;by_cases c8:Qf.length+Qe.length < 140737488355328;rotate_left
 ·rw [if_neg c8] at H;exact absurd H (by simp)
 rw [if_pos c8] at H;have QT:=Aside0.mk c8;clear c8;obtain ⟨QD,hy230⟩:∃ y_:List Int,y_=(Qf ++ Qe):=⟨_,rfl⟩;replace H:(celluloidref11_Raw.l0 k1 QD (wrap64 (Qb+1)) Qk Ql Qm Qa)=some r:=by first | (rw [hy230];with_reducible exact H) | (have H2_:=(Option.bind_some _ _).symm.trans H;rw [hy230];with_reducible exact H2_) | (have H2_:=(Option.bind_some _ _).symm.trans H;with_reducible exact H2_) | with_reducible exact H | (rw [hy230];exact H) | exact H
 have QO:=Aside0.mk hy230;clear hy230;have H':=Aside0.mk H;clear H;obtain ⟨_,_,_,_⟩:=cc4 Qd;obtain ⟨_,_,_,_⟩:=ff4 Qd;have QE:0≤(Qb:Int):=pd;have QF:Qb < (Qa.length:Int):=pd;obtain ⟨QC,QU,Qr,Qs,Qt,Qu⟩:=at_T89 QG.out Qb QE QF;cases QU;replace Qr:=(HB.out.cell (World.block_lt_of_cell? w _ Qr)).trans Qr;replace Qs:=(HB.out.cell (World.block_lt_of_cell? w _ Qs)).trans Qs;replace Qt:=(HB.out.cell (World.block_lt_of_cell? w _ Qt)).trans Qt;replace Qu:=(HB.out.cell (World.block_lt_of_cell? w _ Qu)).trans Qu;replace QE:=eq_true QE;replace QF:=eq_true QF;try go_wp2_with (first | ((with_reducible refine gate_dst (N:=5) rfl ?_);refine boxQ 5 #[.int .i64 0,.int .i64 0,.int .i64 0,.int .i64 0] 89 ?_;intro Qc hg w10 hbox hb;replace Qn:=rk Qn hb;have Qh:=Aside0.mk hbox;have GW208:=gs HB hg;have GE208:=gs HB hg;replace HB:=hs HB hb;have Qi:=nl Qd hg;have Qx:=ng Qd hg;replace Qd:=bb Qd hb;clear hb hbox hg;have hnb11:=Qx.out;have hnc11:=Qi.out;obtain ⟨_,_,_,_⟩:=cc4 Qh;obtain ⟨_,_,_,_⟩:=ff4 Qh;obtain ⟨QA,QB,QV⟩:=Kd.R_slice Qn.out;subst QV))
 have n0_:Aside0 (Kd.R (Kd.int .u8) 5 ((((w10.setCell ⟨Qc,0,none⟩ (.int .i64 ((rd_T89 Qa Qb).f0))).setCell ⟨Qc,1,none⟩ (.int .i64 ((rd_T89 Qa Qb).f1))).setCell ⟨Qc,2,none⟩ (.int .i64 ((rd_T89 Qa Qb).f2))).setCell ⟨Qc,3,none⟩ (.int .i64 ((rd_T89 Qa Qb).f3))) w.heap.size (fun _=>True) (.slice QA Qp.length QB) Qp):=⟨by (with_reducible repeat (first | apply Kd.R_alloc | apply Kd.R_drewN | apply Kd.R_drew));exact Kd.R_mono (Kd.R_far (p:=⟨Qc,3,none⟩) (Kd.R_far (p:=⟨Qc,2,none⟩) (Kd.R_far (p:=⟨Qc,1,none⟩) (Kd.R_far (p:=⟨Qc,0,none⟩) (Kd.R_types Qn.out Qh.out (by decide)) (fun _ hk=>hk.2) (.int .i64 ((rd_T89 Qa Qb).f0))) (fun _ hk=>hk.2) (.int .i64 ((rd_T89 Qa Qb).f1))) (fun _ hk=>hk.2) (.int .i64 ((rd_T89 Qa Qb).f2))) (fun _ hk=>hk.2) (.int .i64 ((rd_T89 Qa Qb).f3))) (fun _ hk=>trivial)⟩;have n1_:Aside0 (((((w10.setCell ⟨Qc,0,none⟩ (.int .i64 ((rd_T89 Qa Qb).f0))).setCell ⟨Qc,1,none⟩ (.int .i64 ((rd_T89 Qa Qb).f1))).setCell ⟨Qc,2,none⟩ (.int .i64 ((rd_T89 Qa Qb).f2))).setCell ⟨Qc,3,none⟩ (.int .i64 ((rd_T89 Qa Qb).f3))).heap[Qy]?=some (.cells #[.int .i64 Qk,.int .i64 Ql,.int .i64 Qm,.slice (some QC) Qa.length Qw] 79 (0,0))):=⟨by (with_reducible repeat (first | refine blk_drewN ?_ _ | refine blk_drew ?_ | refine blk_alloc ?_ _));refine blk_far ?_ Qi.out _;(with_reducible repeat (first | refine blk_drewN ?_ _ | refine blk_drew ?_ | refine blk_alloc ?_ _));refine blk_far ?_ Qi.out _;(with_reducible repeat (first | refine blk_drewN ?_ _ | refine blk_drew ?_ | refine blk_alloc ?_ _));refine blk_far ?_ Qi.out _;(with_reducible repeat (first | refine blk_drewN ?_ _ | refine blk_drew ?_ | refine blk_alloc ?_ _));refine blk_far ?_ Qi.out _;(with_reducible repeat (first | refine blk_drewN ?_ _ | refine blk_drew ?_ | refine blk_alloc ?_ _));exact Qd.out⟩
 have n2_:Aside0 (((((w10.setCell ⟨Qc,0,none⟩ (.int .i64 ((rd_T89 Qa Qb).f0))).setCell ⟨Qc,1,none⟩ (.int .i64 ((rd_T89 Qa Qb).f1))).setCell ⟨Qc,2,none⟩ (.int .i64 ((rd_T89 Qa Qb).f2))).setCell ⟨Qc,3,none⟩ (.int .i64 ((rd_T89 Qa Qb).f3))).heap[Qc]?=some (.cells #[.int .i64 ((rd_T89 Qa Qb).f0),.int .i64 ((rd_T89 Qa Qb).f1),.int .i64 ((rd_T89 Qa Qb).f2),.int .i64 ((rd_T89 Qa Qb).f3)] 89 (0,0))):=⟨by (with_reducible repeat (first | refine blk_drewN ?_ _ | refine blk_drew ?_ | refine blk_alloc ?_ _));refine blk_put (cs:=#[.int .i64 ((rd_T89 Qa Qb).f0),.int .i64 ((rd_T89 Qa Qb).f1),.int .i64 ((rd_T89 Qa Qb).f2),.int .i64 0]) ?_ 3 _ rfl;(with_reducible repeat (first | refine blk_drewN ?_ _ | refine blk_drew ?_ | refine blk_alloc ?_ _));refine blk_put (cs:=#[.int .i64 ((rd_T89 Qa Qb).f0),.int .i64 ((rd_T89 Qa Qb).f1),.int .i64 0,.int .i64 0]) ?_ 2 _ rfl;(with_reducible repeat (first | refine blk_drewN ?_ _ | refine blk_drew ?_ | refine blk_alloc ?_ _));refine blk_put (cs:=#[.int .i64 ((rd_T89 Qa Qb).f0),.int .i64 0,.int .i64 0,.int .i64 0]) ?_ 1 _ rfl;(with_reducible repeat (first | refine blk_drewN ?_ _ | refine blk_drew ?_ | refine blk_alloc ?_ _));refine blk_put (cs:=#[.int .i64 0,.int .i64 0,.int .i64 0,.int .i64 0]) ?_ 0 _ rfl;(with_reducible repeat (first | refine blk_drewN ?_ _ | refine blk_drew ?_ | refine blk_alloc ?_ _));exact Qh.out⟩;have n3_:Aside0 (Below w.heap.size w ((((w10.setCell ⟨Qc,0,none⟩ (.int .i64 ((rd_T89 Qa Qb).f0))).setCell ⟨Qc,1,none⟩ (.int .i64 ((rd_T89 Qa Qb).f1))).setCell ⟨Qc,2,none⟩ (.int .i64 ((rd_T89 Qa Qb).f2))).setCell ⟨Qc,3,none⟩ (.int .i64 ((rd_T89 Qa Qb).f3)))):=⟨hn HB⟩
 (try clear Qn)
 (try clear Qd)
 (try clear Qh)
 (try clear HB)
 generalize ((((w10.setCell ⟨Qc,0,none⟩ (.int .i64 ((rd_T89 Qa Qb).f0))).setCell ⟨Qc,1,none⟩ (.int .i64 ((rd_T89 Qa Qb).f1))).setCell ⟨Qc,2,none⟩ (.int .i64 ((rd_T89 Qa Qb).f2))).setCell ⟨Qc,3,none⟩ (.int .i64 ((rd_T89 Qa Qb).f3)))=w14 at n0_ n1_ n2_ n3_ ⊢;have Qn:=n0_;have Qd:=n1_;have Qh:=n2_;have HB:=n3_;clear n0_ n1_ n2_ n3_;replace Qn:=Aside0.mk (Kd.R_drew Qn.out);replace Qd:=Aside0.mk (blk_drew Qd.out);replace Qh:=Aside0.mk (blk_drew Qh.out);replace HB:=Aside0.mk (below_drew1 HB.out);refine start_ (n:=22) (S:=fun w'=>True) (ds:=[]) #[false,false,false,false,false,false,false,false,false,false,false,false,false,false,false,false,false,false,false,false,false,false] (by kernel_rfl) rfl rfl trivial (fun hHeld=>?_);refine with_tabW celluloidref11_Raw.tab6 celluloidref11_Raw.bits6 (fun HT_ HW_=>?_);generalize w14.drew=w15 at Qn Qd Qh HB hHeld ⊢;refine pureQ 0 (some 18) (tk 1 21) (any_of HT_.out (by kernel_rfl)) ?_;refine pureQ 1 (some 19) (tk 2 20) (any_of HT_.out (by kernel_rfl)) ?_;refine pureQ 6 (some 24) #[true,true,false,false,false,false,true,false,false,false,false,false,false,false,false,false,false,false,false,false,false,false] (any_of HT_.out (by kernel_rfl)) ?_;refine pureQ 11 (some 29) #[true,true,false,false,false,false,true,false,false,false,false,true,false,false,false,false,false,false,false,false,false,false] (any_of HT_.out (by kernel_rfl)) ?_;refine pureQ 16 (some 34) #[true,true,false,false,false,false,true,false,false,false,false,true,false,false,false,false,true,false,false,false,false,false] (any_of HT_.out (by kernel_rfl)) ?_
 refine inv_at [2,3,4,5,7,8,9,10,12,13,14,15,17,18,19,20,21] (fun a0_ b a w'=>∃ (u0 u1 u2 u3 v0 v1 v2 v3 v4 V:Value) (X:List Int),a=putSel a0_ b [(2,20,.int .i64 ((rd_T89 Qa Qb).f3)),(3,21,.int .u8 (((rd_T89 Qa Qb).f3) % 256)),(4,22,u0),(5,23,v0),(7,25,.int .i64 ((rd_T89 Qa Qb).f0)),(8,26,.int .u8 (((rd_T89 Qa Qb).f0) % 256)),(9,27,u1),(10,28,v1),(12,30,.int .i64 ((rd_T89 Qa Qb).f1)),(13,31,.int .u8 (((rd_T89 Qa Qb).f1) % 256)),(14,32,u2),(15,33,v2),(17,35,.int .i64 ((rd_T89 Qa Qb).f2)),(18,36,.int .u8 (((rd_T89 Qa Qb).f2) % 256)),(19,37,u3),(20,38,v3),(21,3,v4)]∧Kd.R (Kd.int .u8) 5 w' w.heap.size (fun _=>True) V X∧(b 5=false → V=(.slice QA Qp.length QB)∧X=Qp)∧(b 5=true → b 10=false → V=v0∧X=Qq)∧(b 10=true → b 15=false → V=v1∧X=Qj)∧(b 15=true → b 20=false → V=v2∧X=Qf)∧(b 20=true → V=v3∧X=QD)∧(b 21=true → v4=v3)∧(b 4=true → b 5=false → Kd.R (Kd.int .u8) 5 w' w.heap.size (fun k_=>some k_ ≠ V.ownBlock) u0 Qv)∧(b 9=true → b 10=false → Kd.R (Kd.int .u8) 5 w' w.heap.size (fun k_=>some k_ ≠ V.ownBlock) u1 Qo)∧(b 14=true → b 15=false → Kd.R (Kd.int .u8) 5 w' w.heap.size (fun k_=>some k_ ≠ V.ownBlock) u2 Qg)∧(b 19=true → b 20=false → Kd.R (Kd.int .u8) 5 w' w.heap.size (fun k_=>some k_ ≠ V.ownBlock) u3 Qe)∧w'.heap[Qy]?=some (.cells #[.int .i64 Qk,.int .i64 Ql,.int .i64 Qm,.slice (some QC) Qa.length Qw] 79 (0,0))∧w'.heap[Qc]?=some (.cells #[.int .i64 ((rd_T89 Qa Qb).f0),.int .i64 ((rd_T89 Qa Qb).f1),.int .i64 ((rd_T89 Qa Qb).f2),.int .i64 ((rd_T89 Qa Qb).f3)] 89 (0,0))∧Below w.heap.size w w') HT_.out HW_.out (by kernel_rfl) (by kernel_rfl) ?_ ?_ ?_
 ·exact ⟨undef,undef,undef,undef,undef,undef,undef,undef,undef,_,_,by simp only [putSel,Bool.false_eq_true,if_false],Qn.out,fun _=>⟨rfl,rfl⟩,fun h=>absurd h (by decide),fun h=>absurd h (by decide),fun h=>absurd h (by decide),fun h=>absurd h (by decide),fun h=>absurd h (by decide),fun h=>absurd h (by decide),fun h=>absurd h (by decide),fun h=>absurd h (by decide),fun h=>absurd h (by decide),Qd.out,Qh.out,HB.out⟩
 ·clear Qn Qd Qh HB hHeld;refine steps_cons ?_ ?_
  ·rintro b a w' ⟨u0,u1,u2,u3,v0,v1,v2,v3,v4,V,X,ha,hR,q0,q1,q2,q3,q4,q5,B0,B1,B2,B3,hBK,hB8,hBl⟩ hb_ hon hoff;refine ⟨_,rfl,fun K hK=>?_⟩;(have e19:a.tmps[19]?=some (.pointer (some ⟨Qc,3,none⟩)):=by rw [ha];exact (putSel_off rfl).trans rfl);have hc_:w'.cell? ⟨Qc,3,none⟩=some (.int .i64 ((rd_T89 Qa Qb).f3)):=(blk_cell hB8 3).trans rfl;replace ha:=Aside0.mk ha;refine value_ (w1:=w') (v:=.int .i64 ((rd_T89 Qa Qb).f3)) (by rfl) rfl ?_ ?_
   ·go_simp;try rfl
   exact hK.out _ _ ⟨u0,u1,u2,u3,v0,v1,v2,v3,v4,V,X,(by rw [ha.out];exact putSel_upk 0 hb_ rfl rfl rfl),hR,q0,q1,q2,q3,q4,q5,B0,B1,B2,B3,hBK,hB8,hBl⟩
  refine steps_cons ?_ ?_
  ·rintro b a w' ⟨u0,u1,u2,u3,v0,v1,v2,v3,v4,V,X,ha,hR,q0,q1,q2,q3,q4,q5,B0,B1,B2,B3,hBK,hB8,hBl⟩ hb_ hon hoff;refine ⟨_,rfl,fun K hK=>?_⟩;(have e20:a.tmps[20]?=some (.int .i64 ((rd_T89 Qa Qb).f3)):=by rw [ha];exact putSel_on (e:=(2,20,.int .i64 ((rd_T89 Qa Qb).f3))) 0 rfl rfl (hon 2 (by kernel_rfl)) rfl);replace ha:=Aside0.mk ha;refine value_ (w1:=w') (v:=.int .u8 (((rd_T89 Qa Qb).f3) % 256)) (by rfl) rfl ?_ ?_
   ·go_simp;try rfl
   exact hK.out _ _ ⟨u0,u1,u2,u3,v0,v1,v2,v3,v4,V,X,(by rw [ha.out];exact putSel_upk 1 hb_ rfl rfl rfl),hR,q0,q1,q2,q3,q4,q5,B0,B1,B2,B3,hBK,hB8,hBl⟩
  refine steps_cons ?_ ?_
  ·rintro b a w' ⟨u0,u1,u2,u3,v0,v1,v2,v3,v4,V,X,ha,hR,q0,q1,q2,q3,q4,q5,B0,B1,B2,B3,hBK,hB8,hBl⟩ hb_ hon hoff;refine ⟨_,rfl,fun K hK=>?_⟩;(have e21:a.tmps[21]?=some (.int .u8 (((rd_T89 Qa Qb).f3) % 256)):=by rw [ha];exact putSel_on (e:=(3,21,.int .u8 (((rd_T89 Qa Qb).f3) % 256))) 1 rfl rfl (hon 3 (by kernel_rfl)) rfl);replace ha:=Aside0.mk ha;refine Kd.R_lit_step (Kd.int .u8) w'.heap.size 5 (by rfl) (N:=22) (by rfl) (xs:=([((rd_T89 Qa Qb).f3) % 256]:List Int)) (inner:=[.int .u8 (((rd_T89 Qa Qb).f3) % 256)]) (ok:=fun k_=>some k_ ≠ V.ownBlock) (okp:=fun k_=>some k_ ≠ V.ownBlock) ?hr (Reps.one (show Kd.M (Kd.int .u8) _ _ _ (((rd_T89 Qa Qb).f3) % 256) [.int .u8 (((rd_T89 Qa Qb).f3) % 256)] from rfl) (Reps.none _ _)) (fun _ hk=>hk) (fun e_=>Nat.lt_irrefl _ (Kd.R_lt hR _ e_.symm)) (Below.refl _ _) (Nat.le_refl _) (by simp) ?_
   case hr=>first | (go_simp;done) | (go_simp;rfl)
   intro z w1 ho hb hg hnew;rw [← QH.out] at ho;exact hK.out _ _ ⟨z,u1,u2,u3,v0,v1,v2,v3,v4,V,X,(by rw [ha.out];exact putSel_upk 2 hb_ rfl rfl rfl),Kd.R_below hR hb,q0,q1,q2,q3,q4,q5,fun _ _=>Kd.R_lower ho (below_size hBl),fun h h'=>Kd.R_below (B1 h h') hb,fun h h'=>Kd.R_below (B2 h h') hb,fun h h'=>Kd.R_below (B3 h h') hb,blk_below hBK hb,blk_below hB8 hb,below_step hBl hb⟩
  refine steps_cons ?_ ?_
  ·rintro b a w' ⟨u0,u1,u2,u3,v0,v1,v2,v3,v4,V,X,ha,hR,q0,q1,q2,q3,q4,q5,B0,B1,B2,B3,hBK,hB8,hBl⟩ hb_ hon hoff;refine ⟨_,rfl,fun K hK=>?_⟩;have hu:=hon 4 (by kernel_rfl);have hBu:=B0 hu hb_;obtain ⟨rfl,rfl⟩:=q0 hb_;obtain ⟨Au,cu,eu⟩:=Kd.R_slice hBu;subst eu;(have e18:a.tmps[18]?=some (.slice QA X.length QB):=by rw [ha];exact (putSel_off rfl).trans rfl);(have e22:a.tmps[22]?=some (.slice Au Qv.length cu):=by rw [ha];exact putSel_on (e:=(4,22,.slice Au Qv.length cu)) 2 rfl rfl hu rfl);replace ha:=Aside0.mk ha;refine Kd.R_append_rows_step (Kd.int .u8) (w0:=w) w.heap.size (by rfl) (.tmp 18) (.tmp 22) 40 5 (.int .u8 0) 1 rfl Try.underlying40 GPix.info5 rfl (by decide) (by omega) (.slice QA X.length QB) X Qv _ _ _ (fun _=>True) (fun _=>False) (Go.Proofs.YtpbhkdamkbopkaaW.PrintLast.eval_of e18) (Go.Proofs.YtpbhkdamkbopkaaW.PrintLast.eval_of e22) hR (Kd.R_reads' hBu).2.2 (fun _ _ h=>h) (fun _ h=>h.elim) (fun _ _=>trivial) hBl (below_size hBl) (by have:=QQ.out;omega) ?_;intro z w1 ho hb hg hat;rw [← QI.out] at ho;exact hK.out _ _ ⟨_,u1,u2,u3,z,v1,v2,v3,v4,z,_,(by rw [ha.out];exact putSel_upk 3 hb_ rfl rfl rfl),ho,fun h=>absurd (show true=false from h) (by decide),fun _ _=>⟨rfl,rfl⟩,fun h _=>absurd ((hoff 10 (by kernel_rfl)).symm.trans h) (by decide),fun h _=>absurd ((hoff 15 (by kernel_rfl)).symm.trans h) (by decide),fun h=>absurd ((hoff 20 (by kernel_rfl)).symm.trans h) (by decide),fun h=>absurd ((hoff 21 (by kernel_rfl)).symm.trans h) (by decide),fun _ h=>absurd (show true=false from h) (by decide),fun h h'=>Kd.R_mono (Kd.R_after (ok:=fun _=>True) (Kd.R_mono (B1 h h') (fun _ hk=>⟨trivial,hk⟩)) hg hat) (fun _ hk=>hk.2),fun h h'=>Kd.R_mono (Kd.R_after (ok:=fun _=>True) (Kd.R_mono (B2 h h') (fun _ hk=>⟨trivial,hk⟩)) hg hat) (fun _ hk=>hk.2),fun h h'=>Kd.R_mono (Kd.R_after (ok:=fun _=>True) (Kd.R_mono (B3 h h') (fun _ hk=>⟨trivial,hk⟩)) hg hat) (fun _ hk=>hk.2),blk_grown hBK hg (Kd.R_ne hR hBK (by decide)),blk_grown hB8 hg (Kd.R_ne hR hB8 (by decide)),hb⟩
  refine steps_cons ?_ ?_
  ·rintro b a w' ⟨u0,u1,u2,u3,v0,v1,v2,v3,v4,V,X,ha,hR,q0,q1,q2,q3,q4,q5,B0,B1,B2,B3,hBK,hB8,hBl⟩ hb_ hon hoff;refine ⟨_,rfl,fun K hK=>?_⟩;(have e24:a.tmps[24]?=some (.pointer (some ⟨Qc,0,none⟩)):=by rw [ha];exact (putSel_off rfl).trans rfl);have hc_:w'.cell? ⟨Qc,0,none⟩=some (.int .i64 ((rd_T89 Qa Qb).f0)):=(blk_cell hB8 0).trans rfl;replace ha:=Aside0.mk ha;refine value_ (w1:=w') (v:=.int .i64 ((rd_T89 Qa Qb).f0)) (by rfl) rfl ?_ ?_
   ·go_simp;try rfl
   exact hK.out _ _ ⟨u0,u1,u2,u3,v0,v1,v2,v3,v4,V,X,(by rw [ha.out];exact putSel_upk 4 hb_ rfl rfl rfl),hR,q0,q1,q2,q3,q4,q5,B0,B1,B2,B3,hBK,hB8,hBl⟩
  refine steps_cons ?_ ?_
  ·rintro b a w' ⟨u0,u1,u2,u3,v0,v1,v2,v3,v4,V,X,ha,hR,q0,q1,q2,q3,q4,q5,B0,B1,B2,B3,hBK,hB8,hBl⟩ hb_ hon hoff;refine ⟨_,rfl,fun K hK=>?_⟩;(have e25:a.tmps[25]?=some (.int .i64 ((rd_T89 Qa Qb).f0)):=by rw [ha];exact putSel_on (e:=(7,25,.int .i64 ((rd_T89 Qa Qb).f0))) 4 rfl rfl (hon 7 (by kernel_rfl)) rfl);replace ha:=Aside0.mk ha;refine value_ (w1:=w') (v:=.int .u8 (((rd_T89 Qa Qb).f0) % 256)) (by rfl) rfl ?_ ?_
   ·go_simp;try rfl
   exact hK.out _ _ ⟨u0,u1,u2,u3,v0,v1,v2,v3,v4,V,X,(by rw [ha.out];exact putSel_upk 5 hb_ rfl rfl rfl),hR,q0,q1,q2,q3,q4,q5,B0,B1,B2,B3,hBK,hB8,hBl⟩
  refine steps_cons ?_ ?_
  ·rintro b a w' ⟨u0,u1,u2,u3,v0,v1,v2,v3,v4,V,X,ha,hR,q0,q1,q2,q3,q4,q5,B0,B1,B2,B3,hBK,hB8,hBl⟩ hb_ hon hoff;refine ⟨_,rfl,fun K hK=>?_⟩;(have e26:a.tmps[26]?=some (.int .u8 (((rd_T89 Qa Qb).f0) % 256)):=by rw [ha];exact putSel_on (e:=(8,26,.int .u8 (((rd_T89 Qa Qb).f0) % 256))) 5 rfl rfl (hon 8 (by kernel_rfl)) rfl);replace ha:=Aside0.mk ha;refine Kd.R_lit_step (Kd.int .u8) w'.heap.size 5 (by rfl) (N:=27) (by rfl) (xs:=([((rd_T89 Qa Qb).f0) % 256]:List Int)) (inner:=[.int .u8 (((rd_T89 Qa Qb).f0) % 256)]) (ok:=fun k_=>some k_ ≠ V.ownBlock) (okp:=fun k_=>some k_ ≠ V.ownBlock) ?hr (Reps.one (show Kd.M (Kd.int .u8) _ _ _ (((rd_T89 Qa Qb).f0) % 256) [.int .u8 (((rd_T89 Qa Qb).f0) % 256)] from rfl) (Reps.none _ _)) (fun _ hk=>hk) (fun e_=>Nat.lt_irrefl _ (Kd.R_lt hR _ e_.symm)) (Below.refl _ _) (Nat.le_refl _) (by simp) ?_
   case hr=>first | (go_simp;done) | (go_simp;rfl)
   intro z w1 ho hb hg hnew;rw [← QJ.out] at ho;exact hK.out _ _ ⟨u0,z,u2,u3,v0,v1,v2,v3,v4,V,X,(by rw [ha.out];exact putSel_upk 6 hb_ rfl rfl rfl),Kd.R_below hR hb,q0,q1,q2,q3,q4,q5,fun h h'=>Kd.R_below (B0 h h') hb,fun _ _=>Kd.R_lower ho (below_size hBl),fun h h'=>Kd.R_below (B2 h h') hb,fun h h'=>Kd.R_below (B3 h h') hb,blk_below hBK hb,blk_below hB8 hb,below_step hBl hb⟩
  refine steps_cons ?_ ?_
  ·rintro b a w' ⟨u0,u1,u2,u3,v0,v1,v2,v3,v4,V,X,ha,hR,q0,q1,q2,q3,q4,q5,B0,B1,B2,B3,hBK,hB8,hBl⟩ hb_ hon hoff;refine ⟨_,rfl,fun K hK=>?_⟩;have hu:=hon 9 (by kernel_rfl);have hBu:=B1 hu hb_;obtain ⟨rfl,rfl⟩:=q1 (hon 5 (by kernel_rfl)) hb_;obtain ⟨Au,cu,eu⟩:=Kd.R_slice hBu;subst eu;(have e23:a.tmps[23]?=some V:=by rw [ha];exact putSel_on (e:=(5,23,V)) 3 rfl rfl (hon 5 (by kernel_rfl)) rfl);(have e27:a.tmps[27]?=some (.slice Au Qo.length cu):=by rw [ha];exact putSel_on (e:=(9,27,.slice Au Qo.length cu)) 6 rfl rfl hu rfl);replace ha:=Aside0.mk ha;refine Kd.R_append_rows_step (Kd.int .u8) (w0:=w) w.heap.size (by rfl) (.tmp 23) (.tmp 27) 40 5 (.int .u8 0) 1 rfl Try.underlying40 GPix.info5 rfl (by decide) (by omega) V X Qo _ _ _ (fun _=>True) (fun _=>False) (Go.Proofs.YtpbhkdamkbopkaaW.PrintLast.eval_of e23) (Go.Proofs.YtpbhkdamkbopkaaW.PrintLast.eval_of e27) hR (Kd.R_reads' hBu).2.2 (fun _ _ h=>h) (fun _ h=>h.elim) (fun _ _=>trivial) hBl (below_size hBl) (by have:=QR.out;omega) ?_;intro z w1 ho hb hg hat;rw [← QK.out] at ho;exact hK.out _ _ ⟨u0,_,u2,u3,V,z,v2,v3,v4,z,_,(by rw [ha.out];exact putSel_upk 7 hb_ rfl rfl rfl),ho,fun h=>absurd (h.symm.trans (hon 5 (by kernel_rfl))) (by decide),fun _ h=>absurd (show true=false from h) (by decide),fun _ _=>⟨rfl,rfl⟩,fun h _=>absurd ((hoff 15 (by kernel_rfl)).symm.trans h) (by decide),fun h=>absurd ((hoff 20 (by kernel_rfl)).symm.trans h) (by decide),fun h=>absurd ((hoff 21 (by kernel_rfl)).symm.trans h) (by decide),fun h h'=>Kd.R_mono (Kd.R_after (ok:=fun _=>True) (Kd.R_mono (B0 h h') (fun _ hk=>⟨trivial,hk⟩)) hg hat) (fun _ hk=>hk.2),fun _ h=>absurd (show true=false from h) (by decide),fun h h'=>Kd.R_mono (Kd.R_after (ok:=fun _=>True) (Kd.R_mono (B2 h h') (fun _ hk=>⟨trivial,hk⟩)) hg hat) (fun _ hk=>hk.2),fun h h'=>Kd.R_mono (Kd.R_after (ok:=fun _=>True) (Kd.R_mono (B3 h h') (fun _ hk=>⟨trivial,hk⟩)) hg hat) (fun _ hk=>hk.2),blk_grown hBK hg (Kd.R_ne hR hBK (by decide)),blk_grown hB8 hg (Kd.R_ne hR hB8 (by decide)),hb⟩
  refine steps_cons ?_ ?_
  ·rintro b a w' ⟨u0,u1,u2,u3,v0,v1,v2,v3,v4,V,X,ha,hR,q0,q1,q2,q3,q4,q5,B0,B1,B2,B3,hBK,hB8,hBl⟩ hb_ hon hoff;refine ⟨_,rfl,fun K hK=>?_⟩;(have e29:a.tmps[29]?=some (.pointer (some ⟨Qc,1,none⟩)):=by rw [ha];exact (putSel_off rfl).trans rfl);have hc_:w'.cell? ⟨Qc,1,none⟩=some (.int .i64 ((rd_T89 Qa Qb).f1)):=(blk_cell hB8 1).trans rfl;replace ha:=Aside0.mk ha;refine value_ (w1:=w') (v:=.int .i64 ((rd_T89 Qa Qb).f1)) (by rfl) rfl ?_ ?_
   ·go_simp;try rfl
   exact hK.out _ _ ⟨u0,u1,u2,u3,v0,v1,v2,v3,v4,V,X,(by rw [ha.out];exact putSel_upk 8 hb_ rfl rfl rfl),hR,q0,q1,q2,q3,q4,q5,B0,B1,B2,B3,hBK,hB8,hBl⟩
  refine steps_cons ?_ ?_
  ·rintro b a w' ⟨u0,u1,u2,u3,v0,v1,v2,v3,v4,V,X,ha,hR,q0,q1,q2,q3,q4,q5,B0,B1,B2,B3,hBK,hB8,hBl⟩ hb_ hon hoff;refine ⟨_,rfl,fun K hK=>?_⟩;(have e30:a.tmps[30]?=some (.int .i64 ((rd_T89 Qa Qb).f1)):=by rw [ha];exact putSel_on (e:=(12,30,.int .i64 ((rd_T89 Qa Qb).f1))) 8 rfl rfl (hon 12 (by kernel_rfl)) rfl);replace ha:=Aside0.mk ha;refine value_ (w1:=w') (v:=.int .u8 (((rd_T89 Qa Qb).f1) % 256)) (by rfl) rfl ?_ ?_
   ·go_simp;try rfl
   exact hK.out _ _ ⟨u0,u1,u2,u3,v0,v1,v2,v3,v4,V,X,(by rw [ha.out];exact putSel_upk 9 hb_ rfl rfl rfl),hR,q0,q1,q2,q3,q4,q5,B0,B1,B2,B3,hBK,hB8,hBl⟩
  refine steps_cons ?_ ?_
  ·rintro b a w' ⟨u0,u1,u2,u3,v0,v1,v2,v3,v4,V,X,ha,hR,q0,q1,q2,q3,q4,q5,B0,B1,B2,B3,hBK,hB8,hBl⟩ hb_ hon hoff;refine ⟨_,rfl,fun K hK=>?_⟩;(have e31:a.tmps[31]?=some (.int .u8 (((rd_T89 Qa Qb).f1) % 256)):=by rw [ha];exact putSel_on (e:=(13,31,.int .u8 (((rd_T89 Qa Qb).f1) % 256))) 9 rfl rfl (hon 13 (by kernel_rfl)) rfl);replace ha:=Aside0.mk ha;refine Kd.R_lit_step (Kd.int .u8) w'.heap.size 5 (by rfl) (N:=32) (by rfl) (xs:=([((rd_T89 Qa Qb).f1) % 256]:List Int)) (inner:=[.int .u8 (((rd_T89 Qa Qb).f1) % 256)]) (ok:=fun k_=>some k_ ≠ V.ownBlock) (okp:=fun k_=>some k_ ≠ V.ownBlock) ?hr (Reps.one (show Kd.M (Kd.int .u8) _ _ _ (((rd_T89 Qa Qb).f1) % 256) [.int .u8 (((rd_T89 Qa Qb).f1) % 256)] from rfl) (Reps.none _ _)) (fun _ hk=>hk) (fun e_=>Nat.lt_irrefl _ (Kd.R_lt hR _ e_.symm)) (Below.refl _ _) (Nat.le_refl _) (by simp) ?_
   case hr=>first | (go_simp;done) | (go_simp;rfl)
   intro z w1 ho hb hg hnew;rw [← QL.out] at ho;exact hK.out _ _ ⟨u0,u1,z,u3,v0,v1,v2,v3,v4,V,X,(by rw [ha.out];exact putSel_upk 10 hb_ rfl rfl rfl),Kd.R_below hR hb,q0,q1,q2,q3,q4,q5,fun h h'=>Kd.R_below (B0 h h') hb,fun h h'=>Kd.R_below (B1 h h') hb,fun _ _=>Kd.R_lower ho (below_size hBl),fun h h'=>Kd.R_below (B3 h h') hb,blk_below hBK hb,blk_below hB8 hb,below_step hBl hb⟩
  refine steps_cons ?_ ?_
  ·rintro b a w' ⟨u0,u1,u2,u3,v0,v1,v2,v3,v4,V,X,ha,hR,q0,q1,q2,q3,q4,q5,B0,B1,B2,B3,hBK,hB8,hBl⟩ hb_ hon hoff;refine ⟨_,rfl,fun K hK=>?_⟩;have hu:=hon 14 (by kernel_rfl);have hBu:=B2 hu hb_;obtain ⟨rfl,rfl⟩:=q2 (hon 10 (by kernel_rfl)) hb_;obtain ⟨Au,cu,eu⟩:=Kd.R_slice hBu;subst eu;(have e28:a.tmps[28]?=some V:=by rw [ha];exact putSel_on (e:=(10,28,V)) 7 rfl rfl (hon 10 (by kernel_rfl)) rfl);(have e32:a.tmps[32]?=some (.slice Au Qg.length cu):=by rw [ha];exact putSel_on (e:=(14,32,.slice Au Qg.length cu)) 10 rfl rfl hu rfl);replace ha:=Aside0.mk ha;refine Kd.R_append_rows_step (Kd.int .u8) (w0:=w) w.heap.size (by rfl) (.tmp 28) (.tmp 32) 40 5 (.int .u8 0) 1 rfl Try.underlying40 GPix.info5 rfl (by decide) (by omega) V X Qg _ _ _ (fun _=>True) (fun _=>False) (Go.Proofs.YtpbhkdamkbopkaaW.PrintLast.eval_of e28) (Go.Proofs.YtpbhkdamkbopkaaW.PrintLast.eval_of e32) hR (Kd.R_reads' hBu).2.2 (fun _ _ h=>h) (fun _ h=>h.elim) (fun _ _=>trivial) hBl (below_size hBl) (by have:=QS.out;omega) ?_;intro z w1 ho hb hg hat;rw [← QM.out] at ho;exact hK.out _ _ ⟨u0,u1,_,u3,v0,V,z,v3,v4,z,_,(by rw [ha.out];exact putSel_upk 11 hb_ rfl rfl rfl),ho,fun h=>absurd (h.symm.trans (hon 5 (by kernel_rfl))) (by decide),fun _ h=>absurd (h.symm.trans (hon 10 (by kernel_rfl))) (by decide),fun _ h=>absurd (show true=false from h) (by decide),fun _ _=>⟨rfl,rfl⟩,fun h=>absurd ((hoff 20 (by kernel_rfl)).symm.trans h) (by decide),fun h=>absurd ((hoff 21 (by kernel_rfl)).symm.trans h) (by decide),fun h h'=>Kd.R_mono (Kd.R_after (ok:=fun _=>True) (Kd.R_mono (B0 h h') (fun _ hk=>⟨trivial,hk⟩)) hg hat) (fun _ hk=>hk.2),fun h h'=>Kd.R_mono (Kd.R_after (ok:=fun _=>True) (Kd.R_mono (B1 h h') (fun _ hk=>⟨trivial,hk⟩)) hg hat) (fun _ hk=>hk.2),fun _ h=>absurd (show true=false from h) (by decide),fun h h'=>Kd.R_mono (Kd.R_after (ok:=fun _=>True) (Kd.R_mono (B3 h h') (fun _ hk=>⟨trivial,hk⟩)) hg hat) (fun _ hk=>hk.2),blk_grown hBK hg (Kd.R_ne hR hBK (by decide)),blk_grown hB8 hg (Kd.R_ne hR hB8 (by decide)),hb⟩
  refine steps_cons ?_ ?_
  ·rintro b a w' ⟨u0,u1,u2,u3,v0,v1,v2,v3,v4,V,X,ha,hR,q0,q1,q2,q3,q4,q5,B0,B1,B2,B3,hBK,hB8,hBl⟩ hb_ hon hoff;refine ⟨_,rfl,fun K hK=>?_⟩;(have e34:a.tmps[34]?=some (.pointer (some ⟨Qc,2,none⟩)):=by rw [ha];exact (putSel_off rfl).trans rfl);have hc_:w'.cell? ⟨Qc,2,none⟩=some (.int .i64 ((rd_T89 Qa Qb).f2)):=(blk_cell hB8 2).trans rfl;replace ha:=Aside0.mk ha;refine value_ (w1:=w') (v:=.int .i64 ((rd_T89 Qa Qb).f2)) (by rfl) rfl ?_ ?_
   ·go_simp;try rfl
   exact hK.out _ _ ⟨u0,u1,u2,u3,v0,v1,v2,v3,v4,V,X,(by rw [ha.out];exact putSel_upk 12 hb_ rfl rfl rfl),hR,q0,q1,q2,q3,q4,q5,B0,B1,B2,B3,hBK,hB8,hBl⟩
  refine steps_cons ?_ ?_
  ·rintro b a w' ⟨u0,u1,u2,u3,v0,v1,v2,v3,v4,V,X,ha,hR,q0,q1,q2,q3,q4,q5,B0,B1,B2,B3,hBK,hB8,hBl⟩ hb_ hon hoff;refine ⟨_,rfl,fun K hK=>?_⟩;(have e35:a.tmps[35]?=some (.int .i64 ((rd_T89 Qa Qb).f2)):=by rw [ha];exact putSel_on (e:=(17,35,.int .i64 ((rd_T89 Qa Qb).f2))) 12 rfl rfl (hon 17 (by kernel_rfl)) rfl);replace ha:=Aside0.mk ha;refine value_ (w1:=w') (v:=.int .u8 (((rd_T89 Qa Qb).f2) % 256)) (by rfl) rfl ?_ ?_
   ·go_simp;try rfl
   exact hK.out _ _ ⟨u0,u1,u2,u3,v0,v1,v2,v3,v4,V,X,(by rw [ha.out];exact putSel_upk 13 hb_ rfl rfl rfl),hR,q0,q1,q2,q3,q4,q5,B0,B1,B2,B3,hBK,hB8,hBl⟩
  refine steps_cons ?_ ?_
  ·rintro b a w' ⟨u0,u1,u2,u3,v0,v1,v2,v3,v4,V,X,ha,hR,q0,q1,q2,q3,q4,q5,B0,B1,B2,B3,hBK,hB8,hBl⟩ hb_ hon hoff;refine ⟨_,rfl,fun K hK=>?_⟩;(have e36:a.tmps[36]?=some (.int .u8 (((rd_T89 Qa Qb).f2) % 256)):=by rw [ha];exact putSel_on (e:=(18,36,.int .u8 (((rd_T89 Qa Qb).f2) % 256))) 13 rfl rfl (hon 18 (by kernel_rfl)) rfl);replace ha:=Aside0.mk ha;refine Kd.R_lit_step (Kd.int .u8) w'.heap.size 5 (by rfl) (N:=37) (by rfl) (xs:=([((rd_T89 Qa Qb).f2) % 256]:List Int)) (inner:=[.int .u8 (((rd_T89 Qa Qb).f2) % 256)]) (ok:=fun k_=>some k_ ≠ V.ownBlock) (okp:=fun k_=>some k_ ≠ V.ownBlock) ?hr (Reps.one (show Kd.M (Kd.int .u8) _ _ _ (((rd_T89 Qa Qb).f2) % 256) [.int .u8 (((rd_T89 Qa Qb).f2) % 256)] from rfl) (Reps.none _ _)) (fun _ hk=>hk) (fun e_=>Nat.lt_irrefl _ (Kd.R_lt hR _ e_.symm)) (Below.refl _ _) (Nat.le_refl _) (by simp) ?_
   case hr=>first | (go_simp;done) | (go_simp;rfl)
   intro z w1 ho hb hg hnew;rw [← QN.out] at ho;exact hK.out _ _ ⟨u0,u1,u2,z,v0,v1,v2,v3,v4,V,X,(by rw [ha.out];exact putSel_upk 14 hb_ rfl rfl rfl),Kd.R_below hR hb,q0,q1,q2,q3,q4,q5,fun h h'=>Kd.R_below (B0 h h') hb,fun h h'=>Kd.R_below (B1 h h') hb,fun h h'=>Kd.R_below (B2 h h') hb,fun _ _=>Kd.R_lower ho (below_size hBl),blk_below hBK hb,blk_below hB8 hb,below_step hBl hb⟩
  refine steps_cons ?_ ?_
  ·rintro b a w' ⟨u0,u1,u2,u3,v0,v1,v2,v3,v4,V,X,ha,hR,q0,q1,q2,q3,q4,q5,B0,B1,B2,B3,hBK,hB8,hBl⟩ hb_ hon hoff;refine ⟨_,rfl,fun K hK=>?_⟩;have hu:=hon 19 (by kernel_rfl);have hBu:=B3 hu hb_;obtain ⟨rfl,rfl⟩:=q3 (hon 15 (by kernel_rfl)) hb_;obtain ⟨Au,cu,eu⟩:=Kd.R_slice hBu;subst eu;(have e33:a.tmps[33]?=some V:=by rw [ha];exact putSel_on (e:=(15,33,V)) 11 rfl rfl (hon 15 (by kernel_rfl)) rfl);(have e37:a.tmps[37]?=some (.slice Au Qe.length cu):=by rw [ha];exact putSel_on (e:=(19,37,.slice Au Qe.length cu)) 14 rfl rfl hu rfl);replace ha:=Aside0.mk ha;refine Kd.R_append_rows_step (Kd.int .u8) (w0:=w) w.heap.size (by rfl) (.tmp 33) (.tmp 37) 40 5 (.int .u8 0) 1 rfl Try.underlying40 GPix.info5 rfl (by decide) (by omega) V X Qe _ _ _ (fun _=>True) (fun _=>False) (Go.Proofs.YtpbhkdamkbopkaaW.PrintLast.eval_of e33) (Go.Proofs.YtpbhkdamkbopkaaW.PrintLast.eval_of e37) hR (Kd.R_reads' hBu).2.2 (fun _ _ h=>h) (fun _ h=>h.elim) (fun _ _=>trivial) hBl (below_size hBl) (by have:=QT.out;omega) ?_;intro z w1 ho hb hg hat;rw [← QO.out] at ho;exact hK.out _ _ ⟨u0,u1,u2,_,v0,v1,V,z,v4,z,_,(by rw [ha.out];exact putSel_upk 15 hb_ rfl rfl rfl),ho,fun h=>absurd (h.symm.trans (hon 5 (by kernel_rfl))) (by decide),fun _ h=>absurd (h.symm.trans (hon 10 (by kernel_rfl))) (by decide),fun _ h=>absurd (h.symm.trans (hon 15 (by kernel_rfl))) (by decide),fun _ h=>absurd (show true=false from h) (by decide),fun _=>⟨rfl,rfl⟩,fun h=>absurd ((hoff 21 (by kernel_rfl)).symm.trans h) (by decide),fun h h'=>Kd.R_mono (Kd.R_after (ok:=fun _=>True) (Kd.R_mono (B0 h h') (fun _ hk=>⟨trivial,hk⟩)) hg hat) (fun _ hk=>hk.2),fun h h'=>Kd.R_mono (Kd.R_after (ok:=fun _=>True) (Kd.R_mono (B1 h h') (fun _ hk=>⟨trivial,hk⟩)) hg hat) (fun _ hk=>hk.2),fun h h'=>Kd.R_mono (Kd.R_after (ok:=fun _=>True) (Kd.R_mono (B2 h h') (fun _ hk=>⟨trivial,hk⟩)) hg hat) (fun _ hk=>hk.2),fun _ h=>absurd (show true=false from h) (by decide),blk_grown hBK hg (Kd.R_ne hR hBK (by decide)),blk_grown hB8 hg (Kd.R_ne hR hB8 (by decide)),hb⟩
  refine steps_cons ?_ ?_
  ·rintro b a w' ⟨u0,u1,u2,u3,v0,v1,v2,v3,v4,V,X,ha,hR,q0,q1,q2,q3,q4,q5,B0,B1,B2,B3,hBK,hB8,hBl⟩ hb_ hon hoff;refine ⟨_,rfl,fun K hK=>?_⟩;(have e38:a.tmps[38]?=some v3:=by rw [ha];exact putSel_on (e:=(20,38,v3)) 15 rfl rfl (hon 20 (by kernel_rfl)) rfl);replace ha:=Aside0.mk ha;refine value_ (w1:=w') (v:=v3) (by rfl) rfl ?_ ?_
   ·go_simp;try rfl
   exact hK.out _ _ ⟨u0,u1,u2,u3,v0,v1,v2,v3,v3,V,X,(by rw [ha.out];exact putSel_upk 16 hb_ rfl rfl rfl),hR,q0,q1,q2,q3,q4,fun _=>rfl,B0,B1,B2,B3,hBK,hB8,hBl⟩
  exact steps_nil
 rintro b a w31 hall ⟨u0,u1,u2,u3,v0,v1,v2,v3,v4,V,X,ha,hR,q0,q1,q2,q3,q4,q5,B0,B1,B2,B3,hBK,hB8,hBl⟩;clear Qn Qd Qh HB;have hb2_:=hall 2 (by kernel_rfl);have hb3_:=hall 3 (by kernel_rfl);have hb4_:=hall 4 (by kernel_rfl);have hb5_:=hall 5 (by kernel_rfl);have hb7_:=hall 7 (by kernel_rfl);have hb8_:=hall 8 (by kernel_rfl);have hb9_:=hall 9 (by kernel_rfl);have hb10_:=hall 10 (by kernel_rfl);have hb12_:=hall 12 (by kernel_rfl);have hb13_:=hall 13 (by kernel_rfl);have hb14_:=hall 14 (by kernel_rfl);have hb15_:=hall 15 (by kernel_rfl);have hb17_:=hall 17 (by kernel_rfl);have hb18_:=hall 18 (by kernel_rfl);have hb19_:=hall 19 (by kernel_rfl);have hb20_:=hall 20 (by kernel_rfl);have hb21_:=hall 21 (by kernel_rfl);subst ha;obtain ⟨eV,eX⟩:=q4 hb20_;subst eV;rw [eX] at hR;clear eX;obtain rfl:=q5 hb21_;simp only [putSel,hb2_,hb3_,hb4_,hb5_,hb7_,hb8_,hb9_,hb10_,hb12_,hb13_,hb14_,hb15_,hb17_,hb18_,hb19_,hb20_,hb21_,if_true,Act.put,List.setIfInBounds_toArray,List.set_cons_zero,List.set_cons_succ];have Qn:=Aside0.mk hR;have Qd:=Aside0.mk hBK;have Qh:=Aside0.mk hB8;have HB:=Aside0.mk hBl;clear hR hBK hB8 hBl q0 q1 q2 q3 q4 q5 B0 B1 B2 B3 hall hb2_ hb3_ hb4_ hb5_ hb7_ hb8_ hb9_ hb10_ hb12_ hb13_ hb14_ hb15_ hb17_ hb18_ hb19_ hb20_ hb21_;try go_wp2
 go_roundg k1
 case measure=>have:=HK1.out;omega
 case rel=>exact ⟨(QD),(wrap64 (Qb+1)),(by first | rfl | (simp;done) | (simp [*];done)),H',⟨by have:=HK1.out;omega⟩,⟨rr Qn⟩,⟨bk Qd⟩,⟨hn HB⟩⟩
end Go.Proofs.Ytpbhkdamkbopkaa.GPxp
namespace Go.Proofs.Ytpbhkdamkbopkaa.GPxp
open Go.Proofs.Ytpbhkdamkbopkaa.Sq
open Go.RowKit Go.Proofs.YtpbhkdamkbopkaaW.PrintWords Go.Proofs.YtpbhkdamkbopkaaW.PrintLast Go.Proofs.YtpbhkdamkbopkaaW.PrintMore Go.Proofs.Ytpbhkdamkbopkaa.Wr2 Go.Proofs.Ytpbhkdamkbopkaa.Wr1 Go.Proofs.Ytpbhkdamkbopkaa.GRuns Go.Proofs.Ytpbhkdamkbopkaa.GBack2 Go.Proofs.Ytpbhkdamkbopkaa.GPix Go.Proofs.Ytpbhkdamkbopkaa.PR Go.Proofs.Ytpbhkdamkbopkaa.GPixb Go.Proofs.Ytpbhkdamkbopkaa.GDefl
attribute [local go_sem] max2_int min2_int max_two min_two max_three min_three max_four min_four
set_option linter.unusedVariables false
set_option linter.unusedSimpArgs false
def celluloidref11_Put.f (k:Nat) (a0_0:Int) (a0_1:Int) (a0_2:Int) (l0_3:List (S89)):Option (ByteArray):=(celluloidref11_two.f a0_0).bind fun t234=>((some (([5]:List Int):List Int)).bind fun y235=>(if t234.size+(strOfNums y235).size≤9223372036854775807 then ((celluloidref11_two.f a0_1).bind fun t238=>(if (t234 ++ (strOfNums y235)).size+t238.size≤9223372036854775807 then ((celluloidref11_two.f a0_2).bind fun t239=>(if ((t234 ++ (strOfNums y235)) ++ t238).size+t239.size≤9223372036854775807 then ((celluloidref11_Raw.f k a0_0 a0_1 a0_2 l0_3).bind fun t240=>((celluloidref06_Close.f k t240).bind fun t241=>(if (((t234 ++ (strOfNums y235)) ++ t238) ++ t239).size+t241.size≤9223372036854775807 then (some ((((t234 ++ (strOfNums y235)) ++ t238) ++ t239) ++ t241)) else (none)))) else (none))) else (none))) else (none)))
def celluloidref11_Put.T1:Bool × List (List Nat × List Nat):=(true,[([],[]),([0],[0]),([1],[1]),([],[]),([3],[3]),([2,4],[2,4]),([],[]),([6],[6]),([7,2],[7]),([5,8],[5,8]),([],[]),([10],[10]),([11,8],[11]),([9,12],[9,12]),([],[]),([14,12],[14]),([15,15],[15]),([13,16],[13,16]),([17,16,0,1,2,3,4,5,6,7,8,9,10,11,12,13,14,15,16,17],[17])])
def celluloidref11_Put.B1:List Nat:=[0,1,3,0,8,31,0,64,199,511,0,1024,3527,8191,0,24007,56775,131071,262143]
theorem celluloidref11_Put.tab1:rtab .any (opsOf Try.f55 1)=celluloidref11_Put.T1:=by kernel_rfl
theorem celluloidref11_Put.bits1:waitsOk celluloidref11_Put.T1.2 celluloidref11_Put.B1=true:=by kernel_rfl
set_option maxHeartbeats 8000000 in
set_option maxRecDepth 100000 in
theorem celluloidref11_Put.calls (k : Nat) (Qf : Int) (Qc : Int) (Qd : Int) (Ql : Option Addr) (Qm : Nat) (Qg : List (S89)) (r : ByteArray) (w : World) (hr0_3 : Kd.C k89 w Ql Qg.length Qg) (hc0_3 : Qg.length ≤ Qm) (h : celluloidref11_Put.f k Qf Qc Qd Qg = some r) :
  Calls Try.prog 55 #[.agg #[.int .i64 Qf,.int .i64 Qc,.int .i64 Qd,.slice Ql Qg.length Qm]] w fun e w'=>e=.returned (.string r)∧Below w.heap.size w w':=by
 have hu79:=Try.underlying79;have Qo:=Aside0.mk hr0_3;have Qp:=Aside0.mk hc0_3;clear hr0_3 hc0_3;have HB:=Aside0.mk (Below.refl w.heap.size w);have H:=h;unfold celluloidref11_Put.f at H;clear h;replace H:=Option.bind_eq_some_iff.mp H;obtain ⟨Qa,A20,H⟩:=H;have A2:=Aside0.mk A20;clear A20;obtain ⟨Qb,hy235⟩:∃ y_:List Int,y_=(([5]:List Int)):=⟨_,rfl⟩;replace H:(if Qa.size+(strOfNums Qb).size≤9223372036854775807 then ((celluloidref11_two.f Qc).bind fun Qe=>(if (Qa ++ (strOfNums Qb)).size+Qe.size≤9223372036854775807 then ((celluloidref11_two.f Qd).bind fun Qh=>(if ((Qa ++ (strOfNums Qb)) ++ Qe).size+Qh.size≤9223372036854775807 then ((celluloidref11_Raw.f k Qf Qc Qd Qg).bind fun Qn=>((celluloidref06_Close.f k Qn).bind fun Qi=>(if (((Qa ++ (strOfNums Qb)) ++ Qe) ++ Qh).size+Qi.size≤9223372036854775807 then (some ((((Qa ++ (strOfNums Qb)) ++ Qe) ++ Qh) ++ Qi)) else (none)))) else (none))) else (none))) else (none))=some r:=by first | (rw [hy235];with_reducible exact H) | (have H2_:=(Option.bind_some _ _).symm.trans H;rw [hy235];with_reducible exact H2_) | (have H2_:=(Option.bind_some _ _).symm.trans H;with_reducible exact H2_) | with_reducible exact H | (rw [hy235];exact H) | exact H
 have Qq:=Aside0.mk hy235;clear hy235;by_cases c3:Qa.size+(strOfNums Qb).size≤9223372036854775807;rotate_left
 ·rw [if_neg c3] at H;exact absurd H (by simp)
 rw [if_pos c3] at H;have c3b0:=eq_true c3;have c3b1:=decide_eq_true c3;try have c3b2:=eq_false (Nat.not_lt.2 c3)
 replace H:=Option.bind_eq_some_iff.mp H;obtain ⟨Qe,A40,H⟩:=H;have A4:=Aside0.mk A40;clear A40;by_cases c5:(Qa ++ (strOfNums Qb)).size+Qe.size≤9223372036854775807;rotate_left
 ·rw [if_neg c5] at H;exact absurd H (by simp)
 rw [if_pos c5] at H;have c5b0:=eq_true c5;have c5b1:=decide_eq_true c5;try have Qt:=eq_false (Nat.not_lt.2 c5)
 have Qu:=Qt;simp only [ByteArray.size_append] at Qu;replace H:=Option.bind_eq_some_iff.mp H;obtain ⟨Qh,A60,H⟩:=H;have A6:=Aside0.mk A60;clear A60;by_cases c7:((Qa ++ (strOfNums Qb)) ++ Qe).size+Qh.size≤9223372036854775807;rotate_left
 ·rw [if_neg c7] at H;exact absurd H (by simp)
 rw [if_pos c7] at H;have c7b0:=eq_true c7;have c7b1:=decide_eq_true c7;try have Qv:=eq_false (Nat.not_lt.2 c7)
 have Qw:=Qv;simp only [ByteArray.size_append] at Qw;replace H:=Option.bind_eq_some_iff.mp H;obtain ⟨Qn,A80,H⟩:=H;have A8:=Aside0.mk A80;clear A80;replace H:=Option.bind_eq_some_iff.mp H;obtain ⟨Qi,A90,H⟩:=H;have A9:=Aside0.mk A90;clear A90;by_cases c10:(((Qa ++ (strOfNums Qb)) ++ Qe) ++ Qh).size+Qi.size≤9223372036854775807;rotate_left
 ·rw [if_neg c10] at H;exact absurd H (by simp)
 rw [if_pos c10] at H;have c10b0:=eq_true c10;have c10b1:=decide_eq_true c10;try have Qr:=eq_false (Nat.not_lt.2 c10)
 have Qs:=Qr;simp only [ByteArray.size_append] at Qs;obtain rfl:=Option.some.inj H;go_enter Try.func55,Try.ntmps55;try go_wp2_with (first | ((with_reducible refine gate_dst (N:=1) rfl ?_);refine boxQ 1 #[.int .i64 Qf,.int .i64 Qc,.int .i64 Qd,.slice Ql Qg.length Qm] 79 ?_;intro Qj hg w11 hbox hb;have Qk:=Aside0.mk hbox;have GW233:=gs HB hg;have GE233:=gs HB hg;replace HB:=hs HB hb;clear hb hbox hg))
 replace Qk:=Aside0.mk (blk_drew Qk.out);replace HB:=Aside0.mk (below_drew1 HB.out);refine start_ (n:=19) (S:=fun w'=>True) (ds:=[]) #[false,false,false,false,false,false,false,false,false,false,false,false,false,false,false,false,false,false,false] (by kernel_rfl) rfl rfl trivial (fun hHeld=>?_);refine with_tabW celluloidref11_Put.tab1 celluloidref11_Put.bits1 (fun HT_ HW_=>?_);generalize w11.drew=w12 at Qk HB hHeld ⊢;refine pureQ 0 (some 3) (tk 1 18) (any_of HT_.out (by kernel_rfl)) ?_;refine pureQ 6 (some 9) #[true,false,false,false,false,false,true,false,false,false,false,false,false,false,false,false,false,false,false] (any_of HT_.out (by kernel_rfl)) ?_;refine pureQ 10 (some 13) #[true,false,false,false,false,false,true,false,false,false,true,false,false,false,false,false,false,false,false] (any_of HT_.out (by kernel_rfl)) ?_;refine inv_at [1,2,3,4,5,7,8,9,11,12,13,14,15,16,17,18] (fun a0_ b a w'=>∃ u:Value,a=putSel a0_ b [(1,4,.int .i64 Qf),(2,5,.string Qa),(3,6,u),(4,7,.string (strOfNums Qb)),(5,8,.string (Qa ++ (strOfNums Qb))),(7,10,.int .i64 Qc),(8,11,.string Qe),(9,12,.string ((Qa ++ (strOfNums Qb)) ++ Qe)),(11,14,.int .i64 Qd),(12,15,.string Qh),(13,16,.string (((Qa ++ (strOfNums Qb)) ++ Qe) ++ Qh)),(14,17,.agg #[.int .i64 Qf,.int .i64 Qc,.int .i64 Qd,.slice Ql Qg.length Qm]),(15,18,.string Qn),(16,19,.string Qi),(17,20,.string ((((Qa ++ (strOfNums Qb)) ++ Qe) ++ Qh) ++ Qi)),(18,2,.string ((((Qa ++ (strOfNums Qb)) ++ Qe) ++ Qh) ++ Qi))]∧(b 3=true → Kd.R (Kd.int .u8) 5 w' w.heap.size (fun _=>True) u Qb)∧w'.heap[Qj]?=some (.cells #[.int .i64 Qf,.int .i64 Qc,.int .i64 Qd,.slice Ql Qg.length Qm] 79 (0,0))∧Below w.heap.size w w') HT_.out HW_.out (by kernel_rfl) (by kernel_rfl) ?_ ?_ ?_
 ·exact ⟨undef,by simp only [putSel,Bool.false_eq_true,if_false],fun h=>absurd h (by decide),Qk.out,HB.out⟩
 ·clear Qk HB hHeld;refine steps_cons (fun b a w' ⟨u,ha,hR,hG,hB⟩ hb hon hoff=>⟨_,rfl,fun K hK=>?_⟩) ?_
  ·have ⟨c0,c1,c2,c3⟩:=cc4 ⟨hG⟩;have e_:a.tmps[3]?=some (.pointer (some ⟨Qj,0,none⟩)):=of_ ha;replace ha:=Aside0.mk ha;refine value_ (w1:=w') (v:=.int .i64 Qf) (by rfl) rfl ?_ ?_
   ·go_simp;try rfl
   exact hK.out _ _ ⟨u,up_ ha.out 0 hb,hR,hG,hB⟩
  refine steps_cons (fun b a w' ⟨u,ha,hR,hG,hB⟩ hb hon hoff=>⟨_,rfl,fun K hK=>?_⟩) ?_
  ·refine goesP Try.func86 #[.int .i64 Qf] ?_ (hargs:=ev1 (on_ ha 0 (hon 1 (by kernel_rfl))));(with_reducible refine (celluloidref11_two.calls Qf Qa _ A2.out).mono ?_);rintro e w1 ⟨rfl,h1⟩;exact ⟨_,rfl,hK.out _ _ ⟨u,up_ ha 1 hb,fun h=>Kd.R_below (hR h) h1,blk_below hG h1,below_step hB h1⟩⟩
  refine steps_cons (fun b a w' ⟨u,ha,hR,hG,hB⟩ hb hon hoff=>⟨_,rfl,fun K hK=>?_⟩) ?_
  ·refine Kd.R_lit_step (Kd.int .u8) w'.heap.size 5 ?hg (N:=6) ?hd (xs:=([5]:List Int)) (inner:=[.int .u8 5]) (ok:=fun _=>True) (okp:=fun _=>True) ?hr ?hp (fun _ hk=>hk) trivial (Below.refl _ _) (Nat.le_refl _) (by simp) ?_;(case hd=>rfl);(case hg=>rfl);(case hr=>first | (go_simp;done) | (go_simp;rfl));(case hp=>exact (Reps.one (show Kd.M (Kd.int .u8) _ _ _ 5 [.int .u8 5] from rfl) (Reps.none _ _)));intro z w1 ho h1 hg_ hnew_;rw [← Qq.out] at ho;exact hK.out _ _ ⟨z,up_ ha 2 hb,fun _=>Kd.R_lower ho (below_size hB),blk_below hG h1,below_step hB h1⟩
  refine steps_cons (fun b a w' ⟨u,ha,hR,hG,hB⟩ hb hon hoff=>⟨_,rfl,fun K hK=>?_⟩) ?_
  ·exact cvS Try.underlying40 Try.underlying5 Try.underlying9 (hR (hon 3 (by kernel_rfl))) (on_ ha 2 (hon 3 (by kernel_rfl))) (hK.out _ _ ⟨u,up_ ha 3 hb,hR,hG,hB⟩)
  refine steps_cons (fun b a w' ⟨u,ha,hR,hG,hB⟩ hb hon hoff=>⟨_,rfl,fun K hK=>?_⟩) ?_
  ·exact catS (on_ ha 1 (hon 2 (by kernel_rfl))) (on_ ha 3 (hon 4 (by kernel_rfl))) c3 (hK.out _ _ ⟨u,up_ ha 4 hb,hR,hG,hB⟩)
  refine steps_cons (fun b a w' ⟨u,ha,hR,hG,hB⟩ hb hon hoff=>⟨_,rfl,fun K hK=>?_⟩) ?_
  ·have ⟨c0,c1,c2,c3⟩:=cc4 ⟨hG⟩;have e_:a.tmps[9]?=some (.pointer (some ⟨Qj,1,none⟩)):=of_ ha;replace ha:=Aside0.mk ha;refine value_ (w1:=w') (v:=.int .i64 Qc) (by rfl) rfl ?_ ?_
   ·go_simp;try rfl
   exact hK.out _ _ ⟨u,up_ ha.out 5 hb,hR,hG,hB⟩
  refine steps_cons (fun b a w' ⟨u,ha,hR,hG,hB⟩ hb hon hoff=>⟨_,rfl,fun K hK=>?_⟩) ?_
  ·refine goesP Try.func86 #[.int .i64 Qc] ?_ (hargs:=ev1 (on_ ha 5 (hon 7 (by kernel_rfl))));(with_reducible refine (celluloidref11_two.calls Qc Qe _ A4.out).mono ?_);rintro e w1 ⟨rfl,h1⟩;exact ⟨_,rfl,hK.out _ _ ⟨u,up_ ha 6 hb,fun h=>Kd.R_below (hR h) h1,blk_below hG h1,below_step hB h1⟩⟩
  refine steps_cons (fun b a w' ⟨u,ha,hR,hG,hB⟩ hb hon hoff=>⟨_,rfl,fun K hK=>?_⟩) ?_
  ·exact catS (on_ ha 4 (hon 5 (by kernel_rfl))) (on_ ha 6 (hon 8 (by kernel_rfl))) c5 (hK.out _ _ ⟨u,up_ ha 7 hb,hR,hG,hB⟩)
  refine steps_cons (fun b a w' ⟨u,ha,hR,hG,hB⟩ hb hon hoff=>⟨_,rfl,fun K hK=>?_⟩) ?_
  ·have ⟨c0,c1,c2,c3⟩:=cc4 ⟨hG⟩;have e_:a.tmps[13]?=some (.pointer (some ⟨Qj,2,none⟩)):=of_ ha;replace ha:=Aside0.mk ha;refine value_ (w1:=w') (v:=.int .i64 Qd) (by rfl) rfl ?_ ?_
   ·go_simp;try rfl
   exact hK.out _ _ ⟨u,up_ ha.out 8 hb,hR,hG,hB⟩
  refine steps_cons (fun b a w' ⟨u,ha,hR,hG,hB⟩ hb hon hoff=>⟨_,rfl,fun K hK=>?_⟩) ?_
  ·refine goesP Try.func86 #[.int .i64 Qd] ?_ (hargs:=ev1 (on_ ha 8 (hon 11 (by kernel_rfl))));(with_reducible refine (celluloidref11_two.calls Qd Qh _ A6.out).mono ?_);rintro e w1 ⟨rfl,h1⟩;exact ⟨_,rfl,hK.out _ _ ⟨u,up_ ha 9 hb,fun h=>Kd.R_below (hR h) h1,blk_below hG h1,below_step hB h1⟩⟩
  refine steps_cons (fun b a w' ⟨u,ha,hR,hG,hB⟩ hb hon hoff=>⟨_,rfl,fun K hK=>?_⟩) ?_
  ·exact catS (on_ ha 7 (hon 9 (by kernel_rfl))) (on_ ha 9 (hon 12 (by kernel_rfl))) c7 (hK.out _ _ ⟨u,up_ ha 10 hb,hR,hG,hB⟩)
  refine steps_cons (fun b a w' ⟨u,ha,hR,hG,hB⟩ hb hon hoff=>⟨_,rfl,fun K hK=>?_⟩) ?_
  ·have ⟨c0,c1,c2,c3⟩:=cc4 ⟨hG⟩;have e_:a.tmps[1]?=some (.pointer (some ⟨Qj,0,none⟩)):=of_ ha;replace ha:=Aside0.mk ha;refine value_ (w1:=w') (v:=.agg #[.int .i64 Qf,.int .i64 Qc,.int .i64 Qd,.slice Ql Qg.length Qm]) (by rfl) rfl ?_ ?_
   ·go_simp;try rfl
   exact hK.out _ _ ⟨u,up_ ha.out 11 hb,hR,hG,hB⟩
  refine steps_cons (fun b a w' ⟨u,ha,hR,hG,hB⟩ hb hon hoff=>⟨_,rfl,fun K hK=>?_⟩) ?_
  ·refine goesP Try.func87 #[.agg #[.int .i64 Qf,.int .i64 Qc,.int .i64 Qd,.slice Ql Qg.length Qm]] ?_ (hargs:=ev1 (on_ ha 11 (hon 14 (by kernel_rfl))));(with_reducible refine (celluloidref11_Raw.calls k Qf Qc Qd _ _ Qg Qn _ (Kd.C_below Qo.out hB) Qp.out A8.out).mono ?_);rintro e w1 ⟨rfl,h1⟩;exact ⟨_,rfl,hK.out _ _ ⟨u,up_ ha 12 hb,fun h=>Kd.R_below (hR h) h1,blk_below hG h1,below_step hB h1⟩⟩
  refine steps_cons (fun b a w' ⟨u,ha,hR,hG,hB⟩ hb hon hoff=>⟨_,rfl,fun K hK=>?_⟩) ?_
  ·refine goesP Try.func42 #[.string Qn] ?_ (hargs:=ev1 (on_ ha 12 (hon 15 (by kernel_rfl))));(with_reducible refine (celluloidref06_Close.calls k Qn Qi _ A9.out).mono ?_);rintro e w1 ⟨rfl,h1⟩;exact ⟨_,rfl,hK.out _ _ ⟨u,up_ ha 13 hb,fun h=>Kd.R_below (hR h) h1,blk_below hG h1,below_step hB h1⟩⟩
  refine steps_cons (fun b a w' ⟨u,ha,hR,hG,hB⟩ hb hon hoff=>⟨_,rfl,fun K hK=>?_⟩) ?_
  ·exact catS (on_ ha 10 (hon 13 (by kernel_rfl))) (on_ ha 13 (hon 16 (by kernel_rfl))) c10 (hK.out _ _ ⟨u,up_ ha 14 hb,hR,hG,hB⟩)
  refine steps_cons (fun b a w' ⟨u,ha,hR,hG,hB⟩ hb hon hoff=>⟨_,rfl,fun K hK=>?_⟩) ?_
  ·exact asS (on_ ha 14 (hon 17 (by kernel_rfl))) (hK.out _ _ ⟨u,up_ ha 15 hb,hR,hG,hB⟩)
  exact steps_nil
 rintro b a w2 hall ⟨u,ha,hR,hG,hB⟩;have HB:=Aside0.mk hB;subst ha;simp only [putSel,hall 1 (by kernel_rfl),hall 2 (by kernel_rfl),hall 3 (by kernel_rfl),hall 4 (by kernel_rfl),hall 5 (by kernel_rfl),hall 7 (by kernel_rfl),hall 8 (by kernel_rfl),hall 9 (by kernel_rfl),hall 11 (by kernel_rfl),hall 12 (by kernel_rfl),hall 13 (by kernel_rfl),hall 14 (by kernel_rfl),hall 15 (by kernel_rfl),hall 16 (by kernel_rfl),hall 17 (by kernel_rfl),hall 18 (by kernel_rfl),if_true,Act.put,List.setIfInBounds_toArray,List.set_cons_zero,List.set_cons_succ];try go_wp2
 go_ret;exact ⟨by first | rfl | (simp [errW_none,errW_some] <;> rfl) | (simp [*,errW_none,errW_some] <;> rfl),hn HB⟩
end Go.Proofs.Ytpbhkdamkbopkaa.GPxp
namespace Go.Proofs.Ytpbhkdamkbopkaa.GPxp
open Go.Proofs.Ytpbhkdamkbopkaa.Sq
open Go.Proofs.Ytpbhkdamkbopkaa.Sq
open Go.RowKit Go.Proofs.YtpbhkdamkbopkaaW.PrintWords Go.Proofs.YtpbhkdamkbopkaaW.PrintLast Go.Proofs.YtpbhkdamkbopkaaW.PrintMore Go.Proofs.Ytpbhkdamkbopkaa.Wr2 Go.Proofs.Ytpbhkdamkbopkaa.Wr1 Go.Proofs.Ytpbhkdamkbopkaa.GRuns Go.Proofs.Ytpbhkdamkbopkaa.GBack2 Go.Proofs.Ytpbhkdamkbopkaa.GPix Go.Proofs.Ytpbhkdamkbopkaa.PR Go.Proofs.Ytpbhkdamkbopkaa.GPixb Go.Proofs.Ytpbhkdamkbopkaa.GDefl
attribute [local go_sem] max2_int min2_int max_two min_two max_three min_three max_four min_four
set_option linter.unusedVariables false
set_option linter.unusedSimpArgs false
/-- ref tells what came in. -/
theorem ref_same (Qa : Int) (Qb : Int) (Qc : Int) (Qd : Option Addr) (Qe : Nat) (Qf : List (S89)) (w : World) :
  Calls Try.prog 52 #[.agg #[.int .i64 Qa,.int .i64 Qb,.int .i64 Qc,.slice Qd Qf.length Qe]] w fun e w'=>e=.returned (.agg #[.int .i64 Qa,.int .i64 Qb,.int .i64 Qc,.slice Qd Qf.length Qe])∧Below w.heap.size w w':=by
 have hu76:=Try.underlying76;have hu79:=Try.underlying79;have HB:=Aside0.mk (Below.refl w.heap.size w);go_enter Try.func52,Try.ntmps52
 go_wp2_with (first
  |((with_reducible refine gate_dst (N:=1) rfl ?_);refine boxQ 1 #[.int .i64 Qa,.int .i64 Qb,.int .i64 Qc,.slice Qd Qf.length Qe] 76 ?_;intro g1 hg w1 hbox hb;have B1:=Aside0.mk hbox;have L1:=Aside0.mk hb;clear hbox hb hg HB;have hc0:w1.cell? ⟨g1,0,none⟩=some (.int .i64 Qa):=(blk_cell B1.out 0).trans rfl;have hc1:w1.cell? ⟨g1,1,none⟩=some (.int .i64 Qb):=(blk_cell B1.out 1).trans rfl;have hc2:w1.cell? ⟨g1,2,none⟩=some (.int .i64 Qc):=(blk_cell B1.out 2).trans rfl;have hc3:w1.cell? ⟨g1,3,none⟩=some (.slice Qd Qf.length Qe):=(blk_cell B1.out 3).trans rfl)
  |((with_reducible refine gate_dst (N:=2) rfl ?_);refine boxQ 2 #[.int .i64 0,.int .i64 0,.int .i64 0,.slice none 0 0] 79 ?_;intro g2 hg w2 hbox hb;have B2:=Aside0.mk hbox;have L2:=Aside0.mk (below_step L1.out hb);have G2:=Aside0.mk ((by rw [hg];exact below_size L1.out):w.heap.size≤g2);replace hc0:=(hb.cell (World.block_lt_of_cell? _ _ hc0)).trans hc0;replace hc1:=(hb.cell (World.block_lt_of_cell? _ _ hc1)).trans hc1;replace hc2:=(hb.cell (World.block_lt_of_cell? _ _ hc2)).trans hc2;replace hc3:=(hb.cell (World.block_lt_of_cell? _ _ hc3)).trans hc3;clear hbox hb hg;have hf0:=blk_frozen B2.out 0;have hf1:=blk_frozen B2.out 1;have hf2:=blk_frozen B2.out 2;have hf3:=blk_frozen B2.out 3;have hd0:w2.cell? ⟨g2,0,none⟩=some (.int .i64 0):=(blk_cell B2.out 0).trans rfl;have hd1:w2.cell? ⟨g2,1,none⟩=some (.int .i64 0):=(blk_cell B2.out 1).trans rfl;have hd2:w2.cell? ⟨g2,2,none⟩=some (.int .i64 0):=(blk_cell B2.out 2).trans rfl;have hd3:w2.cell? ⟨g2,3,none⟩=some (.slice none 0 0):=(blk_cell B2.out 3).trans rfl))
 refine bodyPost_ret (results_cell_row rfl _ _ g2 79 #[.int .i64 Qa,.int .i64 Qb,.int .i64 Qc,.slice Qd Qf.length Qe] (0,0) _ rfl (by refine blk_put (cs:=#[.int .i64 Qa,.int .i64 Qb,.int .i64 Qc,.slice none 0 0]) ?_ 3 _ rfl;refine blk_put (cs:=#[.int .i64 Qa,.int .i64 Qb,.int .i64 0,.slice none 0 0]) ?_ 2 _ rfl;refine blk_put (cs:=#[.int .i64 Qa,.int .i64 0,.int .i64 0,.slice none 0 0]) ?_ 1 _ rfl;refine blk_put (cs:=#[.int .i64 0,.int .i64 0,.int .i64 0,.slice none 0 0]) ?_ 0 _ rfl;exact B2.out) Try.underlying79 rfl (by kernel_rfl)) rfl ?_;exact ⟨rfl,below_set (below_set (below_set (below_set L2.out G2.out) G2.out) G2.out) G2.out⟩
def celluloidlaw11_PixelPuts.f (k:Nat) (a0_0:Int) (a0_1:Int) (a0_2:Int) (l0_3:List (S89)):Option (Bool):=if (l0_3.length:Int) > 500 then ((celluloidlaw11_awake.f k).bind fun t243=>(some t243)) else ((pixel_Put.f k a0_0 a0_1 a0_2 l0_3).bind fun bt244=>((GPix.celluloidlaw11_ref.f a0_0 a0_1 a0_2 l0_3).bind fun bt246=>((celluloidref11_Right.f k bt246.1 bt246.2.1 bt246.2.2.1 bt246.2.2.2).bind fun t252=>((pixel_Right.f k a0_0 a0_1 a0_2 l0_3).bind fun t253=>(if (t253 != t252)=true then (some false) else (if t252=true then ((pixel_Take.f k bt244.1).bind fun bt255=>((GPix.celluloidlaw11_ref.f a0_0 a0_1 a0_2 l0_3).bind fun bt263=>((celluloidref11_Put.f k bt263.1 bt263.2.1 bt263.2.2.1 bt263.2.2.2).bind fun t269=>(if bt244.1.toList=t269.toList then (if bt244.2=0 then ((GPix.celluloidlaw11_ref.f bt255.1 bt255.2.1 bt255.2.2.1 bt255.2.2.2.1).bind fun bt270=>((GPix.celluloidlaw11_ref.f a0_0 a0_1 a0_2 l0_3).bind fun bt276=>((celluloidref11_Equal.f k bt270.1 bt270.2.1 bt270.2.2.1 bt270.2.2.2 bt276.1 bt276.2.1 bt276.2.2.1 bt276.2.2.2).bind fun t282=>(if t282=true then (if bt255.2.2.2.2=0 then ((celluloidlaw11_awake.f k).bind fun t283=>(some t283)) else (some false)) else (some false))))) else (some false)) else (some false))))) else (if bt244.1.toList=([]:List UInt8) then (if bt244.2=1 then ((celluloidlaw11_awake.f k).bind fun t254=>(some t254)) else (some false)) else (some false))))))))
def celluloidlaw11_PixelPuts.T10:Bool × List (List Nat × List Nat):=(true,[([],[]),([],[]),([1],[1]),([2,2],[2]),([0,3],[0,3]),([4,3],[4]),([5],[5]),([6,5],[5,6]),([5,7],[5,7]),([8,5],[8]),([9],[9]),([10,9,9],[9,10]),([9],[9]),([12,11,9],[9,12]),([11,13,13,9],[9,11,13]),([9,14],[9,14]),([15,14],[15]),([16],[16]),([17,16],[16,17]),([16,18],[16,18]),([19,16],[19]),([20,20],[20]),([20,21],[20,21]),([22,21,0,1,2,3,4,5,6,7,8,9,10,11,12,13,14,15,16,17,18,19,20,21,22],[22])])
def celluloidlaw11_PixelPuts.B10:List Nat:=[0,0,2,6,15,31,63,127,255,511,1023,2047,1023,8191,16383,32767,65535,131071,262143,524287,1048575,2097151,4194303,8388607]
theorem celluloidlaw11_PixelPuts.tab10:rtab .any (opsOf Try.f19 10)=celluloidlaw11_PixelPuts.T10:=by kernel_rfl
theorem celluloidlaw11_PixelPuts.bits10:waitsOk celluloidlaw11_PixelPuts.T10.2 celluloidlaw11_PixelPuts.B10=true:=by kernel_rfl
set_option maxHeartbeats 8000000 in
set_option maxRecDepth 100000 in
theorem celluloidlaw11_PixelPuts.calls (k : Nat) (Qd : Int) (Qe : Int) (Qf : Int) (Qj : Option Addr) (Qk : Nat) (Qb : List (S89)) (r : Bool) (w : World) (hr0_3 : Kd.C k89 w Qj Qb.length Qb) (hc0_3 : Qb.length ≤ Qk) (h : celluloidlaw11_PixelPuts.f k Qd Qe Qf Qb = some r) (hr_ : Aside0 (r = true)) :
  Calls Try.prog 19 #[.agg #[.int .i64 Qd,.int .i64 Qe,.int .i64 Qf,.slice Qj Qb.length Qk]] w fun e w'=>e=.returned (.bool r)∧Below w.heap.size w w':=by
 have hu76:=Try.underlying76;have Qv:=Aside0.mk hr0_3;have Qw:=Aside0.mk hc0_3;clear hr0_3 hc0_3;have HB:=Aside0.mk (Below.refl w.heap.size w);have H:=h;unfold celluloidlaw11_PixelPuts.f at H;clear h;by_cases c2:(Qb.length:Int) > 500
 ·rw [if_pos c2] at H;have Q7:=decide_eq_true c2;have Q8:decide (500 < Qb.length)=true:=decide_eq_true (by omega);clear c2;replace H:=Option.bind_eq_some_iff.mp H;obtain ⟨Q9,A30,H⟩:=H;have A3:=Aside0.mk A30;clear A30;first
  |exact absurd (Option.some.inj H) (by rw [hr_.out];decide)
  |obtain rfl:=Option.some.inj H
   go_enter Try.func19,Try.ntmps19;(go_wp2_with (first | ((with_reducible refine gate_dst (N:=1) rfl ?_);refine boxQ 1 #[.int .i64 Qd,.int .i64 Qe,.int .i64 Qf,.slice Qj Qb.length Qk] 76 ?_;intro QC hg w4 hbox hb;have Qa:=Aside0.mk hbox;have GW242:=gs HB hg;have QK:=gs HB hg;replace HB:=hs HB hb;clear hb hbox hg;obtain ⟨_,_,_,_⟩:=cc4 Qa;obtain ⟨_,_,_,_⟩:=ff4 Qa) | ((with_reducible refine gate_callee (f:=49) rfl ?_);refine goesQ (some 12) Try.func49 #[] ?_;(with_reducible refine (celluloidlaw11_awake.calls k  Q9 _ A3.out).mono ?_);rintro e w6 ⟨rfl,hb⟩;refine ⟨_,rfl,?_⟩;replace Qa:=bb Qa hb;replace HB:=hs HB hb;(try clear hb))));go_ret;exact ⟨by first | rfl | (simp [errW_none,errW_some] <;> rfl) | (simp [*,errW_none,errW_some] <;> rfl),hn HB⟩
 ·rw [if_neg c2] at H;have Q7:=decide_eq_false c2;have Q8:decide (500 < Qb.length)=false:=decide_eq_false (by omega);clear c2;replace H:=Option.bind_eq_some_iff.mp H;obtain ⟨⟨Qm,Qo⟩,A70,H⟩:=H;have A7:=Aside0.mk A70;clear A70;replace H:=Option.bind_eq_some_iff.mp H;obtain ⟨⟨t246,t247,t248,t249⟩,A80,H⟩:=H;simp only [GPix.celluloidlaw11_ref.f,Option.some.injEq,Prod.mk.injEq] at A80;obtain ⟨rfl,rfl,rfl,rfl⟩:=A80;replace H:((celluloidref11_Right.f k Qd Qe Qf Qb).bind fun Qx=>((pixel_Right.f k Qd Qe Qf Qb).bind fun Qy=>(if (Qy != Qx)=true then (some false) else (if Qx=true then ((pixel_Take.f k Qm).bind fun Qp=>((GPix.celluloidlaw11_ref.f Qd Qe Qf Qb).bind fun Qt=>((celluloidref11_Put.f k Qt.1 Qt.2.1 Qt.2.2.1 Qt.2.2.2).bind fun Qz=>(if Qm.toList=Qz.toList then (if Qo=0 then ((GPix.celluloidlaw11_ref.f Qp.1 Qp.2.1 Qp.2.2.1 Qp.2.2.2.1).bind fun Ql=>((GPix.celluloidlaw11_ref.f Qd Qe Qf Qb).bind fun Qi=>((celluloidref11_Equal.f k Ql.1 Ql.2.1 Ql.2.2.1 Ql.2.2.2 Qi.1 Qi.2.1 Qi.2.2.1 Qi.2.2.2).bind fun QD=>(if QD=true then (if Qp.2.2.2.2=0 then ((celluloidlaw11_awake.f k).bind fun Qu=>(some Qu)) else (some false)) else (some false))))) else (some false)) else (some false))))) else (if Qm.toList=([]:List UInt8) then (if Qo=1 then ((celluloidlaw11_awake.f k).bind fun QJ=>(some QJ)) else (some false)) else (some false))))))=some r:=H;replace H:=Option.bind_eq_some_iff.mp H;obtain ⟨Qx,A90,H⟩:=H;have A9:=Aside0.mk A90;clear A90;replace H:=Option.bind_eq_some_iff.mp H;obtain ⟨Qy,QQ,H⟩:=H;have A10:=Aside0.mk QQ;clear QQ
  by_cases c11:(Qy != Qx)=true
  ·rw [if_pos c11] at H;have QR:(Qy != Qx)=true:=c11
   (try (have QS:decide (Qy=Qx)=false:=by simpa using c11))
   (try (have QT:(Qy == Qx)=false:=by simpa using c11))
   (try (have c11b3:¬ (Qy=Qx):=by simpa using c11))
   clear c11;exact absurd (Option.some.inj H) (by rw [hr_.out];decide)
  rw [if_neg c11] at H;have QR:(Qy != Qx)=false:=by simpa using c11
  (try (have QS:decide (Qy=Qx)=true:=by simpa using c11))
  (try (have QT:(Qy == Qx)=true:=by simpa using c11))
  clear c11;by_cases c21:Qx=true
  ·subst c21;(have H1:((pixel_Take.f k Qm).bind fun Qp=>((GPix.celluloidlaw11_ref.f Qd Qe Qf Qb).bind fun Qt=>((celluloidref11_Put.f k Qt.1 Qt.2.1 Qt.2.2.1 Qt.2.2.2).bind fun Qz=>(if Qm.toList=Qz.toList then (if Qo=0 then ((GPix.celluloidlaw11_ref.f Qp.1 Qp.2.1 Qp.2.2.1 Qp.2.2.2.1).bind fun Ql=>((GPix.celluloidlaw11_ref.f Qd Qe Qf Qb).bind fun Qi=>((celluloidref11_Equal.f k Ql.1 Ql.2.1 Ql.2.2.1 Ql.2.2.2 Qi.1 Qi.2.1 Qi.2.2.1 Qi.2.2.2).bind fun QD=>(if QD=true then (if Qp.2.2.2.2=0 then ((celluloidlaw11_awake.f k).bind fun Qu=>(some Qu)) else (some false)) else (some false))))) else (some false)) else (some false)))))=some r:=by rw [if_pos rfl] at H;exact H);clear H;have H:=H1;clear H1;replace H:=Option.bind_eq_some_iff.mp H;obtain ⟨⟨Qq,Qr,Qs,Qn,QE⟩,QU,H⟩:=H;have A22:=Aside0.mk QU;clear QU;replace H:=Option.bind_eq_some_iff.mp H;obtain ⟨⟨t263,t264,t265,t266⟩,QV,H⟩:=H;simp only [GPix.celluloidlaw11_ref.f,Option.some.injEq,Prod.mk.injEq] at QV;obtain ⟨rfl,rfl,rfl,rfl⟩:=QV;replace H:((celluloidref11_Put.f k Qd Qe Qf Qb).bind fun Qz=>(if Qm.toList=Qz.toList then (if Qo=0 then ((GPix.celluloidlaw11_ref.f Qq Qr Qs Qn).bind fun Ql=>((GPix.celluloidlaw11_ref.f Qd Qe Qf Qb).bind fun Qi=>((celluloidref11_Equal.f k Ql.1 Ql.2.1 Ql.2.2.1 Ql.2.2.2 Qi.1 Qi.2.1 Qi.2.2.1 Qi.2.2.2).bind fun QD=>(if QD=true then (if QE=0 then ((celluloidlaw11_awake.f k).bind fun Qu=>(some Qu)) else (some false)) else (some false))))) else (some false)) else (some false)))=some r:=H;replace H:=Option.bind_eq_some_iff.mp H;obtain ⟨Qz,QW,H⟩:=H
   have A24:=Aside0.mk QW;clear QW;by_cases c25:Qm.toList=Qz.toList;rotate_left
   ·rw [if_neg c25] at H;have QX:(Qm.toList == Qz.toList)=false:=beq_eq_false_iff_ne.mpr c25;have QY:(Qm.toList != Qz.toList)=true:=bne_iff_ne.mpr c25;exact absurd (Option.some.inj H) (by rw [hr_.out];decide)
   rw [if_pos c25] at H;have QX:(Qm.toList == Qz.toList)=true:=beq_iff_eq.mpr c25;have QY:(Qm.toList != Qz.toList)=false:=bne_eq_false_iff_eq.mpr c25;clear c25;by_cases c26:Qo=0;rotate_left
   ·rw [if_neg c26] at H;have QZ:(Qo == 0)=false:=beq_eq_false_iff_ne.mpr c26;have Q0:(Qo != 0)=true:=bne_iff_ne.mpr c26;exact absurd (Option.some.inj H) (by rw [hr_.out];decide)
   rw [if_pos c26] at H;have QZ:(Qo == 0)=true:=beq_iff_eq.mpr c26;have Q0:(Qo != 0)=false:=bne_eq_false_iff_eq.mpr c26;clear c26;replace H:=Option.bind_eq_some_iff.mp H;obtain ⟨⟨t270,t271,t272,t273⟩,Q1,H⟩:=H;simp only [GPix.celluloidlaw11_ref.f,Option.some.injEq,Prod.mk.injEq] at Q1;obtain ⟨rfl,rfl,rfl,rfl⟩:=Q1;replace H:((GPix.celluloidlaw11_ref.f Qd Qe Qf Qb).bind fun Qi=>((celluloidref11_Equal.f k Qq Qr Qs Qn Qi.1 Qi.2.1 Qi.2.2.1 Qi.2.2.2).bind fun QD=>(if QD=true then (if QE=0 then ((celluloidlaw11_awake.f k).bind fun Qu=>(some Qu)) else (some false)) else (some false))))=some r:=H;replace H:=Option.bind_eq_some_iff.mp H;obtain ⟨⟨t276,t277,t278,t279⟩,Q2,H⟩:=H;simp only [GPix.celluloidlaw11_ref.f,Option.some.injEq,Prod.mk.injEq] at Q2;obtain ⟨rfl,rfl,rfl,rfl⟩:=Q2;replace H:((celluloidref11_Equal.f k Qq Qr Qs Qn Qd Qe Qf Qb).bind fun QD=>(if QD=true then (if QE=0 then ((celluloidlaw11_awake.f k).bind fun Qu=>(some Qu)) else (some false)) else (some false)))=some r:=H;replace H:=Option.bind_eq_some_iff.mp H;obtain ⟨QD,Q3,H⟩:=H;have A29:=Aside0.mk Q3;clear Q3;by_cases c30:QD=true;rotate_left
   ·replace c30:=Bool.eq_false_iff.mpr c30;subst c30;(have H1:(some false)=some r:=by rw [if_neg (show ¬ (false=true) by decide)] at H;exact H);clear H;have H:=H1;clear H1;exact absurd (Option.some.inj H) (by rw [hr_.out];decide)
   subst c30;(have H1:(if QE=0 then ((celluloidlaw11_awake.f k).bind fun Qu=>(some Qu)) else (some false))=some r:=by rw [if_pos rfl] at H;exact H);clear H;have H:=H1;clear H1;by_cases c31:QE=0;rotate_left
   ·rw [if_neg c31] at H;have Q4:(QE == 0)=false:=beq_eq_false_iff_ne.mpr c31;have Q5:(QE != 0)=true:=bne_iff_ne.mpr c31;exact absurd (Option.some.inj H) (by rw [hr_.out];decide)
   rw [if_pos c31] at H;have Q4:(QE == 0)=true:=beq_iff_eq.mpr c31;have Q5:(QE != 0)=false:=bne_eq_false_iff_eq.mpr c31;clear c31;replace H:=Option.bind_eq_some_iff.mp H;obtain ⟨Qu,Q6,H⟩:=H;have A32:=Aside0.mk Q6;clear Q6;first
   |exact absurd (Option.some.inj H) (by rw [hr_.out];decide)
   |obtain rfl:=Option.some.inj H
    go_enter Try.func19,Try.ntmps19;(try go_wp2_with (first | ((with_reducible refine gate_dst (N:=1) rfl ?_);refine boxQ 1 #[.int .i64 Qd,.int .i64 Qe,.int .i64 Qf,.slice Qj Qb.length Qk] 76 ?_;intro QC hg w33 hbox hb;have Qa:=Aside0.mk hbox;have QK:=gs HB hg;replace HB:=hs HB hb;clear hb hbox hg;obtain ⟨hz0,hz1,hz2,hz3⟩:=cc4 Qa;obtain ⟨hy0,hy1,hy2,hy3⟩:=ff4 Qa) | ((with_reducible refine gate_callee (f:=50) rfl ?_);refine goesQ (some 15) Try.func50 #[.agg #[.int .i64 Qd,.int .i64 Qe,.int .i64 Qf,.slice Qj Qb.length Qk]] ?_;(with_reducible refine (pixel_Put.calls k Qd Qe Qf _ _ Qb Qm Qo _ ?side1 ?side2 A7.out).mono ?_);(case side1=>repeat (first | exact (Kd.C_below Qv.out HB.out) | (with_reducible refine Kd.C_alloc ?_ _) | (with_reducible refine Kd.C_drewN ?_ _) | (with_reducible refine Kd.C_drew ?_)));(case side2=>exact Qw.out);rintro e w35 ⟨rfl,hb⟩;refine ⟨_,rfl,?_⟩;replace Qa:=bb Qa hb;replace HB:=hs HB hb;clear hb;obtain ⟨hz0,hz1,hz2,hz3⟩:=cc4 Qa;obtain ⟨hy0,hy1,hy2,hy3⟩:=ff4 Qa) | ((with_reducible refine gate_callee (f:=52) rfl ?_);refine goesQ (some 19) Try.func52 #[.agg #[.int .i64 Qd,.int .i64 Qe,.int .i64 Qf,.slice Qj Qb.length Qk]] ?_;(with_reducible refine (ref_same Qd Qe Qf Qj Qk Qb _).mono ?_);rintro e w35 ⟨rfl,hb⟩;refine ⟨_,rfl,?_⟩;replace Qa:=bb Qa hb;replace HB:=hs HB hb;clear hb;obtain ⟨hz0,hz1,hz2,hz3⟩:=cc4 Qa;obtain ⟨hy0,hy1,hy2,hy3⟩:=ff4 Qa) | ((with_reducible refine gate_callee (f:=51) rfl ?_);refine goesQ (some 20) Try.func51 #[.agg #[.int .i64 Qd,.int .i64 Qe,.int .i64 Qf,.slice Qj Qb.length Qk]] ?_;(with_reducible refine (celluloidref11_Right.calls k Qd Qe Qf _ _ Qb true _ ?side1 ?side2 A9.out).mono ?_);(case side1=>repeat (first | exact (Kd.C_below Qv.out HB.out) | (with_reducible refine Kd.C_alloc ?_ _) | (with_reducible refine Kd.C_drewN ?_ _) | (with_reducible refine Kd.C_drew ?_)));(case side2=>exact Qw.out);rintro e w35 ⟨rfl,hb⟩;refine ⟨_,rfl,?_⟩;replace Qa:=bb Qa hb;replace HB:=hs HB hb;clear hb;obtain ⟨hz0,hz1,hz2,hz3⟩:=cc4 Qa;obtain ⟨hy0,hy1,hy2,hy3⟩:=ff4 Qa) | ((with_reducible refine gate_callee (f:=53) rfl ?_);refine goesQ (some 22) Try.func53 #[.agg #[.int .i64 Qd,.int .i64 Qe,.int .i64 Qf,.slice Qj Qb.length Qk]] ?_;(with_reducible refine (pixel_Right.calls k Qd Qe Qf _ _ Qb Qy _ ?side1 ?side2 A10.out).mono ?_);(case side1=>repeat (first | exact (Kd.C_below Qv.out HB.out) | (with_reducible refine Kd.C_alloc ?_ _) | (with_reducible refine Kd.C_drewN ?_ _) | (with_reducible refine Kd.C_drew ?_)));(case side2=>exact Qw.out);rintro e w35 ⟨rfl,hb⟩;refine ⟨_,rfl,?_⟩;replace Qa:=bb Qa hb;replace HB:=hs HB hb;clear hb;obtain ⟨hz0,hz1,hz2,hz3⟩:=cc4 Qa;obtain ⟨hy0,hy1,hy2,hy3⟩:=ff4 Qa) | ((with_reducible refine gate_callee (f:=54) rfl ?_);refine goesQ (some 38) Try.func54 #[.string Qm] ?_;(with_reducible refine (pixel_Take.calls k Qm Qq Qr Qs Qn QE _ A22.out).mono ?_);rintro e w35 ⟨v259,rfl,ho0,hb⟩;refine ⟨_,rfl,?_⟩;have Qh:=Aside0.mk (Kd.R_lower ho0 (below_size (hn HB)));clear ho0;replace Qa:=bb Qa hb;replace HB:=hs HB hb;clear hb;obtain ⟨hz0,hz1,hz2,hz3⟩:=cc4 Qa;obtain ⟨hy0,hy1,hy2,hy3⟩:=ff4 Qa) | ((with_reducible refine gate_dst (N:=6) rfl ?_);refine boxQ 6 #[.int .i64 0,.int .i64 0,.int .i64 0,.slice none 0 0] 76 ?_;intro Qc hg w43 hbox hb;have GE262:=gs HB hg;have QH:=nl Qa hg;have QI:=ng Qa hg;have Qg:=Aside0.mk hbox;replace Qh:=rk Qh hb;replace Qa:=bb Qa hb;replace HB:=hs HB hb;clear hb hbox hg;have hnb44:=QI.out;have hnc44:=QH.out;obtain ⟨hx0,hx1,hx2,hx3⟩:=cc4 Qg;obtain ⟨hv0,hv1,hv2,hv3⟩:=ff4 Qg;obtain ⟨QA,QB,Va⟩:=Kd.R_slice Qh.out;subst Va)))
    have n1_:Aside0 (Kd.R k89 89 ((((w43.setCell ⟨Qc,0,none⟩ (.int .i64 Qq)).setCell ⟨Qc,1,none⟩ (.int .i64 Qr)).setCell ⟨Qc,2,none⟩ (.int .i64 Qs)).setCell ⟨Qc,3,none⟩ (.slice QA Qn.length QB)) w.heap.size (fun _=>True) (.slice QA Qn.length QB) Qn):=⟨Kd.R_mono (Kd.R_far (p:=⟨Qc,3,none⟩) (Kd.R_far (p:=⟨Qc,2,none⟩) (Kd.R_far (p:=⟨Qc,1,none⟩) (Kd.R_far (p:=⟨Qc,0,none⟩) (Kd.R_types Qh.out Qg.out (by decide)) (fun _ hk=>hk.2) (.int .i64 Qq)) (fun _ hk=>hk.2) (.int .i64 Qr)) (fun _ hk=>hk.2) (.int .i64 Qs)) (fun _ hk=>hk.2) (.slice QA Qn.length QB)) (fun _ hk=>hk.1)⟩;have n2_:Aside0 (((((w43.setCell ⟨Qc,0,none⟩ (.int .i64 Qq)).setCell ⟨Qc,1,none⟩ (.int .i64 Qr)).setCell ⟨Qc,2,none⟩ (.int .i64 Qs)).setCell ⟨Qc,3,none⟩ (.slice QA Qn.length QB)).heap[QC]?=some (.cells #[.int .i64 Qd,.int .i64 Qe,.int .i64 Qf,.slice Qj Qb.length Qk] 76 (0,0))):=⟨bq Qa⟩;have n3_:Aside0 (((((w43.setCell ⟨Qc,0,none⟩ (.int .i64 Qq)).setCell ⟨Qc,1,none⟩ (.int .i64 Qr)).setCell ⟨Qc,2,none⟩ (.int .i64 Qs)).setCell ⟨Qc,3,none⟩ (.slice QA Qn.length QB)).heap[Qc]?=some (.cells #[.int .i64 Qq,.int .i64 Qr,.int .i64 Qs,.slice QA Qn.length QB] 76 (0,0))):=⟨bq Qg⟩;have n4_:Aside0 (Below w.heap.size w ((((w43.setCell ⟨Qc,0,none⟩ (.int .i64 Qq)).setCell ⟨Qc,1,none⟩ (.int .i64 Qr)).setCell ⟨Qc,2,none⟩ (.int .i64 Qs)).setCell ⟨Qc,3,none⟩ (.slice QA Qn.length QB))):=⟨hn HB⟩;clear Qh Qa Qg HB;generalize ((((w43.setCell ⟨Qc,0,none⟩ (.int .i64 Qq)).setCell ⟨Qc,1,none⟩ (.int .i64 Qr)).setCell ⟨Qc,2,none⟩ (.int .i64 Qs)).setCell ⟨Qc,3,none⟩ (.slice QA Qn.length QB))=w47 at n1_ n2_ n3_ n4_ ⊢
    have Qh:=Aside0.mk (Kd.R_drew n1_.out);have Qa:=Aside0.mk (blk_drew n2_.out);have Qg:=Aside0.mk (blk_drew n3_.out);have HB:=Aside0.mk (below_drew1 n4_.out);clear n1_ n2_ n3_ n4_;refine start_ (n:=24) (S:=fun w'=>w'.cell? ⟨QC,0,none⟩=some (.int .i64 Qd)∧w'.cell? ⟨QC,1,none⟩=some (.int .i64 Qe)∧w'.cell? ⟨QC,2,none⟩=some (.int .i64 Qf)∧w'.cell? ⟨QC,3,none⟩=some (.slice Qj Qb.length Qk)∧w'.cell? ⟨Qc,0,none⟩=some (.int .i64 Qq)∧w'.cell? ⟨Qc,1,none⟩=some (.int .i64 Qr)∧w'.cell? ⟨Qc,2,none⟩=some (.int .i64 Qs)∧w'.cell? ⟨Qc,3,none⟩=some (.slice QA Qn.length QB)) (ds:=[]) #[false,false,false,false,false,false,false,false,false,false,false,false,false,false,false,false,false,false,false,false,false,false,false,false] (by kernel_rfl) rfl rfl (cc8 Qa Qg) (fun hHeld=>?_);refine with_tabW celluloidlaw11_PixelPuts.tab10 celluloidlaw11_PixelPuts.bits10 (fun HT_ HW_=>?_);generalize w47.drew=w48 at Qh Qa Qg HB hHeld ⊢;refine pureQ 0 (some 41) (tk 1 23) (any_of HT_.out (by kernel_rfl)) ?_;refine take_ (i:=1) (N:=some 42) (v:=?_) (a':=?_) (tk 2 22) rfl rfl (take_ofW HT_.out HW_.out (by kernel_rfl)) (fun _ _ _ h=>h) (Or.inl ⟨by rfl,?_⟩) hHeld ?_ ?_;rotate_left
    ·rintro w' ⟨s0,s1,s2,s3,s4,s5,s6,s7⟩;go_simp;with_reducible rfl
    rotate_left
    ·simp only [Act.put,List.setIfInBounds_toArray,List.set_cons_zero,List.set_cons_succ,i64_w,i32_w];rfl
    refine one_ (i:=2) (N:=some 43) (tk 3 21) rfl rfl (one_of HT_.out (by kernel_rfl)) (by decide) (fun K hK=>?_);refine goesP Try.func52 #[.agg #[.int .i64 Qd,.int .i64 Qe,.int .i64 Qf,.slice Qj Qb.length Qk]] ?_;(with_reducible refine (ref_same Qd Qe Qf Qj Qk Qb _).mono ?_);rintro e w102 ⟨rfl,hb⟩;refine ⟨_,rfl,?_⟩;replace Qh:=rk Qh hb;replace Qa:=bb Qa hb;replace Qg:=bb Qg hb;replace HB:=hs HB hb;clear hb;refine hK.out _ _ (cc8 Qa Qg) (fun hHeld=>?_);clear hK K;refine normQ ?_;refine one_ (i:=3) (N:=some 44) (tk 4 20) rfl rfl (one_of HT_.out (by kernel_rfl)) (by decide) (fun K hK=>?_);refine goesP Try.func55 #[.agg #[.int .i64 Qd,.int .i64 Qe,.int .i64 Qf,.slice Qj Qb.length Qk]] ?_;(with_reducible refine (celluloidref11_Put.calls k Qd Qe Qf _ _ Qb Qz _ ?side1 ?side2 A24.out).mono ?_)
    (case side1=>repeat (first | exact (Kd.C_below Qv.out HB.out) | (with_reducible refine Kd.C_alloc ?_ _) | (with_reducible refine Kd.C_drewN ?_ _) | (with_reducible refine Kd.C_drew ?_)))
    (case side2=>exact Qw.out)
    rintro e w103 ⟨rfl,hb⟩;refine ⟨_,rfl,?_⟩;replace Qh:=rk Qh hb;replace Qa:=bb Qa hb;replace Qg:=bb Qg hb;replace HB:=hs HB hb;clear hb;refine hK.out _ _ (cc8 Qa Qg) (fun hHeld=>?_);clear hK K;refine normQ ?_;refine pureQ 4 (some 45) (tk 5 19) (any_of HT_.out (by kernel_rfl)) ?_;refine pureQ 5 (some 46) (tk 6 18) (any_of HT_.out (by kernel_rfl)) ?_;refine pureQ 6 (some 47) (tk 7 17) (any_of HT_.out (by kernel_rfl)) ?_;refine pureQ 7 (some 48) (tk 8 16) (any_of HT_.out (by kernel_rfl)) ?_;refine pureQ 8 (some 49) (tk 9 15) (any_of HT_.out (by kernel_rfl)) ?_;refine pureQ 9 (some 50) (tk 10 14) (any_of HT_.out (by kernel_rfl)) ?_;refine take_ (i:=10) (N:=some 51) (v:=?_) (a':=?_) (tk 11 13) rfl rfl (take_ofW HT_.out HW_.out (by kernel_rfl)) (fun _ _ _ h=>h) (Or.inl ⟨by rfl,?_⟩) hHeld ?_ ?_;rotate_left
    ·rintro w' ⟨s0,s1,s2,s3,s4,s5,s6,s7⟩;go_simp;with_reducible rfl
    rotate_left
    ·simp only [Act.put,List.setIfInBounds_toArray,List.set_cons_zero,List.set_cons_succ,i64_w,i32_w];rfl
    refine take_ (i:=12) (N:=some 53) (v:=?_) (a':=?_) #[true,true,true,true,true,true,true,true,true,true,true,false,true,false,false,false,false,false,false,false,false,false,false,false] rfl rfl (take_ofW HT_.out HW_.out (by kernel_rfl)) (fun _ _ _ h=>h) (Or.inl ⟨by rfl,?_⟩) hHeld ?_ ?_;rotate_left
    ·rintro w' ⟨s0,s1,s2,s3,s4,s5,s6,s7⟩;go_simp;with_reducible rfl
    rotate_left
    ·simp only [Act.put,List.setIfInBounds_toArray,List.set_cons_zero,List.set_cons_succ,i64_w,i32_w];rfl
    refine one_ (i:=11) (N:=some 52) (tk 13 11) rfl rfl (one_of HT_.out (by kernel_rfl)) (by decide) (fun K hK=>?_);refine goesP Try.func52 #[.agg #[.int .i64 Qq,.int .i64 Qr,.int .i64 Qs,.slice QA Qn.length QB]] ?_;(with_reducible refine (ref_same Qq Qr Qs QA QB Qn _).mono ?_);rintro e w111 ⟨rfl,hb⟩;refine ⟨_,rfl,?_⟩;replace Qh:=rk Qh hb;replace Qa:=bb Qa hb;replace Qg:=bb Qg hb;replace HB:=hs HB hb;clear hb;refine hK.out _ _ (cc8 Qa Qg) (fun hHeld=>?_);clear hK K;refine normQ ?_;refine one_ (i:=13) (N:=some 54) (tk 14 10) rfl rfl (one_of HT_.out (by kernel_rfl)) (by decide) (fun K hK=>?_);refine goesP Try.func52 #[.agg #[.int .i64 Qd,.int .i64 Qe,.int .i64 Qf,.slice Qj Qb.length Qk]] ?_;(with_reducible refine (ref_same Qd Qe Qf Qj Qk Qb _).mono ?_);rintro e w113 ⟨rfl,hb⟩;refine ⟨_,rfl,?_⟩;replace Qh:=rk Qh hb;replace Qa:=bb Qa hb;replace Qg:=bb Qg hb;replace HB:=hs HB hb;clear hb;refine hK.out _ _ (cc8 Qa Qg) (fun hHeld=>?_);clear hK K;refine normQ ?_;refine one_ (i:=14) (N:=some 55) (tk 15 9) rfl rfl (one_of HT_.out (by kernel_rfl)) (by decide) (fun K hK=>?_);refine goesP Try.func56 #[.agg #[.int .i64 Qq,.int .i64 Qr,.int .i64 Qs,.slice QA Qn.length QB],.agg #[.int .i64 Qd,.int .i64 Qe,.int .i64 Qf,.slice Qj Qb.length Qk]] ?_;(with_reducible refine (celluloidref11_Equal.calls k Qq Qr Qs _ _ Qn Qd Qe Qf _ _ Qb true _ ?side1 ?side2 ?side3 ?side4 A29.out).mono ?_)
    (case side1=>repeat (first | exact ((Kd.R_reads' Qh.out).2.2) | (with_reducible refine Kd.C_alloc ?_ _) | (with_reducible refine Kd.C_drewN ?_ _) | (with_reducible refine Kd.C_drew ?_)))
    (case side2=>exact (Kd.R_reads' Qh.out).2.1)
    (case side3=>repeat (first | exact (Kd.C_below Qv.out HB.out) | (with_reducible refine Kd.C_alloc ?_ _) | (with_reducible refine Kd.C_drewN ?_ _) | (with_reducible refine Kd.C_drew ?_)))
    (case side4=>exact Qw.out)
    rintro e w114 ⟨rfl,hb⟩;refine ⟨_,rfl,?_⟩;replace Qh:=rk Qh hb;replace Qa:=bb Qa hb;replace Qg:=bb Qg hb;replace HB:=hs HB hb;clear hb;refine hK.out _ _ (cc8 Qa Qg) (fun hHeld=>?_);clear hK K;refine normQ ?_;refine pureQ 15 (some 56) (tk 16 8) (any_of HT_.out (by kernel_rfl)) ?_;refine pureQ 16 (some 57) (tk 17 7) (any_of HT_.out (by kernel_rfl)) ?_;refine pureQ 17 (some 58) (tk 18 6) (any_of HT_.out (by kernel_rfl)) ?_;refine pureQ 18 (some 59) (tk 19 5) (any_of HT_.out (by kernel_rfl)) ?_;refine pureQ 19 (some 60) (tk 20 4) (any_of HT_.out (by kernel_rfl)) ?_;refine pureQ 20 (some 61) (tk 21 3) (any_of HT_.out (by kernel_rfl)) ?_;refine one_ (i:=21) (N:=some 62) (tk 22 2) rfl rfl (one_of HT_.out (by kernel_rfl)) (by decide) (fun K hK=>?_);refine goesP Try.func49 #[] ?_;(with_reducible refine (celluloidlaw11_awake.calls k  Qu _ A32.out).mono ?_);rintro e w121 ⟨rfl,hb⟩;refine ⟨_,rfl,?_⟩;replace Qh:=rk Qh hb;replace Qa:=bb Qa hb;replace Qg:=bb Qg hb;replace HB:=hs HB hb;clear hb;refine hK.out _ _ (cc8 Qa Qg) (fun hHeld=>?_);clear hK K;refine normQ ?_;refine pureQ 22 (some 63) (tk 23 1) (any_of HT_.out (by kernel_rfl)) ?_;refine pureQ 23 (some 2) (tk 24 0) (any_of HT_.out (by kernel_rfl)) ?_;refine done_ (done_of HT_.out (by kernel_rfl)) ?_;(try go_wp2);go_ret;exact ⟨by first | rfl | (simp [errW_none,errW_some] <;> rfl) | (simp [*,errW_none,errW_some] <;> rfl),hn HB⟩
  ·replace c21:=Bool.eq_false_iff.mpr c21;subst c21;(have H1:(if Qm.toList=([]:List UInt8) then (if Qo=1 then ((celluloidlaw11_awake.f k).bind fun QJ=>(some QJ)) else (some false)) else (some false))=some r:=by rw [if_neg (show ¬ (false=true) by decide)] at H;exact H);clear H;have H:=H1;clear H1;by_cases QF:Qm.toList=([]:List UInt8);rotate_left
   ·rw [if_neg QF] at H;have QM:(Qm.toList == ([]:List UInt8))=false:=beq_eq_false_iff_ne.mpr QF;have QN:(Qm.toList != ([]:List UInt8))=true:=bne_iff_ne.mpr QF;exact absurd (Option.some.inj H) (by rw [hr_.out];decide)
   rw [if_pos QF] at H;have QM:(Qm.toList == ([]:List UInt8))=true:=beq_iff_eq.mpr QF;have QN:(Qm.toList != ([]:List UInt8))=false:=bne_eq_false_iff_eq.mpr QF;clear QF;by_cases QG:Qo=1;rotate_left
   ·rw [if_neg QG] at H;have QO:(Qo == 1)=false:=beq_eq_false_iff_ne.mpr QG;have QP:(Qo != 1)=true:=bne_iff_ne.mpr QG;exact absurd (Option.some.inj H) (by rw [hr_.out];decide)
   rw [if_pos QG] at H;have QO:(Qo == 1)=true:=beq_iff_eq.mpr QG;have QP:(Qo != 1)=false:=bne_eq_false_iff_eq.mpr QG;clear QG;replace H:=Option.bind_eq_some_iff.mp H;obtain ⟨QJ,QL,H⟩:=H;have Vb:=Aside0.mk QL;clear QL;first
   |exact absurd (Option.some.inj H) (by rw [hr_.out];decide)
   |obtain rfl:=Option.some.inj H
    go_enter Try.func19,Try.ntmps19;(go_wp2_with (first | ((with_reducible refine gate_dst (N:=1) rfl ?_);refine boxQ 1 #[.int .i64 Qd,.int .i64 Qe,.int .i64 Qf,.slice Qj Qb.length Qk] 76 ?_;intro QC hg w33 hbox hb;have Qa:=Aside0.mk hbox;have QK:=gs HB hg;replace HB:=hs HB hb;clear hb hbox hg;obtain ⟨hz0,hz1,hz2,hz3⟩:=cc4 Qa;obtain ⟨hy0,hy1,hy2,hy3⟩:=ff4 Qa) | ((with_reducible refine gate_callee (f:=50) rfl ?_);refine goesQ (some 15) Try.func50 #[.agg #[.int .i64 Qd,.int .i64 Qe,.int .i64 Qf,.slice Qj Qb.length Qk]] ?_;(with_reducible refine (pixel_Put.calls k Qd Qe Qf _ _ Qb Qm Qo _ ?side1 ?side2 A7.out).mono ?_);(case side1=>repeat (first | exact (Kd.C_below Qv.out HB.out) | (with_reducible refine Kd.C_alloc ?_ _) | (with_reducible refine Kd.C_drewN ?_ _) | (with_reducible refine Kd.C_drew ?_)));(case side2=>exact Qw.out);rintro e w35 ⟨rfl,hb⟩;refine ⟨_,rfl,?_⟩;replace Qa:=bb Qa hb;replace HB:=hs HB hb;clear hb;obtain ⟨hz0,hz1,hz2,hz3⟩:=cc4 Qa;obtain ⟨hy0,hy1,hy2,hy3⟩:=ff4 Qa) | ((with_reducible refine gate_callee (f:=52) rfl ?_);refine goesQ (some 19) Try.func52 #[.agg #[.int .i64 Qd,.int .i64 Qe,.int .i64 Qf,.slice Qj Qb.length Qk]] ?_;(with_reducible refine (ref_same Qd Qe Qf Qj Qk Qb _).mono ?_);rintro e w35 ⟨rfl,hb⟩;refine ⟨_,rfl,?_⟩;replace Qa:=bb Qa hb;replace HB:=hs HB hb;clear hb;obtain ⟨hz0,hz1,hz2,hz3⟩:=cc4 Qa;obtain ⟨hy0,hy1,hy2,hy3⟩:=ff4 Qa) | ((with_reducible refine gate_callee (f:=51) rfl ?_);refine goesQ (some 20) Try.func51 #[.agg #[.int .i64 Qd,.int .i64 Qe,.int .i64 Qf,.slice Qj Qb.length Qk]] ?_;(with_reducible refine (celluloidref11_Right.calls k Qd Qe Qf _ _ Qb false _ ?side1 ?side2 A9.out).mono ?_);(case side1=>repeat (first | exact (Kd.C_below Qv.out HB.out) | (with_reducible refine Kd.C_alloc ?_ _) | (with_reducible refine Kd.C_drewN ?_ _) | (with_reducible refine Kd.C_drew ?_)));(case side2=>exact Qw.out);rintro e w35 ⟨rfl,hb⟩;refine ⟨_,rfl,?_⟩;replace Qa:=bb Qa hb;replace HB:=hs HB hb;clear hb;obtain ⟨hz0,hz1,hz2,hz3⟩:=cc4 Qa;obtain ⟨hy0,hy1,hy2,hy3⟩:=ff4 Qa) | ((with_reducible refine gate_callee (f:=53) rfl ?_);refine goesQ (some 22) Try.func53 #[.agg #[.int .i64 Qd,.int .i64 Qe,.int .i64 Qf,.slice Qj Qb.length Qk]] ?_;(with_reducible refine (pixel_Right.calls k Qd Qe Qf _ _ Qb Qy _ ?side1 ?side2 A10.out).mono ?_);(case side1=>repeat (first | exact (Kd.C_below Qv.out HB.out) | (with_reducible refine Kd.C_alloc ?_ _) | (with_reducible refine Kd.C_drewN ?_ _) | (with_reducible refine Kd.C_drew ?_)));(case side2=>exact Qw.out);rintro e w35 ⟨rfl,hb⟩;refine ⟨_,rfl,?_⟩;replace Qa:=bb Qa hb;replace HB:=hs HB hb;clear hb;obtain ⟨hz0,hz1,hz2,hz3⟩:=cc4 Qa;obtain ⟨hy0,hy1,hy2,hy3⟩:=ff4 Qa) | (go_at_call 49;(with_reducible refine (celluloidlaw11_awake.calls k  QJ _ Vb.out).mono ?_);rintro e w156 ⟨rfl,hb⟩;replace Qa:=bb Qa hb;replace HB:=hs HB hb;clear hb)))
    go_ret;exact ⟨by first | rfl | (simp [errW_none,errW_some] <;> rfl) | (simp [*,errW_none,errW_some] <;> rfl),hn HB⟩
end Go.Proofs.Ytpbhkdamkbopkaa.GPxp
namespace Go.Proofs.Ytpbhkdamkbopkaa.Inf
set_option linter.unusedSimpArgs false
set_option linter.unusedVariables false
open Go.RowKit Go.Proofs.Ytpbhkdamkbopkaa.Ext Go.Proofs.Ytpbhkdamkbopkaa.RefP Go.Proofs.Ytpbhkdamkbopkaa.Stage Go.Proofs.YtpbhkdamkbopkaaW.PrintWords Go.Proofs.YtpbhkdamkbopkaaW.PrintLast Go.Proofs.YtpbhkdamkbopkaaW.PrintMore
/-- Bytes that are the same as far as N. -/
structure Agr (s t:ByteArray) (N:Nat):Prop where
 ns:N≤s.size
 nt:N≤t.size
 b:∀ j:Int,0≤j → j < N → bt t j=bt s j
 hs:s.size≤140737488351232
 ht:t.size≤140737488351232
section
variable {s t:ByteArray} {N:Nat} {mx mz:Int} {x y z:St}
theorem Agr.bit (A:Agr s t N) (i:Int) (h0:0≤i) (h1:i < 8*N):bitN t i=bitN s i:=by
 unfold bitN;rw [A.b (i / 8) (by omega) (by omega)]
theorem Agr.vn (A:Agr s t N) (pos:Int) (h0:0≤pos):∀ n:Nat,pos+n≤8*N → Vn t pos n=Vn s pos n:=by
 intro n
 induction n with
 |zero=>intro _;rfl
 |succ n ih =>
  intro h;show 2*Vn t pos n+bitN t (pos+n)=2*Vn s pos n+bitN s (pos+n);rw [ih (by omega),A.bit (pos+n) (by omega) (by omega)]
end
end Go.Proofs.Ytpbhkdamkbopkaa.Inf
namespace Go.Proofs.Ytpbhkdamkbopkaa.Inf
set_option linter.unusedSimpArgs false
set_option linter.unusedVariables false
open Go.RowKit Go.Proofs.Ytpbhkdamkbopkaa.Ext Go.Proofs.Ytpbhkdamkbopkaa.RefP Go.Proofs.YtpbhkdamkbopkaaW.PrintWords Go.Proofs.YtpbhkdamkbopkaaW.PrintLast Go.Proofs.YtpbhkdamkbopkaaW.PrintMore
theorem strOfNums_bytes (s:ByteArray):strOfNums (bytesOf s)=s:=by
 unfold strOfNums bytesOf;rw [List.map_map]
 have e:(fun n:Int=>UInt8.ofNat n.toNat) ∘ (fun b:UInt8=>(b.toNat:Int))=id:=by
  funext b;simp
 rw [e,List.map_id]
theorem bytesOf_append (s t:ByteArray):bytesOf (s ++ t)=bytesOf s ++ bytesOf t:=by simp [bytesOf]
theorem strOfNums_append (a b:List Int):strOfNums (a ++ b)=strOfNums a ++ strOfNums b:=by
 apply ByteArray.ext;simp [strOfNums,List.map_append]
theorem bt_left (s t:ByteArray) (j:Int) (h0:0≤j) (h1:j < s.size):bt (s ++ t) j=bt s j:=by
 rw [← rd_bytesOf,← rd_bytesOf,bytesOf_append];unfold rd;simp only [List.getD_eq_getElem?_getD];rw [List.getElem?_append_left (by rw [bytesOf_length];omega)]
theorem bt_right (s t:ByteArray) (j:Int) (h1:(s.size:Int)≤j):bt (s ++ t) j=bt t (j - s.size):=by
 rw [← rd_bytesOf,← rd_bytesOf,bytesOf_append];unfold rd;simp only [List.getD_eq_getElem?_getD];rw [List.getElem?_append_right (by rw [bytesOf_length];omega),bytesOf_length];have e:j.toNat - s.size=(j - (s.size:Int)).toNat:=by omega
 rw [e]
theorem bt_nums (l:List Int) (hl:∀ x ∈ l,0≤x∧x≤255) (j:Nat) (h:j < l.length):bt (strOfNums l) (j:Int)=l.getD j 0:=by
 rw [← rd_bytesOf];unfold rd bytesOf;have hd:(strOfNums l).data.toList=l.map fun n=>UInt8.ofNat n.toNat:=rfl;rw [hd,List.map_map];simp only [List.getD_eq_getElem?_getD,Int.toNat_natCast];rw [List.getElem?_map,List.getElem?_eq_getElem h];have:=hl _ (List.getElem_mem h);simp;omega
theorem bits_at (s:ByteArray) (k:Nat) (p:Int) (o:List Int) (h0:0≤p) (hk:k≤16) (h:p+k≤8*s.size):bits s k ⟨p,o,0⟩=(Bn s p k,⟨p+k,o,0⟩):=by
 have e:bitsOf s p k=(Bn s p k,p+k,0):=by
  unfold bitsOf;rw [if_neg (by omega),if_pos h,Int.toNat_natCast]
 unfold bits tak;rw [if_pos rfl];simp only [e];rfl
def run0 (s:ByteArray) (mx:Int):St:=blocks s mx (8*s.size+2) ⟨0,[],0⟩
theorem raw_is (s:ByteArray) (mx:Int) (h:0≤mx∧mx≤262144):raw s mx=if (run0 s mx).e=0 then (strOfNums (run0 s mx).o,((run0 s mx).p+7) / 8,0) else (⟨#[]⟩,0,(run0 s mx).e):=by
 unfold raw;rw [if_neg (by omega)];rfl
end Go.Proofs.Ytpbhkdamkbopkaa.Inf
namespace Go.Proofs.Ytpbhkdamkbopkaa.Bk
set_option linter.unusedSimpArgs false
set_option linter.unusedVariables false
open Go.RowKit Go.Proofs.Ytpbhkdamkbopkaa.Ext Go.Proofs.Ytpbhkdamkbopkaa.RefP Go.Proofs.Ytpbhkdamkbopkaa.Stage Go.Proofs.Ytpbhkdamkbopkaa.Inf Go.Proofs.YtpbhkdamkbopkaaW.PrintWords Go.Proofs.YtpbhkdamkbopkaaW.PrintLast Go.Proofs.YtpbhkdamkbopkaaW.PrintMore
open Go.Proofs.Ytpbhkdamkbopkaa.Wr (pk pkr put1 pkr_len pk_len pkr_rng pk_rng Bits bit nb nb_succ nb_len nb_bits cb cb_len cb_bits sc sc_bits sc_len rc rc_bits lsym dsym lsym_rng lf df lof dof lof_all dof_all RB rbits run_rng df_rng rc_len)
open Go.Proofs.Ytpbhkdamkbopkaa.Rn (run mlen mlen_spec best best_spec)
theorem getL (A B:List Int) (i:Nat) (h:i < A.length):(A ++ B).getD i 0=A.getD i 0:=by
 rw [List.getD_eq_getElem?_getD,List.getD_eq_getElem?_getD,List.getElem?_append_left h]
theorem getR (A B:List Int) (i:Nat):(A ++ B).getD (A.length+i) 0=B.getD i 0:=by
 rw [List.getD_eq_getElem?_getD,List.getD_eq_getElem?_getD,List.getElem?_append_right (by omega),Nat.add_sub_cancel_left]
theorem getS (A:List Int) (i j:Nat) (x:Int):(A.set i x).getD j 0=if i=j∧j < A.length then x else A.getD j 0:=by
 rw [List.getD_eq_getElem?_getD,List.getD_eq_getElem?_getD,List.getElem?_set];by_cases h:i=j
 ·subst h;rw [if_pos rfl];by_cases h2:i < A.length
  ·rw [if_pos h2,if_pos ⟨rfl,h2⟩];rfl
  ·rw [if_neg h2,if_neg (fun h=>h2 h.2),List.getElem?_eq_none (by omega)]
 ·rw [if_neg h,if_neg (fun h3=>h h3.1)]
theorem add_bit (z b:Int) (i r:Nat) (hi:i < r):(z+b*2 ^ r) / 2 ^ i % 2=z / 2 ^ i % 2:=by
 have e:b*2 ^ r=2*(b*2 ^ (r - i - 1))*2 ^ i:=by
  have:(2:Int) ^ r=2 ^ (r - i - 1)*2*2 ^ i:=by
   rw [← Int.pow_succ,← Int.pow_add];congr 1;omega
  rw [this];simp only [Int.mul_comm,Int.mul_left_comm,Int.mul_assoc]
 have hp:(2:Int) ^ i ≠ 0:=by have:=Int.pow_pos (n:=2) (m:=i) (by decide);omega
 rw [e,Int.add_mul_ediv_right _ _ hp];omega
theorem top_bit (z b:Int) (r:Nat) (h0:0≤z) (h1:z < 2 ^ r) (hb:0≤b∧b≤1):(z+b*2 ^ r) / 2 ^ r % 2=b:=by
 have hp:(2:Int) ^ r ≠ 0:=by omega
 rw [Int.add_mul_ediv_right _ _ hp,Int.ediv_eq_zero_of_lt h0 h1];omega
theorem pkr_bit:∀ (B:List Int),(∀ b ∈ B,0≤b∧b≤1) → ∀ i,i < B.length → (pkr B).getD (i / 8) 0 / 2 ^ (i % 8) % 2=B.getD (B.length - 1 - i) 0
 |[],_,i,h=>absurd h (Nat.not_lt_zero _)
 |b :: t,hB,i,h=>by
  have hb:=hB b (by simp);have ht:∀ x ∈ t,0≤x∧x≤1:=fun x hx=>hB x (by simp [hx]);have hl:=pkr_len t;have ih:=pkr_bit t ht;have hr:=(pkr_rng t ht).2;rw [List.length_cons] at h ⊢;simp only [pkr,put1];by_cases hi:i < t.length
  ·have hc : (b :: t).getD (t.length + 1 - 1 - i) 0 = t.getD (t.length - 1 - i) 0 := by
    rw [show t.length+1 - 1 - i=(t.length - 1 - i)+1 by omega];rfl
   rw [hc,← ih i hi];by_cases hm:t.length % 8=0
   ·rw [if_pos hm,getL _ _ _ (by omega)]
   ·rw [if_neg hm,getS];by_cases c:(pkr t).length - 1=i / 8∧i / 8 < (pkr t).length
    ·rw [if_pos c,c.1,add_bit _ _ _ _ (by omega)]
    ·rw [if_neg c]
  obtain rfl:i=t.length:=by omega
  have hc:(b :: t).getD (t.length+1 - 1 - t.length) 0=b:=by
   rw [show t.length+1 - 1 - t.length=0 by omega];rfl
  rw [hc];by_cases hm:t.length % 8=0
  ·have e:=getR (pkr t) [b] 0;rw [if_pos hm,hm,show t.length / 8=(pkr t).length+0 by omega,e];show b / 1 % 2=b;omega
  ·obtain ⟨h0,h1⟩:=hr hm;rw [if_neg hm,getS,if_pos ⟨by omega,by omega⟩];exact top_bit _ _ _ h0 h1 hb
theorem pk_bit (B:List Int) (hB:Bits B) (i:Nat) (h:i < B.length):(pk B).getD (i / 8) 0 / 2 ^ (i % 8) % 2=B.getD i 0:=by
 have e:=pkr_bit B.reverse (fun b hb=>hB b (by simpa using hb)) i (by rw [List.length_reverse];exact h);unfold pk;rw [e,List.getD_eq_getElem?_getD,List.getD_eq_getElem?_getD,List.length_reverse,List.getElem?_reverse (by omega)]
 congr 2
 omega
/-- These bits stand from a place on. -/
def At (T:ByteArray) (p:Nat) (L:List Int):Prop:=∀ i,i < L.length → bitN T ((p+i:Nat):Int)=L.getD i 0
theorem At.left {T:ByteArray} {p:Nat} {L M:List Int} (h:At T p (L ++ M)):At T p L:=fun i hi=>by
 rw [h i (by rw [List.length_append];omega),getL _ _ _ hi]
theorem At.right {T:ByteArray} {p:Nat} {L M:List Int} (h:At T p (L ++ M)):At T (p+L.length) M:=fun i hi=>by
 have e:=h (L.length+i) (by rw [List.length_append];omega);rw [getR] at e;rw [← e]
 congr 1
 omega
theorem pk_size (B:List Int):(strOfNums (pk B)).size=(B.length+7) / 8:=by rw [strOfNums_size,pk_len]
theorem at_pk (B:List Int) (hB:Bits B) (X:ByteArray):At (strOfNums (pk B) ++ X) 0 B:=fun i hi=>by
 have hs:=pk_size B;unfold bitN;rw [Nat.zero_add,bt_left _ _ _ (by omega) (by omega),show ((i:Int) / 8)=((i / 8:Nat):Int) by omega,bt_nums _ (pk_rng hB).1 _ (by rw [pk_len];omega),show ((i:Int) % 8).toNat=i % 8 by omega];exact pk_bit B hB i hi
theorem At.num {T:ByteArray} {p v:Nat}:∀ {n:Nat},At T p (nb (v:Int) n) → Bn T (p:Int) n=((v % 2 ^ n:Nat):Int):=by
 intro n
 induction n with
 |zero=>intro _;simp [Bn,Nat.mod_one]
 |succ n ih =>
  intro h;rw [nb_succ] at h;have h2:=h.right 0 (by simp);rw [nb_len] at h2;show Bn T p n+2 ^ n*bitN T ((p:Int)+n)=_;rw [ih h.left,show (p:Int)+n=((p+n+0:Nat):Int) by omega,h2,Nat.mod_pow_succ];show _+2 ^ n*bit (v:Int) n=_;unfold bit
  push_cast
  rfl
theorem bits_back {T:ByteArray} {p n:Nat} {v:Int} {o:List Int} (h:At T p (nb v n)) (h0:0≤v) (h1:v < 2 ^ n) (hn:n≤16) (hp:p+n≤8*T.size):Inf.bits T (n:Int) ⟨(p:Int),o,0⟩=(v,⟨((p+n:Nat):Int),o,0⟩):=by
 obtain ⟨w,rfl⟩:=Int.eq_ofNat_of_zero_le h0;have e:((2 ^ n:Nat):Int)=2 ^ n:=by rw [Int.natCast_pow];rfl
 rw [bits_at T n _ o (by omega) hn (by omega),h.num,Nat.mod_eq_of_lt (by omega)];rfl
theorem pow_half (n m:Nat) (h:m+1≤n):(2:Int) ^ (n - m)=2 ^ (n - 1 - m)*2:=by
 rw [← Int.pow_succ];congr 1;omega
theorem At.code {T:ByteArray} {p n:Nat} {v:Int} (h:At T p (cb v n)) (h0:0≤v) (h1:v < 2 ^ n):∀ m,m≤n → Vn T (p:Int) m=v / 2 ^ (n - m):=by
 intro m
 induction m with
 |zero=>intro _;rw [Nat.sub_zero,Int.ediv_eq_zero_of_lt h0 h1];rfl
 |succ m ih =>
  intro hm;have e:=h m (by rw [cb_len];omega)
  have g:(cb v n).getD m 0=bit v (n - 1 - m):=by
   unfold cb;rw [List.getD_eq_getElem?_getD,List.getElem?_map,List.getElem?_range (by omega)];rfl
  show 2*Vn T p m+bitN T ((p:Int)+m)=_;rw [ih (by omega),show (p:Int)+m=((p+m:Nat):Int) by omega,e,g,pow_half n m hm,← Int.ediv_ediv_of_nonneg (Int.le_of_lt (Int.pow_pos (by decide)))];unfold bit;rw [show n - (m+1)=n - 1 - m by omega];omega
theorem below_code (l:List Int) (i n:Nat) (h0:1≤n) (h:n < 16) (hi:i < l.length) (he:l.getD i 0=n) (m:Nat) (hm:m < n):Gn l m≤codeAt l i / 2 ^ (n - m)∧Sn l m ≠ (syms l).length:=by
 have hs:=symbol_at l i n h0 h hi he;obtain ⟨k,rfl⟩:∃ k,n=k+1:=⟨n - 1,by omega⟩;have hmono:=Gn_mono l m k (by omega);rw [firstC_succ] at hs;have hp:(0:Int) < 2 ^ (k+1 - m):=Int.pow_pos (by decide);refine ⟨?_,?_⟩
 ·rw [Int.le_ediv_iff_mul_le hp,show k+1 - m=(k - m)+1 by omega,Int.pow_succ,← Int.mul_assoc];omega
 ·have h1:=Sn_mono l m k (by omega) (by omega);have h2:=Sn_succ l k (by omega);have h3:=Sn_mono l (k+1) 15 (by omega) (by omega);have h4:=Gn_succ l k;have h5:=syms_Sn l;omega
theorem sym_stage (l : List Int) (he : errOf l = 0) (i n : Nat) (h0 : 1 ≤ n) (h : n ≤ 15) (hi : i < l.length) (hl : l.getD i 0 = n) (T : ByteArray) (hT : T.size ≤ 140737488351232) (p : Nat) (hp : p + n ≤ 8 * T.size) (hV : ∀ m, m ≤ n → Vn T (p : Int) m = codeAt l i / 2 ^ (n - m)) (d : Nat) : ∀ m, m + d = n →
  stageOf l T (p:Int) m=some ((i:Int),((p+n:Nat):Int),0):=by
 have hs:=symbol_at l i n h0 (by omega) hi hl
 induction d with
 |zero =>
  intro m hm;obtain rfl:m=n:=by omega
  have hv:=hV m (Nat.le_refl _);rw [Nat.sub_self,Int.pow_zero,Int.ediv_one] at hv;unfold stageOf;rw [hv,if_pos hs.2.1,hs.2.2];rfl
 |succ d ih =>
  intro m hm;have hb:=below_code l i n h0 (by omega) hi hl m (by omega);rw [stage_step l (errOf_ok l he).1 _ hT _ (by omega) (by omega) m (by omega) (by rw [hV m (by omega)];exact hb.1) hb.2,if_pos (by omega)];exact ih (m+1) (by omega)
theorem next_back (l : List Int) (he : errOf l = 0) (i n : Nat) (h0 : 1 ≤ n) (h : n ≤ 15) (hi : i < l.length) (hl : l.getD i 0 = n) (T : ByteArray) (hT : T.size ≤ 140737488351232) (p : Nat) (hp : p + n ≤ 8 * T.size) (hV : ∀ m, m ≤ n → Vn T (p : Int) m = codeAt l i / 2 ^ (n - m)) (o : List Int) :
  Inf.next l T ⟨(p:Int),o,0⟩=((i:Int),⟨((p+n:Nat):Int),o,0⟩):=by
 have e:nextL l T (p:Int)=((i:Int),((p+n:Nat):Int),0):=by
  unfold nextL;have e1:=sym_stage l he i n h0 h hi hl T hT p hp hV n 0 (by omega);have e0:Sn l 0=0:=rfl;have eV:¬ Vn T (p:Int) 0 < Gn l 0:=by rw [Gn_zero];exact Int.lt_irrefl 0
  have hS:=(below_code l i n h0 (by omega) hi hl 0 (by omega)).2;rw [e0] at hS;rw [nextOf_good l he T _ (by omega),if_neg (by omega)];unfold stageOf at e1;rw [if_neg eV,e0,Gn_zero,if_neg hS,show (p:Int)+((0:Nat):Int)=p by omega] at e1;have e2:nxt (cnts l) (syms l) T 15 (p:Int) 0 0 0=some ((i:Int),((p+n:Nat):Int),0):=e1;rw [e2];rfl
 unfold Inf.next tak;rw [if_pos rfl];simp only [e];rfl
end Go.Proofs.Ytpbhkdamkbopkaa.Bk
namespace Go.Proofs.Ytpbhkdamkbopkaa.Bk
set_option linter.unusedSimpArgs false
set_option linter.unusedVariables false
open Go.RowKit Go.Proofs.Ytpbhkdamkbopkaa.Ext Go.Proofs.Ytpbhkdamkbopkaa.RefP Go.Proofs.Ytpbhkdamkbopkaa.Stage Go.Proofs.Ytpbhkdamkbopkaa.Inf Go.Proofs.YtpbhkdamkbopkaaW.PrintWords Go.Proofs.YtpbhkdamkbopkaaW.PrintLast Go.Proofs.YtpbhkdamkbopkaaW.PrintMore
open Go.Proofs.Ytpbhkdamkbopkaa.Wr (pk pkr put1 pkr_len pk_len pkr_rng pk_rng Bits bit nb nb_succ nb_len nb_bits cb cb_len cb_bits sc sc_bits sc_len rc rc_bits lsym dsym lsym_rng lf df lof dof lof_all dof_all RB rbits run_rng df_rng rc_len)
open Go.Proofs.Ytpbhkdamkbopkaa.Rn (run mlen mlen_spec best best_spec)
theorem LA_len:plainA.length=288:=by unfold plainA;simp
theorem LB_len:plainB.length=32:=by unfold plainB;simp
theorem LA_get (i:Nat) (h:i < 288):plainA.getD i 0=if i < 144 then 8 else if i < 256 then 9 else if i < 280 then 7 else 8:=by
 unfold plainA;simp [List.getD_eq_getElem?_getD,h]
theorem LB_get (i:Nat) (h:i < 32):plainB.getD i 0=5:=by
 unfold plainB;rw [List.getD_eq_getElem?_getD,List.getElem?_replicate,if_pos h];rfl
theorem okLA:okL plainA=true:=by decide +kernel
theorem okLB:okL plainB=true:=by decide +kernel
theorem rankA (n:Nat):∀ i,i≤288 → (idxN plainA n i).length=if n=8 then (if i≤144 then i else if i≤280 then 144 else i - 136) else if n=9 then (if i≤144 then 0 else if i≤256 then i - 144 else 112) else if n=7 then (if i≤256 then 0 else if i≤280 then i - 256 else 24) else 0:=by
 intro i
 induction i with
 |zero=>intro _;simp [idxN]
 |succ i ih =>
  intro hi;rw [idxN_succ,List.length_append,ih (by omega),LA_get i (by omega)];have e:∀ (p:Prop) [Decidable p],(if p then [(i:Int)] else []).length=if p then 1 else 0:=fun p _=>by split <;> rfl
  rw [e];by_cases h1:i < 144
  ·simp only [if_pos h1];(repeat' split) <;> omega
  ·by_cases h2:i < 256
   ·simp only [if_neg h1,if_pos h2];(repeat' split) <;> omega
   ·by_cases h3:i < 280
    ·simp only [if_neg h1,if_neg h2,if_pos h3];(repeat' split) <;> omega
    ·simp only [if_neg h1,if_neg h2,if_neg h3];(repeat' split) <;> omega
theorem rankB:∀ i,i≤32 → (idxN plainB 5 i).length=i:=by
 intro i
 induction i with
 |zero=>intro _;simp [idxN]
 |succ i ih =>
  intro hi;rw [idxN_succ,List.length_append,ih (by omega),LB_get i (by omega),if_pos (by rfl)];rfl
theorem firstA7:firstC plainA 7=0:=by decide +kernel
theorem firstA8:firstC plainA 8=48:=by decide +kernel
theorem firstA9:firstC plainA 9=400:=by decide +kernel
theorem firstB5:firstC plainB 5=0:=by decide +kernel
theorem codeA (c:Nat) (h:c < 288):(codesOf plainA).getD c 0=if c < 144 then 48+(c:Int) else if c < 256 then 400+(c:Int) - 144 else if c < 280 then (c:Int) - 256 else 192+(c:Int) - 280:=by
 have hg:=LA_get c h
 have e:(codesOf plainA).getD c 0=if plainA.getD c 0≤0 then 0 else codeAt plainA c:=by
  rw [List.getD_eq_getElem?_getD];unfold codesOf;simp [LA_len,h]
 rw [e];by_cases h1:c < 144
 ·rw [if_pos h1] at hg;rw [hg,if_neg (by decide),if_pos h1];unfold codeAt;rw [rank_n plainA c 8 hg,hg,rankA 8 c (by omega),if_pos rfl,if_pos (by omega),show (8:Int).toNat=8 from rfl,firstA8]
 by_cases h2:c < 256
 ·rw [if_neg h1,if_pos h2] at hg;rw [hg,if_neg (by decide),if_neg h1,if_pos h2];unfold codeAt;rw [rank_n plainA c 9 hg,hg,rankA 9 c (by omega),if_neg (by decide),if_pos rfl,show (9:Int).toNat=9 from rfl,firstA9]
  split
  ·omega
  ·rw [if_pos (by omega)];omega
 by_cases h3:c < 280;rotate_left
 ·rw [if_neg h1,if_neg h2,if_neg h3] at hg;rw [hg,if_neg (by decide),if_neg h1,if_neg h2,if_neg h3];unfold codeAt;rw [rank_n plainA c 8 hg,hg,rankA 8 c (by omega),if_pos rfl,show (8:Int).toNat=8 from rfl,firstA8,if_neg (by omega)]
  split <;> omega
 rw [if_neg h1,if_neg h2,if_pos h3] at hg;rw [hg,if_neg (by decide),if_neg h1,if_neg h2,if_pos h3];unfold codeAt;rw [rank_n plainA c 7 hg,hg,rankA 7 c (by omega),if_neg (by decide),if_neg (by decide),if_pos rfl,show (7:Int).toNat=7 from rfl,firstA7]
 split
 ·omega
 ·rw [if_pos (by omega)];omega
theorem codeB (c:Nat) (h:c < 32):(codesOf plainB).getD c 0=(c:Int):=by
 have hg:=LB_get c h
 have e:(codesOf plainB).getD c 0=if plainB.getD c 0≤0 then 0 else codeAt plainB c:=by
  rw [List.getD_eq_getElem?_getD];unfold codesOf;simp [LB_len,h]
 rw [e,hg,if_neg (by decide)];unfold codeAt;rw [rank_n plainB c 5 hg,hg,rankB c (by omega),show (5:Int).toNat=5 from rfl,firstB5];omega
theorem df_at (n:Int) (hn:1≤n):∀ k,k≤30 → ∃ m:Nat,m < 30∧df n k=((m:Int),dof m):=by
 intro k
 induction k with
 |zero=>intro _;exact ⟨0,by decide,by show (0,1,0)=_;decide +kernel⟩
 |succ k ih =>
  intro hk;unfold df
  split
  ·exact ⟨k,by omega,rfl⟩
  ·exact ih (by omega)
theorem errA:errOf plainA=0:=by decide +kernel
theorem errB:errOf plainB=0:=by decide +kernel
theorem codesOf_at (l:List Int) (c:Nat) (h:c < l.length) (h0:0 < l.getD c 0):(codesOf l).getD c 0=codeAt l c:=by
 rw [List.getD_eq_getElem?_getD];unfold codesOf;rw [List.getElem?_map,List.getElem?_range h];show (if l.getD c 0≤0 then 0 else codeAt l c)=_;rw [if_neg (by omega)]
/-- A fixed code's length. -/
def wA (c:Nat):Nat:=if c < 144 then 8 else if c < 256 then 9 else if c < 280 then 7 else 8
theorem lenA (c:Nat) (h:c < 288):plainA.getD c 0=(wA c:Nat):=by
 rw [LA_get c h];unfold wA;(repeat' split) <;> rfl
theorem wA_rng (c:Nat):7≤wA c∧wA c≤9:=by unfold wA;(repeat' split) <;> omega
theorem sc_is (c:Nat) (h:c < 288):sc (c:Int)=cb (codeAt plainA c) (wA c)∧0≤codeAt plainA c∧codeAt plainA c < 2 ^ wA c:=by
 have e:=codesOf_at plainA c (by rw [LA_len];exact h) (by rw [lenA c h];have:=wA_rng c;omega);rw [codeA c h] at e;rw [← e];unfold sc wA;by_cases h1:c < 144
 ·rw [if_pos h1,if_pos h1,if_pos (by omega)];exact ⟨rfl,by omega,by omega⟩
 ·by_cases h2:c < 256
  ·rw [if_neg h1,if_neg h1,if_pos h2,if_pos h2,if_neg (by omega),if_pos (by omega)];exact ⟨rfl,by omega,by omega⟩
  ·by_cases h3:c < 280
   ·rw [if_neg h1,if_neg h1,if_neg h2,if_neg h2,if_pos h3,if_pos h3,if_neg (by omega),if_neg (by omega),if_pos (by omega)];exact ⟨rfl,by omega,by omega⟩
   ·rw [if_neg h1,if_neg h1,if_neg h2,if_neg h2,if_neg h3,if_neg h3,if_neg (by omega),if_neg (by omega),if_neg (by omega)];exact ⟨rfl,by omega,by omega⟩
theorem sc_lenA (c:Nat) (h:c < 288):(sc (c:Int)).length=wA c:=by rw [(sc_is c h).1,cb_len]
theorem nextA_back {T : ByteArray} {p c : Nat} {o : List Int} (h : At T p (sc (c : Int))) (hc : c < 288) (hT : T.size ≤ 140737488351232) (hp : p + (sc (c : Int)).length ≤ 8 * T.size) :
  Inf.next plainA T ⟨(p:Int),o,0⟩=((c:Int),⟨((p+(sc (c:Int)).length:Nat):Int),o,0⟩):=by
 obtain ⟨e,h0,h1⟩:=sc_is c hc;have hw:=wA_rng c;have hl:=sc_lenA c hc;rw [hl] at hp ⊢;rw [e] at h;exact next_back plainA errA c (wA c) (by omega) (by omega) (by rw [LA_len];exact hc) (lenA c hc) T hT p hp (h.code h0 h1) o
theorem nextB_back {T : ByteArray} {p c : Nat} {o : List Int} (h : At T p (cb (c : Int) 5)) (hc : c < 32) (hT : T.size ≤ 140737488351232) (hp : p + 5 ≤ 8 * T.size) :
  Inf.next plainB T ⟨(p:Int),o,0⟩=((c:Int),⟨((p+5:Nat):Int),o,0⟩):=by
 have e:=codesOf_at plainB c (by rw [LB_len];exact hc) (by rw [LB_get c hc];decide);rw [codeB c hc] at e;refine next_back plainB errB c 5 (by decide) (by decide) (by rw [LB_len];exact hc) (LB_get c hc) T hT p hp ?_ o;rw [← e];exact h.code (by omega) (by show (c:Int) < 32;omega)
theorem lsym_all:∀ n:Nat,n < 259 → 3≤n → 257≤(lsym n).1∧(lsym n).1≤285∧lenM.getD ((lsym n).1 - 257).toNat 0=(lsym n).2.2∧lenB.getD ((lsym n).1 - 257).toNat 0=(lsym n).2.1∧0≤(n:Int) - (lsym n).2.1∧(n:Int) - (lsym n).2.1 < 2 ^ (lsym n).2.2.toNat∧0≤(lsym n).2.2∧(lsym n).2.2≤5:=by decide +kernel
theorem dof_tab:∀ k:Nat,k < 30 → disM.getD k 0=(dof k).2∧disB.getD k 0=(dof k).1∧(dof k).1+2 ^ (dof k).2.toNat=(if k=29 then 32769 else (dof (k+1)).1):=by decide +kernel
theorem df_lim (n:Int) (hn:1≤n):∀ k,k≤30 → n < (if k=30 then 32769 else (dof k).1) → n - (df n k).2.1 < 2 ^ (df n k).2.2.toNat:=by
 intro k
 induction k with
 |zero =>
  intro _ h;have e:(dof 0).1=1:=by decide +kernel
  rw [if_neg (by decide),e] at h;omega
 |succ k ih =>
  intro hk h;unfold df;by_cases c:(dof k).1≤n;rotate_left
  ·rw [if_neg c];refine ih (by omega) ?_;rw [if_neg (by omega)];omega
  rw [if_pos c];obtain ⟨_,_,e⟩:=dof_tab k (by omega);simp only;by_cases c2:k=29
  ·rw [if_pos c2] at e;rw [if_pos (by omega)] at h;omega
  ·rw [if_neg c2] at e;rw [if_neg (by omega)] at h;omega
theorem dsym_all (f:Int) (h1:1≤f) (h2:f≤32768):∃ c:Nat,c < 30∧(dsym f).1=c∧disM.getD c 0=(dsym f).2.2∧disB.getD c 0=(dsym f).2.1∧0≤f - (dsym f).2.1∧f - (dsym f).2.1 < 2 ^ (dsym f).2.2.toNat∧0≤(dsym f).2.2∧(dsym f).2.2≤13:=by
 obtain ⟨m,hm,e⟩:=df_at f h1 30 (Nat.le_refl _);have hr:=df_rng h1 30 (Nat.le_refl _);have hl:=df_lim f h1 30 (Nat.le_refl _) (by rw [if_pos rfl];omega);obtain ⟨t1,t2,_⟩:=dof_tab m hm;unfold dsym;rw [e] at hr hl ⊢;exact ⟨m,hm,rfl,t1,t2,by omega,hl,by omega,by omega⟩
theorem far_back {T : ByteArray} {mx : Int} {p : Nat} {o : List Int} (n f : Nat) (hn0 : 3 ≤ n) (hn1 : n ≤ 258) (hf0 : 1 ≤ f) (hf1 : f ≤ 32768) (hT : T.size ≤ 140737488351232)
  (h:At T p (nb ((n:Int) - (lsym n).2.1) (lsym n).2.2.toNat ++ (cb (dsym f).1 5 ++ nb ((f:Int) - (dsym f).2.1) (dsym f).2.2.toNat)))
  (hp:p+((lsym n).2.2.toNat+(5+(dsym f).2.2.toNat))≤8*T.size) :
  Inf.far T mx plainB ⟨(p:Int),o,0⟩ (lsym n).1=Inf.copy mx ⟨((p+((lsym n).2.2.toNat+(5+(dsym f).2.2.toNat)):Nat):Int),o,0⟩ n f:=by
 obtain ⟨l1,l2,l3,l4,l5,l6,l7,l8⟩:=lsym_all n (by omega) hn0;obtain ⟨c,d1,d2,d3,d4,d5,d6,d7,d8⟩:=dsym_all f (by omega) (by omega);generalize lsym n=L at *;generalize dsym f=D at *;have b1:=bits_back (o:=o) h.left l5 l6 (by omega) (by omega);rw [Int.toNat_of_nonneg l7] at b1;have h2:=h.right;rw [nb_len] at h2;rw [d2] at h2;have b2:=nextB_back (o:=o) h2.left (by omega) hT (by omega);have h3:=h2.right;rw [cb_len] at h3;have b3:=bits_back (o:=o) h3 d5 d6 (by omega) (by omega);rw [Int.toNat_of_nonneg d7] at b3;unfold far;simp only;rw [l3,b1];simp only;rw [b2];simp only;have hx:¬ (True∧(c:Int) ≥ 30):=fun h=>absurd h.2 (by omega);rw [if_neg hx];simp only;rw [if_pos trivial,Int.toNat_natCast,d3,b3];simp only;rw [if_pos trivial,l4,d4]
 congr 1
 ·congr 1;omega
 ·omega
 ·omega
theorem pre_len (s:ByteArray) (i:Nat) (h:i≤s.size):((bytesOf s).take i).length=i:=by rw [List.length_take,bytesOf_length];omega
theorem pre_get (s:ByteArray) (i j:Nat) (h:j < i) (hi:i≤s.size):((bytesOf s).take i).getD j 0=bt s (j:Int):=by
 rw [← rd_bytesOf];unfold rd;rw [List.getD_eq_getElem?_getD,List.getD_eq_getElem?_getD,List.getElem?_take,if_pos h,Int.toNat_natCast]
theorem pre_next (s:ByteArray) (i:Nat) (h:i < s.size):(bytesOf s).take (i+1)=(bytesOf s).take i ++ [bt s (i:Int)]:=by
 rw [List.take_succ_eq_append_getElem (by rw [bytesOf_length];exact h),← rd_bytesOf];unfold rd;rw [List.getD_eq_getElem?_getD,Int.toNat_natCast,List.getElem?_eq_getElem (by rw [bytesOf_length];exact h)];rfl
theorem again_back (s:ByteArray) (i d:Nat) (h0:1≤d) (h1:d≤i):∀ n,i+n≤s.size → (∀ t,t < n → bt s ((i+t:Nat):Int)=bt s ((i - d+t:Nat):Int)) → Inf.again ((bytesOf s).take i) d n=(bytesOf s).take (i+n):=by
 intro n
 induction n with
 |zero=>intro _ _;rfl
 |succ n ih =>
  intro hn h;unfold again;rw [ih (by omega) (fun t ht=>h t (by omega)),pre_len s (i+n) (by omega),pre_get s (i+n) (i+n - d) (by omega) (by omega),← Nat.add_assoc,pre_next s (i+n) (by omega),h n (by omega)]
  congr 4
  omega
theorem rc_split (n f:Int):rc n f=sc (lsym n).1 ++ (nb (n - (lsym n).2.1) (lsym n).2.2.toNat ++ (cb (dsym f).1 5 ++ nb (f - (dsym f).2.1) (dsym f).2.2.toNat)):=by
 unfold rc;rw [List.append_assoc,List.append_assoc]
theorem run_back (s:ByteArray) (i:Nat) (hi:i≤s.size) (hr:(run s i).1 ≠ 0):∀ t,t < (run s i).1 → bt s ((i+t:Nat):Int)=bt s ((i - (run s i).2+t:Nat):Int):=by
 obtain ⟨b0,b1⟩:=best_spec s i (min i 32768);unfold run at hr ⊢;generalize best s i (min i 32768)=q at *;unfold Rn.fin at hr ⊢;by_cases c:q.1 < 3
 ·rw [if_pos c] at hr;exact absurd rfl hr
 ·rw [if_neg c]
  rcases b1 with ⟨z,_⟩ | ⟨_,_,e,_,_⟩
  ·omega
  ·rw [← e];exact (mlen_spec hi).2.2.1
theorem codes_back (T s : ByteArray) (mx : Int) (hm : (s.size : Int) ≤ mx) (hT : T.size ≤ 140737488351232) (m : Nat) : ∀ i p k, s.size ≤ i + m → i ≤ s.size → At T p (rbits s m i ++ sc 256) → p + (rbits s m i ++ sc 256).length ≤ 8 * T.size → (rbits s m i).length + 1 ≤ k →
  Inf.codes T mx plainA plainB k ⟨(p:Int),(bytesOf s).take i,0⟩=⟨((p+(rbits s m i ++ sc 256).length:Nat):Int),bytesOf s,0⟩:=by
 have hend : ∀ i p k, s.size ≤ i → i ≤ s.size → At T p (sc 256) → p + (sc 256).length ≤ 8 * T.size → 1 ≤ k →
   Inf.codes T mx plainA plainB k ⟨(p:Int),(bytesOf s).take i,0⟩=⟨((p+(sc 256).length:Nat):Int),bytesOf s,0⟩:=by
  intro i p k h0 h1 hA hp hk;obtain ⟨k1,rfl⟩:∃ k1,k=k1+1:=⟨k - 1,by omega⟩;have e:=nextA_back (T:=T) (p:=p) (c:=256) (o:=(bytesOf s).take i) hA (by decide) hT hp
  have e1:Inf.one T mx plainA plainB ⟨(p:Int),(bytesOf s).take i,0⟩=(true,⟨((p+(sc 256).length:Nat):Int),(bytesOf s).take i,0⟩):=by
   unfold one;rw [e];simp only;exact if_pos (.inr rfl)
  unfold Inf.codes;rw [if_pos rfl,e1,if_pos rfl,List.take_of_length_le (by rw [bytesOf_length];omega)]
 induction m with
 |zero =>
  intro i p k h0 h1 hA hp hk;have e:rbits s 0 i ++ sc 256=sc 256:=rfl;rw [e] at hA hp ⊢;exact hend i p k (by omega) h1 hA hp (by omega)
 |succ m ih =>
  intro i p k h0 h1 hA hp hk;by_cases c:i < s.size;rotate_left
  ·have e : rbits s (m + 1) i = [] := by
    show (if i < s.size then _ else _)=_;rw [if_neg c]
   rw [e,List.nil_append] at hA hp ⊢;exact hend i p k (by omega) h1 hA hp (by omega)
  obtain ⟨k1,rfl⟩:∃ k1,k=k1+1:=⟨k - 1,by omega⟩;have hb:=bt_range s (i:Int);by_cases c2:(run s i).1=0
  ·have e : rbits s (m + 1) i = sc (bt s (i : Int)) ++ rbits s m (i + 1) := by
    show (if i < s.size then (if (run s i).1=0 then _ else _) else _)=_;rw [if_pos c,if_pos c2]
   rw [e] at hA hp hk ⊢;rw [List.append_assoc] at hA hp ⊢;obtain ⟨b,hbb⟩:∃ b:Nat,bt s (i:Int)=b:=⟨(bt s (i:Int)).toNat,by omega⟩;rw [hbb] at hA hp hk ⊢;have hw:=sc_lenA b (by omega);have hw2:=wA_rng b;rw [List.length_append] at hp hk ⊢;have e1:=nextA_back (o:=(bytesOf s).take i) hA.left (by omega) hT (by omega)
   have e2:Inf.one T mx plainA plainB ⟨(p:Int),(bytesOf s).take i,0⟩=(false,⟨((p+(sc (b:Int)).length:Nat):Int),(bytesOf s).take (i+1),0⟩):=by
    unfold one;rw [e1];simp only;rw [if_neg (by omega),if_pos (by omega),if_neg (by rw [pre_len s i h1];omega),pre_next s i c,hbb,Int.emod_eq_of_lt (by omega) (by omega)]
   have e3:=ih (i+1) (p+(sc (b:Int)).length) k1 (by omega) (by omega) hA.right (by omega) (by omega);unfold Inf.codes;rw [if_pos rfl,e2];simp only;rw [if_neg (by decide),e3];exact congrArg (fun q:Nat=>(⟨(q:Int),bytesOf s,0⟩:St)) (by omega)
  ·have e : rbits s (m + 1) i = rc ((run s i).1 : Nat) ((run s i).2 : Nat) ++ rbits s m (i + (run s i).1) := by
    show (if i < s.size then (if (run s i).1=0 then _ else _) else _)=_;rw [if_pos c,if_neg c2]
   have hr:=run_rng s i h1;have hbk:=run_back s i h1 c2;rw [e] at hA hp hk ⊢;generalize run s i=r at *;obtain ⟨n,f⟩:=r;simp only at *;(obtain ⟨r1,r2,r3,r4,r5,r6⟩:3≤n∧n≤258∧1≤f∧f≤i∧f≤32768∧i+n≤s.size:=by omega);obtain ⟨l1,l2,_⟩:=lsym_all n (by omega) r1;obtain ⟨y,hy⟩:∃ y:Nat,(lsym (n:Int)).1=y:=⟨((lsym (n:Int)).1).toNat,by omega⟩;have hrc:=rc_split (n:Int) (f:Int)
   have hrl:(rc (n:Int) (f:Int)).length=(sc (y:Int)).length+((lsym (n:Int)).2.2.toNat+(5+(dsym (f:Int)).2.2.toNat)):=by
    rw [hrc,hy];simp only [List.length_append,nb_len,cb_len]
   rw [List.append_assoc] at hA hp ⊢;rw [List.length_append] at hp hk ⊢;have hA2:=hA.left;rw [hrc,hy] at hA2;have hw:=sc_lenA y (by omega);have hw2:=wA_rng y;have e1:=nextA_back (o:=(bytesOf s).take i) hA2.left (by omega) hT (by omega);have e4:=far_back (mx:=mx) (o:=(bytesOf s).take i) n f r1 r2 r3 r5 hT hA2.right (by omega);rw [hy] at e4
   have e5:Inf.copy mx ⟨((p+(sc (y:Int)).length+((lsym (n:Int)).2.2.toNat+(5+(dsym (f:Int)).2.2.toNat)):Nat):Int),(bytesOf s).take i,0⟩ n f=⟨((p+(rc (n:Int) (f:Int)).length:Nat):Int),(bytesOf s).take (i+n),0⟩:=by
    unfold copy;rw [if_pos (by rw [pre_len s i h1];omega),if_pos (by rw [pre_len s i h1];omega)];simp only;rw [Int.toNat_natCast,Int.toNat_natCast,again_back s i f r3 r4 n r6 hbk,hrl];exact congrArg (fun q:Nat=>(⟨(q:Int),(bytesOf s).take (i+n),0⟩:St)) (by omega)
   rw [e5] at e4
   have e2:Inf.one T mx plainA plainB ⟨(p:Int),(bytesOf s).take i,0⟩=(false,⟨((p+(rc (n:Int) (f:Int)).length:Nat):Int),(bytesOf s).take (i+n),0⟩):=by
    unfold one;rw [e1];simp only;rw [if_neg (by omega),if_neg (by omega),if_neg (by omega),e4]
   have e3:=ih (i+n) (p+(rc (n:Int) (f:Int)).length) k1 (by omega) (by omega) hA.right (by omega) (by omega);unfold Inf.codes;rw [if_pos rfl,e2];simp only;rw [if_neg (by decide),e3];exact congrArg (fun q:Nat=>(⟨(q:Int),bytesOf s,0⟩:St)) (by omega)
theorem rbits_bits (s:ByteArray):∀ m i,Bits (rbits s m i):=by
 intro m
 induction m with
 |zero=>intro i b hb;simp [rbits] at hb
 |succ m ih =>
  intro i;unfold rbits
  split
  ·split
   ·exact (sc_bits _).append (ih _)
   ·exact (rc_bits _ _).append (ih _)
  ·intro b hb;simp at hb
theorem RB_bits (s:ByteArray):Bits (RB s):=by
 unfold RB;refine Bits.append (Bits.append (Bits.append ?_ (nb_bits _ _)) (rbits_bits s _ _)) (sc_bits _);intro b hb;simp at hb;omega
theorem RB_split (s:ByteArray):RB s=nb 1 1 ++ (nb 1 2 ++ (rbits s s.size 0 ++ sc 256)):=by
 unfold RB;rw [List.append_assoc,List.append_assoc];rfl
/-- THE STAGE'S THEOREM,in plain: what is packed is unpacked to what it was,whatever stands behind. -/
theorem raw_back (s X : ByteArray) (mx : Int) (hm : (s.size : Int) ≤ mx) (h1 : mx ≤ 262144) (hT : (strOfNums (pk (RB s)) ++ X).size ≤ 140737488351232) :
  raw (strOfNums (pk (RB s)) ++ X) mx=(s,((strOfNums (pk (RB s))).size:Int),0):=by
 have hA:=at_pk (RB s) (RB_bits s) X;have hz:(RB s).length≤8*(strOfNums (pk (RB s)) ++ X).size:=by rw [ByteArray.size_append,pk_size];omega
 have hq:=pk_size (RB s);generalize strOfNums (pk (RB s))=Q at *;generalize hQ:Q ++ X=T at *
 have hl:(RB s).length=1+(2+(rbits s s.size 0 ++ sc 256).length):=by
  rw [RB_split,List.length_append,List.length_append,nb_len,nb_len]
 rw [RB_split] at hA;have hA2:=hA.right;rw [nb_len] at hA2;have hA3:=hA2.right;rw [nb_len] at hA3;have b1:=bits_back (v:=1) (n:=1) (o:=[]) hA.left (by decide) (by decide) (by decide) (by omega);have b2:=bits_back (v:=1) (n:=2) (o:=[]) hA2.left (by decide) (by decide) (by decide) (by omega)
 have b3:=codes_back T s mx hm hT s.size 0 3 (left T ⟨((0+1+2:Nat):Int),[],0⟩) (by omega) (by omega) hA3 (by omega) (by
  unfold left;rw [List.length_append] at hl;have:=sc_lenA 256 (by decide);show _≤(8*(T.size:Int)+1 - 3).toNat+1;omega)
 have e1:block T mx ⟨0,[],0⟩=(true,⟨((RB s).length:Int),bytesOf s,0⟩):=by
  unfold block;simp only;rw [show (⟨0,[],0⟩:St)=⟨((0:Nat):Int),[],0⟩ from rfl,show (1:Int)=((1:Nat):Int) from rfl,b1];simp only;rw [show (2:Int)=((2:Nat):Int) from rfl,b2];simp only;rw [if_neg (by decide),if_pos (show (1:Int)=((1:Nat):Int) from rfl)];unfold both table fail;rw [errA,errB];simp only [if_true];rw [show (bytesOf s).take 0=[] from rfl] at b3;have e3:((0+1+2:Nat):Int)=((3:Nat):Int):=rfl;rw [e3] at b3 ⊢;rw [b3];exact congrArg (fun q:Int=>(true,(⟨q,bytesOf s,0⟩:St))) (by omega)
 have er:run0 T mx=⟨((RB s).length:Int),bytesOf s,0⟩:=by
  unfold run0;show blocks T mx (8*T.size+1+1) _=_;unfold blocks;rw [e1];exact if_pos rfl
 rw [raw_is _ _ ⟨by omega,h1⟩,er];simp only;rw [if_pos trivial,strOfNums_bytes];exact congrArg (fun q:Int=>(s,q,(0:Int))) (by omega)
/-- What is packed is not longer than it may be. -/
theorem rc_short (n f:Nat) (hn0:3≤n) (hn1:n≤258) (hf0:1≤f) (hf1:f≤32768):(rc (n:Int) (f:Int)).length≤9*n:=by
 obtain ⟨l1,l2,l3,l4,l5,l6,l7,l8⟩:=lsym_all n (by omega) hn0;obtain ⟨c,d1,d2,d3,d4,d5,d6,d7,d8⟩:=dsym_all f (by omega) (by omega);obtain ⟨y,hy⟩:∃ y:Nat,(lsym (n:Int)).1=y:=⟨((lsym (n:Int)).1).toNat,by omega⟩;have hw:=sc_lenA y (by omega);have hw8:wA y≤8:=by unfold wA;(repeat' split) <;> omega
 rw [rc_split,hy];simp only [List.length_append,nb_len,cb_len]
 rcases Nat.lt_or_ge n 4 with h | h
 ·obtain rfl:n=3:=by omega
  have e:(lsym ((3:Nat):Int))=(257,3,0):=by decide +kernel
  rw [e] at hy l7 ⊢;have hy2:y=257:=by simp only at hy;omega
  have:wA 257=7:=by decide
  subst hy2;show _+(0+_)≤_;omega
 ·omega
theorem rbits_short (s:ByteArray):∀ m i,i≤s.size → (rbits s m i).length≤9*(s.size - i):=by
 intro m
 induction m with
 |zero=>intro i _;simp [rbits]
 |succ m ih =>
  intro i hi;unfold rbits;have hr:=run_rng s i hi;by_cases c:i < s.size;rotate_left
  ·rw [if_neg c];simp
  rw [if_pos c];by_cases hz:(run s i).1=0
  ·rw [if_pos hz,List.length_append];have h1:=ih (i+1) (by omega);have h2:=sc_len (bt s (i:Int));omega
  ·rw [if_neg hz,List.length_append];have h1:=ih (i+(run s i).1) (by omega);have h2:=rc_short (run s i).1 (run s i).2 (by omega) (by omega) (by omega) (by omega);omega
theorem RB_short (s:ByteArray):(RB s).length≤9*s.size+10:=by
 have h:=rbits_short s s.size 0 (by omega);have e2:(sc 256).length=7:=by decide
 rw [RB_split,List.length_append,List.length_append,List.length_append,nb_len,nb_len,e2];omega
end Go.Proofs.Ytpbhkdamkbopkaa.Bk
set_option linter.unusedSimpArgs false
set_option linter.unusedVariables false
namespace Go.Proofs.Ytpbhkdamkbopkaa.OpenB
open Go.RowKit Go.Proofs.Ytpbhkdamkbopkaa.Ext Go.Proofs.Ytpbhkdamkbopkaa.GBack2 Go.Proofs.Ytpbhkdamkbopkaa.Wr2 Go.Proofs.Ytpbhkdamkbopkaa.Inf Go.Proofs.YtpbhkdamkbopkaaW.PrintWords Go.Proofs.YtpbhkdamkbopkaaW.PrintLast
theorem raw_f (s:ByteArray) (mx:Int) (hs:s.size≤17592186044416):inflate_Raw.f s mx=some (raw s mx):=by unfold inflate_Raw.f;rw [if_pos hs]
theorem behind (a b:ByteArray) (n m:Nat) (hn:n=a.size) (hm:m=(a ++ b).size):(a ++ b).extract n m=b:=by
 subst hn;subst hm;rw [ByteArray.size_append];exact ByteArray.extract_append_eq_right rfl rfl
theorem d1:Go.bits .and .u8 120 15=8:=by decide +kernel
theorem d2:¬ ((120:Int) / 16 > 7):=by decide +kernel
theorem d3:Int.tmod (Go.bits .or .i64 (wrap64 (wrap64 120*256)) (wrap64 156)) 31=0:=by decide +kernel
theorem d4:Go.bits .and .u8 156 32=0:=by decide +kernel
theorem or_four (b0 b1 b2 b3 : Int) (h0 : 0 ≤ b0 ∧ b0 ≤ 255) (h1 : 0 ≤ b1 ∧ b1 ≤ 255) (h2 : 0 ≤ b2 ∧ b2 ≤ 255) (h3 : 0 ≤ b3 ∧ b3 ≤ 255) :
  Go.bits .or .i64 (Go.bits .or .i64 (Go.bits .or .i64 (wrap64 (wrap64 b0*16777216)) (wrap64 (wrap64 b1*65536))) (wrap64 (wrap64 b2*256))) (wrap64 b3)=b0*16777216+b1*65536+b2*256+b3:=by
 have W:∀ n:Int,0≤n → n < 2 ^ 40 → IntKind.i64.wrap n=n:=fun n h0 h1=>by
  rw [IntKind.wrap_i64];have:(2:Int) ^ 40=1099511627776:=by decide
  omega
 rw [wrap_in (n:=b0) (by omega) (by omega),wrap_in (n:=b1) (by omega) (by omega),wrap_in (n:=b2) (by omega) (by omega),wrap_in (n:=b3) (by omega) (by omega),
  wrap_in (n:=b0*16777216) (by omega) (by omega),wrap_in (n:=b1*65536) (by omega) (by omega),wrap_in (n:=b2*256) (by omega) (by omega)]
 rw [Go.bits_join .i64 40 (by decide) W 24 (b0*16777216) (b1*65536) (by omega) (by omega) (by omega) (by omega) (by omega) (by omega)];rw [Go.bits_join .i64 40 (by decide) W 16 (b0*16777216+b1*65536) (b2*256) (by omega) (by omega) (by omega) (by omega) (by omega) (by omega)];rw [Go.bits_join .i64 40 (by decide) W 8 (b0*16777216+b1*65536+b2*256) b3 (by omega) (by omega) (by omega) (by omega) (by omega) (by omega)]
/-- Bytes that are wrapped: their sum's four bytes behind them. -/
theorem open_is (k : Nat) (body tail out : ByteArray) (mx v : Int) (b0 b1 b2 b3 : Int) (h0 : 0 ≤ b0 ∧ b0 ≤ 255) (h1 : 0 ≤ b1 ∧ b1 ≤ 255) (h2 : 0 ≤ b2 ∧ b2 ≤ 255) (h3 : 0 ≤ b3 ∧ b3 ≤ 255) (ht : tail = strOfNums [b0, b1, b2, b3])
  (hm:0≤mx∧mx≤262144) (hs:body.size≤1000000000) (hr:raw (body ++ tail) mx=(out,(body.size:Int),0)) (hv:adler_Sum.f k out=some v) :
  inflate_Open.f (k+1) ((⟨#[120,156]⟩ ++ body) ++ tail) mx=some (if b0*16777216+b1*65536+b2*256+b3=v then (out,0) else (⟨#[]⟩,5)):=by
 have e4:tail.size=4:=by rw [ht];rfl
 have hl:∀ x ∈ [b0,b1,b2,b3],0≤x∧x≤255:=by
  intro x hx;simp only [List.mem_cons,List.not_mem_nil,or_false] at hx
  rcases hx with rfl | rfl | rfl | rfl <;> assumption
 have t0:bt tail 0=b0:=by rw [ht];exact bt_nums _ hl 0 (by decide:0 < 4)
 have t1:bt tail 1=b1:=by rw [ht];exact bt_nums _ hl 1 (by decide:1 < 4)
 have t2:bt tail 2=b2:=by rw [ht];exact bt_nums _ hl 2 (by decide:2 < 4)
 have t3:bt tail 3=b3:=by rw [ht];exact bt_nums _ hl 3 (by decide:3 < 4)
 have z2:(⟨#[120,156]⟩:ByteArray).size=2:=rfl;have eA:((⟨#[120,156]⟩:ByteArray) ++ body) ++ tail=⟨#[120,156]⟩ ++ (body ++ tail):=ByteArray.append_assoc;obtain ⟨s,hS⟩:∃ s:ByteArray,s=((⟨#[120,156]⟩:ByteArray) ++ body) ++ tail:=⟨_,rfl⟩;have zs:s.size=2+body.size+4:=by rw [hS,ByteArray.size_append,ByteArray.size_append,z2,e4]
 have c0:bt s 0=120:=by rw [hS,eA,bt_left _ _ 0 (by decide) (by rw [z2];decide)];rfl
 have c1:bt s 1=156:=by rw [hS,eA,bt_left _ _ 1 (by decide) (by rw [z2];decide)];rfl
 have x1:s.extract 2 s.size=body ++ tail:=by rw [hS,eA];exact behind _ _ _ _ rfl rfl
 have x2:s.extract (2+body.size) s.size=tail:=by rw [hS];exact behind _ _ _ _ (by rw [ByteArray.size_append,z2]) rfl
 have wn:Aside0 (wrap64 (2+(body.size:Int))=((2+body.size:Nat):Int)):=⟨by rw [wrap_in (by omega) (by omega)];omega⟩;rw [← hS];clear hS eA ht;unfold inflate_Open.f;rw [if_neg (by omega),decide_eq_false (by omega),inflate_Open.j0,if_neg (by decide),if_neg (by omega),if_pos (by omega),c0,if_pos d1,if_neg d2,if_pos (by omega),c1,if_pos d3,if_pos d4,if_pos (by omega),x1,raw_f _ _ (by rw [ByteArray.size_append];omega),hr,Option.bind_some];simp only;rw [if_pos trivial,wn.out,if_pos (by omega),if_pos (by omega),Int.toNat_natCast,x2,e4,if_neg (by decide),if_pos (by decide),if_pos (by decide),if_pos (by decide),if_pos (by decide),hv,Option.bind_some,t0,t1,t2,t3,or_four b0 b1 b2 b3 h0 h1 h2 h3];by_cases c:b0*16777216+b1*65536+b2*256+b3=v
 ·rw [if_pos c,if_pos c,if_neg (by decide)]
 ·rw [if_neg c,if_neg c]
end Go.Proofs.Ytpbhkdamkbopkaa.OpenB
set_option linter.unusedSimpArgs false
set_option linter.unusedVariables false
namespace Go.Proofs.Ytpbhkdamkbopkaa.ASumB
open Go.RowKit Go.Proofs.Ytpbhkdamkbopkaa.GBack2 Go.Proofs.YtpbhkdamkbopkaaW.PrintWords Go.Proofs.YtpbhkdamkbopkaaW.PrintLast Go.Proofs.YtpbhkdamkbopkaaW.PrintMore
/-- A byte more. -/
def stp (p:Int × Int) (c:Int):Int × Int:=((p.1+c) % 65521,(p.2+(p.1+c) % 65521) % 65521)
def run (p:Int × Int) (l:List Int):Int × Int:=l.foldl stp p
def bts (s:ByteArray):List Int:=s.data.toList.map fun c=>(c.toNat:Int)
def fin (p:Int × Int):Int:=p.2*65536+p.1
def Rng (p:Int × Int):Prop:=0≤p.1∧p.1 < 65521∧0≤p.2∧p.2 < 65521
theorem bts_length (s:ByteArray):(bts s).length=s.size:=by unfold bts;rw [List.length_map,Array.length_toList];rfl
theorem bts_get (s:ByteArray) (i:Nat) (h:i < s.size):(bts s)[i]'(by rw [bts_length];exact h)=bt s i:=by
 have h2:(Int.toNat (i:Int)) < s.size:=by simpa using h
 unfold bt;rw [dif_pos h2];simp [bts];rfl
theorem bts_drop (s:ByteArray) (i:Nat) (h:i < s.size):(bts s).drop i=bt s i :: (bts s).drop (i+1):=by
 rw [List.drop_eq_getElem_cons (by rw [bts_length];exact h),bts_get s i h]
theorem stp_rng (p:Int × Int) (c:Int):Rng (stp p c):=by unfold stp Rng;refine ⟨?_,?_,?_,?_⟩ <;> simp only <;> omega
theorem run_nil (p:Int × Int):run p []=p:=rfl
theorem run_cons (p:Int × Int) (c:Int) (l:List Int):run p (c :: l)=run (stp p c) l:=rfl
theorem run_rng (l:List Int):∀ p,Rng p → Rng (run p l):=by
 induction l with
 |nil=>intro p h;exact h
 |cons c l ih=>intro p _;rw [run_cons];exact ih _ (stp_rng p c)
theorem rng_one:Rng (1,0):=by unfold Rng;simp
theorem wrap_in {n:Int} (h0:-9223372036854775808≤n) (h1:n≤9223372036854775807):wrap64 n=n:=by unfold wrap64;omega
theorem wraps_i64 (j:Nat) (hj:j≤62) (n:Int) (h₀:0≤n) (h₁:n < 2 ^ j):IntKind.i64.wrap n=n:=by
 have:(2:Int) ^ j≤2 ^ 62:=by
  have:=Nat.pow_le_pow_right (n:=2) (by decide) hj
  exact_mod_cast this
 have h2:(2:Int) ^ 62=4611686018427387904:=by decide
 rw [IntKind.wrap_i64];omega
theorem wraps_u32 (n:Int) (h₀:0≤n) (h₁:n < 2 ^ 32):IntKind.u32.wrap n=n:=by rw [IntKind.wrap_u32];omega
theorem or_16 {x y:Int} (hx₀:0≤x) (hx₁:x < 65536) (h₀:0≤y) (h₁:y < 65536):Go.bits .or .i64 (x*65536) y=x*65536+y :=
 Go.bits_join .i64 40 (by decide) (wraps_i64 40 (by decide)) 16 _ _ (by omega) (by omega) (by omega) h₀ (by omega) (by omega)
theorem and_16u {x:Int} (hx₀:0≤x) (hx₁:x < 4294967296):Go.bits .and .u32 x 65535=x % 65536 :=
 Go.bits_mask .u32 32 (by decide) wraps_u32 16 (by decide) x hx₀ (by omega)
/-- What the sum's parts are. -/
def prt (n:Int):Int × Int:=(n % 4294967296 % 65536 % 65521,n % 4294967296 / 65536 % 65521)
theorem prt_rng (n:Int):Rng (prt n):=by unfold prt Rng;refine ⟨?_,?_,?_,?_⟩ <;> simp only <;> omega
theorem prt_one:prt 1=(1,0):=by decide
/-- Congruent modulo 65521,by the quotient. -/
def Cg (a b:Int):Prop:=∃ t:Int,a=b+65521*t
theorem Cg.eq_mod {a b:Int} (h:Cg a b):a % 65521=b % 65521:=by obtain ⟨t,rfl⟩:=h;omega
theorem Cg.rfl' (a:Int):Cg a a:=⟨0,by omega⟩
/-- The document's way,by places. -/
theorem ref_stp (a b p q c m : Int) (ha : Cg a p) (hb : Cg b (q + (m + 1) * p)) :
  Cg (a+c) (stp (p,q) c).1∧Cg ((b+c*(m+1)) % 65521) ((stp (p,q) c).2+m*(stp (p,q) c).1):=by
 obtain ⟨t,rfl⟩:=ha;obtain ⟨u,rfl⟩:=hb;obtain ⟨v,hv⟩:∃ v:Int,(stp (p,q) c).1=p+c - 65521*v:=⟨(p+c) / 65521,by simp only [stp];omega⟩;obtain ⟨z,hz⟩:∃ z:Int,(stp (p,q) c).2=q+(stp (p,q) c).1 - 65521*z:=⟨(q+(stp (p,q) c).1) / 65521,by simp only [stp];omega⟩;generalize hx:(q+(m+1)*p+65521*u+c*(m+1)) / 65521=x;have hm:(q+(m+1)*p+65521*u+c*(m+1)) % 65521=q+(m+1)*p+65521*u+c*(m+1) - 65521*x:=by omega
 refine ⟨⟨t+v,by rw [hv];omega⟩,⟨u - x+z+v*(m+1),?_⟩⟩;rw [hm,hz,hv]
 grind
theorem parts_is (n:Int):adler_parts.f n=some (prt n):=by
 unfold adler_parts.f;rw [and_16u (by omega) (by omega),wrap_in (by omega) (by omega),Int.tmod_eq_emod_of_nonneg (by omega)];rfl
theorem more_l (s : ByteArray) (hn : s.size ≤ 140737488351232) (d : Nat) : ∀ (k i : Nat) (p : Int × Int), Rng p → i + d = s.size → d < k →
  adler_More.l0 k s p.1 p.2 s.size i=some (fin (run p ((bts s).drop i))):=by
 induction d with
 |zero =>
  intro k i p hp hi hk;obtain ⟨k,rfl⟩:∃ m,k=m+1:=⟨k - 1,by omega⟩;simp only [adler_More.l0];rw [if_neg (by omega),List.drop_of_length_le (by rw [bts_length];omega),run_nil];obtain ⟨h0,h1,h2,h3⟩:=hp;rw [wrap_in (by omega) (by omega),or_16 h2 (by omega) h0 (by omega)];rfl
 |succ d ih =>
  intro k i p hp hi hk;obtain ⟨k,rfl⟩:∃ m,k=m+1:=⟨k - 1,by omega⟩;have hb:=bt_range s i;obtain ⟨h0,h1,h2,h3⟩:=hp;simp only [adler_More.l0];rw [if_pos (by omega),if_pos (by omega),if_pos (by omega)];have e:=ih k (i+1) (stp p (bt s i)) (stp_rng _ _) (by omega) (by omega);rw [bts_drop s i (by omega),run_cons,← e];have w1:wrap64 (bt s i)=bt s i:=wrap_in (by omega) (by omega);have w2:wrap64 (p.1+bt s i)=p.1+bt s i:=wrap_in (by omega) (by omega);have w3:wrap64 (p.2+(p.1+bt s i) % 65521)=p.2+(p.1+bt s i) % 65521:=wrap_in (by omega) (by omega);have w4:wrap64 ((i:Int)+1)=((i+1:Nat):Int):=by rw [wrap_in (by omega) (by omega)];omega
  rw [w1,w2,Int.tmod_eq_emod_of_nonneg (by omega),w3,Int.tmod_eq_emod_of_nonneg (by omega),w4];rfl
theorem more_is (n : Int) (s : ByteArray) (hn : s.size ≤ 140737488351232) (k : Nat) (hk : s.size < k) :
  adler_More.f k n s=some (fin (run (prt n) (bts s))):=by
 unfold adler_More.f;rw [parts_is];have e:=more_l s hn s.size k 0 (prt n) (prt_rng n) (by omega) hk;rw [List.drop_zero] at e;exact e
theorem sum_is (s : ByteArray) (hn : s.size ≤ 140737488351232) (k : Nat) (hk : s.size < k) :
  adler_Sum.f k s=some (fin (run (1,0) (bts s))):=by
 unfold adler_Sum.f;rw [more_is 1 s hn k hk,prt_one];rfl
end Go.Proofs.Ytpbhkdamkbopkaa.ASumB
namespace Go.Proofs.Ytpbhkdamkbopkaa.Pure
open Go.RowKit Go.Proofs.Ytpbhkdamkbopkaa.Ext Go.Proofs.Ytpbhkdamkbopkaa.GBack2 Go.Proofs.Ytpbhkdamkbopkaa.Wr1 Go.Proofs.Ytpbhkdamkbopkaa.Wr2 Go.Proofs.Ytpbhkdamkbopkaa.Inf Go.Proofs.Ytpbhkdamkbopkaa.Bk Go.Proofs.YtpbhkdamkbopkaaW.PrintWords Go.Proofs.YtpbhkdamkbopkaaW.PrintLast
open Go.Proofs.Ytpbhkdamkbopkaa.Wr (pk RB)
/-- The sum of bytes. -/
def sm (s:ByteArray):Int:=ASumB.fin (ASumB.run (1,0) (ASumB.bts s))
theorem sm_rng (s:ByteArray):0≤sm s∧sm s < 4294967296:=by
 have hrng:=ASumB.run_rng (ASumB.bts s) (1,0) ASumB.rng_one;unfold sm ASumB.fin;obtain ⟨r1,r2,r3,r4⟩:=hrng;omega
def packed (s:ByteArray):ByteArray:=strOfNums (pk (RB s))
def tail4 (t:Int):ByteArray:=strOfNums [t / 16777216 % 256,t / 65536 % 256,t / 256 % 256,t % 256]
def clo (s:ByteArray):ByteArray:=(⟨#[120,156]⟩ ++ packed s) ++ tail4 (sm s)
theorem packed_size (s:ByteArray):(packed s).size=((RB s).length+7) / 8:=pk_size _
theorem packed_short (s:ByteArray):(packed s).size≤(9*s.size+17) / 8:=by
 have:=RB_short s;rw [packed_size];omega
theorem tail4_size (t:Int):(tail4 t).size=4:=rfl
theorem clo_size (s:ByteArray):(clo s).size=(packed s).size+6:=by
 unfold clo;rw [ByteArray.size_append,ByteArray.size_append,tail4_size,show (⟨#[120,156]⟩:ByteArray).size=2 from rfl];omega
theorem raw_is0 (s:ByteArray) (hs:s.size≤262144):deflate_Raw.f s=some (packed s,0):=by unfold deflate_Raw.f;rw [if_pos hs];rfl
theorem close_is (s:ByteArray) (hs:s.size≤262144) (k:Nat) (hk:s.size < k):deflate_Close.f k s=some (clo s,0):=by
 have hR:=packed_short s;have e2:adler_Sum.f k s=some (sm s):=ASumB.sum_is s (by omega) k (by omega);have z4:∀ a b c d:Int,(strOfNums [a,b,c,d]).size=4:=fun _ _ _ _=>rfl;unfold deflate_Close.f;rw [raw_is0 s hs,Option.bind_some];simp only;rw [if_pos trivial,e2,Option.bind_some,if_pos (by omega),Option.bind_some,z4,ByteArray.size_append,show (⟨#[120,156]⟩:ByteArray).size=2 from rfl,if_pos (by omega)];rfl
theorem back_raw (s X:ByteArray) (hs:s.size≤262144) (hX:X.size≤1000000):inflate_Raw.f (packed s ++ X) 262144=some (s,((packed s).size:Int),0):=by
 have hR:=packed_short s;have hz:(packed s ++ X).size≤17592186044416:=by rw [ByteArray.size_append];omega
 unfold inflate_Raw.f;rw [if_pos hz];exact congrArg some (raw_back s X 262144 (by omega) (by omega) (Nat.le_trans hz (by decide)))
theorem back_open (s:ByteArray) (hs:s.size≤262144) (k:Nat) (hk:s.size+1 < k):inflate_Open.f k (clo s) 262144=some (s,0):=by
 obtain ⟨k1,rfl⟩:∃ k1,k=k1+1:=⟨k - 1,by omega⟩;have hR:=packed_short s;have hv:=sm_rng s;have e2:adler_Sum.f k1 s=some (sm s):=ASumB.sum_is s (by omega) k1 (by omega);have h:=back_raw s (tail4 (sm s)) hs (by rw [tail4_size];omega);have hz:(packed s ++ tail4 (sm s)).size≤17592186044416:=by rw [ByteArray.size_append,tail4_size];omega
 unfold inflate_Raw.f at h;rw [if_pos hz] at h;have ho:=OpenB.open_is k1 (packed s) (tail4 (sm s)) s 262144 (sm s) _ _ _ _ (by omega) (by omega) (by omega) (by omega) rfl (by decide) (by omega) (Option.some.inj h) e2;rw [if_pos (by omega)] at ho;exact ho
end Go.Proofs.Ytpbhkdamkbopkaa.Pure
namespace Go.Proofs.Ytpbhkdamkbopkaa.Px
set_option linter.unusedSimpArgs false
set_option linter.unusedVariables false
open Go.RowKit Go.Proofs.Ytpbhkdamkbopkaa.GPix Go.Proofs.Ytpbhkdamkbopkaa.GPixb Go.Proofs.Ytpbhkdamkbopkaa.PR Go.Proofs.YtpbhkdamkbopkaaW.PrintWords Go.Proofs.YtpbhkdamkbopkaaW.PrintLast Go.Proofs.YtpbhkdamkbopkaaW.PrintMore
open Go.Proofs.Ytpbhkdamkbopkaa.Pure (clo clo_size close_is packed packed_short)
open Go.Proofs.Ytpbhkdamkbopkaa.GBack2 (deflate_Close.f)
open Go.Proofs.Ytpbhkdamkbopkaa.Inf (strOfNums_append)
theorem wr {n:Int} (h0:-9223372036854775808≤n) (h1:n≤9223372036854775807):wrap64 n=n:=by unfold wrap64;omega
/-- A colour is right,and no part above its alpha. -/
def fb (x:S89):Bool:=decide (0≤x.f0∧x.f0≤x.f3∧0≤x.f1∧x.f1≤x.f3∧0≤x.f2∧x.f2≤x.f3∧x.f3≤255)
theorem within_step (l : List Int) (i n : Nat) (hn : l.length = n) (hi : i < n) (hb : n ≤ 1000) (k : Nat) (x : Int) (hx : l.getD i 0 = x) :
  field_within.l0 (k+1) 0 255 l (n:Int) (i:Int)=if x < 0 then some false else if x > 255 then some false else field_within.l0 k 0 255 l (n:Int) ((i+1:Nat):Int):=by
 have e:rd l (i:Int)=x:=by unfold rd;rw [Int.toNat_natCast];exact hx
 rw [field_within.l0,if_pos (by omega),if_pos (by omega),if_pos (by omega),e,wr (by omega) (by omega)];rfl
theorem within_is (a b c d:Int) (k:Nat):field_within.f (k+5) 0 255 [a,b,c,d]=some (decide (0≤a∧a≤255∧0≤b∧b≤255∧0≤c∧c≤255∧0≤d∧d≤255)):=by
 have h0:=within_step [a,b,c,d] 0 4 rfl (by decide) (by decide) (k+4) a rfl;have h1:=within_step [a,b,c,d] 1 4 rfl (by decide) (by decide) (k+3) b rfl;have h2:=within_step [a,b,c,d] 2 4 rfl (by decide) (by decide) (k+2) c rfl;have h3:=within_step [a,b,c,d] 3 4 rfl (by decide) (by decide) (k+1) d rfl;have h4:field_within.l0 (k+1) 0 255 [a,b,c,d] ((4:Nat):Int) ((3+1:Nat):Int)=some true:=by rw [field_within.l0,if_neg (by omega)]
 show field_within.l0 (k+4+1) 0 255 [a,b,c,d] ((4:Nat):Int) ((0:Nat):Int)=_;rw [h0,show k+4=k+3+1 from rfl,show (0+1:Nat)=1 from rfl,h1,show k+3=k+2+1 from rfl,show (1+1:Nat)=2 from rfl,h2,show k+2=k+1+1 from rfl,show (2+1:Nat)=3 from rfl,h3,h4]
 (repeat' split) <;> first | rw [decide_eq_false (by omega)] | rw [decide_eq_true (by omega)]
theorem faint_is (x:S89) (k:Nat):pixel_faint.f (k+5) x.f0 x.f1 x.f2 x.f3=some (fb x):=by
 unfold pixel_faint.f field_RightRGBA.f;rw [within_is,Option.bind_some,Option.bind_some];unfold fb mx;by_cases p:0≤x.f0∧x.f0≤255∧0≤x.f1∧x.f1≤255∧0≤x.f2∧x.f2≤255∧0≤x.f3∧x.f3≤255
 ·rw [decide_eq_true p,if_pos rfl]
  (repeat' split) <;> exact congrArg some (decide_eq_decide.2 (by omega))
 ·rw [decide_eq_false p,if_neg (by decide),decide_eq_false (by omega)]
theorem allF_is (k:Nat) (l:List S89):allF (k+5) l=some (l.all fb):=by
 induction l with
 |nil=>rfl
 |cons x l ih =>
  show ((pixel_faint.f (k+5) x.f0 x.f1 x.f2 x.f3).bind fun b=>if b=true then allF (k+5) l else some false)=_;rw [faint_is,Option.bind_some,ih,List.all_cons];cases fb x <;> rfl
/-- A bitmap's numbers are right. -/
def nb3 (id w h:Int) (n:Nat):Prop:=0≤id∧id < 65536∧1≤w∧w≤64∧1≤h∧h≤64∧(n:Int)=w*h
instance (id w h:Int) (n:Nat):Decidable (nb3 id w h n):=by unfold nb3;infer_instance
def rb (id w h:Int) (l:List S89):Bool:=decide (nb3 id w h l.length) && l.all fb
theorem side_mul {w h:Int} (hw:1≤w∧w≤64) (hh:1≤h∧h≤64):1≤w*h∧w*h≤4096:=by
 have h1:w*h≤64*64:=Int.mul_le_mul hw.2 hh.2 (by omega) (by omega);have h2:1*1≤w*h:=Int.mul_le_mul hw.1 hh.1 (by omega) (by omega);omega
theorem right_is (k:Nat) (id w h:Int) (l:List S89):pixel_Right.f (k+5) id w h l=some (rb id w h l):=by
 unfold pixel_Right.f rb;rw [allF_is];by_cases c:nb3 id w h l.length
 ·obtain ⟨c1,c2,c3,c4,c5,c6,c7⟩:=c;have hm:=side_mul ⟨c3,c4⟩ ⟨c5,c6⟩;rw [if_pos c1,if_pos c2,if_pos c3,if_pos c4,if_pos c5,if_pos c6,if_pos (by rw [wr (by omega) (by omega)];exact c7),decide_eq_true ⟨c1,c2,c3,c4,c5,c6,c7⟩,Bool.true_and]
 rw [decide_eq_false c,Bool.false_and];by_cases c1:0≤id;rotate_left
 ·rw [if_neg c1]
 by_cases c2:id < 65536;rotate_left
 ·rw [if_pos c1,if_neg c2]
 by_cases c3:1≤w;rotate_left
 ·rw [if_pos c1,if_pos c2,if_neg c3]
 by_cases c4:w≤64;rotate_left
 ·rw [if_pos c1,if_pos c2,if_pos c3,if_neg c4]
 by_cases c5:1≤h
 ·by_cases c6:h≤64
  ·have hm:=side_mul ⟨c3,c4⟩ ⟨c5,c6⟩;rw [if_pos c1,if_pos c2,if_pos c3,if_pos c4,if_pos c5,if_pos c6,if_neg];rw [wr (by omega) (by omega)];exact fun c7=>c ⟨c1,c2,c3,c4,c5,c6,c7⟩
  ·rw [if_pos c1,if_pos c2,if_pos c3,if_pos c4,if_pos c5,if_neg c6]
 ·rw [if_pos c1,if_pos c2,if_pos c3,if_pos c4,if_neg c5]
def two (v:Int):List Int:=[v % 256,v / 256 % 256]
theorem put2 (k:Nat) (s:ByteArray) (fr v:Int) (h0:0≤v) (h1:v < 65536) (hs:s.size≤1000000):bits_PutLittle.f (k+4) s fr v 2=some (s ++ strOfNums (two v),0,0):=by
 have e16:shr .i64 v (wrap64 (8*2))=0:=by
  rw [wr (by decide) (by decide)];show v / 2 ^ 16=0;exact Int.ediv_eq_zero_of_lt h0 h1
 have e0:shr .i64 v (wrap64 (8*0))=v:=by
  rw [wr (by decide) (by decide)];show v / 2 ^ 0=v;rw [Int.pow_zero,Int.ediv_one]
 have e8:shr .i64 v (wrap64 (8*1))=v / 256:=by
  rw [wr (by decide) (by decide)];rfl
 unfold bits_PutLittle.f;have w0:wrap64 (8*0)=0:=wr (by decide) (by decide);have w1:wrap64 (8*1)=8:=wr (by decide) (by decide);have w2:wrap64 (8*2)=16:=wr (by decide) (by decide);have w3:wrap64 (0+1)=1:=wr (by decide) (by decide);have w4:wrap64 (1+1)=2:=wr (by decide) (by decide);rw [if_neg (by decide),if_neg (by decide),if_neg (by omega),if_pos (by rw [w2];decide),e16];show bits_PutLittle.j0 (k+3+1) v 2 false s fr=_;rw [bits_PutLittle.j0,if_neg (by decide),if_pos (by decide),if_pos (by decide),Option.bind_some];show bits_PutLittle.l0 (k+2+1) v [0,0] 2 0 s fr=_;rw [bits_PutLittle.l0,if_pos (by decide),if_pos (by rw [w0];decide),if_pos (by decide),if_pos (by decide),e0,w3];show bits_PutLittle.l0 (k+1+1) v [v % 256,0] 2 1 s fr=_;rw [bits_PutLittle.l0,if_pos (by decide),if_pos (by rw [w1];decide),if_pos (by decide),if_pos (show (1:Int) < (([v % 256,0]:List Int).length:Int) by show (1:Int) < ((2:Nat):Int);decide),e8,w4];show bits_PutLittle.l0 (k+1) v [v % 256,v / 256 % 256] 2 2 s fr=_;rw [bits_PutLittle.l0,if_neg (by decide)];unfold bits_PutBytes.f;rw [if_pos (by rw [strOfNums_size];show s.size+2≤_;omega)];rfl
/-- The bmp of colours,their alpha first. -/
def px (l:List S89):List Int:=l.flatMap fun c=>[c.f3 % 256,c.f0 % 256,c.f1 % 256,c.f2 % 256]
theorem px_len (l:List S89):(px l).length=4*l.length:=by
 induction l with
 |nil=>rfl
 |cons c l ih=>show (px l).length+4=_;rw [ih,List.length_cons];omega
theorem rd_drop (l:List S89) (i:Nat) (h:i < l.length):l.drop i=rd_T89 l (i:Int) :: l.drop (i+1):=by
 rw [List.drop_eq_getElem_cons h];unfold rd_T89;rw [Int.toNat_natCast,List.getD_eq_getElem?_getD,List.getElem?_eq_getElem h];rfl
theorem put_loop (l : List S89) (hl : l.length ≤ 4096) (A : ByteArray) (hA : A.size ≤ 1000) (B : Int) (d : Nat) : ∀ (i : Nat) (x : List Int), i + d = l.length → x.length = 4 * i → ∀ k, 20000 ≤ k →
  pixel_Put.l0 (k+d+1) x l (l.length:Int) (i:Int) A B=some (A ++ clo (strOfNums (x ++ px (l.drop i))),0):=by
 induction d with
 |zero =>
  intro i x hi hx k hk;have hz:(strOfNums x).size=4*i:=by rw [strOfNums_size,hx]
  have hp:=packed_short (strOfNums x);have hc:=clo_size (strOfNums x);rw [pixel_Put.l0,if_neg (by omega),close_is (strOfNums x) (by omega) _ (by omega),Option.bind_some];simp only;rw [if_pos (by omega),List.drop_eq_nil_of_le (by omega),show px []=[] from rfl,List.append_nil]
 |succ d ih =>
  intro i x hi hx k hk;have hi1:i < l.length:=by omega
  have h:=ih (i+1) (x ++ [(rd_T89 l (i:Int)).f3 % 256,(rd_T89 l (i:Int)).f0 % 256,(rd_T89 l (i:Int)).f1 % 256,(rd_T89 l (i:Int)).f2 % 256]) (by omega) (by rw [List.length_append,hx];show 4*i+4=_;omega) k hk;rw [show k+(d+1)+1=(k+d+1)+1 by omega,pixel_Put.l0,if_pos (by omega),if_pos (by omega),if_pos (by omega),Option.bind_some,if_pos (by rw [hx];show 4*i+4 < _;omega),wr (by omega) (by omega)];have e:(i:Int)+1=((i+1:Nat):Int):=by omega
  rw [e,h,rd_drop l i hi1,List.append_assoc];rfl
def hd7 (id w h:Int):List Int:=two id ++ ([5] ++ (two w ++ two h))
/-- The bmp of a right bitmap. -/
def bmp (id w h:Int) (l:List S89):ByteArray:=strOfNums (hd7 id w h) ++ clo (strOfNums (px l))
theorem put_is (id w h:Int) (l:List S89) (k:Nat) (hk:30000≤k):pixel_Put.f k id w h l=some (if rb id w h l=true then (bmp id w h l,0) else (⟨#[]⟩,1)):=by
 obtain ⟨k1,rfl⟩:∃ k1,k=k1+5:=⟨k - 5,by omega⟩;unfold pixel_Put.f;rw [right_is,Option.bind_some];by_cases c:rb id w h l=true;rotate_left
 ·rw [if_neg c,if_neg c]
 rw [if_pos c,if_pos c];have c2:=c;unfold rb at c2;rw [Bool.and_eq_true,decide_eq_true_eq] at c2;obtain ⟨c1,c2,c3,c4,c5,c6,c7⟩:=c2.1;have hm:=side_mul ⟨c3,c4⟩ ⟨c5,c6⟩;have z0:(⟨#[]⟩:ByteArray).size=0:=rfl;have z2:∀ v,(strOfNums (two v)).size=2:=fun v=>by rw [strOfNums_size];rfl
 have z1:(strOfNums [5]).size=1:=rfl;have en:(⟨#[]⟩:ByteArray) ++ strOfNums (two id)=strOfNums (two id):=ByteArray.empty_append;rw [show k1+5=k1+1+4 from rfl,put2 (k1+1) _ 0 id c1 c2 (by rw [z0];decide),Option.bind_some,en];simp only;unfold bits_PutBytes.f;rw [z2,z1,if_pos (by decide),Option.bind_some];simp only;rw [← strOfNums_append,put2 (k1+1) _ 0 w (by omega) (by omega) (by rw [strOfNums_size];show (3:Nat)≤_;decide),Option.bind_some];simp only;rw [← strOfNums_append,put2 (k1+1) _ 0 h (by omega) (by omega) (by rw [strOfNums_size];show (5:Nat)≤_;decide),Option.bind_some];simp only;rw [← strOfNums_append];have hl:=put_loop l (by omega) (strOfNums (two id ++ [5] ++ two w ++ two h)) (by rw [strOfNums_size];show (7:Nat)≤_;decide) 0 l.length 0 [] (by omega) rfl (k1+4 - l.length) (by omega);rw [show k1+4 - l.length+l.length+1=k1+1+4 by omega,List.drop_zero,List.nil_append] at hl;refine Eq.trans hl ?_;unfold bmp hd7;rw [List.append_assoc,List.append_assoc]
end Go.Proofs.Ytpbhkdamkbopkaa.Px
namespace Go.Proofs.Ytpbhkdamkbopkaa.Px
set_option linter.unusedSimpArgs false
set_option linter.unusedVariables false
open Go.RowKit Go.Proofs.Ytpbhkdamkbopkaa.GPix Go.Proofs.Ytpbhkdamkbopkaa.GPixb Go.Proofs.Ytpbhkdamkbopkaa.PR Go.Proofs.YtpbhkdamkbopkaaW.PrintWords Go.Proofs.YtpbhkdamkbopkaaW.PrintLast Go.Proofs.YtpbhkdamkbopkaaW.PrintMore
open Go.Proofs.Ytpbhkdamkbopkaa.Pure (clo clo_size close_is packed packed_short back_open)
open Go.Proofs.Ytpbhkdamkbopkaa.GBack2 (deflate_Close.f inflate_Open.f inflate_Open.j0 adler_Sum.f)
open Go.Proofs.Ytpbhkdamkbopkaa.Inf (strOfNums_append bt_left bt_right bt_nums cut cut_bytes raw raw_is run0)
open Go.Proofs.Ytpbhkdamkbopkaa.Wr2 (inflate_Raw.f)
/-- Something is told,and of it Q holds,by K rounds or more. -/
def Tot {α:Type} (Q:α → Prop) (K:Nat) (g:Nat → Option α):Prop:=∃ r,Q r∧∀ k,K≤k → g k=some r
section
variable {α β:Type} {Q:α → Prop} {Q1:β → Prop} {K K':Nat} {g f:Nat → Option α}
theorem Tot.now {r:α} (h:Q r):Tot Q K (fun _=>some r):=⟨r,h,fun _ _=>rfl⟩
theorem Tot.ite {c:Prop} [Decidable c] (ha:c → Tot Q K g) (hb:¬ c → Tot Q K f):Tot Q K (fun k=>if c then g k else f k):=by
 by_cases h:c
 ·obtain ⟨r,h1,h2⟩:=ha h;exact ⟨r,h1,fun k hk=>by show (if c then g k else f k)=_;rw [if_pos h];exact h2 k hk⟩
 ·obtain ⟨r,h1,h2⟩:=hb h;exact ⟨r,h1,fun k hk=>by show (if c then g k else f k)=_;rw [if_neg h];exact h2 k hk⟩
theorem Tot.bind {g:Nat → Option β} {f:Nat → β → Option α} (ha:Tot Q1 K g) (hb:∀ b,Q1 b → Tot Q K (fun k=>f k b)):Tot Q K (fun k=>(g k).bind (f k)):=by
 obtain ⟨b,h1,h2⟩:=ha;obtain ⟨r,h3,h4⟩:=hb b h1;exact ⟨r,h3,fun k hk=>by show (g k).bind (f k)=_;rw [h2 k hk];exact h4 k hk⟩
theorem Tot.step (h:∀ k,g (k+1)=f k) (t:Tot Q K f):Tot Q (K+1) g:=by
 obtain ⟨r,h1,h2⟩:=t;refine ⟨r,h1,fun k hk=>?_⟩;obtain ⟨k1,rfl⟩:∃ k1,k=k1+1:=⟨k - 1,by omega⟩;rw [h];exact h2 k1 (by omega)
theorem Tot.mono (t:Tot Q K g) (h:K≤K'):Tot Q K' g:=by obtain ⟨r,h1,h2⟩:=t;exact ⟨r,h1,fun k hk=>h2 k (by omega)⟩
theorem Tot.congr (h:∀ k,g k=f k) (t:Tot Q K f):Tot Q K g:=by obtain ⟨r,h1,h2⟩:=t;exact ⟨r,h1,fun k hk=>(h k).trans (h2 k hk)⟩
end
theorem bt_ext (s:ByteArray) (a b:Nat) (j:Nat) (hj:a+j < b) (hb:b≤s.size):bt (s.extract a b) (j:Int)=bt s ((a+j:Nat):Int):=by
 have h:=cut_bytes (s:=s) (q:=a) (n:=b - a) (by omega);rw [show a+(b - a)=b by omega] at h;rw [← rd_bytesOf,h];unfold rd cut;rw [List.getD_eq_getElem?_getD,List.getElem?_map,Int.toNat_natCast,List.getElem?_range (by omega)];rfl
theorem four_is (s:ByteArray) (h:4≤s.size):pixel_four.f s=some (bt s 0,bt s 1,bt s 2,bt s 3):=by
 have w:∀ j,wrap64 (bt s j)=bt s j:=fun j=>by have:=bt_range s j;exact wr (by omega) (by omega)
 unfold pixel_four.f;rw [if_pos (by omega),if_pos (by omega),if_pos (by omega),if_pos (by omega),w,w,w,w]
/-- A pixel of four bytes from q on,its alpha first. -/
def pxa (s:ByteArray) (q:Nat):S89:=⟨bt s ((q+1:Nat):Int),bt s ((q+2:Nat):Int),bt s ((q+3:Nat):Int),bt s ((q:Nat):Int)⟩
def pxs (s:ByteArray) (n:Nat):List S89:=(List.range n).map fun i=>pxa s (4*i)
theorem pxs_len (s:ByteArray) (n:Nat):(pxs s n).length=n:=by simp [pxs]
theorem pxs_get (s:ByteArray) (n i:Nat) (h:i < (pxs s n).length):(pxs s n)[i]=pxa s (4*i):=by simp [pxs]
theorem pxs_succ (s:ByteArray) (n:Nat):pxs s (n+1)=pxs s n ++ [pxa s (4*n)]:=by simp [pxs,List.range_succ]
theorem plain_loop (s:ByteArray) (n:Nat) (hn:n≤100000) (hs:s.size=4*n) (d:Nat):∀ i k,i+d=n → pixel_plain.l0 (k+d+1) s (pxs s i) (n:Int) (i:Int)=some (pxs s n,true):=by
 induction d with
 |zero =>
  intro i k hi;rw [pixel_plain.l0,if_neg (by omega),show i=n by omega]
 |succ d ih =>
  intro i k hi;have h:=ih (i+1) k (by omega);have W1:Aside0 (wrap64 (4*(i:Int))=((4*i:Nat):Int)):=⟨by rw [wr (by omega) (by omega)];omega⟩;have W2:Aside0 (wrap64 (((4*i:Nat):Int)+4)=((4*i+4:Nat):Int)):=⟨by rw [wr (by omega) (by omega)];omega⟩;have W3:Aside0 (wrap64 ((i:Int)+1)=((i+1:Nat):Int)):=⟨by rw [wr (by omega) (by omega)];omega⟩;have hz:(s.extract (4*i) (4*i+4)).size=4:=by rw [ByteArray.size_extract];omega
  have z1:((s.extract (4*i) (4*i+4)).extract 1 4).size=3:=by rw [ByteArray.size_extract,hz];rfl
  have z2:((s.extract (4*i) (4*i+4)).extract 0 1).size=1:=by rw [ByteArray.size_extract,hz];rfl
  have b:∀ j:Nat,j < 3 → bt ((s.extract (4*i) (4*i+4)).extract 1 4 ++ (s.extract (4*i) (4*i+4)).extract 0 1) (j:Int)=bt s ((4*i+(1+j):Nat):Int):=fun j hj=>by
   rw [bt_left _ _ _ (by omega) (by omega),bt_ext _ 1 4 j (by omega) (by omega),bt_ext s (4*i) (4*i+4) (1+j) (by omega) (by omega)]
  have b3:bt ((s.extract (4*i) (4*i+4)).extract 1 4 ++ (s.extract (4*i) (4*i+4)).extract 0 1) 3=bt s ((4*i:Nat):Int):=by
   rw [bt_right _ _ _ (by rw [z1];decide),z1,show (3:Int) - ((3:Nat):Int)=((0:Nat):Int) from rfl,bt_ext _ 0 1 0 (by omega) (by omega),show ((0+0:Nat):Int)=((0:Nat):Int) from rfl,bt_ext s (4*i) (4*i+4) 0 (by omega) (by omega)];rfl
  rw [show k+(d+1)+1=(k+d+1)+1 by omega,pixel_plain.l0,if_pos (by omega),W1.out,W2.out,if_pos (by omega),if_pos (by omega),if_pos (by omega),Int.toNat_natCast,Int.toNat_natCast,hz,if_pos (by decide),if_pos (by decide),z1,z2,if_pos (by decide),four_is _ (by rw [ByteArray.size_append,z1,z2];decide),Option.bind_some];simp only;have e0:=b 0 (by decide);have e1:=b 1 (by decide);have e2:=b 2 (by decide);rw [if_pos (by rw [pxs_len];omega),W3.out];have hp:∀ P,P=pxa s (4*i) → pixel_plain.l0 (k+d+1) s (pxs s i ++ [P]) (n:Int) ((i+1:Nat):Int)=some (pxs s n,true):=fun P hP=>by rw [hP,← pxs_succ];exact h
  refine hp _ ?_;unfold pxa;exact congr (congr (congr (congrArg S89.mk e0) e1) e2) b3
theorem plain_is (s:ByteArray) (n:Nat) (hn:n≤100000) (k:Nat) (hk:n+1≤k):pixel_plain.f k s (n:Int)=some (if s.size=4*n then (pxs s n,true) else ([],false)):=by
 obtain ⟨k1,rfl⟩:∃ k1,k=k1+n+1:=⟨k - n - 1,by omega⟩;unfold pixel_plain.f;rw [wr (by omega) (by omega)];by_cases c:s.size=4*n
 ·rw [if_pos (by omega),if_pos c];exact plain_loop s n hn c n 0 k1 (by omega)
 ·rw [if_neg (by omega),if_neg c]
theorem px_get (l:List S89):∀ i,i < l.length → (px l).getD (4*i) 0=(rd_T89 l (i:Int)).f3 % 256∧(px l).getD (4*i+1) 0=(rd_T89 l (i:Int)).f0 % 256∧(px l).getD (4*i+2) 0=(rd_T89 l (i:Int)).f1 % 256∧(px l).getD (4*i+3) 0=(rd_T89 l (i:Int)).f2 % 256:=by
 induction l with
 |nil=>intro i h;exact absurd h (Nat.not_lt_zero _)
 |cons c l ih =>
  intro i h
  rcases i with _ | i
  ·exact ⟨rfl,rfl,rfl,rfl⟩
  have e:∀ j,(px (c :: l)).getD (4*(i+1)+j) 0=(px l).getD (4*i+j) 0:=fun j=>by
   rw [show 4*(i+1)+j=(4*i+j)+4 by omega];rfl
  have er:rd_T89 (c :: l) ((i+1:Nat):Int)=rd_T89 l (i:Int):=rfl;have h2:=ih i (by simpa using h);rw [er];exact ⟨(e 0).trans h2.1,(e 1).trans h2.2.1,(e 2).trans h2.2.2.1,(e 3).trans h2.2.2.2⟩
theorem px_rng (l:List S89):∀ x ∈ px l,0≤x∧x≤255:=by
 intro x hx;unfold px at hx;obtain ⟨c,_,hc⟩:=List.mem_flatMap.1 hx;simp only [List.mem_cons,List.not_mem_nil,or_false] at hc
 rcases hc with rfl | rfl | rfl | rfl <;> omega
/-- What is written of faint colours is read back. -/
theorem pxs_back (l:List S89) (h:l.all fb=true):pxs (strOfNums (px l)) l.length=l:=by
 refine List.ext_getElem (pxs_len _ _) fun i h1 h2=>?_;have hl:=px_len l;have hz:=px_get l i h2;have hb:∀ j:Nat,j < 4 → bt (strOfNums (px l)) ((4*i+j:Nat):Int)=(px l).getD (4*i+j) 0:=fun j hj=>bt_nums (px l) (px_rng l) (4*i+j) (by omega);have er:rd_T89 l (i:Int)=l[i]:=by unfold rd_T89;rw [Int.toNat_natCast,List.getD_eq_getElem?_getD,List.getElem?_eq_getElem h2];rfl
 have hf:fb l[i]=true:=List.all_eq_true.1 h _ (List.getElem_mem h2);rw [er] at hz;unfold fb at hf;rw [decide_eq_true_eq] at hf;have e0:bt (strOfNums (px l)) ((4*i:Nat):Int)=(px l).getD (4*i) 0:=hb 0 (by decide);rw [pxs_get];unfold pxa;rw [hb 1 (by decide),hb 2 (by decide),hb 3 (by decide),e0,hz.1,hz.2.1,hz.2.2.1,hz.2.2.2];generalize l[i]=c at hf;obtain ⟨f0,f1,f2,f3⟩:=c;simp only at hf ⊢;rw [Int.emod_eq_of_lt (by omega) (by omega),Int.emod_eq_of_lt (by omega) (by omega),Int.emod_eq_of_lt (by omega) (by omega),Int.emod_eq_of_lt (by omega) (by omega)]
end Go.Proofs.Ytpbhkdamkbopkaa.Px
namespace Go.Proofs.Ytpbhkdamkbopkaa.Px
set_option linter.unusedSimpArgs false
set_option linter.unusedVariables false
open Go.RowKit Go.Proofs.Ytpbhkdamkbopkaa.GPix Go.Proofs.Ytpbhkdamkbopkaa.GPixb Go.Proofs.Ytpbhkdamkbopkaa.PR Go.Proofs.YtpbhkdamkbopkaaW.PrintWords Go.Proofs.YtpbhkdamkbopkaaW.PrintLast Go.Proofs.YtpbhkdamkbopkaaW.PrintMore
open Go.Proofs.Ytpbhkdamkbopkaa.Pure (clo clo_size close_is packed packed_short back_open)
open Go.Proofs.Ytpbhkdamkbopkaa.GBack2 (deflate_Close.f inflate_Open.f inflate_Open.j0 adler_Sum.f)
open Go.Proofs.Ytpbhkdamkbopkaa.Inf (strOfNums_append bt_left bt_right bt_nums cut cut_bytes raw raw_is run0)
open Go.Proofs.Ytpbhkdamkbopkaa.Wr2 (inflate_Raw.f)
def lv (s:ByteArray) (q n:Nat):Int:=if n=1 then bt s (q:Int) else bt s ((q+1:Nat):Int)*256+bt s (q:Int)
theorem lv_rng (s:ByteArray) (q n:Nat):0≤lv s q n∧lv s q n≤65535:=by
 have h0:=bt_range s (q:Int);have h1:=bt_range s ((q+1:Nat):Int);unfold lv
 split <;> omega
theorem bytes_at (s : ByteArray) (q n : Nat) (p : Int) (hp : p = 8 * (q : Int)) (hq : q ≤ s.size) (hs : s.size ≤ 1000000) (hn : n ≤ 4) (k : Nat) :
  bits_Bytes.f (k+1) s p (n:Int)=some (if q+n≤s.size then (s.extract q (q+n),s,((8*(q+n):Nat):Int),0) else (⟨#[]⟩,⟨#[]⟩,0,2)):=by
 subst hp;have W0:Aside0 (wrap64 (8*(s.size:Int))=8*(s.size:Int)):=⟨wr (by omega) (by omega)⟩;have W1:Aside0 (wrap64 (8*(q:Int)+7)=8*(q:Int)+7):=⟨wr (by omega) (by omega)⟩;have W2:Aside0 (wrap64 (Int.tdiv (8*(q:Int)+7) 8)=(q:Int)):=⟨by rw [Int.tdiv_eq_ediv_of_nonneg (by omega),wr (by omega) (by omega)];omega⟩;have W3:Aside0 (wrap64 ((q:Int)*8)=8*(q:Int)):=⟨by rw [wr (by omega) (by omega)];omega⟩;have W4:Aside0 (wrap64 (Int.tdiv (8*(q:Int)) 8)=(q:Int)):=⟨by rw [Int.tdiv_eq_ediv_of_nonneg (by omega),wr (by omega) (by omega)];omega⟩;have W5:Aside0 (wrap64 ((s.size:Int) - (q:Int))=(s.size:Int) - (q:Int)):=⟨wr (by omega) (by omega)⟩;have W6:Aside0 (wrap64 ((q:Int)+(n:Int))=((q+n:Nat):Int)):=⟨by rw [wr (by omega) (by omega)];omega⟩;have W7:Aside0 (wrap64 (8*((q+n:Nat):Int))=((8*(q+n):Nat):Int)):=⟨by rw [wr (by omega) (by omega)];omega⟩
 have hr:bits_right.f s (8*(q:Int))=some true:=by
  unfold bits_right.f;rw [if_pos (by omega),W0.out,decide_eq_true (by omega)]
 unfold bits_Bytes.f;rw [hr,Option.bind_some,if_pos rfl,bits_Bytes.j0,decide_eq_false (by omega),if_neg (by decide)];unfold bits_Align.f;rw [hr,Option.bind_some,if_pos rfl,Option.bind_some,W1.out,W2.out,W3.out];simp only;rw [W4.out,W5.out,W6.out,W7.out];by_cases c:q+n≤s.size
 ·rw [if_pos c,if_neg (by omega),if_pos (by omega),if_pos (by omega),if_pos (by omega),Int.toNat_natCast,Int.toNat_natCast]
 ·rw [if_neg c,if_pos (by omega)]
theorem or_byte (v b:Int) (hv:0≤v∧v≤255) (hb:0≤b∧b≤255):Go.bits .or .i64 (v*256) b=v*256+b:=by
 have W:∀ n:Int,0≤n → n < 2 ^ 40 → IntKind.i64.wrap n=n:=fun n h0 h1=>by
  rw [IntKind.wrap_i64];have:(2:Int) ^ 40=1099511627776:=by decide
  omega
 exact Go.bits_join .i64 40 (by decide) W 8 (v*256) b (by omega) (by omega) (by omega) (by omega) (by omega) (by omega)
theorem little_step (k : Nat) (b : ByteArray) (e v : Int) (i : Nat) (s : ByteArray) (a : Int) (hi : i < b.size) (hb : b.size ≤ 1000) (hv : 0 ≤ v ∧ v ≤ 255) :
  bits_Little.l0 (k+1) b e v (i:Int) s a=bits_Little.l0 k b e (v*256+bt b (i:Int)) ((i:Int) - 1) s a:=by
 have hr:=bt_range b (i:Int);rw [bits_Little.l0,if_pos (by omega),if_pos (by omega),if_pos (by omega),wr (n:=v*256) (by omega) (by omega),wr (n:=bt b (i:Int)) (by omega) (by omega),wr (n:=(i:Int) - 1) (by omega) (by omega),or_byte v _ hv hr]
theorem little_at (s : ByteArray) (q n : Nat) (p : Int) (hp : p = 8 * (q : Int)) (hq : q ≤ s.size) (hs : s.size ≤ 1000000) (hn : n = 1 ∨ n = 2) (k : Nat) :
  bits_Little.f (k+5) s p (n:Int)=some (if q+n≤s.size then (lv s q n,s,((8*(q+n):Nat):Int),0) else (0,⟨#[]⟩,0,2)):=by
 unfold bits_Little.f;rw [if_neg (by omega),decide_eq_false (by omega),show k+5=(k+4)+1 from rfl,bits_Little.j0,if_neg (by decide),bytes_at s q n p hp hq hs (by omega) (k+3),Option.bind_some];by_cases c:q+n≤s.size;rotate_left
 ·rw [if_neg c,if_neg c];simp only;rw [show wrap64 (((⟨#[]⟩:ByteArray).size:Int) - 1)=-1 from wr (by decide) (by decide),show k+4=(k+3)+1 from rfl,bits_Little.l0,if_neg (by decide)]
 rw [if_pos c,if_pos c];simp only;have hz:(s.extract q (q+n)).size=n:=by rw [ByteArray.size_extract];omega
 have h0:=bt_ext s q (q+n) 0 (by omega) c;have hr0:=bt_range s ((q+1:Nat):Int);rw [hz]
 rcases hn with rfl | rfl
 ·rw [show wrap64 (((1:Nat):Int) - 1)=((0:Nat):Int) from wr (by decide) (by decide),show k+4=(k+3)+1 from rfl,little_step _ _ _ 0 0 _ _ (by omega) (by omega) (by decide),show k+3=(k+2)+1 from rfl,bits_Little.l0,if_neg (by decide),h0];unfold lv;rw [if_pos rfl];simp
 ·have h1:=bt_ext s q (q+2) 1 (by omega) c;rw [show wrap64 (((2:Nat):Int) - 1)=((1:Nat):Int) from wr (by decide) (by decide),show k+4=(k+3)+1 from rfl,little_step _ _ _ 0 1 _ _ (by omega) (by omega) (by decide),show ((1:Nat):Int) - 1=((0:Nat):Int) from rfl,h1,show k+3=(k+2)+1 from rfl,show (0:Int)*256+bt s ((q+1:Nat):Int)=bt s ((q+1:Nat):Int) by omega,little_step _ _ _ _ 0 _ _ (by omega) (by omega) hr0,show k+2=(k+1)+1 from rfl,bits_Little.l0,if_neg (by decide),h0];unfold lv;rw [if_neg (by decide)];rfl
abbrev HR:=Int × Int × Int × List S89 × Int × ByteArray × Int
/-- What the head tells. -/
def hdr (s:ByteArray):HR :=
 if s.size < 2 then (0,0,0,[],0,⟨#[]⟩,2)
 else if s.size < 3 then (lv s 0 2,0,0,[],0,⟨#[]⟩,2)
 else if lv s 2 1 ≠ 3∧lv s 2 1 ≠ 5 then (lv s 0 2,0,0,[],0,⟨#[]⟩,3)
 else if s.size < 5 then (lv s 0 2,0,0,[],0,⟨#[]⟩,2)
 else if s.size < 7 then (lv s 0 2,lv s 3 2,0,[],0,⟨#[]⟩,2)
 else if lv s 2 1=3 then
  (if s.size < 8 then (lv s 0 2,lv s 3 2,lv s 5 2,[],0,⟨#[]⟩,2)
  else if mn (lv s 3 2) (lv s 5 2) < 1 then (lv s 0 2,lv s 3 2,lv s 5 2,[],0,⟨#[]⟩,7)
  else if mx (lv s 3 2) (lv s 5 2) > 64 then (lv s 0 2,lv s 3 2,lv s 5 2,[],0,⟨#[]⟩,7)
  else (lv s 0 2,lv s 3 2,lv s 5 2,[],lv s 7 1+1,s.extract 8 s.size,0))
 else
  (if mn (lv s 3 2) (lv s 5 2) < 1 then (lv s 0 2,lv s 3 2,lv s 5 2,[],0,⟨#[]⟩,7)
  else if mx (lv s 3 2) (lv s 5 2) > 64 then (lv s 0 2,lv s 3 2,lv s 5 2,[],0,⟨#[]⟩,7)
  else (lv s 0 2,lv s 3 2,lv s 5 2,[],0,s.extract 7 s.size,0))
theorem head_rest (s : ByteArray) (hs : s.size ≤ 1000000) (k : Nat) (f : Int) (b : Bool) (h3 : 3 ≤ s.size) (hf : f = lv s 2 1) (hb : b = (f != 3 && f != 5)) :
  pixel_head.j0 (k+6) f 0 b s 24 (lv s 0 2) 0 0=some (hdr s):=by
 have L2:bits_Little.f (k+5) s 24 2=some (if 3+2≤s.size then (lv s 3 2,s,40,0) else (0,⟨#[]⟩,0,2)):=little_at s 3 2 24 rfl (by omega) hs (.inr rfl) k;unfold hdr;rw [if_neg (by omega),if_neg (by omega),show k+6=(k+5)+1 from rfl,pixel_head.j0,← hf];by_cases c:f ≠ 3∧f ≠ 5
 ·have hb1:b=true:=by rw [hb];simp [c.1,c.2]
  rw [if_pos hb1,if_pos c]
 have hb1:¬ b=true:=by
  rw [hb];intro h;simp at h;exact c h
 rw [if_neg hb1,if_neg c];rw [L2,Option.bind_some];by_cases c5:s.size < 5
 ·rw [if_neg (show ¬ 3+2≤s.size by omega),if_pos c5];simp only;rw [if_neg (by decide)]
 have L3:bits_Little.f (k+5) s 40 2=some (if 5+2≤s.size then (lv s 5 2,s,56,0) else (0,⟨#[]⟩,0,2)):=little_at s 5 2 40 rfl (by omega) hs (.inr rfl) k;rw [if_pos (show 3+2≤s.size by omega),if_neg c5];simp only;rw [if_pos trivial,L3,Option.bind_some];by_cases c7:s.size < 7
 ·rw [if_neg (show ¬ 5+2≤s.size by omega),if_pos c7];simp only;rw [if_neg (by decide)]
 rw [if_pos (show 5+2≤s.size by omega),if_neg c7];simp only;rw [if_pos trivial];have W0:Aside0 (wrap64 (Int.tdiv 56 8)=((7:Nat):Int)):=⟨by rw [show Int.tdiv 56 8=7 from rfl];exact wr (by decide) (by decide)⟩;by_cases c3:f=3;rotate_left
 ·rw [if_neg c3,if_neg c3,W0.out];by_cases d1:mn (lv s 3 2) (lv s 5 2) < 1
  ·rw [if_pos d1,if_pos d1]
  ·by_cases d2:mx (lv s 3 2) (lv s 5 2) > 64
   ·rw [if_neg d1,if_neg d1,if_pos d2,if_pos d2]
   ·rw [if_neg d1,if_neg d1,if_neg d2,if_neg d2,if_pos (by omega),if_pos (by omega),Int.toNat_natCast]
 have L4:bits_Little.f (k+5) s 56 1=some (if 7+1≤s.size then (lv s 7 1,s,64,0) else (0,⟨#[]⟩,0,2)):=little_at s 7 1 56 rfl (by omega) hs (.inl rfl) k;rw [if_pos c3,if_pos c3,L4,Option.bind_some];by_cases c8:s.size < 8
 ·rw [if_neg (show ¬ 7+1≤s.size by omega),if_pos c8];simp only;rw [if_neg (by decide)]
 have W1:Aside0 (wrap64 (Int.tdiv 64 8)=((8:Nat):Int)):=⟨by rw [show Int.tdiv 64 8=8 from rfl];exact wr (by decide) (by decide)⟩;have hr:=lv_rng s 7 1;have W2:Aside0 (wrap64 (lv s 7 1+1)=lv s 7 1+1):=⟨wr (by omega) (by omega)⟩;rw [if_pos (show 7+1≤s.size by omega),if_neg c8];simp only;rw [if_pos trivial,W1.out,W2.out];by_cases d1:mn (lv s 3 2) (lv s 5 2) < 1
 ·rw [if_pos d1,if_pos d1]
 ·by_cases d2:mx (lv s 3 2) (lv s 5 2) > 64
  ·rw [if_neg d1,if_neg d1,if_pos d2,if_pos d2]
  ·rw [if_neg d1,if_neg d1,if_neg d2,if_neg d2,if_pos (by omega),if_pos (by omega),Int.toNat_natCast]
theorem head_is (s:ByteArray) (hs:s.size≤1000000) (k:Nat):pixel_head.f (k+6) s 0=some (hdr s):=by
 have L0:bits_Little.f (k+1+5) s 0 2=some (if 0+2≤s.size then (lv s 0 2,s,16,0) else (0,⟨#[]⟩,0,2)):=little_at s 0 2 0 rfl (by omega) hs (.inr rfl) (k+1);unfold pixel_head.f;rw [show k+6=k+1+5 from rfl,L0,Option.bind_some];by_cases c2:s.size < 2
 ·rw [if_neg (show ¬ 0+2≤s.size by omega)];simp only;rw [if_neg (by decide)];unfold hdr;rw [if_pos c2]
 have L1:bits_Little.f (k+1+5) s 16 1=some (if 2+1≤s.size then (lv s 2 1,s,24,0) else (0,⟨#[]⟩,0,2)):=little_at s 2 1 16 rfl (by omega) hs (.inl rfl) (k+1);rw [if_pos (show 0+2≤s.size by omega)];simp only;rw [if_pos trivial,L1,Option.bind_some];by_cases c3:s.size < 3
 ·rw [if_neg (show ¬ 2+1≤s.size by omega)];simp only;rw [if_neg (by decide)];unfold hdr;rw [if_neg c2,if_pos c3]
 rw [if_pos (show 2+1≤s.size by omega)];simp only;rw [if_pos trivial];by_cases cf:lv s 2 1=3
 ·rw [if_pos cf];exact head_rest s hs k _ false (by omega) rfl (by rw [cf];rfl)
 ·rw [if_neg cf];exact head_rest s hs k _ _ (by omega) rfl (by simp [cf])
end Go.Proofs.Ytpbhkdamkbopkaa.Px
namespace Go.Proofs.Ytpbhkdamkbopkaa.Pure
set_option linter.unusedSimpArgs false
set_option linter.unusedVariables false
open Go.RowKit Go.Proofs.Ytpbhkdamkbopkaa.GPix Go.Proofs.Ytpbhkdamkbopkaa.GPixb Go.Proofs.Ytpbhkdamkbopkaa.PR Go.Proofs.Ytpbhkdamkbopkaa.Px Go.Proofs.YtpbhkdamkbopkaaW.PrintWords Go.Proofs.YtpbhkdamkbopkaaW.PrintLast Go.Proofs.YtpbhkdamkbopkaaW.PrintMore
open Go.Proofs.Ytpbhkdamkbopkaa.Inf (strOfNums_append bt_left bt_nums)
open Go.Proofs.Ytpbhkdamkbopkaa.GBack2 (inflate_Open.f)
theorem again_awake (k:Nat) (h:300≤k):celluloidlaw11_awake.f k=some true:=by
 obtain ⟨d,rfl⟩:∃ d,k=300+d:=⟨k - 300,by omega⟩;exact celluloidlaw11_awake.more _ _ celluloidlaw11_awake.at_ d
/-- Equal bitmaps are told as such. -/
theorem equal_l0 (id w h:Int) (l:List S89) (hl:l.length≤1000000) (d:Nat):∀ (i k:Nat),i+d=l.length → celluloidref11_Equal.l0 (k+d+1) (i:Int) id w h l id w h l=some true:=by
 induction d with
 |zero=>intro i k hi;rw [celluloidref11_Equal.l0,if_neg (by omega)]
 |succ d ih =>
  intro i k hi;have h1:=ih (i+1) k (by omega);have e:wrap64 ((i:Int)+1)=((i+1:Nat):Int):=by rw [wr (by omega) (by omega)];omega
  rw [show k+(d+1)+1=(k+d+1)+1 by omega,celluloidref11_Equal.l0,if_pos (by omega),if_pos (by omega),if_pos (by omega),if_neg (by simp),e];exact h1
theorem equal_is (id w h:Int) (l:List S89) (hl:l.length≤1000000) (k:Nat) (hk:l.length+2≤k):celluloidref11_Equal.f k id w h l id w h l=some true:=by
 obtain ⟨k1,rfl⟩:∃ k1,k=k1+l.length+1+1:=⟨k - l.length - 2,by omega⟩;unfold celluloidref11_Equal.f;have e:((l.length:Int) != (l.length:Int))=false:=bne_self_eq_false _;rw [if_pos rfl,if_pos rfl,if_pos rfl,e,celluloidref11_Equal.j0,if_neg (by decide)];exact equal_l0 id w h l hl l.length 0 k1 (by omega)
end Go.Proofs.Ytpbhkdamkbopkaa.Pure
namespace Go.Proofs.Ytpbhkdamkbopkaa.Pure
set_option linter.unusedSimpArgs false
set_option linter.unusedVariables false
open Go.RowKit Go.Proofs.Ytpbhkdamkbopkaa.GPix Go.Proofs.Ytpbhkdamkbopkaa.GPixb Go.Proofs.Ytpbhkdamkbopkaa.PR Go.Proofs.Ytpbhkdamkbopkaa.Px Go.Proofs.YtpbhkdamkbopkaaW.PrintWords Go.Proofs.YtpbhkdamkbopkaaW.PrintLast Go.Proofs.YtpbhkdamkbopkaaW.PrintMore
open Go.Proofs.Ytpbhkdamkbopkaa.Inf (strOfNums_append bt_left bt_nums)
open Go.Proofs.Ytpbhkdamkbopkaa.GBack2 (inflate_Open.f)
/-- What is written is taken as it was. -/
theorem hd7_rng (id w h:Int):∀ x ∈ hd7 id w h,0≤x∧x≤255:=by
 intro x hx;unfold hd7 two at hx;simp only [List.mem_append,List.mem_cons,List.not_mem_nil,or_false] at hx
 rcases hx with (rfl | rfl) | rfl | (rfl | rfl) | rfl | rfl <;> omega
theorem hdr_bmp (id w h:Int) (l:List S89) (h0:0≤id) (h1:id < 65536) (w0:1≤w) (w1:w≤64) (g0:1≤h) (g1:h≤64):hdr (bmp id w h l)=(id,w,h,[],0,clo (strOfNums (px l)),0):=by
 have z7:(strOfNums (hd7 id w h)).size=7:=rfl;have hz:(bmp id w h l).size=7+(clo (strOfNums (px l))).size:=by unfold bmp;rw [ByteArray.size_append,z7]
 have hb:∀ j:Nat,j < 7 → bt (bmp id w h l) (j:Int)=(hd7 id w h).getD j 0:=fun j hj=>by
  unfold bmp;rw [bt_left _ _ _ (by omega) (by rw [z7];omega)];exact bt_nums _ (hd7_rng id w h) j hj
 have b0:bt (bmp id w h l) ((0:Nat):Int)=id % 256:=hb 0 (by decide);have b1:bt (bmp id w h l) ((0+1:Nat):Int)=id / 256 % 256:=hb 1 (by decide);have b2:bt (bmp id w h l) ((2:Nat):Int)=5:=hb 2 (by decide);have b3:bt (bmp id w h l) ((3:Nat):Int)=w % 256:=hb 3 (by decide);have b4:bt (bmp id w h l) ((3+1:Nat):Int)=w / 256 % 256:=hb 4 (by decide);have b5:bt (bmp id w h l) ((5:Nat):Int)=h % 256:=hb 5 (by decide);have b6:bt (bmp id w h l) ((5+1:Nat):Int)=h / 256 % 256:=hb 6 (by decide);have l0:lv (bmp id w h l) 0 2=id:=by unfold lv;rw [if_neg (by decide),b0,b1];omega
 have l2:lv (bmp id w h l) 2 1=5:=by unfold lv;rw [if_pos rfl,b2]
 have l3:lv (bmp id w h l) 3 2=w:=by unfold lv;rw [if_neg (by decide),b3,b4];omega
 have l5:lv (bmp id w h l) 5 2=h:=by unfold lv;rw [if_neg (by decide),b5,b6];omega
 have hx:(bmp id w h l).extract 7 (bmp id w h l).size=clo (strOfNums (px l)):=by
  rw [hz];unfold bmp;exact ByteArray.extract_append_eq_right (by rw [z7]) (by rw [z7])
 have hm1:¬ mn w h < 1:=by unfold mn;split <;> omega
 have hm2:¬ mx w h > 64:=by unfold mx;split <;> omega
 unfold hdr;rw [l0,l2,l3,l5,if_neg (by omega),if_neg (by omega),if_neg (fun q=>q.2 rfl),if_neg (by omega),if_neg (by omega),if_neg (by decide),if_neg hm1,if_neg hm2,hx]
theorem take_back (id w h:Int) (l:List S89) (c:rb id w h l=true) (k:Nat) (hk:300000≤k):pixel_Take.f k (bmp id w h l)=some (id,w,h,l,0):=by
 have c2:=c;unfold rb at c2;rw [Bool.and_eq_true,decide_eq_true_eq] at c2;obtain ⟨⟨c1,c2,c3,c4,c5,c6,c7⟩,c8⟩:=c2;have hm:=side_mul ⟨c3,c4⟩ ⟨c5,c6⟩;have hl:=px_len l;have hz:(strOfNums (px l)).size=4*l.length:=by rw [strOfNums_size,hl]
 have hp:=packed_short (strOfNums (px l));have hc:=clo_size (strOfNums (px l));have z7:(strOfNums (hd7 id w h)).size=7:=rfl;have hbz:(bmp id w h l).size≤1000000:=by unfold bmp;rw [ByteArray.size_append,z7];omega
 obtain ⟨k1,rfl⟩:∃ k1,k=k1+6:=⟨k - 6,by omega⟩;unfold pixel_Take.f;rw [head_is _ hbz,hdr_bmp id w h l c1 c2 c3 c4 c5 c6,Option.bind_some];simp only;rw [if_pos trivial,back_open (strOfNums (px l)) (by omega) _ (by omega),Option.bind_some];simp only
 have hpl:pixel_plain.f (k1+6) (strOfNums (px l)) ((l.length:Nat):Int)=some (l,true):=by
  rw [plain_is _ l.length (by omega) _ (by omega),if_pos hz,pxs_back l c8]
 rw [if_pos trivial,if_neg (by decide),wr (by omega) (by omega),← c7,hpl,Option.bind_some];simp only;rw [if_pos trivial,show k1+6=(k1+1)+5 from rfl,right_is,Option.bind_some,if_pos c]
end Go.Proofs.Ytpbhkdamkbopkaa.Pure
set_option linter.unusedSimpArgs false
set_option linter.unusedVariables false
namespace Go.Proofs.Ytpbhkdamkbopkaa.RefCo
open Go.RowKit Go.Proofs.Ytpbhkdamkbopkaa.Ext Go.Proofs.Ytpbhkdamkbopkaa.GDefl Go.Proofs.YtpbhkdamkbopkaaW.PrintWords Go.Proofs.YtpbhkdamkbopkaaW.PrintLast Go.Proofs.YtpbhkdamkbopkaaW.PrintMore
theorem wrap_in {n:Int} (h0:-9223372036854775808≤n) (h1:n≤9223372036854775807):wrap64 n=n:=by unfold wrap64;omega
def Gn (l:List Int) (n:Nat):Int:=firstC l n+cz l n
theorem firstC_succ (l:List Int) (n:Nat):firstC l (n+1)=2*Gn l n:=rfl
theorem Gn_zero (l:List Int):Gn l 0=0:=by
 unfold Gn cz;rw [List.getD_eq_getElem?_getD,cnts_get l 0 (by decide)];rfl
theorem pow_split (n:Nat) (h:n+1≤15):(2:Int) ^ (15 - n)=2*2 ^ (15 - (n+1)):=by
 rw [show 15 - n=(15 - (n+1))+1 by omega,Int.pow_succ,Int.mul_comm]
theorem Gn_succ (l:List Int) (n:Nat):Gn l (n+1)=2*Gn l n+cz l (n+1):=rfl
theorem Gn_room (l:List Int):∀ n,n≤15 → Gn l n*2 ^ (15 - n)=32768 - roomN (cnts l) (n+1):=by
 intro n
 induction n with
 |zero =>
  intro _;rw [Gn_zero];have h0:cz l 0=0:=by have:=Gn_zero l;unfold Gn firstC at this;omega
  show 0*2 ^ 15=32768 - (32768 - cz l 0*2 ^ (15 - 0));rw [h0];simp
 |succ n ih =>
  intro hn;have h1:=ih (by omega);rw [pow_split n hn] at h1;have h2:roomN (cnts l) (n+1+1)=roomN (cnts l) (n+1) - cz l (n+1)*2 ^ (15 - (n+1)):=rfl;rw [h2,Gn_succ,Int.add_mul]
  have h3:2*Gn l n*2 ^ (15 - (n+1))=Gn l n*(2*2 ^ (15 - (n+1))):=by
   rw [Int.mul_comm 2,Int.mul_assoc]
  rw [h3];omega
def half (n:Nat):Int:=32768 / 2 ^ n
theorem half_succ (n:Nat):half (n+1)=half n / 2:=by
 unfold half;rw [Int.pow_succ,Int.ediv_ediv_of_nonneg (Int.le_of_lt (Int.pow_pos (by decide)))]
theorem half_rng (n:Nat):0≤half n∧half n≤32768:=by
 unfold half;exact ⟨Int.ediv_nonneg (by decide) (Int.le_of_lt (Int.pow_pos (by decide))),Int.ediv_le_self _ (by decide)⟩
theorem half_is (n:Nat) (h:n≤15):half n=2 ^ (15 - n):=by
 unfold half;have e:(32768:Int)=2 ^ (15 - n)*2 ^ n:=by rw [← Int.pow_add,show 15 - n+n=15 by omega];decide
 rw [e,Int.mul_ediv_cancel _ (Int.ne_of_gt (Int.pow_pos (by decide)))]
theorem rd_nat (l:List Int) (k:Nat):rd l k=l.getD k 0:=by unfold rd;rw [Int.toNat_natCast]
theorem ok_at (l:List Int) (h:okL l=true) (i:Nat) (hi:i < l.length):∃ n:Nat,l.getD i 0=n∧n≤15:=by
 have hm:l.getD i 0 ∈ l:=by rw [List.getD_eq_getElem?_getD,List.getElem?_eq_getElem hi];exact List.getElem_mem hi
 have h2:=List.all_eq_true.1 h _ hm;generalize l.getD i 0=z at h2 ⊢;simp at h2;exact ⟨z.toNat,by omega,by omega⟩
theorem cz_snoc (a:List Int) (x:Int) (n:Nat) (h:n < 16):cz (a ++ [x]) n=cz a n+if x=n∧0 < n then 1 else 0:=by
 unfold cz;rw [List.getD_eq_getElem?_getD,List.getD_eq_getElem?_getD,cnts_get _ _ h,cnts_get _ _ h];simp only [Option.getD_some];by_cases h0:n=0
 ·rw [if_pos h0,if_pos h0,if_neg (by omega)];rfl
 ·rw [if_neg h0,if_neg h0,cnt_snoc];by_cases hx:x=(n:Int)
  ·rw [if_pos hx,if_pos ⟨hx,by omega⟩]
  ·rw [if_neg hx,if_neg (fun h=>hx h.1)]
theorem room_snoc (a:List Int) (x:Int) (n:Nat) (h:n≤16):roomN (cnts (a ++ [x])) n=roomN (cnts a) n - if 0 < x∧x < n then 2 ^ (15 - x.toNat) else 0:=by
 induction n with
 |zero=>rw [if_neg (by omega)];rfl
 |succ n ih =>
  have h1:roomN (cnts (a ++ [x])) (n+1)=roomN (cnts (a ++ [x])) n - cz (a ++ [x]) n*2 ^ (15 - n):=rfl;have h2:roomN (cnts a) (n+1)=roomN (cnts a) n - cz a n*2 ^ (15 - n):=rfl;have hc:=cz_snoc a x n (by omega);rw [h1,h2,ih (by omega)];by_cases hx:x=(n:Int);rotate_left
  ·rw [if_neg (show ¬ (x=(n:Int)∧0 < n) from fun h=>hx h.1),Int.add_zero] at hc;rw [hc];by_cases h3:0 < x∧x < n
   ·rw [if_pos h3,if_pos (show 0 < x∧x < ((n+1:Nat):Int) by omega)];omega
   ·rw [if_neg h3,if_neg (show ¬ (0 < x∧x < ((n+1:Nat):Int)) by omega)];omega
  by_cases h0:0 < n
  ·rw [if_pos (show x=(n:Int)∧0 < n from ⟨hx,h0⟩)] at hc;rw [hc,if_neg (show ¬ (0 < x∧x < (n:Int)) by omega),if_pos (show 0 < x∧x < ((n+1:Nat):Int) by omega),Int.add_mul,hx,Int.toNat_natCast];omega
  ·rw [if_neg (show ¬ (x=(n:Int)∧0 < n) by omega)] at hc;rw [hc,if_neg (show ¬ (0 < x∧x < (n:Int)) by omega),if_neg (show ¬ (0 < x∧x < ((n+1:Nat):Int)) by omega),Int.add_zero];omega
theorem room_nil (n:Nat) (h:n≤16):roomN (cnts []) n=32768∧manyN (cnts []) n=0:=by
 have hz:∀ m,cz [] m=0:=fun m=>by have:=cz_rng [] m;simp at this;omega
 induction n with
 |zero=>exact ⟨rfl,rfl⟩
 |succ n ih =>
  have h1:roomN (cnts []) (n+1)=roomN (cnts []) n - cz [] n*2 ^ (15 - n):=rfl;have h2:manyN (cnts []) (n+1)=manyN (cnts []) n+cz [] n:=rfl;rw [h1,h2,hz n,(ih (by omega)).1,(ih (by omega)).2];simp
def ahead (l:List Int) (i:Nat):Nat → Int
 |0=>0
 |q+1=>ahead l i q+if 0 < l.getD q 0∧(l.getD q 0 < l.getD i 0 ∨ l.getD q 0=l.getD i 0∧q < i) then half (l.getD q 0).toNat else 0
theorem ahead_rng (l:List Int) (i q:Nat):0≤ahead l i q∧ahead l i q≤32768*q:=by
 induction q with
 |zero=>simp [ahead]
 |succ q ih =>
  have:=half_rng (l.getD q 0).toNat;simp only [ahead]
  split <;> omega
theorem ahead_is (l : List Int) (h : okL l = true) (i : Nat) (hi : i < l.length) (n : Nat) (hn : l.getD i 0 = n) (h0 : 0 < n) (hn15 : n ≤ 15) : ∀ q, q ≤ l.length →
  ahead l i q=32768 - roomN (cnts (l.take q)) n+((idxN l n (min q i)).length:Int)*2 ^ (15 - n):=by
 intro q
 induction q with
 |zero=>intro _;rw [List.take_zero,(room_nil n (by omega)).1,Nat.zero_min];simp [ahead,idxN]
 |succ q ih =>
  intro hq;obtain ⟨m,em,hm⟩:=ok_at l h q (by omega);have ih:=ih (by omega);rw [take_snoc' l q (by omega),room_snoc _ _ n (by omega),em];simp only [ahead];rw [ih,em,hn,Int.toNat_natCast,half_is m hm];by_cases hqi:q < i;rotate_left
  ·rw [show min (q+1) i=i by omega,show min q i=i by omega];by_cases hlt:0 < (m:Int)∧(m:Int) < n
   ·rw [if_pos hlt,if_pos (show 0 < (m:Int)∧((m:Int) < n ∨ (m:Int)=n∧q < i) from ⟨hlt.1,.inl hlt.2⟩)];omega
   ·rw [if_neg hlt,if_neg (show ¬ (0 < (m:Int)∧((m:Int) < n ∨ (m:Int)=n∧q < i)) by omega)];omega
  rw [show min (q+1) i=q+1 by omega,show min q i=q by omega,idxN_succ,em,List.length_append];by_cases hmn:m=n
  ·subst hmn;rw [if_pos (show 0 < (m:Int)∧((m:Int) < m ∨ (m:Int)=m∧q < i) from ⟨by omega,.inr ⟨rfl,hqi⟩⟩),if_neg (show ¬ (0 < (m:Int)∧(m:Int) < m) by omega),if_pos rfl];simp only [List.length_singleton,Int.natCast_add,Int.add_mul];omega
  have hz:((idxN l n q).length+(if (m:Int)=(n:Int) then [(q:Int)] else []).length:Nat)=(idxN l n q).length:=by
   rw [if_neg (by omega)];rfl
  rw [hz];by_cases hlt:0 < (m:Int)∧(m:Int) < n
  ·rw [if_pos hlt,if_pos (show 0 < (m:Int)∧((m:Int) < n ∨ (m:Int)=n∧q < i) from ⟨hlt.1,.inl hlt.2⟩)];omega
  ·rw [if_neg hlt,if_neg (show ¬ (0 < (m:Int)∧((m:Int) < n ∨ (m:Int)=n∧q < i)) by omega)];omega
theorem firstC_room (l:List Int) (n:Nat) (h0:0 < n) (hn:n≤15):firstC l n*2 ^ (15 - n)=32768 - roomN (cnts l) n:=by
 obtain ⟨m,rfl⟩:∃ m,n=m+1:=⟨n - 1,by omega⟩;have h1:=Gn_room l m (by omega);rw [pow_split m hn] at h1;rw [firstC_succ,Int.mul_comm 2,Int.mul_assoc];exact h1
/-- All that stands ahead,in units of the code's own last bit. -/
theorem ahead_code (l:List Int) (h:okL l=true) (i:Nat) (hi:i < l.length) (n:Nat) (hn:l.getD i 0=n) (h0:0 < n) (hn15:n≤15):ahead l i l.length / 2 ^ (15 - n)=codeAt l i:=by
 rw [ahead_is l h i hi n hn h0 hn15 l.length (Nat.le_refl _),List.take_length,← firstC_room l n h0 hn15,show min l.length i=i by omega,← Int.add_mul,
  Int.mul_ediv_cancel _ (Int.ne_of_gt (Int.pow_pos (by decide)))]
 unfold codeAt;rw [rank_n l i n hn,hn,Int.toNat_natCast]
theorem refcodes_l2 (l out : List Int) (i q : Nat) (hq : q < l.length) (n : Nat) (hn : l.getD q 0 = n) (hn15 : n ≤ 15) (sum : Int) (hs0 : 0 ≤ sum) (hs1 : sum ≤ 32768 * 400) (hl : l.length ≤ 320) (r : List Int)
  (h:Ev (fun k=>celluloidref04_Codes.l1 k l out i (sum+half n) ((q+1:Nat):Int)) r) (d:Nat):∀ j:Nat,j+d=n →
  Ev (fun k=>celluloidref04_Codes.l2 k l out i sum q (half j) j) r:=by
 have hrd:rd l q=n:=by rw [rd_nat];exact hn
 have hq1:(q:Int) < l.length:=by omega
 have e1:Aside0 (wrap64 ((q:Int)+1)=((q+1:Nat):Int)):=⟨by rw [wrap_in (by omega) (by omega)];rfl⟩
 induction d with
 |zero =>
  intro j hj;obtain rfl:j=n:=by omega
  have hh:=half_rng j;obtain ⟨K,h⟩:=h
  dsimp only at h
  have e2:Aside0 (wrap64 (sum+half j)=sum+half j):=⟨wrap_in (by omega) (by omega)⟩;refine ⟨K+1,fun k hk=>?_⟩;obtain ⟨k,rfl⟩:∃ q,k=q+1:=⟨k - 1,by omega⟩;simp only [celluloidref04_Codes.l2];rw [if_pos (Int.natCast_nonneg _),if_pos hq1,hrd,if_neg (Int.lt_irrefl _),e2.out,e1.out];exact h k (by omega)
 |succ d ih =>
  intro j hj;obtain ⟨K,hd⟩:=ih (j+1) (by omega)
  dsimp only at hd
  have hh:=half_rng j;rw [half_succ] at hd;have hjn:(j:Int) < n:=by omega
  have e2:Aside0 (wrap64 (half j / 2)=half j / 2):=⟨wrap_in (by omega) (by omega)⟩;have e3:Aside0 (wrap64 ((j:Int)+1)=((j+1:Nat):Int)):=⟨by rw [wrap_in (by omega) (by omega)];rfl⟩;refine ⟨K+1,fun k hk=>?_⟩;obtain ⟨k,rfl⟩:∃ q,k=q+1:=⟨k - 1,by omega⟩;simp only [celluloidref04_Codes.l2];rw [if_pos (Int.natCast_nonneg _),if_pos hq1,hrd,if_pos hjn,Int.tdiv_eq_ediv_of_nonneg hh.1,e2.out,e3.out];exact hd k (by omega)
theorem refcodes_l3 (l out : List Int) (i : Nat) (hi : i < out.length) (hol : out.length ≤ 320) (r : List Int) (d : Nat) : ∀ (j : Nat) (sum : Int), j + d = 15 → 0 ≤ sum → sum ≤ 32768 * 400 →
  Ev (fun k=>celluloidref04_Codes.l0 k l (out.set i (sum / 2 ^ d)) ((i+1:Nat):Int)) r → Ev (fun k=>celluloidref04_Codes.l3 k l out i sum j) r:=by
 have e1:Aside0 (wrap64 ((i:Int)+1)=((i+1:Nat):Int)):=⟨by rw [wrap_in (by omega) (by omega)];rfl⟩
 induction d with
 |zero =>
  intro j sum hj hs0 hs1 h;obtain ⟨K,h⟩:=h
  dsimp only at h
  rw [Int.pow_zero,Int.ediv_one] at h;have hj':¬ (j:Int) < 15:=by omega
  have hi':(i:Int) < out.length:=by omega
  refine ⟨K+1,fun k hk=>?_⟩;obtain ⟨k,rfl⟩:∃ q,k=q+1:=⟨k - 1,by omega⟩;simp only [celluloidref04_Codes.l3];rw [if_neg hj',if_pos (Int.natCast_nonneg _),if_pos hi',Int.toNat_natCast,e1.out];exact h k (by omega)
 |succ d ih =>
  intro j sum hj hs0 hs1 h;have e:sum / 2 ^ (d+1)=sum / 2 / 2 ^ d:=by rw [Int.pow_succ,Int.mul_comm,Int.ediv_ediv_of_nonneg (by decide)]
  rw [e] at h;obtain ⟨K,h⟩:=ih (j+1) (sum / 2) (by omega) (by omega) (by omega) h
  dsimp only at h
  have hj':(j:Int) < 15:=by omega
  have e2:Aside0 (wrap64 (sum / 2)=sum / 2):=⟨wrap_in (by omega) (by omega)⟩;have e3:Aside0 (wrap64 ((j:Int)+1)=((j+1:Nat):Int)):=⟨by rw [wrap_in (by omega) (by omega)];rfl⟩;refine ⟨K+1,fun k hk=>?_⟩;obtain ⟨k,rfl⟩:∃ q,k=q+1:=⟨k - 1,by omega⟩;simp only [celluloidref04_Codes.l3];rw [if_pos hj',Int.tdiv_eq_ediv_of_nonneg hs0,e2.out,e3.out];exact h k (by omega)
theorem refcodes_l1 (l out : List Int) (hl : l.length ≤ 320) (hok : okL l = true) (i : Nat) (hi : i < l.length) (r : List Int)
  (h:Ev (fun k=>celluloidref04_Codes.l3 k l out i (ahead l i l.length) (l.getD i 0)) r) (d:Nat):∀ q:Nat,q+d=l.length →
  Ev (fun k=>celluloidref04_Codes.l1 k l out i (ahead l i q) q) r:=by
 have hri:rd l i=l.getD i 0:=rd_nat l i;have hi1:(i:Int) < l.length:=by omega
 induction d with
 |zero =>
  intro q hq;obtain rfl:q=l.length:=by omega
  obtain ⟨K,h⟩:=h
  dsimp only at h
  refine ⟨K+1,fun k hk=>?_⟩;obtain ⟨k,rfl⟩:∃ q,k=q+1:=⟨k - 1,by omega⟩;simp only [celluloidref04_Codes.l1];rw [if_neg (Int.lt_irrefl _),if_pos (Int.natCast_nonneg _),if_pos hi1,hri];exact h k (by omega)
 |succ d ih =>
  intro q hq;have hrq:rd l q=l.getD q 0:=rd_nat l q;have hq1:(q:Int) < l.length:=by omega
  obtain ⟨m,em,hm⟩:=ok_at l hok q (by omega);have hd:=ih (q+1) (by omega);have har:=ahead_rng l i q;have e1:Aside0 (wrap64 ((q:Int)+1)=((q+1:Nat):Int)):=⟨by rw [wrap_in (by omega) (by omega)];rfl⟩;simp only [ahead] at hd
  -- the test comes to this
  have key:Ev (fun k=>celluloidref04_Codes.j2 k l out i (ahead l i q) q (decide (0 < l.getD q 0∧(l.getD q 0 < l.getD i 0 ∨ l.getD q 0=l.getD i 0∧q < i)))) r:=by
   by_cases hc:0 < l.getD q 0∧(l.getD q 0 < l.getD i 0 ∨ l.getD q 0=l.getD i 0∧q < i)
   ·rw [decide_eq_true hc];rw [if_pos hc,em,Int.toNat_natCast] at hd;have h2:=refcodes_l2 l out i q (by omega) m em hm (ahead l i q) har.1 (by omega) hl r hd m 0 (by omega);exact Ev.step (fun k=>by simp only [celluloidref04_Codes.j2];rw [if_pos trivial];rfl) h2
   ·rw [decide_eq_false hc];rw [if_neg hc,Int.add_zero] at hd;exact Ev.step (fun k=>by simp only [celluloidref04_Codes.j2];rw [if_neg (by simp),e1.out]) hd
  refine Ev.step (fun k=>?_) key;simp only [celluloidref04_Codes.l1];rw [if_pos hq1,if_pos (Int.natCast_nonneg _),hrq,hri];by_cases h0:l.getD q 0 > 0;rotate_left
  ·rw [if_neg h0,decide_eq_false (fun h=>h0 h.1)]
  rw [if_pos h0,if_pos (Int.natCast_nonneg _),if_pos hi1];by_cases h1:l.getD q 0 < l.getD i 0
  ·rw [if_pos h1,decide_eq_true ⟨h0,.inl h1⟩]
  rw [if_neg h1];by_cases h2:l.getD q 0=l.getD i 0
  ·rw [if_pos h2]
   congr 1
   rw [Bool.eq_iff_iff];simp only [decide_eq_true_eq];omega
  ·rw [if_neg h2,decide_eq_false (fun h=>h.2.elim h1 (fun h=>h2 h.1))]
theorem set_mid (a b:List Int) (x v:Int) (i:Nat) (h:a.length=i):(a ++ x :: b).set i v=a ++ v :: b:=by
 subst h;simp [List.set_append]
theorem codesOf_length (l:List Int):(codesOf l).length=l.length:=by simp [codesOf]
theorem codesOf_get (l:List Int) (i:Nat) (hi:i < l.length):(codesOf l)[i]?=some (if l.getD i 0≤0 then 0 else codeAt l i):=by simp [codesOf,hi]
theorem refcodes_l0 (l : List Int) (hl : l.length ≤ 320) (hok : okL l = true) (d : Nat) : ∀ i : Nat, i + d = l.length →
  Ev (fun k=>celluloidref04_Codes.l0 k l ((codesOf l).take i ++ List.replicate d 0) i) (codesOf l):=by
 induction d with
 |zero =>
  intro i hi;obtain rfl:i=l.length:=by omega
  refine Ev.step (f:=fun _=>some (codesOf l)) (fun k=>?_) (Ev.now _);simp only [celluloidref04_Codes.l0];rw [if_neg (Int.lt_irrefl _),List.take_of_length_le (by rw [codesOf_length];omega)];simp
 |succ d ih =>
  intro i hi;have hd:=ih (i+1) (by omega);have hil:(i:Int) < l.length:=by omega
  have hri:rd l i=l.getD i 0:=rd_nat l i;have hget:=codesOf_get l i (by omega);have hci:i < (codesOf l).length:=by rw [codesOf_length];omega
  have e1:Aside0 (wrap64 ((i:Int)+1)=((i+1:Nat):Int)):=⟨by rw [wrap_in (by omega) (by omega)];rfl⟩
  have hset:∀ v,(codesOf l)[i]?=some v → ((codesOf l).take i ++ List.replicate (d+1) 0).set i v=(codesOf l).take (i+1) ++ List.replicate d 0:=by
   intro v hv;rw [List.take_succ_eq_append_getElem hci,List.replicate_succ,set_mid _ _ _ _ i (by rw [List.length_take];omega),List.append_assoc,List.singleton_append];rw [List.getElem?_eq_getElem hci] at hv;(injection hv with hv);rw [hv]
  obtain ⟨n,en,hn⟩:=ok_at l hok i (by omega);by_cases h0:l.getD i 0=0
  ·rw [if_pos (by omega)] at hget;have hs:=hset 0 hget
   have hsame:((codesOf l).take i ++ List.replicate (d+1) 0).set i 0=(codesOf l).take i ++ List.replicate (d+1) (0:Int):=by
    rw [List.replicate_succ,set_mid _ _ _ _ i (by rw [List.length_take];omega)]
   rw [hsame] at hs;rw [hs];refine Ev.step (fun k=>?_) hd;simp only [celluloidref04_Codes.l0];rw [if_pos hil,if_pos (Int.natCast_nonneg _),hri,if_pos h0,e1.out]
  rw [if_neg (by omega)] at hget;have hs:=hset _ hget
  have hol:((codesOf l).take i ++ List.replicate (d+1) (0:Int)).length=l.length:=by
   rw [List.length_append,List.length_take,List.length_replicate];omega
  have har:=ahead_rng l i l.length;rw [← hs,← ahead_code l hok i (by omega) n en (by omega) hn] at hd;have h3:=refcodes_l3 l _ i (by rw [hol];omega) (by rw [hol];omega) _ (15 - n) n (ahead l i l.length) (by omega) har.1 (by omega) hd;rw [← en] at h3;have h1:=refcodes_l1 l _ hl hok i (by omega) _ h3 l.length 0 (by omega);refine Ev.step (fun k=>?_) h1;simp only [celluloidref04_Codes.l0];rw [if_pos hil,if_pos (Int.natCast_nonneg _),hri,if_neg h0];rfl
theorem refcodes_is (l:List Int) (hl:l.length≤320) (hok:okL l=true):Ev (fun k=>celluloidref04_Codes.f k l) (codesOf l):=by
 refine Ev.congr (fun k=>?_) (refcodes_l0 l hl hok l.length 0 (by omega));unfold celluloidref04_Codes.f;rw [if_pos (Int.natCast_nonneg _),Int.toNat_natCast,if_pos (by omega)];rfl
end Go.Proofs.Ytpbhkdamkbopkaa.RefCo
namespace Go.Proofs.Ytpbhkdamkbopkaa.Wr
open Go.RowKit
/-- The bytes,i of the bits being laid down. -/
def pack (l:List Int) (i:Nat):List Int:=pk (l.take i) ++ List.replicate ((l.length+7) / 8 - (pk (l.take i)).length) 0
theorem take_next (l:List Int) (i:Nat) (h:i < l.length):l.take (i+1)=l.take i ++ [l.getD i 0]:=by
 rw [List.take_succ_eq_append_getElem h];simp [List.getD_eq_getElem?_getD,h]
theorem pack_zero (l:List Int):pack l 0=List.replicate ((l.length+7) / 8) 0:=by
 unfold pack;simp [pk_nil]
theorem pack_all (l:List Int):pack l l.length=pk l:=by
 unfold pack;rw [List.take_length,pk_len,Nat.sub_self];simp
theorem pack_len (l:List Int) (i:Nat) (h:i≤l.length):(pack l i).length=(l.length+7) / 8:=by
 unfold pack;rw [List.length_append,List.length_replicate,pk_len,List.length_take];omega
theorem set_at (P Q:List Int) (x y:Int) (n:Nat) (h:P.length=n):(P ++ x :: Q).set n y=P ++ y :: Q∧(P ++ x :: Q).getD n 0=x:=by
 subst h;constructor
 ·rw [List.set_append_right _ _ (Nat.le_refl _),Nat.sub_self];rfl
 ·rw [List.getD_eq_getElem?_getD,List.getElem?_append_right (Nat.le_refl _),Nat.sub_self];rfl
theorem pack_step (l:List Int) (i:Nat) (h:i < l.length):pack l (i+1)=(pack l i).set (i / 8) ((pack l i).getD (i / 8) 0+l.getD i 0*2 ^ (i % 8)):=by
 have hT:(l.take i).length=i:=by rw [List.length_take];omega
 have hP:(pk (l.take i)).length=(i+7) / 8:=by rw [pk_len,hT]
 have hN:pk (l.take (i+1))=put1 (pk (l.take i)) i (l.getD i 0):=by rw [take_next l i h,pk_snoc,hT]
 unfold pack;rw [hN];generalize pk (l.take i)=P at hP ⊢;unfold put1;by_cases c:i % 8=0
 ·rw [if_pos c,c];obtain ⟨m,hm⟩:∃ m,(l.length+7) / 8 - P.length=m+1:=⟨(l.length+7) / 8 - P.length - 1,by omega⟩;have e:=set_at P (List.replicate m 0) 0 (0+l.getD i 0*2 ^ 0) (i / 8) (by omega);rw [hm,List.replicate_succ,e.2,e.1,List.length_append,List.length_singleton,show (l.length+7) / 8 - (P.length+1)=m by omega];simp
 ·rw [if_neg c,List.length_set,show P.length - 1=i / 8 by omega,List.set_append_left _ _ (by omega)]
  congr 3
  rw [List.getD_eq_getElem?_getD,List.getD_eq_getElem?_getD,List.getElem?_append_left (by omega)]
theorem pack_rng (l:List Int) (hl:Bits l) (i:Nat):∀ x ∈ pack l i,0≤x∧x≤255:=by
 intro x hx
 rcases List.mem_append.1 hx with hx | hx
 ·exact (pk_rng (B:=l.take i) (fun b hb=>hl b (List.mem_of_mem_take hb))).1 x hx
 ·rw [List.eq_of_mem_replicate hx];decide
/-- A byte that is laid down is one. -/
theorem pack_byte (l:List Int) (hl:Bits l) (i:Nat) (h:i < l.length):0≤(pack l i).getD (i / 8) 0∧0≤(pack l i).getD (i / 8) 0+l.getD i 0*2 ^ (i % 8)∧(pack l i).getD (i / 8) 0+l.getD i 0*2 ^ (i % 8)≤255:=by
 have hlen:=pack_len l i (by omega);have h8:i / 8 < (pack l i).length:=by omega
 have g:∀ (L:List Int) (n:Nat),n < L.length → L.getD n 0 ∈ L:=fun L n hn=>by
  rw [List.getD_eq_getElem?_getD,List.getElem?_eq_getElem hn];exact List.getElem_mem hn
 have r0:=pack_rng l hl i _ (g _ _ h8);have r1:=pack_rng l hl (i+1) ((pack l i).getD (i / 8) 0+l.getD i 0*2 ^ (i % 8)) (by rw [pack_step l i h];exact List.mem_set h8 _);exact ⟨r0.1,r1.1,r1.2⟩
end Go.Proofs.Ytpbhkdamkbopkaa.Wr
namespace Go.Proofs.Ytpbhkdamkbopkaa.RefD
set_option linter.unusedSimpArgs false
set_option linter.unusedVariables false
open Go.RowKit Go.Proofs.Ytpbhkdamkbopkaa.GDefl Go.Proofs.Ytpbhkdamkbopkaa.Wr Go.Proofs.Ytpbhkdamkbopkaa.Ext Go.Proofs.YtpbhkdamkbopkaaW.PrintWords Go.Proofs.YtpbhkdamkbopkaaW.PrintLast Go.Proofs.YtpbhkdamkbopkaaW.PrintMore
open Go.Proofs.Ytpbhkdamkbopkaa.RefCo (refcodes_is)
/-- The fixed lengths. -/
def LA:List Int:=(List.range 288).map fun i=>if i < 144 then 8 else if i < 256 then 9 else if i < 280 then 7 else 8
def LB:List Int:=List.replicate 32 5
theorem plain_is:Ev (fun k=>celluloidref05_Plain.f k) (LA,LB):=Ev.of celluloidref05_Plain.mono (k:=700) (by decide +kernel)
theorem LA_len:LA.length=288:=by unfold LA;simp
theorem LB_len:LB.length=32:=by unfold LB;simp
theorem LA_get (i:Nat) (h:i < 288):LA.getD i 0=if i < 144 then 8 else if i < 256 then 9 else if i < 280 then 7 else 8:=by
 unfold LA;simp [List.getD_eq_getElem?_getD,h]
theorem LB_get (i:Nat) (h:i < 32):LB.getD i 0=5:=by
 unfold LB;rw [List.getD_eq_getElem?_getD,List.getElem?_replicate,if_pos h];rfl
theorem okLA:okL LA=true:=by decide +kernel
theorem okLB:okL LB=true:=by decide +kernel
theorem rankA (n:Nat):∀ i,i≤288 → (idxN LA n i).length=if n=8 then (if i≤144 then i else if i≤280 then 144 else i - 136) else if n=9 then (if i≤144 then 0 else if i≤256 then i - 144 else 112) else if n=7 then (if i≤256 then 0 else if i≤280 then i - 256 else 24) else 0:=by
 intro i
 induction i with
 |zero=>intro _;simp [idxN]
 |succ i ih =>
  intro hi;rw [idxN_succ,List.length_append,ih (by omega),LA_get i (by omega)];have e:∀ (p:Prop) [Decidable p],(if p then [(i:Int)] else []).length=if p then 1 else 0:=fun p _=>by split <;> rfl
  rw [e];by_cases h1:i < 144
  ·simp only [if_pos h1];(repeat' split) <;> omega
  ·by_cases h2:i < 256
   ·simp only [if_neg h1,if_pos h2];(repeat' split) <;> omega
   ·by_cases h3:i < 280
    ·simp only [if_neg h1,if_neg h2,if_pos h3];(repeat' split) <;> omega
    ·simp only [if_neg h1,if_neg h2,if_neg h3];(repeat' split) <;> omega
theorem rankB:∀ i,i≤32 → (idxN LB 5 i).length=i:=by
 intro i
 induction i with
 |zero=>intro _;simp [idxN]
 |succ i ih =>
  intro hi;rw [idxN_succ,List.length_append,ih (by omega),LB_get i (by omega),if_pos (by rfl)];rfl
theorem firstA7:firstC LA 7=0:=by decide +kernel
theorem firstA8:firstC LA 8=48:=by decide +kernel
theorem firstA9:firstC LA 9=400:=by decide +kernel
theorem firstB5:firstC LB 5=0:=by decide +kernel
/-- The codes of the fixed lengths. -/
theorem codeA (c:Nat) (h:c < 288):(codesOf LA).getD c 0=if c < 144 then 48+(c:Int) else if c < 256 then 400+(c:Int) - 144 else if c < 280 then (c:Int) - 256 else 192+(c:Int) - 280:=by
 have hg:=LA_get c h
 have e:(codesOf LA).getD c 0=if LA.getD c 0≤0 then 0 else codeAt LA c:=by
  rw [List.getD_eq_getElem?_getD];unfold codesOf;simp [LA_len,h]
 rw [e];by_cases h1:c < 144
 ·rw [if_pos h1] at hg;rw [hg,if_neg (by decide),if_pos h1];unfold codeAt;rw [rank_n LA c 8 hg,hg,rankA 8 c (by omega),if_pos rfl,if_pos (by omega),show (8:Int).toNat=8 from rfl,firstA8]
 by_cases h2:c < 256
 ·rw [if_neg h1,if_pos h2] at hg;rw [hg,if_neg (by decide),if_neg h1,if_pos h2];unfold codeAt;rw [rank_n LA c 9 hg,hg,rankA 9 c (by omega),if_neg (by decide),if_pos rfl,show (9:Int).toNat=9 from rfl,firstA9]
  split
  ·omega
  ·rw [if_pos (by omega)];omega
 by_cases h3:c < 280;rotate_left
 ·rw [if_neg h1,if_neg h2,if_neg h3] at hg;rw [hg,if_neg (by decide),if_neg h1,if_neg h2,if_neg h3];unfold codeAt;rw [rank_n LA c 8 hg,hg,rankA 8 c (by omega),if_pos rfl,show (8:Int).toNat=8 from rfl,firstA8,if_neg (by omega)]
  split <;> omega
 rw [if_neg h1,if_neg h2,if_pos h3] at hg;rw [hg,if_neg (by decide),if_neg h1,if_neg h2,if_pos h3];unfold codeAt;rw [rank_n LA c 7 hg,hg,rankA 7 c (by omega),if_neg (by decide),if_neg (by decide),if_pos rfl,show (7:Int).toNat=7 from rfl,firstA7]
 split
 ·omega
 ·rw [if_pos (by omega)];omega
theorem codeB (c:Nat) (h:c < 32):(codesOf LB).getD c 0=(c:Int):=by
 have hg:=LB_get c h
 have e:(codesOf LB).getD c 0=if LB.getD c 0≤0 then 0 else codeAt LB c:=by
  rw [List.getD_eq_getElem?_getD];unfold codesOf;simp [LB_len,h]
 rw [e,hg,if_neg (by decide)];unfold codeAt;rw [rank_n LB c 5 hg,hg,rankB c (by omega),show (5:Int).toNat=5 from rfl,firstB5];omega
/-- A symbol's code is what the program lays down. -/
theorem code_sc (c:Nat) (h:c < 288):cb ((codesOf LA).getD c 0) (LA.getD c 0).toNat=sc (c:Int):=by
 rw [codeA c h,LA_get c h];unfold sc;by_cases h1:c < 144
 ·rw [if_pos h1,if_pos h1,if_pos (by omega)];rfl
 ·by_cases h2:c < 256
  ·rw [if_neg h1,if_neg h1,if_pos h2,if_pos h2,if_neg (by omega),if_pos (by omega)];rfl
  ·by_cases h3:c < 280
   ·rw [if_neg h1,if_neg h1,if_neg h2,if_neg h2,if_pos h3,if_pos h3,if_neg (by omega),if_neg (by omega),if_pos (by omega)];rfl
   ·rw [if_neg h1,if_neg h1,if_neg h2,if_neg h2,if_neg h3,if_neg h3,if_neg (by omega),if_neg (by omega),if_neg (by omega)];rfl
theorem w64 {n:Int} (h0:-9223372036854775808≤n) (h1:n≤9223372036854775807):wrap64 n=n:=by unfold wrap64;omega
theorem pow_le {j n:Nat} (h:j≤n) (hn:n≤16):(1:Int)≤2 ^ j∧(2:Int) ^ j≤65536:=by
 have h1:2 ^ j≤2 ^ 16:=Nat.pow_le_pow_right (by decide) (by omega);have h2:1≤2 ^ j:=Nat.one_le_two_pow;have e:((2 ^ j:Nat):Int)=(2:Int) ^ j:=by rw [Int.natCast_pow];rfl
 rw [← e];omega
theorem bit_tdiv (v:Int) (j:Nat) (hv0:0≤v) (hv1:v≤1000000) (hj:j≤16):(Int.tmod (wrap64 (Int.tdiv v (2 ^ j))) 2) % 256=bit v j:=by
 have hp:=pow_le (Nat.le_refl j) hj;have h0:0≤v / 2 ^ j:=Int.ediv_nonneg hv0 (by omega);have h1:v / 2 ^ j≤v:=Int.ediv_le_self _ hv0;rw [Int.tdiv_eq_ediv_of_nonneg hv0,w64 (by omega) (by omega),Int.tmod_eq_emod_of_nonneg h0];unfold bit;omega
theorem code_l1 (v:Int) (hv0:0≤v) (hv1:v≤1000000) (n:Nat) (hn:n≤16) (l:List Int) (hl:l.length≤1000000000):∀ j,j+1≤n → Ev (fun k=>celluloidref06_code.l1 k (l ++ (cb v n).take (n - (j+1))) v (2 ^ j)) (l ++ cb v n):=by
 intro j
 induction j with
 |zero =>
  intro hj;have e:=bit_tdiv v 0 hv0 hv1 (by decide);rw [show ((2:Int) ^ 0)=1 from rfl] at e ⊢;refine Ev.step (fun k=>?_) (Ev.step (f:=fun _=>some (l ++ cb v n)) (g:=fun k=>celluloidref06_code.l1 k (l ++ cb v n) v 0) (fun k=>?_) (Ev.now _))
  ·simp only [celluloidref06_code.l1];rw [if_pos (by decide),if_neg (by decide),if_pos (by rw [List.length_append,List.length_take,cb_len];omega),e,List.append_assoc,← cb_take v (by omega),show n - 0=n from rfl,show (cb v n).take n=cb v n from List.take_of_length_le (by rw [cb_len];exact Nat.le_refl _),show wrap64 (Int.tdiv 1 2)=0 from by decide +kernel]
  ·simp only [celluloidref06_code.l1];rw [if_neg (by decide)]
 |succ j ih =>
  intro hj;have e:=bit_tdiv v (j+1) hv0 hv1 (by omega);have hp:=pow_le (j:=j) (n:=j) (Nat.le_refl _) (by omega);have hp1:=pow_le (j:=j+1) (n:=j+1) (Nat.le_refl _) (by omega);have h2:(2:Int) ^ (j+1)=2 ^ j*2:=Int.pow_succ _ _
  have hd:wrap64 (Int.tdiv (2 ^ (j+1)) 2)=2 ^ j:=by
   rw [Int.tdiv_eq_ediv_of_nonneg (by omega),h2,Int.mul_ediv_cancel _ (by decide),w64 (by omega) (by omega)]
  refine Ev.step (fun k=>?_) (ih (by omega));simp only [celluloidref06_code.l1];rw [if_pos (by omega),if_neg (by omega),if_pos (by rw [List.length_append,List.length_take,cb_len];omega),e,hd,List.append_assoc,← cb_take v (by omega)]
theorem code_l0 (v:Int) (hv0:0≤v) (hv1:v≤1000000) (n:Nat) (hn:n≤16) (l:List Int) (hl:l.length≤1000000000) (d:Nat):∀ i,1≤i → i+d=n → Ev (fun k=>celluloidref06_code.l0 k l v (n:Int) (2 ^ (i - 1)) (i:Int)) (l ++ cb v n):=by
 induction d with
 |zero =>
  intro i h1 hi;obtain ⟨m,rfl⟩:∃ m,n=m+1:=⟨n - 1,by omega⟩;obtain rfl:i=m+1:=by omega
  refine Ev.step (fun k=>?_) (code_l1 v hv0 hv1 (m+1) hn l hl m (Nat.le_refl _));simp only [celluloidref06_code.l0];rw [if_neg (by omega),Nat.sub_self,List.take_zero,List.append_nil];rfl
 |succ d ih =>
  intro i h1 hi;obtain ⟨m,rfl⟩:∃ m,i=m+1:=⟨i - 1,by omega⟩;have hp:=pow_le (j:=m) (n:=m) (Nat.le_refl _) (by omega);refine Ev.step (fun k=>?_) (ih (m+1+1) (by omega) (by omega));simp only [celluloidref06_code.l0];rw [if_pos (by omega),show m+1 - 1=m from rfl,show m+1+1 - 1=m+1 from rfl,Int.pow_succ,w64 (by omega) (by omega),w64 (by omega) (by omega)];rfl
theorem code_is (v:Int) (hv0:0≤v) (hv1:v≤1000000) (n:Nat) (h1:1≤n) (hn:n≤16) (l:List Int) (hl:l.length≤1000000000):Ev (fun k=>celluloidref06_code.f k l v (n:Int)) (l ++ cb v n) :=
 code_l0 v hv0 hv1 n hn l hl (n - 1) 1 (Nat.le_refl _) (by omega)
theorem number_l0 (v:Int) (hv0:0≤v) (hv1:v≤1000000) (n:Nat) (hn:n≤16) (l:List Int) (hl:l.length≤1000000000) (d:Nat):∀ i,i+d=n → Ev (fun k=>celluloidref06_number.l0 k (l ++ nb v i) (v / 2 ^ i) (n:Int) (i:Int)) (l ++ nb v n):=by
 induction d with
 |zero =>
  intro i hi;obtain rfl:i=n:=by omega
  refine Ev.step (f:=fun _=>some (l ++ nb v i)) (fun k=>?_) (Ev.now _);simp only [celluloidref06_number.l0];rw [if_neg (by omega)]
 |succ d ih =>
  intro i hi;have hp:=pow_le (j:=i) (n:=i) (Nat.le_refl _) (by omega);have h0:0≤v / 2 ^ i:=Int.ediv_nonneg hv0 (by omega);have h1:v / 2 ^ i≤v:=Int.ediv_le_self _ hv0
  have e1:(Int.tmod (v / 2 ^ i) 2) % 256=bit v i:=by
   rw [Int.tmod_eq_emod_of_nonneg h0];unfold bit;omega
  have e2:wrap64 (Int.tdiv (v / 2 ^ i) 2)=v / 2 ^ (i+1):=by
   rw [Int.tdiv_eq_ediv_of_nonneg h0,Int.pow_succ,← Int.ediv_ediv_of_nonneg (by omega),w64 (by omega) (by omega)]
  refine Ev.step (fun k=>?_) (ih (i+1) (by omega));simp only [celluloidref06_number.l0];rw [if_pos (by omega),if_pos (by rw [List.length_append,nb_len];omega),e1,e2,List.append_assoc,← nb_succ,w64 (by omega) (by omega)];rfl
theorem number_is (v:Int) (hv0:0≤v) (hv1:v≤1000000) (n:Nat) (hn:n≤16) (l:List Int) (hl:l.length≤1000000000):Ev (fun k=>celluloidref06_number.f k l v (n:Int)) (l ++ nb v n):=by
 have h:=number_l0 v hv0 hv1 n hn l hl n 0 (by omega);rw [show nb v 0=[] from rfl,List.append_nil,Int.pow_zero,Int.ediv_one] at h;exact h
theorem Length_all:∀ m:Nat,m < 28 → celluloidref05_Length.f 40 (257+(m:Int))=some (Wr.lof m):=by decide +kernel
theorem Length_last:celluloidref05_Length.f 40 285=some (258,0):=by decide +kernel
theorem Distance_all:∀ m:Nat,m < 30 → celluloidref05_Distance.f 40 (m:Int)=some (dof m):=by decide +kernel
theorem length_is (m:Nat) (h:m < 28):Ev (fun k=>celluloidref05_Length.f k (257+(m:Int))) (Wr.lof m):=Ev.of (celluloidref05_Length.mono _) (Length_all m h)
theorem length_last:Ev (fun k=>celluloidref05_Length.f k 285) (258,0):=Ev.of (celluloidref05_Length.mono _) Length_last
theorem distance_is (m:Nat) (h:m < 30):Ev (fun k=>celluloidref05_Distance.f k (m:Int)) (dof m):=Ev.of (celluloidref05_Distance.mono _) (Distance_all m h)
theorem lf_at (n:Int) (hn:3≤n):∀ k,k≤28 → ∃ m:Nat,m < 28∧lf n k=(257+(m:Int),Wr.lof m):=by
 intro k
 induction k with
 |zero=>intro _;exact ⟨0,by decide,by show (257,3,0)=_;decide +kernel⟩
 |succ k ih =>
  intro hk;unfold lf
  split
  ·exact ⟨k,by omega,rfl⟩
  ·exact ih (by omega)
theorem df_at (n:Int) (hn:1≤n):∀ k,k≤30 → ∃ m:Nat,m < 30∧df n k=((m:Int),dof m):=by
 intro k
 induction k with
 |zero=>intro _;exact ⟨0,by decide,by show (0,1,0)=_;decide +kernel⟩
 |succ k ih =>
  intro hk;unfold df
  split
  ·exact ⟨k,by omega,rfl⟩
  ·exact ih (by omega)
theorem lsym_at (n:Int) (hn:3≤n):Ev (fun k=>celluloidref05_Length.f k (lsym n).1) (lsym n).2:=by
 unfold lsym;by_cases c:n=258
 ·rw [if_pos c];exact length_last
 ·rw [if_neg c];obtain ⟨m,hm,e⟩:=lf_at n hn 28 (Nat.le_refl _);rw [e];exact length_is m hm
theorem dsym_at (n:Int) (hn:1≤n):Ev (fun k=>celluloidref05_Distance.f k (dsym n).1) (dsym n).2:=by
 unfold dsym;obtain ⟨m,hm,e⟩:=df_at n hn 30 (Nat.le_refl _);rw [e];exact distance_is m hm
end Go.Proofs.Ytpbhkdamkbopkaa.RefD
