/- Parts of the proof, glued by a program of this session (wip/tools/claimfit.py). -/
import Derived.Test.YtpbhkdamkbopkaaMPPF
namespace Go.Proofs.Ytpbhkdamkbopkaa.GPixb
open Go.Proofs.Ytpbhkdamkbopkaa.Sq
open Go.RowKit Go.Proofs.YtpbhkdamkbopkaaW.PrintWords Go.Proofs.YtpbhkdamkbopkaaW.PrintLast Go.Proofs.YtpbhkdamkbopkaaW.PrintMore Go.Proofs.Ytpbhkdamkbopkaa.Wr2 Go.Proofs.Ytpbhkdamkbopkaa.Wr1 Go.Proofs.Ytpbhkdamkbopkaa.GRuns Go.Proofs.Ytpbhkdamkbopkaa.GBack2 Go.Proofs.Ytpbhkdamkbopkaa.GPix Go.Proofs.Ytpbhkdamkbopkaa.PR
attribute [local go_sem] max2_int min2_int max_two min_two max_three min_three max_four min_four
set_option linter.unusedVariables false
set_option linter.unusedSimpArgs false
def celluloidlaw11_awake.f (k:Nat) :Option (Bool):=(pixel_Put.f k 258 1 1 (([(⟨1,0,0,9⟩:S89)]:List (S89)))).bind fun bt261=>((pixel_Take.f k bt261.1).bind fun bt263=>(if (bt261.1.size:Int) > 7 then (if 0≤7 then (if 7≤(bt261.1.size:Int) then (if (bt261.1.extract 0 7).toList=([2,1,5,1,0,1,0]:List UInt8) then (if bt261.2=0 then (if bt263.2.2.2.2=0 then (if (bt263.2.2.2.1.length:Int)=1 then (if 0 < (bt263.2.2.2.1.length:Int) then (if ((rd_T89 bt263.2.2.2.1 0).f3)=9 then ((pixel_Pixel.f k bt263.1 bt263.2.1 bt263.2.2.1 bt263.2.2.2.1 0 0).bind fun bt272=>(some (bt272.1 == 1))) else (some false)) else (none)) else (some false)) else (some false)) else (some false)) else (some false)) else (none)) else (none)) else (some false)))
theorem celluloidlaw11_awake.mono:∀ k,LeO (celluloidlaw11_awake.f k ) (celluloidlaw11_awake.f (k+1) ):=by
 intro  k;unfold celluloidlaw11_awake.f
 repeat' first
   |(with_reducible exact pixel_Pixel.mono _ _ _ _ _ _ _)
   |(with_reducible exact pixel_Put.mono _ _ _ _ _)
   |(with_reducible exact pixel_Take.mono _ _)
   |(with_reducible exact LeO.refl _)
   |(with_reducible exact LeO.none _)
   |(with_reducible refine LeO.ite ?_ ?_)
   |(with_reducible refine LeO.bind ?_ (fun _=>?_))
   |exact pixel_Pixel.mono _ _ _ _ _ _ _
   |exact pixel_Put.mono _ _ _ _ _
   |exact pixel_Take.mono _ _
   |exact LeO.none _
   |refine LeO.ite ?_ ?_
   |refine LeO.bind ?_ (fun _=>?_)
theorem celluloidlaw11_awake.at_:celluloidlaw11_awake.f 300=some true:=by decide +kernel
theorem celluloidlaw11_awake.more (k r) (h:celluloidlaw11_awake.f k=some r):∀ d,celluloidlaw11_awake.f (k+d)=some r
 |0=>h
 |d+1=>celluloidlaw11_awake.mono _ _ (celluloidlaw11_awake.more k r h d)
theorem celluloidlaw11_awake.true_ (k r) (h:celluloidlaw11_awake.f k=some r):r=true:=by
 have h1:=celluloidlaw11_awake.more k r h 300;have h2:=celluloidlaw11_awake.more 300 true celluloidlaw11_awake.at_ k;rw [Nat.add_comm,h1] at h2;exact Option.some.inj h2
set_option maxHeartbeats 8000000 in
set_option maxRecDepth 100000 in
theorem celluloidlaw11_awake.calls (k : Nat)  (r : Bool) (w : World) (h : celluloidlaw11_awake.f k  = some r) :
  Calls Try.prog 49 #[] w fun e w'=>e=.returned (.bool r)∧Below w.heap.size w w':=by
 have hu89:=Try.underlying89;have hu76:=Try.underlying76;have HB:=Aside0.mk (Below.refl w.heap.size w);have hr_:=Aside0.mk (celluloidlaw11_awake.true_ k r h);have hfd89:∀ (x0 x1 x2 x3:Int) (w:World),(Instr.field 89 (.agg #[.int .i64 x0,.int .i64 x1,.int .i64 x2,.int .i64 x3]) 0).run Try.prog w=.ok (.int .i64 x0) w:=fun _ _ _ _ _=>by kernel_rfl
 have H:=h;unfold celluloidlaw11_awake.f at H;clear h;obtain ⟨Qs,hy257⟩:∃ y_:List (S89),y_=(([(⟨1,0,0,9⟩:S89)]:List (S89))):=⟨_,rfl⟩;replace H:((pixel_Put.f k 258 1 1 Qs).bind fun Qt=>((pixel_Take.f k Qt.1).bind fun Ql=>(if (Qt.1.size:Int) > 7 then (if 0≤7 then (if 7≤(Qt.1.size:Int) then (if (Qt.1.extract 0 7).toList=([2,1,5,1,0,1,0]:List UInt8) then (if Qt.2=0 then (if Ql.2.2.2.2=0 then (if (Ql.2.2.2.1.length:Int)=1 then (if 0 < (Ql.2.2.2.1.length:Int) then (if ((rd_T89 Ql.2.2.2.1 0).f3)=9 then ((pixel_Pixel.f k Ql.1 Ql.2.1 Ql.2.2.1 Ql.2.2.2.1 0 0).bind fun QD=>(some (QD.1 == 1))) else (some false)) else (none)) else (some false)) else (some false)) else (some false)) else (some false)) else (none)) else (none)) else (some false))))=some r:=by first | (rw [hy257];with_reducible exact H) | (have H2_:=(Option.bind_some _ _).symm.trans H;rw [hy257];with_reducible exact H2_) | (have H2_:=(Option.bind_some _ _).symm.trans H;with_reducible exact H2_) | with_reducible exact H | (rw [hy257];exact H) | exact H
 have QA:=Aside0.mk hy257;clear hy257;replace H:=Option.bind_eq_some_iff.mp H;obtain ⟨⟨Qn,Qu⟩,A10,H⟩:=H;have A1:=Aside0.mk A10;clear A10;replace H:=Option.bind_eq_some_iff.mp H;obtain ⟨⟨Qo,Qp,Qq,Qf,Qv⟩,A20,H⟩:=H;have A2:=Aside0.mk A20;clear A20;by_cases c3:(Qn.size:Int) > 7;rotate_left
 ·rw [if_neg c3] at H;have QH:=decide_eq_false c3;have QI:decide (7 < Qn.size)=false:=decide_eq_false (by omega);clear c3;exact absurd (Option.some.inj H) (by rw [hr_.out];decide)
 rw [if_pos c3] at H;have QH:=decide_eq_true c3;have QI:decide (7 < Qn.size)=true:=decide_eq_true (by omega);clear c3;by_cases c4:0≤7;rotate_left
 ·rw [if_neg c4] at H;exact absurd H (by simp)
 rw [if_pos c4] at H;have c4b0:=eq_true c4;have c4b1:=decide_eq_true c4;clear c4;by_cases c5:7≤(Qn.size:Int);rotate_left
 ·rw [if_neg c5] at H;exact absurd H (by simp)
 rw [if_pos c5] at H;have c5b0:=eq_true c5;have c5b1:=decide_eq_true c5;clear c5;by_cases c6:(Qn.extract 0 7).toList=([2,1,5,1,0,1,0]:List UInt8);rotate_left
 ·rw [if_neg c6] at H;have QJ:((Qn.extract 0 7).toList == ([2,1,5,1,0,1,0]:List UInt8))=false:=beq_eq_false_iff_ne.mpr c6;have QK:((Qn.extract 0 7).toList != ([2,1,5,1,0,1,0]:List UInt8))=true:=bne_iff_ne.mpr c6;exact absurd (Option.some.inj H) (by rw [hr_.out];decide)
 rw [if_pos c6] at H;have QJ:((Qn.extract 0 7).toList == ([2,1,5,1,0,1,0]:List UInt8))=true:=beq_iff_eq.mpr c6;have QK:((Qn.extract 0 7).toList != ([2,1,5,1,0,1,0]:List UInt8))=false:=bne_eq_false_iff_eq.mpr c6;clear c6;by_cases c7:Qu=0;rotate_left
 ·rw [if_neg c7] at H;have QL:(Qu == 0)=false:=beq_eq_false_iff_ne.mpr c7;have QM:(Qu != 0)=true:=bne_iff_ne.mpr c7;exact absurd (Option.some.inj H) (by rw [hr_.out];decide)
 rw [if_pos c7] at H;have QL:(Qu == 0)=true:=beq_iff_eq.mpr c7;have QM:(Qu != 0)=false:=bne_eq_false_iff_eq.mpr c7;clear c7;by_cases c8:Qv=0;rotate_left
 ·rw [if_neg c8] at H;have QN:(Qv == 0)=false:=beq_eq_false_iff_ne.mpr c8;have QO:(Qv != 0)=true:=bne_iff_ne.mpr c8;exact absurd (Option.some.inj H) (by rw [hr_.out];decide)
 rw [if_pos c8] at H;have QN:(Qv == 0)=true:=beq_iff_eq.mpr c8;have QO:(Qv != 0)=false:=bne_eq_false_iff_eq.mpr c8;clear c8;by_cases c9:(Qf.length:Int)=1;rotate_left
 ·rw [if_neg c9] at H;have QP:((Qf.length:Int) == 1)=false:=beq_eq_false_iff_ne.mpr c9;have QQ:((Qf.length:Int) != 1)=true:=bne_iff_ne.mpr c9;exact absurd (Option.some.inj H) (by rw [hr_.out];decide)
 rw [if_pos c9] at H;have QP:((Qf.length:Int) == 1)=true:=beq_iff_eq.mpr c9;have QQ:((Qf.length:Int) != 1)=false:=bne_eq_false_iff_eq.mpr c9;clear c9;by_cases c10:0 < (Qf.length:Int);rotate_left
 ·rw [if_neg c10] at H;exact absurd H (by simp)
 rw [if_pos c10] at H;have c10b0:=decide_eq_true c10;have c10b1:decide (0 < Qf.length)=true:=decide_eq_true (by omega);clear c10;by_cases c11:((rd_T89 Qf 0).f3)=9;rotate_left
 ·rw [if_neg c11] at H;have QE:(((rd_T89 Qf 0).f3) == 9)=false:=beq_eq_false_iff_ne.mpr c11;have QF:(((rd_T89 Qf 0).f3) != 9)=true:=bne_iff_ne.mpr c11;exact absurd (Option.some.inj H) (by rw [hr_.out];decide)
 rw [if_pos c11] at H;have QE:(((rd_T89 Qf 0).f3) == 9)=true:=beq_iff_eq.mpr c11;have QF:(((rd_T89 Qf 0).f3) != 9)=false:=bne_eq_false_iff_eq.mpr c11;clear c11;replace H:=Option.bind_eq_some_iff.mp H;obtain ⟨⟨QR,QS,QT,QU⟩,QG,H⟩:=H;have A12:=Aside0.mk QG;clear QG;obtain rfl:=Option.some.inj H;go_enter Try.func49,Try.ntmps49;go_wp2_with (first | ((with_reducible refine gate_dst (N:=7) rfl ?_);(try (refine gate_guard (by rfl) ?_;dsimp only));refine Kd.R_lit k89 _ 89 ?hg (N:=7) ?hd (xs:=([(⟨1,0,0,9⟩:S89)]:List (S89))) (inner:=[.int .i64 1,.int .i64 0,.int .i64 0,.int .i64 9]) (ok:=fun _=>True) (okp:=fun _=>True) ?hr ?hp (fun _ hk=>hk) trivial (Below.refl _ _) (Nat.le_refl _) (by simp) ?_;(case hd=>rfl);(case hg=>rfl);(case hr=>first | (go_simp;done) | (go_simp;rfl));(case hp=>exact (Reps.c4 (show Kd.M k89 _ _ _ (⟨1,0,0,9⟩:S89) [.int .i64 1,.int .i64 0,.int .i64 0,.int .i64 9] from (k89_mkM _ _ _ (⟨1,0,0,9⟩:S89) )) (Reps.none _ _)));intro v258 w13 ho14 hb hg_ hnew_;clear hg_ hnew_;(first | rw [← QA.out] at ho14 | (simp only [Int.reduceToNat] at ho14;rw [← QA.out] at ho14));have Qg:=Aside0.mk (Kd.R_lower ho14 (below_size (hn HB)));replace HB:=hs HB hb;clear hb ho14;obtain ⟨Qz,Qw,QV⟩:=Kd.R_slice Qg.out;subst QV) | ((with_reducible refine gate_dst (N:=1) rfl ?_);(try (refine gate_guard (by rfl) ?_;dsimp only));refine boxQ 1 #[.int .i64 0,.int .i64 0,.int .i64 0,.slice none 0 0] 76 ?_;intro Qm hg w16 hbox hb;replace Qg:=rk Qg hb;have Qh:=Aside0.mk hbox;have GW260:=gs HB hg;have GE260:=gs HB hg;replace HB:=hs HB hb;clear hb hbox hg;obtain ⟨_,_,_,_⟩:=cc4 Qh;obtain ⟨_,_,_,_⟩:=ff4 Qh) | ((with_reducible refine gate_callee (f:=50) rfl ?_);refine goesQ (some 11) Try.func50 #[.agg #[.int .i64 258,.int .i64 1,.int .i64 1,.slice Qz Qs.length Qw]] ?_;(with_reducible refine (pixel_Put.calls k 258 1 1 _ _ Qs Qn Qu _ ?side1 ?side2 A1.out).mono ?_);(case side1=>refine (Kd.R_reads' (e:=89) (base:=w.heap.size) (ok:=fun k_=>True) (n:=Qs.length) (c:=Qw) ?_).2.2;exact (by (with_reducible repeat (first | apply Kd.R_alloc | apply Kd.R_drewN | apply Kd.R_drew));exact (Kd.R_mono (Kd.R_far (p:=⟨Qm,3,none⟩) (Kd.R_far (p:=⟨Qm,2,none⟩) (Kd.R_far (p:=⟨Qm,1,none⟩) (Kd.R_far (p:=⟨Qm,0,none⟩) (Kd.R_types Qg.out Qh.out (by decide)) (fun _ hk=>hk.2) (.int .i64 258)) (fun _ hk=>hk.2) (.int .i64 1)) (fun _ hk=>hk.2) (.int .i64 1)) (fun _ hk=>hk.2) (.slice Qz Qs.length Qw)) (fun _ h_=>h_.1))));(case side2=>exact (Kd.R_reads' Qg.out).2.1);rintro e w18 ⟨rfl,hb⟩;refine ⟨_,rfl,?_⟩;replace Qg:=Aside0.mk (Kd.R_below (by (with_reducible repeat (first | apply Kd.R_alloc | apply Kd.R_drewN | apply Kd.R_drew));exact (Kd.R_mono (Kd.R_far (p:=⟨Qm,3,none⟩) (Kd.R_far (p:=⟨Qm,2,none⟩) (Kd.R_far (p:=⟨Qm,1,none⟩) (Kd.R_far (p:=⟨Qm,0,none⟩) (Kd.R_types Qg.out Qh.out (by decide)) (fun _ hk=>hk.2) (.int .i64 258)) (fun _ hk=>hk.2) (.int .i64 1)) (fun _ hk=>hk.2) (.int .i64 1)) (fun _ hk=>hk.2) (.slice Qz Qs.length Qw)) (fun _ h_=>h_.1))) hb);replace Qh:=bp #[.int .i64 258,.int .i64 1,.int .i64 1,.slice Qz Qs.length Qw] Qh hb;replace HB:=hs HB hb;(try clear hb)) | ((with_reducible refine gate_callee (f:=54) rfl ?_);refine goesQ (some 16) Try.func54 #[.string Qn] ?_;(with_reducible refine (pixel_Take.calls k Qn Qo Qp Qq Qf Qv _ A2.out).mono ?_);rintro e w19 ⟨v267,rfl,ho0,hb⟩;refine ⟨_,rfl,?_⟩;have Qi:=Aside0.mk (Kd.R_lower (Kd.R_new' ho0 (Kd.R_lt (rr Qg))) (below_size (hn HB)));replace Qg:=Aside0.mk (Kd.R_elder' (rr Qg) (Kd.R_base ho0) hb);replace Qh:=bb Qh hb;replace HB:=hs HB hb;(try clear hb);(try clear ho0)) | ((with_reducible refine gate_dst (N:=4) rfl ?_);(try (refine gate_guard (by rfl) ?_;dsimp only));refine boxQ 4 #[.int .i64 0,.int .i64 0,.int .i64 0,.slice none 0 0] 76 ?_;intro Qa hg w20 hbox hb;replace Qg:=rk Qg hb;replace Qi:=rk Qi hb;have Qk:=Aside0.mk hbox;have GW270:=gs HB hg;have GE270:=gs HB hg;replace HB:=hs HB hb;have Qx:=nl Qh hg;have Qy:=ng Qh hg;replace Qh:=bb Qh hb;clear hb hbox hg;have hnb21:=Qy.out;have hnc21:=Qx.out;obtain ⟨_,_,_,_⟩:=cc4 Qk;obtain ⟨_,_,_,_⟩:=ff4 Qk;obtain ⟨Ao23,Qr,QW⟩:=Kd.R_slice Qi.out;subst QW;have QB:0≤(0:Int):=(by omega);have QC:0 < (Qf.length:Int):=pd;obtain ⟨Qj,QX,Qb,Qc,Qd,Qe⟩:=at_T89 (Kd.R_reads' Qi.out).2.2 0 QB QC;cases QX;have qi271:(0 < Qf.length)=True:=eq_true (by omega);(try rw [show ((0:Int)).toNat=0 from rfl] at Qb);(try rw [show 0*4=0 from rfl] at Qb);(try rw [Addr.add_zero'] at Qb);(try rw [show ((0:Int)).toNat=0 from rfl] at Qc);(try rw [show 0*4=0 from rfl] at Qc);(try rw [Addr.add_zero'] at Qc);(try rw [show ((0:Int)).toNat=0 from rfl] at Qd);(try rw [show 0*4=0 from rfl] at Qd);(try rw [Addr.add_zero'] at Qd);(try rw [show ((0:Int)).toNat=0 from rfl] at Qe);(try rw [show 0*4=0 from rfl] at Qe);(try rw [Addr.add_zero'] at Qe);have hn271_0:Qj.block ≠ Qa:=Kd.own_blk (Kd.R_ne Qi.out Qk.out (by decide));have hn271_1:Qj.block ≠ Qa:=Kd.own_blk (Kd.R_ne Qi.out Qk.out (by decide));have hn271_2:Qj.block ≠ Qa:=Kd.own_blk (Kd.R_ne Qi.out Qk.out (by decide));have hn271_3:Qj.block ≠ Qa:=Kd.own_blk (Kd.R_ne Qi.out Qk.out (by decide));replace Qb:=(cell_far (p:=⟨Qa,0,none⟩) (by first | (rw [add_block];exact hn271_0) | (show (Addr.add _ _).block ≠ _;rw [add_block];exact hn271_0) | exact hn271_0) (.int .i64 Qo)).trans Qb;replace Qc:=(cell_far (p:=⟨Qa,0,none⟩) (by first | (rw [add_block];exact hn271_0) | (show (Addr.add _ _).block ≠ _;rw [add_block];exact hn271_0) | exact hn271_0) (.int .i64 Qo)).trans Qc;replace Qd:=(cell_far (p:=⟨Qa,0,none⟩) (by first | (rw [add_block];exact hn271_0) | (show (Addr.add _ _).block ≠ _;rw [add_block];exact hn271_0) | exact hn271_0) (.int .i64 Qo)).trans Qd;replace Qe:=(cell_far (p:=⟨Qa,0,none⟩) (by first | (rw [add_block];exact hn271_0) | (show (Addr.add _ _).block ≠ _;rw [add_block];exact hn271_0) | exact hn271_0) (.int .i64 Qo)).trans Qe;replace Qb:=(cell_far (p:=⟨Qa,1,none⟩) (by first | (rw [add_block];exact hn271_1) | (show (Addr.add _ _).block ≠ _;rw [add_block];exact hn271_1) | exact hn271_1) (.int .i64 Qp)).trans Qb;replace Qc:=(cell_far (p:=⟨Qa,1,none⟩) (by first | (rw [add_block];exact hn271_1) | (show (Addr.add _ _).block ≠ _;rw [add_block];exact hn271_1) | exact hn271_1) (.int .i64 Qp)).trans Qc;replace Qd:=(cell_far (p:=⟨Qa,1,none⟩) (by first | (rw [add_block];exact hn271_1) | (show (Addr.add _ _).block ≠ _;rw [add_block];exact hn271_1) | exact hn271_1) (.int .i64 Qp)).trans Qd;replace Qe:=(cell_far (p:=⟨Qa,1,none⟩) (by first | (rw [add_block];exact hn271_1) | (show (Addr.add _ _).block ≠ _;rw [add_block];exact hn271_1) | exact hn271_1) (.int .i64 Qp)).trans Qe;replace Qb:=(cell_far (p:=⟨Qa,2,none⟩) (by first | (rw [add_block];exact hn271_2) | (show (Addr.add _ _).block ≠ _;rw [add_block];exact hn271_2) | exact hn271_2) (.int .i64 Qq)).trans Qb;replace Qc:=(cell_far (p:=⟨Qa,2,none⟩) (by first | (rw [add_block];exact hn271_2) | (show (Addr.add _ _).block ≠ _;rw [add_block];exact hn271_2) | exact hn271_2) (.int .i64 Qq)).trans Qc;replace Qd:=(cell_far (p:=⟨Qa,2,none⟩) (by first | (rw [add_block];exact hn271_2) | (show (Addr.add _ _).block ≠ _;rw [add_block];exact hn271_2) | exact hn271_2) (.int .i64 Qq)).trans Qd;replace Qe:=(cell_far (p:=⟨Qa,2,none⟩) (by first | (rw [add_block];exact hn271_2) | (show (Addr.add _ _).block ≠ _;rw [add_block];exact hn271_2) | exact hn271_2) (.int .i64 Qq)).trans Qe;replace Qb:=(cell_far (p:=⟨Qa,3,none⟩) (by first | (rw [add_block];exact hn271_3) | (show (Addr.add _ _).block ≠ _;rw [add_block];exact hn271_3) | exact hn271_3) (.slice (some Qj) Qf.length Qr)).trans Qb;replace Qc:=(cell_far (p:=⟨Qa,3,none⟩) (by first | (rw [add_block];exact hn271_3) | (show (Addr.add _ _).block ≠ _;rw [add_block];exact hn271_3) | exact hn271_3) (.slice (some Qj) Qf.length Qr)).trans Qc;replace Qd:=(cell_far (p:=⟨Qa,3,none⟩) (by first | (rw [add_block];exact hn271_3) | (show (Addr.add _ _).block ≠ _;rw [add_block];exact hn271_3) | exact hn271_3) (.slice (some Qj) Qf.length Qr)).trans Qd;replace Qe:=(cell_far (p:=⟨Qa,3,none⟩) (by first | (rw [add_block];exact hn271_3) | (show (Addr.add _ _).block ≠ _;rw [add_block];exact hn271_3) | exact hn271_3) (.slice (some Qj) Qf.length Qr)).trans Qe;clear hn271_0 hn271_1 hn271_2 hn271_3;replace QB:=eq_true QB;replace QC:=eq_true QC) | (go_at_call 58;(with_reducible refine (pixel_Pixel.calls k Qo Qp Qq _ _ Qf 0 0 QR QS QT QU _ ?side1 ?side2 A12.out).mono ?_);(case side1=>refine (Kd.R_reads' (e:=89) (base:=w.heap.size) (ok:=fun k_=>(True∧some k_ ≠ (.slice Qz Qs.length Qw:Value).ownBlock)) (n:=Qf.length) (c:=Qr) ?_).2.2;exact (by (with_reducible repeat (first | apply Kd.R_alloc | apply Kd.R_drewN | apply Kd.R_drew));exact (Kd.R_mono (Kd.R_far (p:=⟨Qa,3,none⟩) (Kd.R_far (p:=⟨Qa,2,none⟩) (Kd.R_far (p:=⟨Qa,1,none⟩) (Kd.R_far (p:=⟨Qa,0,none⟩) (Kd.R_types Qi.out Qk.out (by decide)) (fun _ hk=>hk.2) (.int .i64 Qo)) (fun _ hk=>hk.2) (.int .i64 Qp)) (fun _ hk=>hk.2) (.int .i64 Qq)) (fun _ hk=>hk.2) (.slice (some Qj) Qf.length Qr)) (fun _ h_=>h_.1))));(case side2=>exact (Kd.R_reads' Qi.out).2.1);rintro e w24 ⟨rfl,hb⟩;replace Qg:=Aside0.mk (Kd.R_below (by (with_reducible repeat (first | apply Kd.R_alloc | apply Kd.R_drewN | apply Kd.R_drew));exact (Kd.R_mono (Kd.R_far (p:=⟨Qa,3,none⟩) (Kd.R_far (p:=⟨Qa,2,none⟩) (Kd.R_far (p:=⟨Qa,1,none⟩) (Kd.R_far (p:=⟨Qa,0,none⟩) (Kd.R_types Qg.out Qk.out (by decide)) (fun _ hk=>hk.2) (.int .i64 Qo)) (fun _ hk=>hk.2) (.int .i64 Qp)) (fun _ hk=>hk.2) (.int .i64 Qq)) (fun _ hk=>hk.2) (.slice (some Qj) Qf.length Qr)) (fun _ h_=>h_.1))) hb);replace Qi:=Aside0.mk (Kd.R_below (by (with_reducible repeat (first | apply Kd.R_alloc | apply Kd.R_drewN | apply Kd.R_drew));exact (Kd.R_mono (Kd.R_far (p:=⟨Qa,3,none⟩) (Kd.R_far (p:=⟨Qa,2,none⟩) (Kd.R_far (p:=⟨Qa,1,none⟩) (Kd.R_far (p:=⟨Qa,0,none⟩) (Kd.R_types Qi.out Qk.out (by decide)) (fun _ hk=>hk.2) (.int .i64 Qo)) (fun _ hk=>hk.2) (.int .i64 Qp)) (fun _ hk=>hk.2) (.int .i64 Qq)) (fun _ hk=>hk.2) (.slice (some Qj) Qf.length Qr)) (fun _ h_=>h_.1))) hb);replace Qh:=bb Qh hb;replace Qk:=bp #[.int .i64 Qo,.int .i64 Qp,.int .i64 Qq,.slice (some Qj) Qf.length Qr] Qk hb;replace HB:=hs HB hb;(try clear hb)))
 go_ret;exact ⟨by first | rfl | (simp [errW_none,errW_some] <;> rfl) | (simp [*,errW_none,errW_some] <;> rfl),hn HB⟩
def celluloidlaw11_ref.f (a0_0:Int) (a0_1:Int) (a0_2:Int) (l0_3:List (S89)):Option (Int × Int × Int × (List (S89))):=some (a0_0,a0_1,a0_2,l0_3)
end Go.Proofs.Ytpbhkdamkbopkaa.GPixb
namespace Go.Proofs.Ytpbhkdamkbopkaa.Sq
set_option linter.unusedSimpArgs false
set_option linter.unusedVariables false
open Go.RowKit Go.Proofs.YtpbhkdamkbopkaaW.PrintWords Go.Proofs.YtpbhkdamkbopkaaW.PrintLast Go.Proofs.YtpbhkdamkbopkaaW.PrintMore
section
variable {P:Program} {ops:Array Oper} {Q:Exit → Act → World → Prop} {a a0:Act} {b:Nat → Bool} {L L':List (Nat × Tmp × Value)} {i:Nat} {t:Tmp} {v v0:Value}
theorem on_ (ha:a=putSel a0 b L) (k:Nat) (hb:b i=true) (hk:L[k]?=some (i,t,v):=by rfl) (hd:((L.drop (k+1)).all fun x=>!(x.2.1 == t))=true:=by rfl) (ht:Nat.ble (t+1) a0.tmps.size=true:=by rfl):a.tmps[t]?=some v:=by
 subst ha;exact putSel_on (e:=(i,t,v)) k hk hd hb ht
theorem of_ (ha:a=putSel a0 b L) (h0:a0.tmps[t]?=some v:=by rfl) (hd:(L.all fun e=>!(e.2.1 == t))=true:=by rfl):a.tmps[t]?=some v:=by
 subst ha;exact (putSel_off hd).trans h0
theorem up_ (ha : a = putSel a0 b L) (k : Nat) (hb : b i = false) (hL : L[k]? = some (i, t, v0) := by rfl) (hL' : L.set k (i, t, v) = L' := by rfl) (hd : ((L.take k ++ L.drop (k + 1)).all fun e => !(e.1 == i) && !(e.2.1 == t)) = true := by rfl) :
  a.put (some t) v=putSel a0 (up b i) L':=by
 subst ha;exact putSel_upk k hb hL hL' hd
theorem ev1 (h:a.tmps[t]?=some v):(#[Operand.tmp t]).map a.eval=#[v]:=by simp [eval_of h]
theorem catS {oi : Oper} {N : Option Tmp} {w : World} {K : Act → World → Prop} {x y : ByteArray} {tx ty : Tmp} (hx : a.tmps[tx]? = some (.string x)) (hy : a.tmps[ty]? = some (.string y)) (hl : x.size + y.size ≤ 9223372036854775807)
  (h:K (a.put N (.string (x ++ y))) w) (ho:oi.op=.binOp .add 9 (.tmp tx) (.tmp ty) 9:=by rfl) (hw:Region.wanted oi (yielded ops a.tmps)=true:=by rfl) (hN:oi.dst=N:=by rfl) :
  if Region.wanted oi (yielded ops a.tmps)=true then Oper.wp P oi a w K Q else K (a.put N undef) w:=by
 refine value_ hw hN (w1:=w) (v:=.string (x ++ y)) ?_ h;have hl2:(9223372036854775807 < x.size+y.size)=False:=eq_false (Nat.not_lt.2 hl);simp only [execOp,ho,eval_of hx,eval_of hy];go_simp
theorem cvS {oi : Oper} {N : Option Tmp} {w : World} {K : Act → World → Prop} {xs : List Int} {t : Tmp} {base : Nat} {ok : Nat → Prop} (h40 : P.underlying 40 = some (.slice 5)) (h5 : P.underlying 5 = some (.int .u8)) (h9 : P.underlying 9 = some .string)
  (hR:Kd.R (Kd.int .u8) 5 w base ok v xs) (hx:a.tmps[t]?=some v) (h:K (a.put N (.string (strOfNums xs))) w) (ho:oi.op=.convert 40 9 (.tmp t):=by rfl) (hw:Region.wanted oi (yielded ops a.tmps)=true:=by rfl) (hN:oi.dst=N:=by rfl) :
  if Region.wanted oi (yielded ops a.tmps)=true then Oper.wp P oi a w K Q else K (a.put N undef) w:=by
 refine value_ hw hN (w1:=w) (v:=.string (strOfNums xs)) ?_ h;have hc:=own_string (P:=P) h40 h5 h9 (Kd.own_of_R hR);simp only [execOp,ho,eval_of hx];go_simp
theorem asS {oi : Oper} {N : Option Tmp} {w : World} {K : Act → World → Prop} {t : Tmp} (hx : a.tmps[t]? = some v) (h : K (a.put N v) w) (ho : oi.op = .assign (.tmp t) := by rfl) (hw : Region.wanted oi (yielded ops a.tmps) = true := by rfl) (hN : oi.dst = N := by rfl) :
  if Region.wanted oi (yielded ops a.tmps)=true then Oper.wp P oi a w K Q else K (a.put N undef) w:=by
 refine value_ hw hN (w1:=w) (v:=v) ?_ h;simp only [execOp,ho,eval_of hx];go_simp
end
end Go.Proofs.Ytpbhkdamkbopkaa.Sq
namespace Go.Proofs.Ytpbhkdamkbopkaa.Rn
set_option linter.unusedSimpArgs false
set_option linter.unusedVariables false
open Go.RowKit Go.Proofs.Ytpbhkdamkbopkaa.GRuns Go.Proofs.YtpbhkdamkbopkaaW.PrintWords Go.Proofs.YtpbhkdamkbopkaaW.PrintLast Go.Proofs.YtpbhkdamkbopkaaW.PrintMore
/-- With a length m' at the distance d. -/
def upd (p:Nat × Nat) (m' d:Nat):Nat × Nat:=if m' > p.1 then (m',d) else p
theorem ref_l1 (s : ByteArray) (hs : s.size ≤ 140737488351232) (i d : Nat) (hd : d ≤ i) (p : Nat × Nat) (r : Int × Int) (K : Nat) : ∀ (e n : Nat), n + e = 258 → i + n ≤ s.size →
  (∀ k,K≤k → celluloidref06_Run.l0 k s (i:Int) (((upd p (ml s i (i - d) e n) d).1:Nat):Int) (((upd p (ml s i (i - d) e n) d).2:Nat):Int) ((d+1:Nat):Int)=some r) →
  ∀ k,K+e+1≤k → celluloidref06_Run.l1 k s (i:Int) ((p.1:Nat):Int) ((p.2:Nat):Int) (d:Int) (n:Int)=some r:=by
 intro e;have ed:i≤s.size → wrap64 ((d:Int)+1)=((d+1:Nat):Int):=fun h=>by rw [w64 (by omega) (by omega)];omega
 have last : ∀ (n : Nat) (_ : i ≤ s.size) (k : Nat) (_ : celluloidref06_Run.l0 k s (i : Int) (((upd p n d).1 : Nat) : Int) (((upd p n d).2 : Nat) : Int) ((d + 1 : Nat) : Int) = some r),
   (if (n:Int) > ((p.1:Nat):Int) then celluloidref06_Run.l0 k s (i:Int) (n:Int) (d:Int) (wrap64 ((d:Int)+1)) else celluloidref06_Run.l0 k s (i:Int) ((p.1:Nat):Int) ((p.2:Nat):Int) (wrap64 ((d:Int)+1)))=some r:=by
  intro n hi k h;rw [ed hi];unfold upd at h;by_cases c:n > p.1
  ·rw [if_pos c] at h;rw [if_pos (by omega)];exact h
  ·rw [if_neg c] at h;rw [if_neg (by omega)];exact h
 induction e with
 |zero =>
  intro n hn hi hK k hk;obtain ⟨k,rfl⟩:=Nat.exists_eq_add_of_le' (show 1≤k by omega);obtain rfl:n=258:=by omega
  rw [celluloidref06_Run.l1,if_neg (by omega)];simp only [ml] at hK;have h:=hK k (by omega);exact last 258 (by omega) k h
 |succ e ih =>
  intro n hn hi hK k hk;obtain ⟨k,rfl⟩:=Nat.exists_eq_add_of_le' (show 1≤k by omega)
  have es:wrap64 ((i:Int)+(n:Int))=((i+n:Nat):Int)∧wrap64 (((i+n:Nat):Int) - (d:Int))=((i - d+n:Nat):Int)∧wrap64 ((n:Int)+1)=((n+1:Nat):Int):=by
   refine ⟨?_,?_,?_⟩
   ·rw [w64 (by omega) (by omega)];omega
   ·rw [w64 (by omega) (by omega)];omega
   ·rw [w64 (by omega) (by omega)];omega
  rw [celluloidref06_Run.l1,es.1,es.2.1,es.2.2];clear es;rw [if_pos (by omega)];simp only [ml] at hK;by_cases c:i+n < s.size;rotate_left
  ·rw [if_neg (by omega)];rw [if_neg (fun h=>c h.2.1)] at hK;exact last n (by omega) k (hK k (by omega))
  rw [if_pos (by omega),if_pos (by omega),if_pos (by omega),if_pos (by omega)];by_cases c2:bt s ((i+n:Nat):Int)=bt s ((i - d+n:Nat):Int)
  ·rw [if_pos c2];rw [if_pos ⟨by omega,c,c2⟩] at hK;exact ih (n+1) (by omega) (by omega) hK k (by omega)
  ·rw [if_neg c2];rw [if_neg (fun h=>c2 h.2.2)] at hK;exact last n (by omega) k (hK k (by omega))
theorem ref_l0 (s : ByteArray) (hs : s.size ≤ 140737488351232) (i : Nat) (hi : i ≤ s.size) : ∀ e D, D + e = min i 32768 → ∀ k, 300 * e + 2 ≤ k →
  celluloidref06_Run.l0 k s (i:Int) (((best s i D).1:Nat):Int) (((best s i D).2:Nat):Int) ((D+1:Nat):Int)=some (ip (run s i)):=by
 intro e
 induction e with
 |zero =>
  intro D hD k hk;obtain ⟨k,rfl⟩:=Nat.exists_eq_add_of_le' (show 2≤k by omega);rw [show k+2=(k+1)+1 from rfl,celluloidref06_Run.l0]
  have hj:celluloidref06_Run.j1 (k+1) s (i:Int) (((best s i D).1:Nat):Int) (((best s i D).2:Nat):Int) ((D+1:Nat):Int) false=some (ip (run s i)):=by
   rw [celluloidref06_Run.j1,if_neg (by decide)];unfold run;rw [← hD,Nat.add_zero];unfold fin ip;by_cases c:(best s i D).1 < 3
   ·rw [if_pos (by omega),if_pos c];rfl
   ·rw [if_neg (by omega),if_neg c]
  by_cases c:((D+1:Nat):Int)≤(i:Int)
  ·rw [if_pos c,decide_eq_false (by omega)];exact hj
  ·rw [if_neg c];exact hj
 |succ e ih =>
  intro D hD k hk;obtain ⟨k,rfl⟩:=Nat.exists_eq_add_of_le' (show 2≤k by omega);rw [show k+2=(k+1)+1 from rfl,celluloidref06_Run.l0,if_pos (by omega),decide_eq_true (by omega),celluloidref06_Run.j1,if_pos rfl];refine ref_l1 s hs i (D+1) (by omega) (best s i D) (ip (run s i)) (300*e+2) 258 0 rfl (by omega) ?_ k (by omega);intro k' hk';have h:=ih (D+1) (by omega) k' hk'
  have eb:upd (best s i D) (ml s i (i - (D+1)) 258 0) (D+1)=best s i (D+1):=by
   (have:ml s i (i - (D+1)) 258 0=mlen s i (i - (D+1)):=by unfold mlen;rfl);rw [this];rfl
  rw [eb];exact h
/-- The reference's Run is the run of a place. -/
theorem ref_f (s:ByteArray) (hs:s.size≤140737488351232) (i:Nat) (hi:i≤s.size) (k:Nat) (hk:300*i+2≤k):celluloidref06_Run.f k s (i:Int)=some (ip (run s i)):=by
 unfold celluloidref06_Run.f;rw [if_neg (by omega)];exact ref_l0 s hs i hi (min i 32768) 0 (by omega) k (by omega)
end Go.Proofs.Ytpbhkdamkbopkaa.Rn
namespace Go.Proofs.Ytpbhkdamkbopkaa.GDefl
open Go.RowKit Go.Proofs.YtpbhkdamkbopkaaW.PrintWords Go.Proofs.YtpbhkdamkbopkaaW.PrintLast Go.Proofs.YtpbhkdamkbopkaaW.PrintMore Go.Proofs.Ytpbhkdamkbopkaa.Wr1 Go.Proofs.Ytpbhkdamkbopkaa.GRuns
attribute [local go_sem] max2_int min2_int max_two min_two max_three min_three max_four min_four
set_option linter.unusedVariables false
set_option linter.unusedSimpArgs false
def errW:Option Int → Value
 |none=>.nilIface
 |some c=>.iface 0 (.int .i64 c)
theorem errW_none:errW none=.nilIface:=rfl
theorem errW_some (c:Int):errW (some c)=.iface 0 (.int .i64 c):=rfl
theorem info3:(Try.prog.info? 3).map (fun i=>(i.zero,i.size,i.bytes))=some (some (.int .i64 0),1,8):=by kernel_rfl
theorem info5:(Try.prog.info? 5).map (fun i=>(i.zero,i.size,i.bytes))=some (some (.int .u8 0),1,1):=by kernel_rfl
end Go.Proofs.Ytpbhkdamkbopkaa.GDefl
namespace Go.Proofs.Ytpbhkdamkbopkaa.GDefl
open Go.Proofs.Ytpbhkdamkbopkaa.Sq
open Go.RowKit Go.Proofs.YtpbhkdamkbopkaaW.PrintWords Go.Proofs.YtpbhkdamkbopkaaW.PrintLast Go.Proofs.YtpbhkdamkbopkaaW.PrintMore Go.Proofs.Ytpbhkdamkbopkaa.Wr1 Go.Proofs.Ytpbhkdamkbopkaa.GRuns
attribute [local go_sem] max2_int min2_int max_two min_two max_three min_three max_four min_four
set_option linter.unusedVariables false
set_option linter.unusedSimpArgs false
mutual
def celluloidref04_Codes.l0:Nat → List Int → List Int → Int → Option (List Int)
 |0,_,_,_=>none
 |k+1,x0,x3,x4=>if x4 < (x0.length:Int) then (if 0≤x4 then (if (rd x0 x4)=0 then (celluloidref04_Codes.l0 k x0 x3 (wrap64 (x4+1))) else (celluloidref04_Codes.l1 k x0 x3 x4 0 0)) else (none)) else (some x3)
def celluloidref04_Codes.l1:Nat → List Int → List Int → Int → Int → Int → Option (List Int)
 |0,_,_,_,_,_=>none
 |k+1,x0,x3,x4,x5,x6=>if x6 < (x0.length:Int) then (if 0≤x6 then (if (rd x0 x6) > 0 then (if 0≤x4 then (if x4 < (x0.length:Int) then (if (rd x0 x6) < (rd x0 x4) then (celluloidref04_Codes.j2 k x0 x3 x4 x5 x6 true) else (if (rd x0 x6)=(rd x0 x4) then (celluloidref04_Codes.j2 k x0 x3 x4 x5 x6 (decide (x6 < x4))) else (celluloidref04_Codes.j2 k x0 x3 x4 x5 x6 false))) else (none)) else (none)) else (celluloidref04_Codes.j2 k x0 x3 x4 x5 x6 false)) else (none)) else (if 0≤x4 then (if x4 < (x0.length:Int) then (celluloidref04_Codes.l3 k x0 x3 x4 x5 (rd x0 x4)) else (none)) else (none))
def celluloidref04_Codes.j2:Nat → List Int → List Int → Int → Int → Int → Bool → Option (List Int)
 |0,_,_,_,_,_,_=>none
 |k+1,x0,x3,x4,x5,x6,x61=>if x61=true then (celluloidref04_Codes.l2 k x0 x3 x4 x5 x6 32768 0) else (celluloidref04_Codes.l1 k x0 x3 x4 x5 (wrap64 (x6+1)))
def celluloidref04_Codes.l2:Nat → List Int → List Int → Int → Int → Int → Int → Int → Option (List Int)
 |0,_,_,_,_,_,_,_=>none
 |k+1,x0,x3,x4,x5,x6,x7,x8=>if 0≤x6 then (if x6 < (x0.length:Int) then (if x8 < (rd x0 x6) then (celluloidref04_Codes.l2 k x0 x3 x4 x5 x6 (wrap64 (Int.tdiv x7 2)) (wrap64 (x8+1))) else (celluloidref04_Codes.l1 k x0 x3 x4 (wrap64 (x5+x7)) (wrap64 (x6+1)))) else (none)) else (none)
def celluloidref04_Codes.l3:Nat → List Int → List Int → Int → Int → Int → Option (List Int)
 |0,_,_,_,_,_=>none
 |k+1,x0,x3,x4,x5,x9=>if x9 < 15 then (celluloidref04_Codes.l3 k x0 x3 x4 (wrap64 (Int.tdiv x5 2)) (wrap64 (x9+1))) else (if 0≤x4 then (if x4 < (x3.length:Int) then (celluloidref04_Codes.l0 k x0 (x3.set (x4:Int).toNat x5) (wrap64 (x4+1))) else (none)) else (none))
end
def celluloidref04_Codes.f (k:Nat) (l0:List Int):Option (List Int):=if 0≤(l0.length:Int) then (if ((l0.length:Int):Int).toNat≤35184372088832 then (celluloidref04_Codes.l0 k l0 (List.replicate ((l0.length:Int):Int).toNat 0) 0) else (none)) else (none)
set_option maxHeartbeats 8000000 in
set_option maxRecDepth 100000 in
theorem celluloidref04_Codes.calls (k : Nat) (A0 : Option Addr) (c0 : Nat) (l0 : List Int) (r : List Int) (w : World) (hr0 : Kd.C (Kd.int .i64) w A0 l0.length l0) (hc0 : l0.length ≤ c0) (h : celluloidref04_Codes.f k l0 = some r) :
  Calls Try.prog 29 #[.slice A0 l0.length c0] w fun e w'=>∃ v0_:Value,e=.returned (v0_)∧Kd.R (Kd.int .i64) 3 w' w.heap.size (fun _=>True) v0_ r∧Below w.heap.size w w':=by
 have HR0:=Aside0.mk hr0;have HC0:=Aside0.mk hc0;clear hr0 hc0;have HB:=Aside0.mk (Below.refl w.heap.size w);have H:=h;unfold celluloidref04_Codes.f at H;clear h;by_cases c2:0≤(l0.length:Int);rotate_left
 ·rw [if_neg c2] at H;exact absurd H (by simp)
 rw [if_pos c2] at H;have Vk:=eq_true c2;have Vl:=decide_eq_true c2;clear c2;by_cases c3:((l0.length:Int):Int).toNat≤35184372088832;rotate_left
 ·rw [if_neg c3] at H;exact absurd H (by simp)
 rw [if_pos c3] at H;have Vm:=eq_true c3;have Vn:=decide_eq_true c3;clear c3;obtain ⟨Q5,hy112⟩:∃ y_:List Int,y_=(List.replicate ((l0.length:Int):Int).toNat 0):=⟨_,rfl⟩;replace H:(celluloidref04_Codes.l0 k l0 Q5 0)=some r:=by first | (rw [hy112];with_reducible exact H) | (have H2_:=(Option.bind_some _ _).symm.trans H;rw [hy112];with_reducible exact H2_) | (have H2_:=(Option.bind_some _ _).symm.trans H;with_reducible exact H2_) | with_reducible exact H | (rw [hy112];exact H) | exact H
 have Qw:=Aside0.mk hy112;clear hy112;have H':=Aside0.mk H;clear H;go_enter Try.func29,Try.ntmps29;go_wp2_with (first | ((with_reducible refine gate_dst (N:=12) rfl ?_);refine Kd.R_make (Kd.int .i64) _ 3 rfl (N:=12) rfl 22 _ _ rfl (l0.length:Int) rfl rfl Try.underlying22 (.int .i64 0) 8 info3 rfl (by decide) (by omega) 0 (ok:=fun _=>True) (okp:=fun _=>True) rfl (fun _ hk=>hk) trivial pd (Nat.le_trans (Nat.mul_le_mul_right _ (pd:(l0.length:Int).toNat≤35184372088832)) (by omega)) (Below.refl _ _) (Nat.le_refl _) ?_;intro QB w4 ho5 hb hg_ hnew_;clear hg_ hnew_;(first | rw [← Qw.out] at ho5 | (simp only [Int.reduceToNat] at ho5;rw [← Qw.out] at ho5));have QK:=Aside0.mk (Kd.R_lower ho5 (below_size (hn HB)));replace HB:=hs HB hb;clear hb ho5))
 repeat (go_quiet (first | ((with_reducible refine gate_dst (N:=12) rfl ?_);refine Kd.R_make (Kd.int .i64) _ 3 rfl (N:=12) rfl 22 _ _ rfl (l0.length:Int) rfl rfl Try.underlying22 (.int .i64 0) 8 info3 rfl (by decide) (by omega) 0 (ok:=fun _=>True) (okp:=fun _=>True) rfl (fun _ hk=>hk) trivial pd (Nat.le_trans (Nat.mul_le_mul_right _ (pd:(l0.length:Int).toNat≤35184372088832)) (by omega)) (Below.refl _ _) (Nat.le_refl _) ?_;intro QB w4 ho5 hb hg_ hnew_;clear hg_ hnew_;(first | rw [← Qw.out] at ho5 | (simp only [Int.reduceToNat] at ho5;rw [← Qw.out] at ho5));have QK:=Aside0.mk (Kd.R_lower ho5 (below_size (hn HB)));replace HB:=hs HB hb;clear hb ho5));try go_wp2_with (first | ((with_reducible refine gate_dst (N:=12) rfl ?_);refine Kd.R_make (Kd.int .i64) _ 3 rfl (N:=12) rfl 22 _ _ rfl (l0.length:Int) rfl rfl Try.underlying22 (.int .i64 0) 8 info3 rfl (by decide) (by omega) 0 (ok:=fun _=>True) (okp:=fun _=>True) rfl (fun _ hk=>hk) trivial pd (Nat.le_trans (Nat.mul_le_mul_right _ (pd:(l0.length:Int).toNat≤35184372088832)) (by omega)) (Below.refl _ _) (Nat.le_refl _) ?_;intro QB w4 ho5 hb hg_ hnew_;clear hg_ hnew_;(first | rw [← Qw.out] at ho5 | (simp only [Int.reduceToNat] at ho5;rw [← Qw.out] at ho5));have n0_:=Aside0.mk (Kd.R_lower ho5 (below_size (hn HB)));have n1_:=hs HB hb;clear HB;have QK:=n0_;have HB:=n1_;clear n0_ n1_;clear hb ho5)))
 go_loopg [4] k (fun kq v4 w'=>∃ (Qi:List Int) (Qa:Int),v4=.int .i64 Qa∧Aside0 (celluloidref04_Codes.l0 kq l0 Qi Qa=some r)∧Aside0 (kq≤k)∧Aside0 (Kd.R (Kd.int .i64) 3 w' w.heap.size (fun _=>True) QB Qi)∧Aside0 (Below w.heap.size w w'))
 case atStart=>exact ⟨(Q5),(0),(by first | rfl | (simp;done) | (simp [*];done)),H',⟨Nat.le_refl _⟩,⟨rr QK⟩,⟨hn HB⟩⟩
 clear H';clear Vk Vl Vm Vn;obtain ⟨Qi,Qa,rfl,HA,HK1,Qd,HB⟩:=hrel
 rcases gk with _ | k1
 ·exact absurd HA.out (by simp [celluloidref04_Codes.l0])
 have H:=HA.out;clear HA;simp only [celluloidref04_Codes.l0] at H;by_cases c6:Qa < (l0.length:Int);rotate_left
 ·rw [if_neg c6] at H;have Q6:=decide_eq_false c6;clear c6;obtain rfl:=Option.some.inj H;go_wp2;repeat (go_quiet (fail);try go_wp2)
  go_ret;exact ⟨_,by first | rfl | (simp [errW_none,errW_some] <;> rfl) | (simp [*,errW_none,errW_some] <;> rfl),rr Qd,hn HB⟩
 rw [if_pos c6] at H;have Q6:=decide_eq_true c6;clear c6;by_cases c7:0≤Qa;rotate_left
 ·rw [if_neg c7] at H;exact absurd H (by simp)
 rw [if_pos c7] at H;have Vo:=decide_eq_true c7;clear c7;by_cases c8:(rd l0 Qa)=0
 ·rw [if_pos c8] at H;have Q7:((rd l0 Qa) == 0)=true:=beq_iff_eq.mpr c8;have Q8:((rd l0 Qa) != 0)=false:=bne_eq_false_iff_eq.mpr c8;clear c8;have H':=Aside0.mk H;clear H;have Qx:0≤(Qa:Int):=pd;have Qy:Qa < (l0.length:Int):=pd;obtain ⟨Qg,QY,Qh⟩:=Kd.at_int HR0.out Qa Qx Qy;cases QY;replace Qh:=(HB.out.cell (World.block_lt_of_cell? w _ Qh)).trans Qh;replace Qx:=eq_true Qx;replace Qy:=eq_true Qy;go_wp2;repeat (go_quiet (fail);try go_wp2)
  go_roundg k1
  case measure=>have:=HK1.out;omega
  case rel=>exact ⟨(Qi),(wrap64 (Qa+1)),(by first | rfl | (simp;done) | (simp [*];done)),H',⟨by have:=HK1.out;omega⟩,⟨rr Qd⟩,⟨hn HB⟩⟩
 rw [if_neg c8] at H;have Q7:((rd l0 Qa) == 0)=false:=beq_eq_false_iff_ne.mpr c8;have Q8:((rd l0 Qa) != 0)=true:=bne_iff_ne.mpr c8;have H':=Aside0.mk H;clear H;have Qx:0≤(Qa:Int):=pd;have Qy:Qa < (l0.length:Int):=pd;obtain ⟨Qg,QY,Qh⟩:=Kd.at_int HR0.out Qa Qx Qy;cases QY;replace Qh:=(HB.out.cell (World.block_lt_of_cell? w _ Qh)).trans Qh;replace Qx:=eq_true Qx;replace Qy:=eq_true Qy;go_wp2;repeat (go_quiet (fail);try go_wp2)
 go_loopg [5,6] k1 (fun kq v5 v6 w'=>∃ (Qv:Int) (Qb:Int),v5=.int .i64 Qv∧v6=.int .i64 Qb∧Aside0 (celluloidref04_Codes.l1 kq l0 Qi Qa Qv Qb=some r)∧Aside0 (kq≤k1)∧Aside0 (Kd.R (Kd.int .i64) 3 w' w.heap.size (fun _=>True) QB Qi)∧Aside0 (Below w.heap.size w w'))
 case atStart=>exact ⟨(0),(0),(by first | rfl | (simp;done) | (simp [*];done)),(by first | rfl | (simp;done) | (simp [*];done)),H',⟨Nat.le_refl _⟩,⟨rr Qd⟩,⟨hn HB⟩⟩
 clear H';clear Q6 Vo c8 Q7 Q8 Qh Qx Qy;obtain ⟨Qv,Qb,rfl,rfl,HA,HK2,Qd,HB⟩:=hrel
 rcases gk with _ | k2
 ·exact absurd HA.out (by simp [celluloidref04_Codes.l1])
 have H:=HA.out;clear HA;simp only [celluloidref04_Codes.l1] at H;by_cases c9:Qb < (l0.length:Int)
 ·rw [if_pos c9] at H;have QZ:=decide_eq_true c9;clear c9;have Q0:=Aside0.mk H;clear H;go_upto_region 10 with (fail)
  repeat (go_quiet (fail);go_upto_region 10 with (fail))
  go_cut [61] (fun v61 wc=>∃ (kq:Nat) (QJ:Bool),v61=.bool QJ∧Aside0 (celluloidref04_Codes.j2 kq l0 Qi Qa Qv Qb QJ=some r)∧Aside0 (kq≤k2)∧Aside0 (Kd.R (Kd.int .i64) 3 wc w.heap.size (fun _=>True) QB Qi)∧Aside0 (Below w.heap.size w wc))
  case first =>
   have H:=Q0.out;clear Q0;by_cases c11:0≤Qb;rotate_left
   ·rw [if_neg c11] at H;exact absurd H (by simp)
   rw [if_pos c11] at H;have QX:=decide_eq_true c11;clear c11
   (first | rw [QX] | (simp only [i64_w,i32_w];rw [QX]) | skip)
   by_cases c12:(rd l0 Qb) > 0;rotate_left
   ·rw [if_neg c12] at H;have Q9:=decide_eq_false c12;clear c12;have H':=Aside0.mk H;clear H;have Qm:0≤(Qb:Int):=pd;have Qn:Qb < (l0.length:Int):=pd;obtain ⟨Qq,QC,Qc⟩:=Kd.at_int HR0.out Qb Qm Qn;obtain rfl:Qg=Qq:=(by injection QC);replace Qc:=(HB.out.cell (World.block_lt_of_cell? w _ Qc)).trans Qc;replace Qm:=eq_true Qm;replace Qn:=eq_true Qn;go_wp2;(repeat (go_quiet (fail);try go_wp2));go_meet
    case rel=>exact ⟨_,(false),(by first | rfl | (simp;done) | (simp [*];done)),H',⟨by have:=HK1.out;have:=HK2.out;first | omega | exact Nat.le_refl _⟩,⟨rr Qd⟩,⟨hn HB⟩⟩
   rw [if_pos c12] at H;have Q9:=decide_eq_true c12;clear c12;by_cases c13:0≤Qa;rotate_left
   ·rw [if_neg c13] at H;exact absurd H (by simp)
   rw [if_pos c13] at H;have c13b0:=decide_eq_true c13;clear c13;by_cases c14:Qa < (l0.length:Int);rotate_left
   ·rw [if_neg c14] at H;exact absurd H (by simp)
   rw [if_pos c14] at H;have c14b0:=decide_eq_true c14;clear c14;by_cases c15:(rd l0 Qb) < (rd l0 Qa)
   ·rw [if_pos c15] at H;have Va:=decide_eq_true c15;clear c15;have H':=Aside0.mk H;clear H;have Qm:0≤(Qb:Int):=pd;have Qn:Qb < (l0.length:Int):=pd;obtain ⟨Qq,QC,Qc⟩:=Kd.at_int HR0.out Qb Qm Qn;obtain rfl:Qg=Qq:=(by injection QC);replace Qc:=(HB.out.cell (World.block_lt_of_cell? w _ Qc)).trans Qc;replace Qm:=eq_true Qm;replace Qn:=eq_true Qn;have Qr:0≤(Qb:Int):=pd;have Qs:Qb < (l0.length:Int):=pd;obtain ⟨Qz,QL,Qe⟩:=Kd.at_int HR0.out Qb Qr Qs;obtain rfl:Qg=Qz:=(by injection QL);replace Qe:=(HB.out.cell (World.block_lt_of_cell? w _ Qe)).trans Qe;replace Qr:=eq_true Qr;replace Qs:=eq_true Qs;have Qt:0≤(Qa:Int):=pd;have Qu:Qa < (l0.length:Int):=pd;obtain ⟨QA,QM,Qf⟩:=Kd.at_int HR0.out Qa Qt Qu;obtain rfl:Qg=QA:=(by injection QM);replace Qf:=(HB.out.cell (World.block_lt_of_cell? w _ Qf)).trans Qf;replace Qt:=eq_true Qt;replace Qu:=eq_true Qu;go_wp2;(repeat (go_quiet (fail);try go_wp2));go_meet
    case rel=>exact ⟨_,(true),(by first | rfl | (simp;done) | (simp [*];done)),H',⟨by have:=HK1.out;have:=HK2.out;first | omega | exact Nat.le_refl _⟩,⟨rr Qd⟩,⟨hn HB⟩⟩
   ·rw [if_neg c15] at H;have Va:=decide_eq_false c15;clear c15;by_cases c16:(rd l0 Qb)=(rd l0 Qa)
    ·rw [if_pos c16] at H;have Vb:((rd l0 Qb) == (rd l0 Qa))=true:=beq_iff_eq.mpr c16;have Vc:((rd l0 Qb) != (rd l0 Qa))=false:=bne_eq_false_iff_eq.mpr c16;clear c16;have H':=Aside0.mk H;clear H;have Qm:0≤(Qb:Int):=pd;have Qn:Qb < (l0.length:Int):=pd;obtain ⟨Qq,QC,Qc⟩:=Kd.at_int HR0.out Qb Qm Qn;obtain rfl:Qg=Qq:=(by injection QC);replace Qc:=(HB.out.cell (World.block_lt_of_cell? w _ Qc)).trans Qc;replace Qm:=eq_true Qm;replace Qn:=eq_true Qn;have Qr:0≤(Qb:Int):=pd;have Qs:Qb < (l0.length:Int):=pd;obtain ⟨Qz,QL,Qe⟩:=Kd.at_int HR0.out Qb Qr Qs;obtain rfl:Qg=Qz:=(by injection QL);replace Qe:=(HB.out.cell (World.block_lt_of_cell? w _ Qe)).trans Qe;replace Qr:=eq_true Qr;replace Qs:=eq_true Qs;have Qt:0≤(Qa:Int):=pd;have Qu:Qa < (l0.length:Int):=pd;obtain ⟨QA,QM,Qf⟩:=Kd.at_int HR0.out Qa Qt Qu;obtain rfl:Qg=QA:=(by injection QM);replace Qf:=(HB.out.cell (World.block_lt_of_cell? w _ Qf)).trans Qf;replace Qt:=eq_true Qt;replace Qu:=eq_true Qu;have QD:0≤(Qb:Int):=pd;have QE:Qb < (l0.length:Int):=pd;obtain ⟨QN,Q1,Qj⟩:=Kd.at_int HR0.out Qb QD QE;obtain rfl:Qg=QN:=(by injection Q1);replace Qj:=(HB.out.cell (World.block_lt_of_cell? w _ Qj)).trans Qj;replace QD:=eq_true QD;replace QE:=eq_true QE;have QF:0≤(Qa:Int):=pd;have QG:Qa < (l0.length:Int):=pd;obtain ⟨QO,Q2,Qk⟩:=Kd.at_int HR0.out Qa QF QG;obtain rfl:Qg=QO:=(by injection Q2);replace Qk:=(HB.out.cell (World.block_lt_of_cell? w _ Qk)).trans Qk;replace QF:=eq_true QF;replace QG:=eq_true QG;go_wp2;(repeat (go_quiet (fail);try go_wp2));go_meet
     case rel=>exact ⟨_,(decide (Qb < Qa)),(by first | rfl | (simp;done) | (simp [*];done)),H',⟨by have:=HK1.out;have:=HK2.out;first | omega | exact Nat.le_refl _⟩,⟨rr Qd⟩,⟨hn HB⟩⟩
    ·rw [if_neg c16] at H;have Vb:((rd l0 Qb) == (rd l0 Qa))=false:=beq_eq_false_iff_ne.mpr c16;have Vc:((rd l0 Qb) != (rd l0 Qa))=true:=bne_iff_ne.mpr c16;have H':=Aside0.mk H;clear H;have Qm:0≤(Qb:Int):=pd;have Qn:Qb < (l0.length:Int):=pd;obtain ⟨Qq,QC,Qc⟩:=Kd.at_int HR0.out Qb Qm Qn;obtain rfl:Qg=Qq:=(by injection QC);replace Qc:=(HB.out.cell (World.block_lt_of_cell? w _ Qc)).trans Qc;replace Qm:=eq_true Qm;replace Qn:=eq_true Qn;have Qr:0≤(Qb:Int):=pd;have Qs:Qb < (l0.length:Int):=pd;obtain ⟨Qz,QL,Qe⟩:=Kd.at_int HR0.out Qb Qr Qs;obtain rfl:Qg=Qz:=(by injection QL);replace Qe:=(HB.out.cell (World.block_lt_of_cell? w _ Qe)).trans Qe;replace Qr:=eq_true Qr;replace Qs:=eq_true Qs;have Qt:0≤(Qa:Int):=pd;have Qu:Qa < (l0.length:Int):=pd;obtain ⟨QA,QM,Qf⟩:=Kd.at_int HR0.out Qa Qt Qu;obtain rfl:Qg=QA:=(by injection QM);replace Qf:=(HB.out.cell (World.block_lt_of_cell? w _ Qf)).trans Qf;replace Qt:=eq_true Qt;replace Qu:=eq_true Qu;have QD:0≤(Qb:Int):=pd;have QE:Qb < (l0.length:Int):=pd;obtain ⟨QN,Q1,Qj⟩:=Kd.at_int HR0.out Qb QD QE;obtain rfl:Qg=QN:=(by injection Q1);replace Qj:=(HB.out.cell (World.block_lt_of_cell? w _ Qj)).trans Qj;replace QD:=eq_true QD;replace QE:=eq_true QE;have QF:0≤(Qa:Int):=pd;have QG:Qa < (l0.length:Int):=pd;obtain ⟨QO,Q2,Qk⟩:=Kd.at_int HR0.out Qa QF QG;obtain rfl:Qg=QO:=(by injection Q2);replace Qk:=(HB.out.cell (World.block_lt_of_cell? w _ Qk)).trans Qk;replace QF:=eq_true QF;replace QG:=eq_true QG;go_wp2;(repeat (go_quiet (fail);try go_wp2));go_meet
     case rel=>exact ⟨_,(false),(by first | rfl | (simp;done) | (simp [*];done)),H',⟨by have:=HK1.out;have:=HK2.out;first | omega | exact Nat.le_refl _⟩,⟨rr Qd⟩,⟨hn HB⟩⟩
  clear Q0;clear QZ;obtain ⟨kq,QJ,rfl,HA,HJ9,Qd,HB⟩:=hcut
  rcases kq with _ | kj9
  ·exact absurd HA.out (by simp [celluloidref04_Codes.j2])
  have H:=HA.out;clear HA;simp only [celluloidref04_Codes.j2] at H;by_cases c17:QJ=true;rotate_left
  ·replace c17:=Bool.eq_false_iff.mpr c17;subst c17;(have H1:(celluloidref04_Codes.l1 kj9 l0 Qi Qa Qv (wrap64 (Qb+1)))=some r:=by rw [if_neg (show ¬ (false=true) by decide)] at H;exact H);clear H;have H:=H1;clear H1;have H':=Aside0.mk H;clear H;go_wp2;(repeat (go_quiet (fail);try go_wp2));go_roundg kj9
   case measure=>have:=HK1.out;have:=HK2.out;have:=HJ9.out;omega
   case rel=>exact ⟨(Qv),(wrap64 (Qb+1)),(by first | rfl | (simp;done) | (simp [*];done)),(by first | rfl | (simp;done) | (simp [*];done)),H',⟨by have:=HK1.out;have:=HK2.out;have:=HJ9.out;omega⟩,⟨rr Qd⟩,⟨hn HB⟩⟩
  subst c17;have H1:(celluloidref04_Codes.l2 kj9 l0 Qi Qa Qv Qb 32768 0)=some r:=by rw [if_pos rfl] at H;exact H
  clear H;have H:=H1;clear H1;have H':=Aside0.mk H;clear H;go_wp2;repeat (go_quiet (fail);try go_wp2)
  go_loopg [7,8] kj9 (fun kq v7 v8 w'=>∃ (QP:Int) (QQ:Int),v7=.int .i64 QP∧v8=.int .i64 QQ∧Aside0 (celluloidref04_Codes.l2 kq l0 Qi Qa Qv Qb QP QQ=some r)∧Aside0 (kq≤kj9)∧Aside0 (Kd.R (Kd.int .i64) 3 w' w.heap.size (fun _=>True) QB Qi)∧Aside0 (Below w.heap.size w w'))
  case atStart=>exact ⟨(32768),(0),(by first | rfl | (simp;done) | (simp [*];done)),(by first | rfl | (simp;done) | (simp [*];done)),H',⟨Nat.le_refl _⟩,⟨rr Qd⟩,⟨hn HB⟩⟩
  clear H';obtain ⟨QP,QQ,rfl,rfl,HA,HK4,Qd,HB⟩:=hrel
  rcases gk with _ | k4
  ·exact absurd HA.out (by simp [celluloidref04_Codes.l2])
  have H:=HA.out;clear HA;simp only [celluloidref04_Codes.l2] at H;by_cases c18:0≤Qb;rotate_left
  ·rw [if_neg c18] at H;exact absurd H (by simp)
  rw [if_pos c18] at H;have c18b0:=decide_eq_true c18;clear c18;by_cases c19:Qb < (l0.length:Int);rotate_left
  ·rw [if_neg c19] at H;exact absurd H (by simp)
  rw [if_pos c19] at H;have c19b0:=decide_eq_true c19;clear c19;by_cases c20:QQ < (rd l0 Qb)
  ·rw [if_pos c20] at H;have Vd:=decide_eq_true c20;clear c20;have H':=Aside0.mk H;clear H;have QH:0≤(Qb:Int):=pd;have QI:Qb < (l0.length:Int):=pd;obtain ⟨QR,Q3,Ql⟩:=Kd.at_int HR0.out Qb QH QI;obtain rfl:Qg=QR:=(by injection Q3);replace Ql:=(HB.out.cell (World.block_lt_of_cell? w _ Ql)).trans Ql;replace QH:=eq_true QH;replace QI:=eq_true QI;go_wp2;(repeat (go_quiet (fail);try go_wp2));go_roundg k4
   case measure=>have:=HK1.out;have:=HK2.out;have:=HJ9.out;have:=HK4.out;omega
   case rel=>exact ⟨(wrap64 (Int.tdiv QP 2)),(wrap64 (QQ+1)),(by first | rfl | (simp;done) | (simp [*];done)),(by first | rfl | (simp;done) | (simp [*];done)),H',⟨by have:=HK1.out;have:=HK2.out;have:=HJ9.out;have:=HK4.out;omega⟩,⟨rr Qd⟩,⟨hn HB⟩⟩
  ·rw [if_neg c20] at H;have Vd:=decide_eq_false c20;clear c20;have H':=Aside0.mk H;clear H;have QH:0≤(Qb:Int):=pd;have QI:Qb < (l0.length:Int):=pd;obtain ⟨QR,Q3,Ql⟩:=Kd.at_int HR0.out Qb QH QI;obtain rfl:Qg=QR:=(by injection Q3);replace Ql:=(HB.out.cell (World.block_lt_of_cell? w _ Ql)).trans Ql;replace QH:=eq_true QH;replace QI:=eq_true QI;go_wp2;(repeat (go_quiet (fail);try go_wp2));go_roundg k4
   case measure=>have:=HK1.out;have:=HK2.out;have:=HJ9.out;have:=HK4.out;omega
   case rel=>exact ⟨(wrap64 (Qv+QP)),(wrap64 (Qb+1)),(by first | rfl | (simp;done) | (simp [*];done)),(by first | rfl | (simp;done) | (simp [*];done)),H',⟨by have:=HK1.out;have:=HK2.out;have:=HJ9.out;have:=HK4.out;omega⟩,⟨rr Qd⟩,⟨hn HB⟩⟩
 ·rw [if_neg c9] at H;have QZ:=decide_eq_false c9;clear c9;by_cases c21:0≤Qa;rotate_left
  ·rw [if_neg c21] at H;exact absurd H (by simp)
  rw [if_pos c21] at H;have Ve:=decide_eq_true c21;clear c21;by_cases c22:Qa < (l0.length:Int);rotate_left
  ·rw [if_neg c22] at H;exact absurd H (by simp)
  rw [if_pos c22] at H;have Vf:=decide_eq_true c22;clear c22;have H':=Aside0.mk H;clear H;have QV:0≤(Qa:Int):=pd;have QW:Qa < (l0.length:Int):=pd;obtain ⟨Vg,Vp,Qp⟩:=Kd.at_int HR0.out Qa QV QW;obtain rfl:Qg=Vg:=(by injection Vp);replace Qp:=(HB.out.cell (World.block_lt_of_cell? w _ Qp)).trans Qp;replace QV:=eq_true QV;replace QW:=eq_true QW;go_wp2;repeat (go_quiet (fail);try go_wp2)
  go_loopg [5,9] k2 (fun kq v5 v9 w'=>∃ (Qo:Int) (QS:Int),v5=.int .i64 Qo∧v9=.int .i64 QS∧Aside0 (celluloidref04_Codes.l3 kq l0 Qi Qa Qo QS=some r)∧Aside0 (kq≤k2)∧Aside0 (Kd.R (Kd.int .i64) 3 w' w.heap.size (fun _=>True) QB Qi)∧Aside0 (Below w.heap.size w w'))
  case atStart=>exact ⟨(Qv),(rd l0 Qa),(by first | rfl | (simp;done) | (simp [*];done)),(by first | rfl | (simp;done) | (simp [*];done)),H',⟨Nat.le_refl _⟩,⟨rr Qd⟩,⟨hn HB⟩⟩
  clear H';clear QZ Ve Vf Qp QV QW;obtain ⟨Qo,QS,rfl,rfl,HA,HK3,Qd,HB⟩:=hrel
  rcases gk with _ | k3
  ·exact absurd HA.out (by simp [celluloidref04_Codes.l3])
  have H:=HA.out;clear HA;simp only [celluloidref04_Codes.l3] at H;by_cases c23:QS < 15
  ·rw [if_pos c23] at H;have Vh:=decide_eq_true c23;clear c23;have H':=Aside0.mk H;clear H;go_wp2;(repeat (go_quiet (fail);try go_wp2));go_roundg k3
   case measure=>have:=HK1.out;have:=HK2.out;have:=HK3.out;omega
   case rel=>exact ⟨(wrap64 (Int.tdiv Qo 2)),(wrap64 (QS+1)),(by first | rfl | (simp;done) | (simp [*];done)),(by first | rfl | (simp;done) | (simp [*];done)),H',⟨by have:=HK1.out;have:=HK2.out;have:=HK3.out;omega⟩,⟨rr Qd⟩,⟨hn HB⟩⟩
  rw [if_neg c23] at H;have Vh:=decide_eq_false c23;clear c23;by_cases c24:0≤Qa;rotate_left
  ·rw [if_neg c24] at H;exact absurd H (by simp)
  rw [if_pos c24] at H;have c24b0:=decide_eq_true c24;clear c24;by_cases c25:Qa < (Qi.length:Int);rotate_left
  ·rw [if_neg c25] at H;exact absurd H (by simp)
  rw [if_pos c25] at H;have c25b0:=decide_eq_true c25;clear c25;obtain ⟨QT,hy123⟩:∃ y_:List Int,y_=(Qi.set (Qa:Int).toNat Qo):=⟨_,rfl⟩;replace H:(celluloidref04_Codes.l0 k3 l0 QT (wrap64 (Qa+1)))=some r:=by first | (rw [hy123];with_reducible exact H) | (have H2_:=(Option.bind_some _ _).symm.trans H;rw [hy123];with_reducible exact H2_) | (have H2_:=(Option.bind_some _ _).symm.trans H;with_reducible exact H2_) | with_reducible exact H | (rw [hy123];exact H) | exact H
  have QU:=Aside0.mk hy123;clear hy123;have H':=Aside0.mk H;clear H;have p26:0≤(Qa:Int):=pd;have q26:(Qa:Int) < ((Qi.length:Int):Int):=pd;obtain ⟨go26,Q4,Vi,Vj,gl26,cl26,HG26⟩:=Kd.R_form Qd.out (by omega)
  (first | cases Vi | (injection Vi with ea_ en_ ec_;(first | subst ea_ | (injection ea_ with ea_;subst ea_));subst ec_;clear en_))
  have GB26:=Aside0.mk Vj;have GG26:=Aside0.mk HG26;clear Vj gl26 HG26;obtain ⟨hx26_0,hf26_0⟩:=Kd.R_celln 0 Qd.out (Qa:Int) p26 q26;replace p26:=eq_true p26;replace q26:=eq_true q26;have HP27:=Kd.R_putg Qd.out (Qa:Int) Qo;go_wp2_with (first | ((with_reducible refine gate_store (t:=3) (p:=88) rfl ?_);(try (rw [drewN_self wr];generalize hq_:World.drewN wr _=wr;have n0_:=aR hq_ Qd;have n1_:=aW hq_ HB;clear hq_ Qd HB;have Qd:=n0_;have HB:=n1_;clear n0_ n1_;(try (have HP27:=Kd.R_putg Qd.out (Qa:Int) Qo))));refine stQ 3 88 ((wr.setCell ⟨go26,(Qa:Int).toNat,none⟩ (.int .i64 Qo))) ?_;intro w28 hw;have hg:wr.grownBy w28 (some go26):=(by rw [hw];exact HP27.2);have hp_:Kd.R (Kd.int .i64) 3 w28 w.heap.size (fun _=>True) (.slice (some ⟨go26,0,none⟩) Qi.length Q4) QT:=(by rw [hw,QU.out];exact HP27.1);clear HP27;replace Qd:=Aside0.mk (hp_);replace HB:=Aside0.mk ((by rw [hw];exact below_set (HB.out) GB26.out:Below w.heap.size w w28));clear hg hw hp_))
  repeat (go_quiet (first | ((with_reducible refine gate_store (t:=3) (p:=88) rfl ?_);(try (rw [drewN_self wr];generalize hq_:World.drewN wr _=wr;have n0_:=aR hq_ Qd;have n1_:=aW hq_ HB;clear hq_ Qd HB;have Qd:=n0_;have HB:=n1_;clear n0_ n1_;(try (have HP27:=Kd.R_putg Qd.out (Qa:Int) Qo))));refine stQ 3 88 ((wr.setCell ⟨go26,(Qa:Int).toNat,none⟩ (.int .i64 Qo))) ?_;intro w28 hw;have hg:wr.grownBy w28 (some go26):=(by rw [hw];exact HP27.2);have hp_:Kd.R (Kd.int .i64) 3 w28 w.heap.size (fun _=>True) (.slice (some ⟨go26,0,none⟩) Qi.length Q4) QT:=(by rw [hw,QU.out];exact HP27.1);clear HP27;replace Qd:=Aside0.mk (hp_);replace HB:=Aside0.mk ((by rw [hw];exact below_set (HB.out) GB26.out:Below w.heap.size w w28));clear hg hw hp_));try go_wp2_with (first | ((with_reducible refine gate_store (t:=3) (p:=88) rfl ?_);(try (rw [drewN_self wr];generalize hq_:World.drewN wr _=wr;have n0_:=aR hq_ Qd;have n1_:=aW hq_ HB;clear hq_ Qd HB;have Qd:=n0_;have HB:=n1_;clear n0_ n1_;(try (have HP27:=Kd.R_putg Qd.out (Qa:Int) Qo))));refine stQ 3 88 ((wr.setCell ⟨go26,(Qa:Int).toNat,none⟩ (.int .i64 Qo))) ?_;intro w28 hw;have hg:wr.grownBy w28 (some go26):=(by rw [hw];exact HP27.2);have hp_:Kd.R (Kd.int .i64) 3 w28 w.heap.size (fun _=>True) (.slice (some ⟨go26,0,none⟩) Qi.length Q4) QT:=(by rw [hw,QU.out];exact HP27.1);clear HP27;have n0_:=Aside0.mk (hp_);have n1_:=Aside0.mk ((by rw [hw];exact below_set (HB.out) GB26.out:Below w.heap.size w w28));clear Qd HB;have Qd:=n0_;have HB:=n1_;clear n0_ n1_;clear hg hw hp_)))
  go_roundg k3
  case measure=>have:=HK1.out;have:=HK2.out;have:=HK3.out;omega
  case rel=>exact ⟨(QT),(wrap64 (Qa+1)),(by first | rfl | (simp;done) | (simp [*];done)),H',⟨by have:=HK1.out;have:=HK2.out;have:=HK3.out;omega⟩,⟨rr Qd⟩,⟨hn HB⟩⟩
end Go.Proofs.Ytpbhkdamkbopkaa.GDefl
namespace Go.Proofs.Ytpbhkdamkbopkaa.GDefl
open Go.Proofs.Ytpbhkdamkbopkaa.Sq
open Go.RowKit Go.Proofs.YtpbhkdamkbopkaaW.PrintWords Go.Proofs.YtpbhkdamkbopkaaW.PrintLast Go.Proofs.YtpbhkdamkbopkaaW.PrintMore Go.Proofs.Ytpbhkdamkbopkaa.Wr1 Go.Proofs.Ytpbhkdamkbopkaa.GRuns
attribute [local go_sem] max2_int min2_int max_two min_two max_three min_three max_four min_four
set_option linter.unusedVariables false
set_option linter.unusedSimpArgs false
mutual
def celluloidref05_Plain.l0:Nat → List Int → Int → Option (List Int × List Int)
 |0,_,_=>none
 |k+1,x2,x4=>if x4 < 288 then (if x4 > 143 then (celluloidref05_Plain.j1 k x2 x4 8 (decide (x4 < 256))) else (celluloidref05_Plain.j1 k x2 x4 8 false)) else (celluloidref05_Plain.l1 k x2 ([]:List Int) 0)
def celluloidref05_Plain.j1:Nat → List Int → Int → Int → Bool → Option (List Int × List Int)
 |0,_,_,_,_=>none
 |k+1,x2,x4,x5,x16=>if x16=true then (if x4 > 255 then (if x4 < 280 then (if x2.length < 17592186044416 then (celluloidref05_Plain.l0 k (x2 ++ [7]) (wrap64 (x4+1))) else (none)) else (if x2.length < 17592186044416 then (celluloidref05_Plain.l0 k (x2 ++ [9]) (wrap64 (x4+1))) else (none))) else (if x2.length < 17592186044416 then (celluloidref05_Plain.l0 k (x2 ++ [9]) (wrap64 (x4+1))) else (none))) else (if x4 > 255 then (if x4 < 280 then (if x2.length < 17592186044416 then (celluloidref05_Plain.l0 k (x2 ++ [7]) (wrap64 (x4+1))) else (none)) else (if x2.length < 17592186044416 then (celluloidref05_Plain.l0 k (x2 ++ [x5]) (wrap64 (x4+1))) else (none))) else (if x2.length < 17592186044416 then (celluloidref05_Plain.l0 k (x2 ++ [x5]) (wrap64 (x4+1))) else (none)))
def celluloidref05_Plain.l1:Nat → List Int → List Int → Int → Option (List Int × List Int)
 |0,_,_,_=>none
 |k+1,x2,x3,x6=>if x6 < 32 then (if x3.length < 17592186044416 then (celluloidref05_Plain.l1 k x2 (x3 ++ [5]) (wrap64 (x6+1))) else (none)) else (some (x2,x3))
end
def celluloidref05_Plain.f (k:Nat) :Option (List Int × List Int):=celluloidref05_Plain.l0 k ([]:List Int) 0
theorem celluloidref05_Plain.mono_l:∀ k,(∀ y0 y1,LeO (celluloidref05_Plain.l0 k y0 y1) (celluloidref05_Plain.l0 (k+1) y0 y1))∧(∀ y0 y1 y2 y3,LeO (celluloidref05_Plain.j1 k y0 y1 y2 y3) (celluloidref05_Plain.j1 (k+1) y0 y1 y2 y3))∧(∀ y0 y1 y2,LeO (celluloidref05_Plain.l1 k y0 y1 y2) (celluloidref05_Plain.l1 (k+1) y0 y1 y2))
 |0=>⟨fun _ _ r h=>by simp [celluloidref05_Plain.l0] at h,fun _ _ _ _ r h=>by simp [celluloidref05_Plain.j1] at h,fun _ _ _ r h=>by simp [celluloidref05_Plain.l1] at h⟩
 |k+1=>by
  obtain ⟨ih0,ih1,ih2⟩:=celluloidref05_Plain.mono_l k;refine ⟨?_,?_,?_⟩
  ·intro y0 y1;unfold celluloidref05_Plain.l0;repeat' first
   |(with_reducible exact ih0 _ _)
   |(with_reducible exact ih1 _ _ _ _)
   |(with_reducible exact ih2 _ _ _)
   |(with_reducible exact LeO.refl _)
   |(with_reducible exact LeO.none _)
   |(with_reducible refine LeO.ite ?_ ?_)
   |(with_reducible refine LeO.bind ?_ (fun _=>?_))
   |exact ih0 _ _
   |exact ih1 _ _ _ _
   |exact ih2 _ _ _
   |exact LeO.none _
   |refine LeO.ite ?_ ?_
   |refine LeO.bind ?_ (fun _=>?_)
  ·intro y0 y1 y2 y3;unfold celluloidref05_Plain.j1;repeat' first
   |(with_reducible exact ih0 _ _)
   |(with_reducible exact ih1 _ _ _ _)
   |(with_reducible exact ih2 _ _ _)
   |(with_reducible exact LeO.refl _)
   |(with_reducible exact LeO.none _)
   |(with_reducible refine LeO.ite ?_ ?_)
   |(with_reducible refine LeO.bind ?_ (fun _=>?_))
   |exact ih0 _ _
   |exact ih1 _ _ _ _
   |exact ih2 _ _ _
   |exact LeO.none _
   |refine LeO.ite ?_ ?_
   |refine LeO.bind ?_ (fun _=>?_)
  ·intro y0 y1 y2;unfold celluloidref05_Plain.l1;repeat' first
   |(with_reducible exact ih0 _ _)
   |(with_reducible exact ih1 _ _ _ _)
   |(with_reducible exact ih2 _ _ _)
   |(with_reducible exact LeO.refl _)
   |(with_reducible exact LeO.none _)
   |(with_reducible refine LeO.ite ?_ ?_)
   |(with_reducible refine LeO.bind ?_ (fun _=>?_))
   |exact ih0 _ _
   |exact ih1 _ _ _ _
   |exact ih2 _ _ _
   |exact LeO.none _
   |refine LeO.ite ?_ ?_
   |refine LeO.bind ?_ (fun _=>?_)
theorem celluloidref05_Plain.mono:∀ k,LeO (celluloidref05_Plain.f k ) (celluloidref05_Plain.f (k+1) ):=by
 intro  k;obtain ⟨ih0,ih1,ih2⟩:=celluloidref05_Plain.mono_l k;unfold celluloidref05_Plain.f
 repeat' first
   |(with_reducible exact ih0 _ _)
   |(with_reducible exact ih1 _ _ _ _)
   |(with_reducible exact ih2 _ _ _)
   |(with_reducible exact LeO.refl _)
   |(with_reducible exact LeO.none _)
   |(with_reducible refine LeO.ite ?_ ?_)
   |(with_reducible refine LeO.bind ?_ (fun _=>?_))
   |exact ih0 _ _
   |exact ih1 _ _ _ _
   |exact ih2 _ _ _
   |exact LeO.none _
   |refine LeO.ite ?_ ?_
   |refine LeO.bind ?_ (fun _=>?_)
set_option maxHeartbeats 8000000 in
set_option maxRecDepth 100000 in
theorem celluloidref05_Plain.calls (k : Nat)  (r1 : List Int) (r2 : List Int) (w : World) (h : celluloidref05_Plain.f k  = some (r1, r2)) :
  Calls Try.prog 66 #[] w fun e w'=>∃ v0_ v1_:Value,e=.returned (.tuple #[v0_,v1_])∧Kd.R (Kd.int .i64) 3 w' w.heap.size (fun k_=>some k_ ≠ (v1_:Value).ownBlock) v0_ r1∧Kd.R (Kd.int .i64) 3 w' w.heap.size (fun k_=>some k_ ≠ (v0_:Value).ownBlock) v1_ r2∧Below w.heap.size w w':=by
 have HB:=Aside0.mk (Below.refl w.heap.size w);have H:=h;unfold celluloidref05_Plain.f at H;clear h;have H':=Aside0.mk H;clear H;go_enter Try.func66,Try.ntmps66;go_wp2
 go_loopg [2,4] k (fun kq v2 v4 w'=>∃ (Qa:List Int) (Qb:Int),v4=.int .i64 Qb∧Aside0 (celluloidref05_Plain.l0 kq Qa Qb=some (r1,r2))∧Aside0 (kq≤k)∧Aside0 (Kd.R (Kd.int .i64) 3 w' w.heap.size (fun _=>True) v2 Qa)∧Aside0 (Below w.heap.size w w'))
 case atStart=>exact ⟨(([]:List Int)),(0),(by first | rfl | (simp;done) | (simp [*];done)),H',⟨Nat.le_refl _⟩,⟨by first | exact Kd.R_nil _ _ _ _ _ | exact Kd.N_nil _ _ _ _ _ | exact Kd.V_nil _ _ _ _ _ | exact Kd.Q_nil _ _ _ _ _ | exact Kd.S_nil _ _ _ _ _⟩,⟨hn HB⟩⟩
 clear H';obtain ⟨Qa,Qb,rfl,HA,HK1,Qc,HB⟩:=hrel
 rcases gk with _ | k1
 ·exact absurd HA.out (by simp [celluloidref05_Plain.l0])
 have H:=HA.out;clear HA;simp only [celluloidref05_Plain.l0] at H;by_cases c1:Qb < 288
 ·rw [if_pos c1] at H;have Qh:=decide_eq_true c1;clear c1;have HC2:=Aside0.mk H;clear H;go_upto_region 6 with (fail)
  go_cut [16] (fun v16 wc=>∃ (kq:Nat) (Qd:Bool),v16=.bool Qd∧Aside0 (celluloidref05_Plain.j1 kq Qa Qb 8 Qd=some (r1,r2))∧Aside0 (kq≤k1)∧Aside0 (Kd.R (Kd.int .i64) 3 wc w.heap.size (fun _=>True) u2 Qa)∧Aside0 (Below w.heap.size w wc))
  case first =>
   have H:=HC2.out;clear HC2;by_cases c3:Qb > 143;rotate_left
   ·rw [if_neg c3] at H;have Qg:=decide_eq_false c3;clear c3
    (first | rw [Qg] | (simp only [i64_w,i32_w];rw [Qg]) | skip)
    have H':=Aside0.mk H;clear H;go_wp2;go_meet
    case rel=>exact ⟨_,(false),(by first | rfl | (simp;done) | (simp [*];done)),H',⟨by have:=HK1.out;first | omega | exact Nat.le_refl _⟩,⟨rr Qc⟩,⟨hn HB⟩⟩
   rw [if_pos c3] at H;have Qg:=decide_eq_true c3;clear c3
   (first | rw [Qg] | (simp only [i64_w,i32_w];rw [Qg]) | skip)
   have H':=Aside0.mk H;clear H;go_wp2;go_meet
   case rel=>exact ⟨_,(decide (Qb < 256)),(by first | rfl | (simp;done) | (simp [*];done)),H',⟨by have:=HK1.out;first | omega | exact Nat.le_refl _⟩,⟨rr Qc⟩,⟨hn HB⟩⟩
  clear HC2;clear Qh;obtain ⟨kq,Qd,rfl,HA,HJ1,Qc,HB⟩:=hcut
  rcases kq with _ | kj1
  ·exact absurd HA.out (by simp [celluloidref05_Plain.j1])
  have H:=HA.out;clear HA;simp only [celluloidref05_Plain.j1] at H;by_cases c4:Qd=true
  ·subst c4;(have H1:(if Qb > 255 then (if Qb < 280 then (if Qa.length < 17592186044416 then (celluloidref05_Plain.l0 kj1 (Qa ++ [7]) (wrap64 (Qb+1))) else (none)) else (if Qa.length < 17592186044416 then (celluloidref05_Plain.l0 kj1 (Qa ++ [9]) (wrap64 (Qb+1))) else (none))) else (if Qa.length < 17592186044416 then (celluloidref05_Plain.l0 kj1 (Qa ++ [9]) (wrap64 (Qb+1))) else (none)))=some (r1,r2):=by rw [if_pos rfl] at H;exact H);clear H;have H:=H1;clear H1;by_cases c5:Qb > 255
   ·rw [if_pos c5] at H;have QM:=decide_eq_true c5;clear c5;by_cases c6:Qb < 280
    ·rw [if_pos c6] at H;have QN:=decide_eq_true c6;clear c6;by_cases c7:Qa.length < 17592186044416;rotate_left
     ·rw [if_neg c7] at H;exact absurd H (by simp)
     rw [if_pos c7] at H;have QO:=Aside0.mk c7;clear c7;obtain ⟨Qj,hy124⟩:∃ y_:List Int,y_=(Qa ++ [7]):=⟨_,rfl⟩;(replace H:(celluloidref05_Plain.l0 kj1 Qj (wrap64 (Qb+1)))=some (r1,r2):=by first | (rw [hy124];with_reducible exact H) | (have H2_:=(Option.bind_some _ _).symm.trans H;rw [hy124];with_reducible exact H2_) | (have H2_:=(Option.bind_some _ _).symm.trans H;with_reducible exact H2_) | with_reducible exact H | (rw [hy124];exact H) | exact H);have Qk:=Aside0.mk hy124;clear hy124;have H':=Aside0.mk H;clear H;(go_wp2_with (first | ((with_reducible refine gate_builtin (b:=.append) (xs:=#[.tmp 23,.tmp 25]) rfl ?_);at_builtin;refine Kd.R_append (Kd.int .i64) (w0:=w) w.heap.size rfl (.tmp 23) (.tmp 25) 22 3 (.int .i64 0) 8 rfl Try.underlying22 info3 rfl (by decide) (by omega) u2 Qa 7 [.int .i64 7] (fun _=>True) (fun _=>False) rfl rfl ?aP (fun _ hk=>hk.elim) ?aF ?aO ?aB ?aS ?aL ?_;(case aP=>exact rfl);(case aB=>exact (hn HB));(case aF=>exact (fun _ _=>trivial));(case aO=>exact (rr Qc));(case aS=>exact (below_size (hn HB)));(case aL=>have:=QO.out;omega);intro v125 w8 ho hb hg hat;rw [← Qk.out] at ho;replace HB:=Aside0.mk hb;have Ql:=Aside0.mk ho;clear Qc;clear ho hb hg hat)));go_roundg kj1
     case measure=>have:=HK1.out;have:=HJ1.out;omega
     case rel=>exact ⟨(Qj),(wrap64 (Qb+1)),(by first | rfl | (simp;done) | (simp [*];done)),H',⟨by have:=HK1.out;have:=HJ1.out;omega⟩,⟨rr Ql⟩,⟨hn HB⟩⟩
    ·rw [if_neg c6] at H;have QN:=decide_eq_false c6;clear c6;by_cases c9:Qa.length < 17592186044416;rotate_left
     ·rw [if_neg c9] at H;exact absurd H (by simp)
     rw [if_pos c9] at H;have QP:=Aside0.mk c9;clear c9;obtain ⟨Qm,hy127⟩:∃ y_:List Int,y_=(Qa ++ [9]):=⟨_,rfl⟩;(replace H:(celluloidref05_Plain.l0 kj1 Qm (wrap64 (Qb+1)))=some (r1,r2):=by first | (rw [hy127];with_reducible exact H) | (have H2_:=(Option.bind_some _ _).symm.trans H;rw [hy127];with_reducible exact H2_) | (have H2_:=(Option.bind_some _ _).symm.trans H;with_reducible exact H2_) | with_reducible exact H | (rw [hy127];exact H) | exact H);have Qn:=Aside0.mk hy127;clear hy127;have H':=Aside0.mk H;clear H;(go_wp2_with (first | ((with_reducible refine gate_builtin (b:=.append) (xs:=#[.tmp 23,.tmp 25]) rfl ?_);at_builtin;refine Kd.R_append (Kd.int .i64) (w0:=w) w.heap.size rfl (.tmp 23) (.tmp 25) 22 3 (.int .i64 0) 8 rfl Try.underlying22 info3 rfl (by decide) (by omega) u2 Qa 9 [.int .i64 9] (fun _=>True) (fun _=>False) rfl rfl ?aP (fun _ hk=>hk.elim) ?aF ?aO ?aB ?aS ?aL ?_;(case aP=>exact rfl);(case aB=>exact (hn HB));(case aF=>exact (fun _ _=>trivial));(case aO=>exact (rr Qc));(case aS=>exact (below_size (hn HB)));(case aL=>have:=QP.out;omega);intro v128 w10 ho hb hg hat;rw [← Qn.out] at ho;replace HB:=Aside0.mk hb;have Qo:=Aside0.mk ho;clear Qc;clear ho hb hg hat)));go_roundg kj1
     case measure=>have:=HK1.out;have:=HJ1.out;omega
     case rel=>exact ⟨(Qm),(wrap64 (Qb+1)),(by first | rfl | (simp;done) | (simp [*];done)),H',⟨by have:=HK1.out;have:=HJ1.out;omega⟩,⟨rr Qo⟩,⟨hn HB⟩⟩
   ·rw [if_neg c5] at H;have QM:=decide_eq_false c5;clear c5;by_cases c11:Qa.length < 17592186044416;rotate_left
    ·rw [if_neg c11] at H;exact absurd H (by simp)
    rw [if_pos c11] at H;have Qp:=Aside0.mk c11;clear c11;obtain ⟨Qq,hy130⟩:∃ y_:List Int,y_=(Qa ++ [9]):=⟨_,rfl⟩;(replace H:(celluloidref05_Plain.l0 kj1 Qq (wrap64 (Qb+1)))=some (r1,r2):=by first | (rw [hy130];with_reducible exact H) | (have H2_:=(Option.bind_some _ _).symm.trans H;rw [hy130];with_reducible exact H2_) | (have H2_:=(Option.bind_some _ _).symm.trans H;with_reducible exact H2_) | with_reducible exact H | (rw [hy130];exact H) | exact H);have Qr:=Aside0.mk hy130;clear hy130;have H':=Aside0.mk H;clear H;(go_wp2_with (first | ((with_reducible refine gate_builtin (b:=.append) (xs:=#[.tmp 23,.tmp 25]) rfl ?_);at_builtin;refine Kd.R_append (Kd.int .i64) (w0:=w) w.heap.size rfl (.tmp 23) (.tmp 25) 22 3 (.int .i64 0) 8 rfl Try.underlying22 info3 rfl (by decide) (by omega) u2 Qa 9 [.int .i64 9] (fun _=>True) (fun _=>False) rfl rfl ?aP (fun _ hk=>hk.elim) ?aF ?aO ?aB ?aS ?aL ?_;(case aP=>exact rfl);(case aB=>exact (hn HB));(case aF=>exact (fun _ _=>trivial));(case aO=>exact (rr Qc));(case aS=>exact (below_size (hn HB)));(case aL=>have:=Qp.out;omega);intro v131 w12 ho hb hg hat;rw [← Qr.out] at ho;replace HB:=Aside0.mk hb;have Qs:=Aside0.mk ho;clear Qc;clear ho hb hg hat)));go_roundg kj1
    case measure=>have:=HK1.out;have:=HJ1.out;omega
    case rel=>exact ⟨(Qq),(wrap64 (Qb+1)),(by first | rfl | (simp;done) | (simp [*];done)),H',⟨by have:=HK1.out;have:=HJ1.out;omega⟩,⟨rr Qs⟩,⟨hn HB⟩⟩
  ·replace c4:=Bool.eq_false_iff.mpr c4;subst c4;(have H1:(if Qb > 255 then (if Qb < 280 then (if Qa.length < 17592186044416 then (celluloidref05_Plain.l0 kj1 (Qa ++ [7]) (wrap64 (Qb+1))) else (none)) else (if Qa.length < 17592186044416 then (celluloidref05_Plain.l0 kj1 (Qa ++ [8]) (wrap64 (Qb+1))) else (none))) else (if Qa.length < 17592186044416 then (celluloidref05_Plain.l0 kj1 (Qa ++ [8]) (wrap64 (Qb+1))) else (none)))=some (r1,r2):=by rw [if_neg (show ¬ (false=true) by decide)] at H;exact H);clear H;have H:=H1;clear H1;by_cases c13:Qb > 255
   ·rw [if_pos c13] at H;have Qt:=decide_eq_true c13;clear c13;by_cases c14:Qb < 280
    ·rw [if_pos c14] at H;have Qu:=decide_eq_true c14;clear c14;by_cases c15:Qa.length < 17592186044416;rotate_left
     ·rw [if_neg c15] at H;exact absurd H (by simp)
     rw [if_pos c15] at H;have Qv:=Aside0.mk c15;clear c15;obtain ⟨Qw,hy133⟩:∃ y_:List Int,y_=(Qa ++ [7]):=⟨_,rfl⟩;(replace H:(celluloidref05_Plain.l0 kj1 Qw (wrap64 (Qb+1)))=some (r1,r2):=by first | (rw [hy133];with_reducible exact H) | (have H2_:=(Option.bind_some _ _).symm.trans H;rw [hy133];with_reducible exact H2_) | (have H2_:=(Option.bind_some _ _).symm.trans H;with_reducible exact H2_) | with_reducible exact H | (rw [hy133];exact H) | exact H);have Qx:=Aside0.mk hy133;clear hy133;have H':=Aside0.mk H;clear H;(go_wp2_with (first | ((with_reducible refine gate_builtin (b:=.append) (xs:=#[.tmp 23,.tmp 25]) rfl ?_);at_builtin;refine Kd.R_append (Kd.int .i64) (w0:=w) w.heap.size rfl (.tmp 23) (.tmp 25) 22 3 (.int .i64 0) 8 rfl Try.underlying22 info3 rfl (by decide) (by omega) u2 Qa 7 [.int .i64 7] (fun _=>True) (fun _=>False) rfl rfl ?aP (fun _ hk=>hk.elim) ?aF ?aO ?aB ?aS ?aL ?_;(case aP=>exact rfl);(case aB=>exact (hn HB));(case aF=>exact (fun _ _=>trivial));(case aO=>exact (rr Qc));(case aS=>exact (below_size (hn HB)));(case aL=>have:=Qv.out;omega);intro v134 w16 ho hb hg hat;rw [← Qx.out] at ho;replace HB:=Aside0.mk hb;have Qy:=Aside0.mk ho;clear Qc;clear ho hb hg hat)));go_roundg kj1
     case measure=>have:=HK1.out;have:=HJ1.out;omega
     case rel=>exact ⟨(Qw),(wrap64 (Qb+1)),(by first | rfl | (simp;done) | (simp [*];done)),H',⟨by have:=HK1.out;have:=HJ1.out;omega⟩,⟨rr Qy⟩,⟨hn HB⟩⟩
    ·rw [if_neg c14] at H;have Qu:=decide_eq_false c14;clear c14;by_cases c17:Qa.length < 17592186044416;rotate_left
     ·rw [if_neg c17] at H;exact absurd H (by simp)
     rw [if_pos c17] at H;have Qz:=Aside0.mk c17;clear c17;obtain ⟨QA,hy136⟩:∃ y_:List Int,y_=(Qa ++ [8]):=⟨_,rfl⟩;(replace H:(celluloidref05_Plain.l0 kj1 QA (wrap64 (Qb+1)))=some (r1,r2):=by first | (rw [hy136];with_reducible exact H) | (have H2_:=(Option.bind_some _ _).symm.trans H;rw [hy136];with_reducible exact H2_) | (have H2_:=(Option.bind_some _ _).symm.trans H;with_reducible exact H2_) | with_reducible exact H | (rw [hy136];exact H) | exact H);have QB:=Aside0.mk hy136;clear hy136;have H':=Aside0.mk H;clear H;(go_wp2_with (first | ((with_reducible refine gate_builtin (b:=.append) (xs:=#[.tmp 23,.tmp 25]) rfl ?_);at_builtin;refine Kd.R_append (Kd.int .i64) (w0:=w) w.heap.size rfl (.tmp 23) (.tmp 25) 22 3 (.int .i64 0) 8 rfl Try.underlying22 info3 rfl (by decide) (by omega) u2 Qa 8 [.int .i64 8] (fun _=>True) (fun _=>False) rfl rfl ?aP (fun _ hk=>hk.elim) ?aF ?aO ?aB ?aS ?aL ?_;(case aP=>exact rfl);(case aB=>exact (hn HB));(case aF=>exact (fun _ _=>trivial));(case aO=>exact (rr Qc));(case aS=>exact (below_size (hn HB)));(case aL=>have:=Qz.out;omega);intro v137 w18 ho hb hg hat;rw [← QB.out] at ho;replace HB:=Aside0.mk hb;have QC:=Aside0.mk ho;clear Qc;clear ho hb hg hat)));go_roundg kj1
     case measure=>have:=HK1.out;have:=HJ1.out;omega
     case rel=>exact ⟨(QA),(wrap64 (Qb+1)),(by first | rfl | (simp;done) | (simp [*];done)),H',⟨by have:=HK1.out;have:=HJ1.out;omega⟩,⟨rr QC⟩,⟨hn HB⟩⟩
   ·rw [if_neg c13] at H;have Qt:=decide_eq_false c13;clear c13;by_cases c19:Qa.length < 17592186044416;rotate_left
    ·rw [if_neg c19] at H;exact absurd H (by simp)
    rw [if_pos c19] at H;have QD:=Aside0.mk c19;clear c19;obtain ⟨QE,hy139⟩:∃ y_:List Int,y_=(Qa ++ [8]):=⟨_,rfl⟩;(replace H:(celluloidref05_Plain.l0 kj1 QE (wrap64 (Qb+1)))=some (r1,r2):=by first | (rw [hy139];with_reducible exact H) | (have H2_:=(Option.bind_some _ _).symm.trans H;rw [hy139];with_reducible exact H2_) | (have H2_:=(Option.bind_some _ _).symm.trans H;with_reducible exact H2_) | with_reducible exact H | (rw [hy139];exact H) | exact H);have QF:=Aside0.mk hy139;clear hy139;have H':=Aside0.mk H;clear H;(go_wp2_with (first | ((with_reducible refine gate_builtin (b:=.append) (xs:=#[.tmp 23,.tmp 25]) rfl ?_);at_builtin;refine Kd.R_append (Kd.int .i64) (w0:=w) w.heap.size rfl (.tmp 23) (.tmp 25) 22 3 (.int .i64 0) 8 rfl Try.underlying22 info3 rfl (by decide) (by omega) u2 Qa 8 [.int .i64 8] (fun _=>True) (fun _=>False) rfl rfl ?aP (fun _ hk=>hk.elim) ?aF ?aO ?aB ?aS ?aL ?_;(case aP=>exact rfl);(case aB=>exact (hn HB));(case aF=>exact (fun _ _=>trivial));(case aO=>exact (rr Qc));(case aS=>exact (below_size (hn HB)));(case aL=>have:=QD.out;omega);intro v140 w20 ho hb hg hat;rw [← QF.out] at ho;replace HB:=Aside0.mk hb;have QG:=Aside0.mk ho;clear Qc;clear ho hb hg hat)));go_roundg kj1
    case measure=>have:=HK1.out;have:=HJ1.out;omega
    case rel=>exact ⟨(QE),(wrap64 (Qb+1)),(by first | rfl | (simp;done) | (simp [*];done)),H',⟨by have:=HK1.out;have:=HJ1.out;omega⟩,⟨rr QG⟩,⟨hn HB⟩⟩
 ·rw [if_neg c1] at H;have Qh:=decide_eq_false c1;clear c1;have H':=Aside0.mk H;clear H;go_wp2
  go_loopg [3,6] k1 (fun kq v3 v6 w'=>∃ (Qe:List Int) (Qf:Int),v6=.int .i64 Qf∧Aside0 (celluloidref05_Plain.l1 kq Qa Qe Qf=some (r1,r2))∧Aside0 (kq≤k1)∧Aside0 (Kd.R (Kd.int .i64) 3 w' w.heap.size (fun k_=>some k_ ≠ (v3:Value).ownBlock) u2 Qa)∧Aside0 (Kd.R (Kd.int .i64) 3 w' w.heap.size (fun k_=>some k_ ≠ (u2:Value).ownBlock) v3 Qe)∧Aside0 (Below w.heap.size w w'))
  case atStart=>exact ⟨(([]:List Int)),(0),(by first | rfl | (simp;done) | (simp [*];done)),H',⟨Nat.le_refl _⟩,⟨by (with_reducible repeat (first | apply Kd.R_alloc | apply Kd.R_drewN | apply Kd.R_drew));exact Kd.R_mono Qc.out (fun _ hk=>(by simp [Value.ownBlock]))⟩,⟨by first | exact Kd.R_nil _ _ _ _ _ | exact Kd.N_nil _ _ _ _ _ | exact Kd.V_nil _ _ _ _ _ | exact Kd.Q_nil _ _ _ _ _ | exact Kd.S_nil _ _ _ _ _⟩,⟨hn HB⟩⟩
  clear H';clear Qh;obtain ⟨Qe,Qf,rfl,HA,HK2,Qc,Qi,HB⟩:=hrel
  rcases gk with _ | k2
  ·exact absurd HA.out (by simp [celluloidref05_Plain.l1])
  have H:=HA.out;clear HA;simp only [celluloidref05_Plain.l1] at H;by_cases c21:Qf < 32;rotate_left
  ·rw [if_neg c21] at H;have QH:=decide_eq_false c21;clear c21;simp only [Option.some.injEq,Prod.mk.injEq] at H;obtain ⟨rfl,rfl⟩:=H;go_wp2;go_ret2;exact ⟨_,_,by first | rfl | (simp [errW_none,errW_some] <;> rfl) | (simp [*,errW_none,errW_some] <;> rfl),rr Qc,rr Qi,hn HB⟩
  rw [if_pos c21] at H;have QH:=decide_eq_true c21;clear c21;by_cases c22:Qe.length < 17592186044416;rotate_left
  ·rw [if_neg c22] at H;exact absurd H (by simp)
  rw [if_pos c22] at H;have QI:=Aside0.mk c22;clear c22;obtain ⟨QJ,hy142⟩:∃ y_:List Int,y_=(Qe ++ [5]):=⟨_,rfl⟩;replace H:(celluloidref05_Plain.l1 k2 Qa QJ (wrap64 (Qf+1)))=some (r1,r2):=by first | (rw [hy142];with_reducible exact H) | (have H2_:=(Option.bind_some _ _).symm.trans H;rw [hy142];with_reducible exact H2_) | (have H2_:=(Option.bind_some _ _).symm.trans H;with_reducible exact H2_) | with_reducible exact H | (rw [hy142];exact H) | exact H
  have QK:=Aside0.mk hy142;clear hy142;have H':=Aside0.mk H;clear H;go_wp2_with (first | ((with_reducible refine gate_builtin (b:=.append) (xs:=#[.tmp 31,.tmp 32]) rfl ?_);at_builtin;refine Kd.R_append (Kd.int .i64) (w0:=w) w.heap.size rfl (.tmp 31) (.tmp 32) 22 3 (.int .i64 0) 8 rfl Try.underlying22 info3 rfl (by decide) (by omega) u3 Qe 5 [.int .i64 5] (fun k_=>some k_ ≠ (u2:Value).ownBlock) (fun _=>False) rfl rfl ?aP (fun _ hk=>hk.elim) ?aF ?aO ?aB ?aS ?aL ?_;(case aP=>exact rfl);(case aB=>exact (hn HB));(case aF=>exact (fun k_ hk=>Kd.fresh' (Kd.R_lt (rr Qc)) k_ hk));(case aO=>exact (rr Qi));(case aS=>exact (below_size (hn HB)));(case aL=>have:=QI.out;omega);intro v143 w23 ho hb hg hat;rw [← QK.out] at ho;replace Qc:=Aside0.mk (Kd.R_after (ok:=(fun _=>True)) (by (with_reducible repeat (first | apply Kd.R_alloc | apply Kd.R_drewN | apply Kd.R_drew));exact Kd.R_mono Qc.out (fun _ hk=>⟨trivial,hk⟩)) hg hat);replace HB:=Aside0.mk hb;have QL:=Aside0.mk ho;clear Qi;clear ho hb hg hat))
  go_roundg k2
  case measure=>have:=HK1.out;have:=HK2.out;omega
  case rel=>exact ⟨(QJ),(wrap64 (Qf+1)),(by first | rfl | (simp;done) | (simp [*];done)),H',⟨by have:=HK1.out;have:=HK2.out;omega⟩,⟨by (with_reducible repeat (first | apply Kd.R_alloc | apply Kd.R_drewN | apply Kd.R_drew));exact Kd.R_mono Qc.out (fun _ hk=>hk.2)⟩,⟨rr QL⟩,⟨hn HB⟩⟩
mutual
def celluloidref06_code.l0:Nat → List Int → Int → Int → Int → Int → Option (List Int)
 |0,_,_,_,_,_=>none
 |k+1,x0,x1,x2,x7,x8=>if x8 < x2 then (celluloidref06_code.l0 k x0 x1 x2 (wrap64 (x7*2)) (wrap64 (x8+1))) else (celluloidref06_code.l1 k x0 x1 x7)
def celluloidref06_code.l1:Nat → List Int → Int → Int → Option (List Int)
 |0,_,_,_=>none
 |k+1,x0,x1,x7=>if x7 > 0 then (if x7=0 then (none) else (if x0.length < 140737488355328 then (celluloidref06_code.l1 k (x0 ++ [(Int.tmod (wrap64 (Int.tdiv x1 x7)) 2) % 256]) x1 (wrap64 (Int.tdiv x7 2))) else (none))) else (some x0)
end
def celluloidref06_code.f (k:Nat) (l0:List Int) (a1:Int) (a2:Int):Option (List Int):=celluloidref06_code.l0 k l0 a1 a2 1 1
set_option maxHeartbeats 8000000 in
set_option maxRecDepth 100000 in
theorem celluloidref06_code.calls (k : Nat) (P0_ : Nat → Prop) (Qb : Value) (l0 : List Int) (a1 : Int) (a2 : Int) (r : List Int) (w0 w : World) (hB : Below w0.heap.size w0 w) (ho0 : Kd.R (Kd.int .u8) 5 w w0.heap.size P0_ Qb l0) (h : celluloidref06_code.f k l0 a1 a2 = some r) :
  Calls Try.prog 67 #[Qb,.int .i64 a1,.int .i64 a2] w fun e w'=>∃ v0_:Value,e=.returned (v0_)∧Kd.R (Kd.int .u8) 5 w' w0.heap.size (fun k_=>(P0_ k_ ∨ w.heap.size≤k_)) v0_ r∧Below w0.heap.size w0 w'∧Kept w w' (fun k_=>P0_ k_):=by
 have HO0:=Aside0.mk (show Kd.R (Kd.int .u8) 5 w w0.heap.size (fun k_=>(P0_ k_ ∨ w.heap.size≤k_)) Qb l0 from Kd.R_mono ho0 (fun k_ hk=>(.inl hk)));have HK:=Aside0.mk (Kept.refl w (fun k_=>P0_ k_));have HW0:=Aside0.mk hB.size;have HB:=Aside0.mk hB;clear hB;have H:=h;unfold celluloidref06_code.f at H;clear h;have H':=Aside0.mk H;clear H;go_enter Try.func67,Try.ntmps67;go_wp2
 go_loopg [7,8] k (fun kq v7 v8 w'=>∃ (Qe:Int) (Qf:Int),v7=.int .i64 Qe∧v8=.int .i64 Qf∧Aside0 (celluloidref06_code.l0 kq l0 a1 a2 Qe Qf=some r)∧Aside0 (kq≤k)∧Aside0 (Kd.R (Kd.int .u8) 5 w' w0.heap.size (fun k_=>(P0_ k_ ∨ w.heap.size≤k_)) Qb l0)∧Aside0 (Kept w w' (fun k_=>P0_ k_))∧Aside0 (Below w0.heap.size w0 w'))
 case atStart=>exact ⟨(1),(1),(by first | rfl | (simp;done) | (simp [*];done)),(by first | rfl | (simp;done) | (simp [*];done)),H',⟨Nat.le_refl _⟩,⟨rr HO0⟩,⟨hk HK⟩,⟨hn HB⟩⟩
 clear H';obtain ⟨Qe,Qf,rfl,rfl,HA,HK1,Qc,HK,HB⟩:=hrel
 rcases gk with _ | k1
 ·exact absurd HA.out (by simp [celluloidref06_code.l0])
 have H:=HA.out;clear HA;simp only [celluloidref06_code.l0] at H;by_cases c4:Qf < a2
 ·rw [if_pos c4] at H;have Qg:=decide_eq_true c4;clear c4;have H':=Aside0.mk H;clear H;go_wp2;go_roundg k1
  case measure=>have:=HK1.out;omega
  case rel=>exact ⟨(wrap64 (Qe*2)),(wrap64 (Qf+1)),(by first | rfl | (simp;done) | (simp [*];done)),(by first | rfl | (simp;done) | (simp [*];done)),H',⟨by have:=HK1.out;omega⟩,⟨rr Qc⟩,⟨hk HK⟩,⟨hn HB⟩⟩
 rw [if_neg c4] at H;have Qg:=decide_eq_false c4;clear c4;have H':=Aside0.mk H;clear H;go_wp2
 go_loopg [0,7] k1 (fun kq v0 v7 w'=>∃ (Qd:List Int) (Qa:Int),v7=.int .i64 Qa∧Aside0 (celluloidref06_code.l1 kq Qd a1 Qa=some r)∧Aside0 (kq≤k1)∧Aside0 (Kd.R (Kd.int .u8) 5 w' w0.heap.size (fun k_=>(P0_ k_ ∨ w.heap.size≤k_)) v0 Qd)∧Aside0 (Kept w w' (fun k_=>P0_ k_))∧Aside0 (Below w0.heap.size w0 w'))
 case atStart=>exact ⟨(l0),(Qe),(by first | rfl | (simp;done) | (simp [*];done)),H',⟨Nat.le_refl _⟩,⟨rr Qc⟩,⟨hk HK⟩,⟨hn HB⟩⟩
 clear H';clear Qg;obtain ⟨Qd,Qa,rfl,HA,HK2,Qc,HK,HB⟩:=hrel
 rcases gk with _ | k2
 ·exact absurd HA.out (by simp [celluloidref06_code.l1])
 have H:=HA.out;clear HA;simp only [celluloidref06_code.l1] at H;by_cases c5:Qa > 0;rotate_left
 ·rw [if_neg c5] at H;have Qk:=decide_eq_false c5;clear c5;obtain rfl:=Option.some.inj H;go_wp2;go_ret;exact ⟨_,by first | rfl | (simp [errW_none,errW_some] <;> rfl) | (simp [*,errW_none,errW_some] <;> rfl),rr Qc,hn HB,hk HK⟩
 rw [if_pos c5] at H;have Qk:=decide_eq_true c5;clear c5;by_cases c6:Qa=0
 ·rw [if_pos c6] at H;exact absurd H (by simp)
 rw [if_neg c6] at H;have c6b0:(Qa == 0)=false:=beq_eq_false_iff_ne.mpr c6;have c6b1:(Qa != 0)=true:=bne_iff_ne.mpr c6;by_cases c7:Qd.length < 140737488355328;rotate_left
 ·rw [if_neg c7] at H;exact absurd H (by simp)
 rw [if_pos c7] at H;have Ql:=Aside0.mk c7;clear c7;obtain ⟨Qh,hy145⟩:∃ y_:List Int,y_=(Qd ++ [(Int.tmod (wrap64 (Int.tdiv a1 Qa)) 2) % 256]):=⟨_,rfl⟩;replace H:(celluloidref06_code.l1 k2 Qh a1 (wrap64 (Int.tdiv Qa 2)))=some r:=by first | (rw [hy145];with_reducible exact H) | (have H2_:=(Option.bind_some _ _).symm.trans H;rw [hy145];with_reducible exact H2_) | (have H2_:=(Option.bind_some _ _).symm.trans H;with_reducible exact H2_) | with_reducible exact H | (rw [hy145];exact H) | exact H
 have Qi:=Aside0.mk hy145;clear hy145;have H':=Aside0.mk H;clear H;go_wp2_with (first | ((with_reducible refine gate_builtin (b:=.append) (xs:=#[.tmp 18,.tmp 24]) rfl ?_);at_builtin;refine Kd.R_append (Kd.int .u8) (w0:=w0) w0.heap.size rfl (.tmp 18) (.tmp 24) 40 5 (.int .u8 0) 1 rfl Try.underlying40 info5 rfl (by decide) (by omega) u0 Qd ((Int.tmod (wrap64 (Int.tdiv a1 Qa)) 2) % 256) [.int .u8 ((Int.tmod (wrap64 (Int.tdiv a1 Qa)) 2) % 256)] (fun k_=>(P0_ k_ ∨ w.heap.size≤k_)) (fun _=>False) rfl rfl ?aP (fun _ hk=>hk.elim) ?aF ?aO ?aB ?aS ?aL ?_;(case aP=>exact rfl);(case aB=>exact (hn HB));(case aF=>exact (fun k_ hk=>(.inr (Nat.le_trans (by first | exact HK.out.1 | exact (show Kept w _ (fun k_=>P0_ k_) from by repeat (first | (with_reducible first | exact HK.out | apply Kept.alloc | apply Kept.drewN | apply Kept.drew) | exact HK.out)).1) hk))));(case aO=>exact (rr Qc));(case aS=>exact (below_size (hn HB)));(case aL=>have:=Ql.out;omega);intro v146 w8 ho hb hg hat;rw [← Qi.out] at ho;replace HB:=Aside0.mk hb;replace HK:=Aside0.mk (Kept.of_grown (S:=(fun k_=>P0_ k_)) hg (hk HK) (fun k_ e_=>(Qc.out.1 k_ e_)));have Qj:=Aside0.mk ho;clear Qc;clear ho hb hg hat))
 go_roundg k2
 case measure=>have:=HK1.out;have:=HK2.out;omega
 case rel=>exact ⟨(Qh),(wrap64 (Int.tdiv Qa 2)),(by first | rfl | (simp;done) | (simp [*];done)),H',⟨by have:=HK1.out;have:=HK2.out;omega⟩,⟨rr Qj⟩,⟨hk HK⟩,⟨hn HB⟩⟩
def celluloidref05_Length.l0:Nat → Int → Int → Int → Option (Int × Int)
 |0,_,_,_=>none
 |k+1,x5,x6,x7=>if x7 < x5 then (celluloidref05_Length.l0 k x5 (wrap64 (x6*2)) (wrap64 (x7+1))) else (some (wrap64 (x6+3),x5))
def celluloidref05_Length.f (k:Nat) (a0:Int):Option (Int × Int):=if (wrap64 (a0 - 257)) < 8 then (some (wrap64 ((wrap64 (a0 - 257))+3),0)) else (if (wrap64 (a0 - 257))=28 then (some (258,0)) else (celluloidref05_Length.l0 k (wrap64 ((wrap64 (Int.tdiv (wrap64 (a0 - 257)) 4)) - 1)) (wrap64 (4+(Int.tmod (wrap64 (a0 - 257)) 4))) 0))
theorem celluloidref05_Length.mono_l:∀ k,(∀ y0 y1 y2,LeO (celluloidref05_Length.l0 k y0 y1 y2) (celluloidref05_Length.l0 (k+1) y0 y1 y2))
 |0=>fun _ _ _ r h=>by simp [celluloidref05_Length.l0] at h
 |k+1=>by
  have ih0:=celluloidref05_Length.mono_l k
  ·intro y0 y1 y2;unfold celluloidref05_Length.l0;repeat' first
   |(with_reducible exact ih0 _ _ _)
   |(with_reducible exact LeO.refl _)
   |(with_reducible exact LeO.none _)
   |(with_reducible refine LeO.ite ?_ ?_)
   |(with_reducible refine LeO.bind ?_ (fun _=>?_))
   |exact ih0 _ _ _
   |exact LeO.none _
   |refine LeO.ite ?_ ?_
   |refine LeO.bind ?_ (fun _=>?_)
theorem celluloidref05_Length.mono:∀ a0 k,LeO (celluloidref05_Length.f k a0) (celluloidref05_Length.f (k+1) a0):=by
 intro a0 k;have ih0:=celluloidref05_Length.mono_l k;unfold celluloidref05_Length.f
 repeat' first
   |(with_reducible exact ih0 _ _ _)
   |(with_reducible exact LeO.refl _)
   |(with_reducible exact LeO.none _)
   |(with_reducible refine LeO.ite ?_ ?_)
   |(with_reducible refine LeO.bind ?_ (fun _=>?_))
   |exact ih0 _ _ _
   |exact LeO.none _
   |refine LeO.ite ?_ ?_
   |refine LeO.bind ?_ (fun _=>?_)
set_option maxHeartbeats 8000000 in
set_option maxRecDepth 100000 in
theorem celluloidref05_Length.calls (k : Nat) (a0 : Int) (r1 : Int) (r2 : Int) (w : World) (h : celluloidref05_Length.f k a0 = some (r1, r2)) :
  Calls Try.prog 68 #[.int .i64 a0] w fun e w'=>e=.returned (.tuple #[.int .i64 r1,.int .i64 r2])∧Drawn0 w w':=by
 have H:=h;unfold celluloidref05_Length.f at H;clear h;by_cases c2:(wrap64 (a0 - 257)) < 8
 ·rw [if_pos c2] at H;have Qc:=decide_eq_true c2;clear c2;simp only [Option.some.injEq,Prod.mk.injEq] at H;obtain ⟨rfl,rfl⟩:=H;go_enter Try.func68,Try.ntmps68;go_wp2;go_ret2;exact ⟨by first | rfl | (simp;done) | (simp [*];done),by repeat (first | exact Drawn0.refl _ | apply Drawn0.step)⟩
 rw [if_neg c2] at H;have Qc:=decide_eq_false c2;clear c2;by_cases c3:(wrap64 (a0 - 257))=28
 ·rw [if_pos c3] at H;have Qd:((wrap64 (a0 - 257)) == 28)=true:=beq_iff_eq.mpr c3;have Qe:((wrap64 (a0 - 257)) != 28)=false:=bne_eq_false_iff_eq.mpr c3;clear c3;simp only [Option.some.injEq,Prod.mk.injEq] at H;obtain ⟨rfl,rfl⟩:=H;go_enter Try.func68,Try.ntmps68;go_wp2;go_ret2;exact ⟨by first | rfl | (simp;done) | (simp [*];done),by repeat (first | exact Drawn0.refl _ | apply Drawn0.step)⟩
 rw [if_neg c3] at H;have Qd:((wrap64 (a0 - 257)) == 28)=false:=beq_eq_false_iff_ne.mpr c3;have Qe:((wrap64 (a0 - 257)) != 28)=true:=bne_iff_ne.mpr c3;have H':=Aside0.mk H;clear H;go_enter Try.func68,Try.ntmps68;go_wp2
 go_loopg [6,7] k (fun kq v6 v7 w'=>∃ (Qb:Int) (Qa:Int),v6=.int .i64 Qb∧v7=.int .i64 Qa∧Aside0 (celluloidref05_Length.l0 kq (wrap64 ((wrap64 (Int.tdiv (wrap64 (a0 - 257)) 4)) - 1)) Qb Qa=some (r1,r2))∧Aside0 (kq≤k)∧Drawn0 w w')
 case atStart=>exact ⟨(wrap64 (4+(Int.tmod (wrap64 (a0 - 257)) 4))),(0),(by first | rfl | (simp;done) | (simp [*];done)),(by first | rfl | (simp;done) | (simp [*];done)),H',⟨Nat.le_refl _⟩,by repeat (first | exact Drawn0.refl _ | apply Drawn0.step)⟩
 clear H';clear Qc c3 Qd Qe;obtain ⟨Qb,Qa,rfl,rfl,HA,HK1,⟨m1,rfl⟩⟩:=hrel
 rcases gk with _ | k1
 ·exact absurd HA.out (by simp [celluloidref05_Length.l0])
 have H:=HA.out;clear HA;simp only [celluloidref05_Length.l0] at H;by_cases c4:Qa < (wrap64 ((wrap64 (Int.tdiv (wrap64 (a0 - 257)) 4)) - 1));rotate_left
 ·rw [if_neg c4] at H;have Qf:=decide_eq_false c4;clear c4;simp only [Option.some.injEq,Prod.mk.injEq] at H;obtain ⟨rfl,rfl⟩:=H;go_wp2;go_ret2;exact ⟨by first | rfl | (simp;done) | (simp [*];done),by repeat (first | exact Drawn0.refl _ | apply Drawn0.step)⟩
 rw [if_pos c4] at H;have Qf:=decide_eq_true c4;clear c4;have H':=Aside0.mk H;clear H;go_wp2;go_roundg k1
 case measure=>have:=HK1.out;omega
 case rel=>exact ⟨(wrap64 (Qb*2)),(wrap64 (Qa+1)),(by first | rfl | (simp;done) | (simp [*];done)),(by first | rfl | (simp;done) | (simp [*];done)),H',⟨by have:=HK1.out;omega⟩,by repeat (first | exact Drawn0.refl _ | apply Drawn0.step)⟩
def celluloidref06_number.l0:Nat → List Int → Int → Int → Int → Option (List Int)
 |0,_,_,_,_=>none
 |k+1,x0,x1,x2,x7=>if x7 < x2 then (if x0.length < 140737488355328 then (celluloidref06_number.l0 k (x0 ++ [(Int.tmod x1 2) % 256]) (wrap64 (Int.tdiv x1 2)) x2 (wrap64 (x7+1))) else (none)) else (some x0)
def celluloidref06_number.f (k:Nat) (l0:List Int) (a1:Int) (a2:Int):Option (List Int):=celluloidref06_number.l0 k l0 a1 a2 0
set_option maxHeartbeats 8000000 in
set_option maxRecDepth 100000 in
theorem celluloidref06_number.calls (k : Nat) (P0_ : Nat → Prop) (Qb : Value) (l0 : List Int) (a1 : Int) (a2 : Int) (r : List Int) (w0 w : World) (hB : Below w0.heap.size w0 w) (ho0 : Kd.R (Kd.int .u8) 5 w w0.heap.size P0_ Qb l0) (h : celluloidref06_number.f k l0 a1 a2 = some r) :
  Calls Try.prog 69 #[Qb,.int .i64 a1,.int .i64 a2] w fun e w'=>∃ v0_:Value,e=.returned (v0_)∧Kd.R (Kd.int .u8) 5 w' w0.heap.size (fun k_=>(P0_ k_ ∨ w.heap.size≤k_)) v0_ r∧Below w0.heap.size w0 w'∧Kept w w' (fun k_=>P0_ k_):=by
 have HO0:=Aside0.mk (show Kd.R (Kd.int .u8) 5 w w0.heap.size (fun k_=>(P0_ k_ ∨ w.heap.size≤k_)) Qb l0 from Kd.R_mono ho0 (fun k_ hk=>(.inl hk)));have HK:=Aside0.mk (Kept.refl w (fun k_=>P0_ k_));have HW0:=Aside0.mk hB.size;have HB:=Aside0.mk hB;clear hB;have H:=h;unfold celluloidref06_number.f at H;clear h;have H':=Aside0.mk H;clear H;go_enter Try.func69,Try.ntmps69;go_wp2
 go_loopg [0,1,7] k (fun kq v0 v1 v7 w'=>∃ (Qc:List Int) (Qa:Int) (Qd:Int),v1=.int .i64 Qa∧v7=.int .i64 Qd∧Aside0 (celluloidref06_number.l0 kq Qc Qa a2 Qd=some r)∧Aside0 (kq≤k)∧Aside0 (Kd.R (Kd.int .u8) 5 w' w0.heap.size (fun k_=>(P0_ k_ ∨ w.heap.size≤k_)) v0 Qc)∧Aside0 (Kept w w' (fun k_=>P0_ k_))∧Aside0 (Below w0.heap.size w0 w'))
 case atStart=>exact ⟨(l0),(a1),(0),(by first | rfl | (simp;done) | (simp [*];done)),(by first | rfl | (simp;done) | (simp [*];done)),H',⟨Nat.le_refl _⟩,⟨rr HO0⟩,⟨hk HK⟩,⟨hn HB⟩⟩
 clear H';obtain ⟨Qc,Qa,Qd,rfl,rfl,HA,HK1,Qe,HK,HB⟩:=hrel
 rcases gk with _ | k1
 ·exact absurd HA.out (by simp [celluloidref06_number.l0])
 have H:=HA.out;clear HA;simp only [celluloidref06_number.l0] at H;by_cases c4:Qd < a2;rotate_left
 ·rw [if_neg c4] at H;have Qi:=decide_eq_false c4;clear c4;obtain rfl:=Option.some.inj H;go_wp2;go_ret;exact ⟨_,by first | rfl | (simp [errW_none,errW_some] <;> rfl) | (simp [*,errW_none,errW_some] <;> rfl),rr Qe,hn HB,hk HK⟩
 rw [if_pos c4] at H;have Qi:=decide_eq_true c4;clear c4;by_cases c5:Qc.length < 140737488355328;rotate_left
 ·rw [if_neg c5] at H;exact absurd H (by simp)
 rw [if_pos c5] at H;have Qj:=Aside0.mk c5;clear c5;obtain ⟨Qf,hy148⟩:∃ y_:List Int,y_=(Qc ++ [(Int.tmod Qa 2) % 256]):=⟨_,rfl⟩;replace H:(celluloidref06_number.l0 k1 Qf (wrap64 (Int.tdiv Qa 2)) a2 (wrap64 (Qd+1)))=some r:=by first | (rw [hy148];with_reducible exact H) | (have H2_:=(Option.bind_some _ _).symm.trans H;rw [hy148];with_reducible exact H2_) | (have H2_:=(Option.bind_some _ _).symm.trans H;with_reducible exact H2_) | with_reducible exact H | (rw [hy148];exact H) | exact H
 have Qg:=Aside0.mk hy148;clear hy148;have H':=Aside0.mk H;clear H;go_wp2_with (first | ((with_reducible refine gate_builtin (b:=.append) (xs:=#[.tmp 13,.tmp 17]) rfl ?_);at_builtin;refine Kd.R_append (Kd.int .u8) (w0:=w0) w0.heap.size rfl (.tmp 13) (.tmp 17) 40 5 (.int .u8 0) 1 rfl Try.underlying40 info5 rfl (by decide) (by omega) u0 Qc ((Int.tmod Qa 2) % 256) [.int .u8 ((Int.tmod Qa 2) % 256)] (fun k_=>(P0_ k_ ∨ w.heap.size≤k_)) (fun _=>False) rfl rfl ?aP (fun _ hk=>hk.elim) ?aF ?aO ?aB ?aS ?aL ?_;(case aP=>exact rfl);(case aB=>exact (hn HB));(case aF=>exact (fun k_ hk=>(.inr (Nat.le_trans (by first | exact HK.out.1 | exact (show Kept w _ (fun k_=>P0_ k_) from by repeat (first | (with_reducible first | exact HK.out | apply Kept.alloc | apply Kept.drewN | apply Kept.drew) | exact HK.out)).1) hk))));(case aO=>exact (rr Qe));(case aS=>exact (below_size (hn HB)));(case aL=>have:=Qj.out;omega);intro v149 w6 ho hb hg hat;rw [← Qg.out] at ho;replace HB:=Aside0.mk hb;replace HK:=Aside0.mk (Kept.of_grown (S:=(fun k_=>P0_ k_)) hg (hk HK) (fun k_ e_=>(Qe.out.1 k_ e_)));have Qh:=Aside0.mk ho;clear Qe;clear ho hb hg hat))
 go_roundg k1
 case measure=>have:=HK1.out;omega
 case rel=>exact ⟨(Qf),(wrap64 (Int.tdiv Qa 2)),(wrap64 (Qd+1)),(by first | rfl | (simp;done) | (simp [*];done)),(by first | rfl | (simp;done) | (simp [*];done)),H',⟨by have:=HK1.out;omega⟩,⟨rr Qh⟩,⟨hk HK⟩,⟨hn HB⟩⟩
def celluloidref05_Distance.l0:Nat → Int → Int → Int → Option (Int × Int)
 |0,_,_,_=>none
 |k+1,x4,x5,x6=>if x6 < x4 then (celluloidref05_Distance.l0 k x4 (wrap64 (x5*2)) (wrap64 (x6+1))) else (some (wrap64 (x5+1),x4))
def celluloidref05_Distance.f (k:Nat) (a0:Int):Option (Int × Int):=if a0 < 4 then (some (wrap64 (a0+1),0)) else (celluloidref05_Distance.l0 k (wrap64 ((wrap64 (Int.tdiv a0 2)) - 1)) (wrap64 (2+(Int.tmod a0 2))) 0)
theorem celluloidref05_Distance.mono_l:∀ k,(∀ y0 y1 y2,LeO (celluloidref05_Distance.l0 k y0 y1 y2) (celluloidref05_Distance.l0 (k+1) y0 y1 y2))
 |0=>fun _ _ _ r h=>by simp [celluloidref05_Distance.l0] at h
 |k+1=>by
  have ih0:=celluloidref05_Distance.mono_l k
  ·intro y0 y1 y2;unfold celluloidref05_Distance.l0;repeat' first
   |(with_reducible exact ih0 _ _ _)
   |(with_reducible exact LeO.refl _)
   |(with_reducible exact LeO.none _)
   |(with_reducible refine LeO.ite ?_ ?_)
   |(with_reducible refine LeO.bind ?_ (fun _=>?_))
   |exact ih0 _ _ _
   |exact LeO.none _
   |refine LeO.ite ?_ ?_
   |refine LeO.bind ?_ (fun _=>?_)
theorem celluloidref05_Distance.mono:∀ a0 k,LeO (celluloidref05_Distance.f k a0) (celluloidref05_Distance.f (k+1) a0):=by
 intro a0 k;have ih0:=celluloidref05_Distance.mono_l k;unfold celluloidref05_Distance.f
 repeat' first
   |(with_reducible exact ih0 _ _ _)
   |(with_reducible exact LeO.refl _)
   |(with_reducible exact LeO.none _)
   |(with_reducible refine LeO.ite ?_ ?_)
   |(with_reducible refine LeO.bind ?_ (fun _=>?_))
   |exact ih0 _ _ _
   |exact LeO.none _
   |refine LeO.ite ?_ ?_
   |refine LeO.bind ?_ (fun _=>?_)
set_option maxHeartbeats 8000000 in
set_option maxRecDepth 100000 in
theorem celluloidref05_Distance.calls (k : Nat) (a0 : Int) (r1 : Int) (r2 : Int) (w : World) (h : celluloidref05_Distance.f k a0 = some (r1, r2)) :
  Calls Try.prog 70 #[.int .i64 a0] w fun e w'=>e=.returned (.tuple #[.int .i64 r1,.int .i64 r2])∧Drawn0 w w':=by
 have H:=h;unfold celluloidref05_Distance.f at H;clear h;by_cases c2:a0 < 4
 ·rw [if_pos c2] at H;have Qc:=decide_eq_true c2;clear c2;simp only [Option.some.injEq,Prod.mk.injEq] at H;obtain ⟨rfl,rfl⟩:=H;go_enter Try.func70,Try.ntmps70;go_wp2;go_ret2;exact ⟨by first | rfl | (simp;done) | (simp [*];done),by repeat (first | exact Drawn0.refl _ | apply Drawn0.step)⟩
 rw [if_neg c2] at H;have Qc:=decide_eq_false c2;clear c2;have H':=Aside0.mk H;clear H;go_enter Try.func70,Try.ntmps70;go_wp2
 go_loopg [5,6] k (fun kq v5 v6 w'=>∃ (Qb:Int) (Qa:Int),v5=.int .i64 Qb∧v6=.int .i64 Qa∧Aside0 (celluloidref05_Distance.l0 kq (wrap64 ((wrap64 (Int.tdiv a0 2)) - 1)) Qb Qa=some (r1,r2))∧Aside0 (kq≤k)∧Drawn0 w w')
 case atStart=>exact ⟨(wrap64 (2+(Int.tmod a0 2))),(0),(by first | rfl | (simp;done) | (simp [*];done)),(by first | rfl | (simp;done) | (simp [*];done)),H',⟨Nat.le_refl _⟩,by repeat (first | exact Drawn0.refl _ | apply Drawn0.step)⟩
 clear H';clear Qc;obtain ⟨Qb,Qa,rfl,rfl,HA,HK1,⟨m1,rfl⟩⟩:=hrel
 rcases gk with _ | k1
 ·exact absurd HA.out (by simp [celluloidref05_Distance.l0])
 have H:=HA.out;clear HA;simp only [celluloidref05_Distance.l0] at H;by_cases c3:Qa < (wrap64 ((wrap64 (Int.tdiv a0 2)) - 1));rotate_left
 ·rw [if_neg c3] at H;have Qd:=decide_eq_false c3;clear c3;simp only [Option.some.injEq,Prod.mk.injEq] at H;obtain ⟨rfl,rfl⟩:=H;go_wp2;go_ret2;exact ⟨by first | rfl | (simp;done) | (simp [*];done),by repeat (first | exact Drawn0.refl _ | apply Drawn0.step)⟩
 rw [if_pos c3] at H;have Qd:=decide_eq_true c3;clear c3;have H':=Aside0.mk H;clear H;go_wp2;go_roundg k1
 case measure=>have:=HK1.out;omega
 case rel=>exact ⟨(wrap64 (Qb*2)),(wrap64 (Qa+1)),(by first | rfl | (simp;done) | (simp [*];done)),(by first | rfl | (simp;done) | (simp [*];done)),H',⟨by have:=HK1.out;omega⟩,by repeat (first | exact Drawn0.refl _ | apply Drawn0.step)⟩
end Go.Proofs.Ytpbhkdamkbopkaa.GDefl
namespace Go.Proofs.Ytpbhkdamkbopkaa.GDefl
open Go.Proofs.Ytpbhkdamkbopkaa.Sq
open Go.RowKit Go.Proofs.YtpbhkdamkbopkaaW.PrintWords Go.Proofs.YtpbhkdamkbopkaaW.PrintLast Go.Proofs.YtpbhkdamkbopkaaW.PrintMore Go.Proofs.Ytpbhkdamkbopkaa.Wr1 Go.Proofs.Ytpbhkdamkbopkaa.GRuns
attribute [local go_sem] max2_int min2_int max_two min_two max_three min_three max_four min_four
set_option linter.unusedVariables false
set_option linter.unusedSimpArgs false
mutual
def celluloidref06_Raw.l0:Nat → ByteArray → List Int → List Int → List Int → List Int → Int → Option (ByteArray)
 |0,_,_,_,_,_,_=>none
 |k+1,x0,x3,x5,x6,x7,x8=>if x8 < (x0.size:Int) then ((celluloidref06_Run.f k x0 x8).bind fun bt166=>(if bt166.1=0 then (if 0≤x8 then (if 0≤(wrap64 (bt x0 x8)) then (if (wrap64 (bt x0 x8)) < (x5.length:Int) then (if (wrap64 (bt x0 x8)) < (x3.length:Int) then ((celluloidref06_code.f k x7 (rd x5 (wrap64 (bt x0 x8))) (rd x3 (wrap64 (bt x0 x8)))).bind fun t170=>(celluloidref06_Raw.l0 k x0 x3 x5 x6 t170 (wrap64 (x8+1)))) else (none)) else (none)) else (none)) else (none)) else (celluloidref06_Raw.l1 k x0 x3 x5 x6 x7 x8 bt166.1 bt166.2 257 257))) else (if 256 < (x5.length:Int) then (if 256 < (x3.length:Int) then ((celluloidref06_code.f k x7 (rd x5 256) (rd x3 256)).bind fun t198=>(if 0≤(wrap64 (Int.tdiv (wrap64 ((t198.length:Int)+7)) 8)) then (if (wrap64 (Int.tdiv (wrap64 ((t198.length:Int)+7)) 8):Int).toNat≤281474976710656 then (celluloidref06_Raw.l3 k t198 (List.replicate (wrap64 (Int.tdiv (wrap64 ((t198.length:Int)+7)) 8):Int).toNat 0) 0) else (none)) else (none))) else (none)) else (none))
def celluloidref06_Raw.l1:Nat → ByteArray → List Int → List Int → List Int → List Int → Int → Int → Int → Int → Int → Option (ByteArray)
 |0,_,_,_,_,_,_,_,_,_,_=>none
 |k+1,x0,x3,x5,x6,x7,x8,x9,x10,x12,x13=>if x13 < 286 then ((celluloidref05_Length.f k x13).bind fun bt173=>(if bt173.1≤x9 then (celluloidref06_Raw.l1 k x0 x3 x5 x6 x7 x8 x9 x10 x13 (wrap64 (x13+1))) else (celluloidref06_Raw.l1 k x0 x3 x5 x6 x7 x8 x9 x10 x12 (wrap64 (x13+1))))) else ((celluloidref05_Length.f k x12).bind fun bt175=>(if 0≤x12 then (if x12 < (x5.length:Int) then (if x12 < (x3.length:Int) then ((celluloidref06_code.f k x7 (rd x5 x12) (rd x3 x12)).bind fun t179=>((celluloidref06_number.f k t179 (wrap64 (x9 - bt175.1)) bt175.2).bind fun t182=>(celluloidref06_Raw.l2 k x0 x3 x5 x6 t182 x8 x9 x10 0 0))) else (none)) else (none)) else (none)))
def celluloidref06_Raw.l2:Nat → ByteArray → List Int → List Int → List Int → List Int → Int → Int → Int → Int → Int → Option (ByteArray)
 |0,_,_,_,_,_,_,_,_,_,_=>none
 |k+1,x0,x3,x5,x6,x7,x8,x9,x10,x12,x18=>if x18 < 30 then ((celluloidref05_Distance.f k x18).bind fun bt185=>(if bt185.1≤x10 then (celluloidref06_Raw.l2 k x0 x3 x5 x6 x7 x8 x9 x10 x18 (wrap64 (x18+1))) else (celluloidref06_Raw.l2 k x0 x3 x5 x6 x7 x8 x9 x10 x12 (wrap64 (x18+1))))) else ((celluloidref05_Distance.f k x12).bind fun bt187=>(if 0≤x12 then (if x12 < (x6.length:Int) then ((celluloidref06_code.f k x7 (rd x6 x12) 5).bind fun t190=>((celluloidref06_number.f k t190 (wrap64 (x10 - bt187.1)) bt187.2).bind fun t193=>(celluloidref06_Raw.l0 k x0 x3 x5 x6 t193 (wrap64 (x8+x9))))) else (none)) else (none)))
def celluloidref06_Raw.l3:Nat → List Int → List Int → Int → Option (ByteArray)
 |0,_,_,_=>none
 |k+1,x7,x21,x22=>if x22 < (x7.length:Int) then (if 0≤x22 then (celluloidref06_Raw.l4 k x7 x21 x22 (rd x7 x22) 0) else (none)) else (some (strOfNums x21))
def celluloidref06_Raw.l4:Nat → List Int → List Int → Int → Int → Int → Option (ByteArray)
 |0,_,_,_,_,_=>none
 |k+1,x7,x21,x22,x23,x24=>if x24 < (Int.tmod x22 8) then (celluloidref06_Raw.l4 k x7 x21 x22 ((x23*2) % 256) (wrap64 (x24+1))) else (if 0≤(wrap64 (Int.tdiv x22 8)) then (if (wrap64 (Int.tdiv x22 8)) < (x21.length:Int) then (celluloidref06_Raw.l3 k x7 (x21.set ((wrap64 (Int.tdiv x22 8)):Int).toNat (((rd x21 (wrap64 (Int.tdiv x22 8)))+x23) % 256)) (wrap64 (x22+1))) else (none)) else (none))
end
def celluloidref06_Raw.f (k:Nat) (a0:ByteArray):Option (ByteArray):=(celluloidref05_Plain.f k).bind fun bt151=>((celluloidref04_Codes.f k bt151.1).bind fun t157=>((celluloidref04_Codes.f k bt151.2).bind fun t160=>(celluloidref06_Raw.l0 k a0 bt151.1 t157 t160 (([1,1,0]:List Int)) 0)))
def celluloidref06_Raw.T9:Bool × List (List Nat × List Nat):=(true,[([],[]),([],[]),([],[]),([1,2],[1,2]),([3],[3]),([],[]),([],[]),([5,6],[5,6]),([7],[7]),([0,4,8],[0,4,8]),([9,9,0,1,2,3,4,5,6,7,8,9],[0,9])])
def celluloidref06_Raw.B9:List Nat:=[0,0,0,6,14,0,0,96,224,511,1023]
theorem celluloidref06_Raw.tab9:rtab .any (opsOf Try.f41 9)=celluloidref06_Raw.T9:=by kernel_rfl
theorem celluloidref06_Raw.bits9:waitsOk celluloidref06_Raw.T9.2 celluloidref06_Raw.B9=true:=by kernel_rfl
def celluloidref06_Raw.T19:Bool × List (List Nat × List Nat):=(true,[([],[]),([],[]),([],[]),([1,2],[1,2]),([3],[3]),([],[]),([],[]),([5,6],[5,6]),([7],[7]),([0,4,8],[0,4,8]),([9,9,0,1,2,3,4,5,6,7,8,9],[0,9])])
def celluloidref06_Raw.B19:List Nat:=[0,0,0,6,14,0,0,96,224,511,1023]
theorem celluloidref06_Raw.tab19:rtab .any (opsOf Try.f41 19)=celluloidref06_Raw.T19:=by kernel_rfl
theorem celluloidref06_Raw.bits19:waitsOk celluloidref06_Raw.T19.2 celluloidref06_Raw.B19=true:=by kernel_rfl
def celluloidref06_Raw.T32:Bool × List (List Nat × List Nat):=(true,[([],[]),([],[]),([1],[1]),([2],[2]),([],[]),([4],[4]),([5],[5]),([0,3,6],[0,3,6]),([7,7,0,1,2,3,4,5,6,7],[0,7])])
def celluloidref06_Raw.B32:List Nat:=[0,0,2,6,0,16,48,127,255]
theorem celluloidref06_Raw.tab32:rtab .any (opsOf Try.f41 32)=celluloidref06_Raw.T32:=by kernel_rfl
theorem celluloidref06_Raw.bits32:waitsOk celluloidref06_Raw.T32.2 celluloidref06_Raw.B32=true:=by kernel_rfl
set_option maxHeartbeats 8000000 in
set_option maxRecDepth 100000 in
theorem celluloidref06_Raw.calls (k : Nat) (a0 : ByteArray) (r : ByteArray) (w : World) (h : celluloidref06_Raw.f k a0 = some r) :
  Calls Try.prog 41 #[.string a0] w fun e w'=>e=.returned (.string r)∧Below w.heap.size w w':=by
 have HB:=Aside0.mk (Below.refl w.heap.size w);have H:=h;unfold celluloidref06_Raw.f at H;clear h;replace H:=Option.bind_eq_some_iff.mp H;obtain ⟨⟨Qd,Vk⟩,A20,H⟩:=H;have A2:=Aside0.mk A20;clear A20;replace H:=Option.bind_eq_some_iff.mp H;obtain ⟨Qg,A30,H⟩:=H;have A3:=Aside0.mk A30;clear A30;replace H:=Option.bind_eq_some_iff.mp H;obtain ⟨Qu,A40,H⟩:=H;have A4:=Aside0.mk A40;clear A40;obtain ⟨VO,hy163⟩:∃ y_:List Int,y_=(([1,1,0]:List Int)):=⟨_,rfl⟩;replace H:(celluloidref06_Raw.l0 k a0 Qd Qg Qu VO 0)=some r:=by first | (rw [hy163];with_reducible exact H) | (have H2_:=(Option.bind_some _ _).symm.trans H;rw [hy163];with_reducible exact H2_) | (have H2_:=(Option.bind_some _ _).symm.trans H;with_reducible exact H2_) | with_reducible exact H | (rw [hy163];exact H) | exact H
 have Vc:=Aside0.mk hy163;clear hy163;have H':=Aside0.mk H;clear H;go_enter Try.func41,Try.ntmps41;go_wp2_with (first | ((with_reducible refine gate_callee (f:=66) rfl ?_);refine goesQ (some 26) Try.func66 #[] ?_;(with_reducible refine (celluloidref05_Plain.calls k  Qd Vk _ A2.out).mono ?_);rintro e w5 ⟨v153,v155,rfl,ho0,ho1,hb⟩;refine ⟨_,rfl,?_⟩;have Qp:=Aside0.mk (Kd.R_lower ho0 (below_size (hn HB)));have Qq:=Aside0.mk (Kd.R_lower ho1 (below_size (hn HB)));replace HB:=hs HB hb;(try clear hb);(try clear ho0);(try clear ho1);obtain ⟨Ao6,co6,eo6⟩:=Kd.R_slice Qp.out;subst eo6) | ((with_reducible refine gate_callee (f:=29) rfl ?_);refine goesQ (some 30) Try.func29 #[.slice Ao6 Qd.length co6] ?_;(with_reducible refine (celluloidref04_Codes.calls k _ _ Qd Qg _ ?side1 ?side2 A3.out).mono ?_);(case side1=>repeat (first | exact (Kd.R_reads' Qp.out).2.2 | (with_reducible refine Kd.C_alloc ?_ _) | (with_reducible refine Kd.C_drewN ?_ _) | (with_reducible refine Kd.C_drew ?_)));(case side2=>exact (Kd.R_reads' Qp.out).2.1);rintro e w7 ⟨QA,rfl,ho0,hb⟩;refine ⟨_,rfl,?_⟩;have QB:=Aside0.mk (Kd.R_lower (Kd.R_new' (Kd.R_new' ho0 (Kd.R_lt (rr Qp))) (Kd.R_lt (rr Qq))) (below_size (hn HB)));replace Qp:=Aside0.mk (Kd.R_elder' (rr Qp) (Kd.R_base ho0) hb);replace Qq:=Aside0.mk (Kd.R_elder' (rr Qq) (Kd.R_base ho0) hb);replace HB:=hs HB hb;(try clear hb);(try clear ho0);obtain ⟨Ao8,co8,eo8⟩:=Kd.R_slice Qq.out;subst eo8) | ((with_reducible refine gate_callee (f:=29) rfl ?_);refine goesQ (some 32) Try.func29 #[.slice Ao8 Vk.length co8] ?_;(with_reducible refine (celluloidref04_Codes.calls k _ _ Vk Qu _ ?side1 ?side2 A4.out).mono ?_);(case side1=>repeat (first | exact (Kd.R_reads' Qq.out).2.2 | (with_reducible refine Kd.C_alloc ?_ _) | (with_reducible refine Kd.C_drewN ?_ _) | (with_reducible refine Kd.C_drew ?_)));(case side2=>exact (Kd.R_reads' Qq.out).2.1);rintro e w9 ⟨Qv,rfl,ho0,hb⟩;refine ⟨_,rfl,?_⟩;have QR:=Aside0.mk (Kd.R_lower (Kd.R_new' (Kd.R_new' (Kd.R_new' ho0 (Kd.R_lt (rr Qp))) (Kd.R_lt (rr Qq))) (Kd.R_lt (rr QB))) (below_size (hn HB)));replace Qp:=Aside0.mk (Kd.R_elder' (rr Qp) (Kd.R_base ho0) hb);replace Qq:=Aside0.mk (Kd.R_elder' (rr Qq) (Kd.R_base ho0) hb);replace QB:=Aside0.mk (Kd.R_elder' (rr QB) (Kd.R_base ho0) hb);replace HB:=hs HB hb;(try clear hb);(try clear ho0)) | ((with_reducible refine gate_dst (N:=33) rfl ?_);refine Kd.R_lit (Kd.int .u8) _ 5 ?hg (N:=33) ?hd (xs:=([1,1,0]:List Int)) (inner:=[.int .u8 1,.int .u8 1,.int .u8 0]) (ok:=fun _=>True) (okp:=fun _=>True) ?hr ?hp (fun _ hk=>hk) trivial (Below.refl _ _) (Nat.le_refl _) (by simp) ?_;(case hd=>rfl);(case hg=>rfl);(case hr=>first | (go_simp;done) | (go_simp;rfl));(case hp=>exact (Reps.one (show Kd.M (Kd.int .u8) _ _ _ 1 [.int .u8 1] from rfl) (Reps.one (show Kd.M (Kd.int .u8) _ _ _ 1 [.int .u8 1] from rfl) (Reps.one (show Kd.M (Kd.int .u8) _ _ _ 0 [.int .u8 0] from rfl) (Reps.none _ _)))));intro v164 w10 ho11 hb hg_ hnew_;clear hg_ hnew_;(first | rw [← Vc.out] at ho11 | (simp only [Int.reduceToNat] at ho11;rw [← Vc.out] at ho11));replace Qp:=rk Qp hb;replace Qq:=rk Qq hb;replace QB:=rk QB hb;replace QR:=rk QR hb;have VP:=Aside0.mk (Kd.R_lower ho11 (below_size (hn HB)));replace HB:=hs HB hb;clear hb ho11))
 go_loopg [7,8] k (fun kq v7 v8 w'=>∃ (Qk:List Int) (Qm:Int),v8=.int .i64 Qm∧Aside0 (celluloidref06_Raw.l0 kq a0 Qd Qg Qu Qk Qm=some r)∧Aside0 (kq≤k)∧Aside0 (Kd.R (Kd.int .i64) 3 w' w.heap.size (fun k_=>some k_ ≠ (QA:Value).ownBlock∧some k_ ≠ (Qv:Value).ownBlock) (.slice Ao6 Qd.length co6) Qd)∧Aside0 (Kd.R (Kd.int .i64) 3 w' w.heap.size (fun k_=>some k_ ≠ ((.slice Ao6 Qd.length co6):Value).ownBlock∧some k_ ≠ (Qv:Value).ownBlock) QA Qg)∧Aside0 (Kd.R (Kd.int .i64) 3 w' w.heap.size (fun k_=>some k_ ≠ ((.slice Ao6 Qd.length co6):Value).ownBlock∧some k_ ≠ (QA:Value).ownBlock) Qv Qu)∧Aside0 (Kd.R (Kd.int .u8) 5 w' w.heap.size (fun _=>True) v7 Qk)∧Aside0 (Below w.heap.size w w'))
 case atStart=>exact ⟨(VO),(0),(by first | rfl | (simp;done) | (simp [*];done)),H',⟨Nat.le_refl _⟩,⟨by (with_reducible repeat (first | apply Kd.R_alloc | apply Kd.R_drewN | apply Kd.R_drew));exact Kd.R_mono Qp.out (fun _ hk=>⟨hk.1.2,hk.2⟩)⟩,⟨by (with_reducible repeat (first | apply Kd.R_alloc | apply Kd.R_drewN | apply Kd.R_drew));exact Kd.R_mono QB.out (fun _ hk=>⟨hk.1.1.2,hk.2⟩)⟩,⟨by (with_reducible repeat (first | apply Kd.R_alloc | apply Kd.R_drewN | apply Kd.R_drew));exact Kd.R_mono QR.out (fun _ hk=>⟨hk.1.1.2,hk.2⟩)⟩,⟨rr VP⟩,⟨hn HB⟩⟩
 clear H';obtain ⟨Qk,Qm,rfl,HA,HK1,Qc,Qb,Qe,Qa,HB⟩:=hrel
 rcases gk with _ | k1
 ·exact absurd HA.out (by simp [celluloidref06_Raw.l0])
 have H:=HA.out;clear HA;simp only [celluloidref06_Raw.l0] at H;by_cases c12:Qm < (a0.size:Int)
 ·rw [if_pos c12] at H;have QS:=decide_eq_true c12;clear c12;replace H:=Option.bind_eq_some_iff.mp H;obtain ⟨⟨Qy,QL⟩,VQ,H⟩:=H;have A13:=Aside0.mk VQ;clear VQ;by_cases c14:Qy=0
  ·rw [if_pos c14] at H;have Vd:(Qy == 0)=true:=beq_iff_eq.mpr c14;have Ve:(Qy != 0)=false:=bne_eq_false_iff_eq.mpr c14;clear c14;by_cases c15:0≤Qm;rotate_left
   ·rw [if_neg c15] at H;exact absurd H (by simp)
   rw [if_pos c15] at H;have c15b0:=decide_eq_true c15;clear c15;obtain ⟨Qj,QH⟩:∃ j_:Int,(wrap64 (bt a0 Qm))=j_:=⟨_,rfl⟩;(replace H:(if 0≤(Qj) then (if (Qj) < (Qg.length:Int) then (if (Qj) < (Qd.length:Int) then ((celluloidref06_code.f k1 Qk (rd Qg (Qj)) (rd Qd (Qj))).bind fun QY=>(celluloidref06_Raw.l0 k1 a0 Qd Qg Qu QY (wrap64 (Qm+1)))) else (none)) else (none)) else (none))=some r:=by first | (rw [QH] at H;exact H) | (simp only [QH] at H ⊢;exact H))
   (try rw [QH] at A13)
   have hji17w:(IntKind.i64.wrap (bt a0 Qm))=Qj:=(i64_w _).trans QH;by_cases c18:0≤(Qj);rotate_left
   ·rw [if_neg c18] at H;exact absurd H (by simp)
   rw [if_pos c18] at H;have c18b0:=decide_eq_true c18;clear c18;by_cases c19:(Qj) < (Qg.length:Int);rotate_left
   ·rw [if_neg c19] at H;exact absurd H (by simp)
   rw [if_pos c19] at H;have c19b0:=decide_eq_true c19;clear c19;by_cases c20:(Qj) < (Qd.length:Int);rotate_left
   ·rw [if_neg c20] at H;exact absurd H (by simp)
   rw [if_pos c20] at H;have c20b0:=decide_eq_true c20;clear c20;replace H:=Option.bind_eq_some_iff.mp H;obtain ⟨QY,VR,H⟩:=H;have A21:=Aside0.mk VR;clear VR;have H':=Aside0.mk H;clear H;(try go_wp2_with (first | ((with_reducible refine gate_callee (f:=38) rfl ?_);refine goesQ (some 41) Try.func38 #[.string a0,.int .i64 Qm] ?_;(with_reducible refine (celluloidref06_Run.calls k1 a0 Qm Qy QL _ A13.out).mono ?_);rintro e w' ⟨rfl,⟨nd,rfl⟩⟩;refine ⟨_,rfl,?_⟩;have p16:0≤(Qm:Int):=pd;have q16:Qm < (a0.size:Int):=pd;have hx16:=bt_at a0 Qm;replace p16:=eq_true p16;replace q16:=eq_true q16)))
   (try (rw [drewN_self wr];generalize hq_:World.drewN wr _=wr;have n0_:Aside0 (Kd.R (Kd.int .i64) 3 wr w.heap.size (fun k_=>some k_ ≠ (QA:Value).ownBlock∧some k_ ≠ (Qv:Value).ownBlock) (.slice Ao6 Qd.length co6) Qd):=⟨by rw [← hq_];exact (rr Qc)⟩;have n1_:Aside0 (Kd.R (Kd.int .i64) 3 wr w.heap.size (fun k_=>some k_ ≠ (.slice Ao6 Qd.length co6:Value).ownBlock∧some k_ ≠ (Qv:Value).ownBlock) QA Qg):=⟨by rw [← hq_];exact (rr Qb)⟩;have n2_:Aside0 (Kd.R (Kd.int .i64) 3 wr w.heap.size (fun k_=>some k_ ≠ (.slice Ao6 Qd.length co6:Value).ownBlock∧some k_ ≠ (QA:Value).ownBlock) Qv Qu):=⟨by rw [← hq_];exact (rr Qe)⟩;have n3_:Aside0 (Kd.R (Kd.int .u8) 5 wr w.heap.size (fun _=>True) u7 Qk):=⟨by rw [← hq_];exact (rr Qa)⟩;have n4_:Aside0 (Below w.heap.size w wr):=⟨by rw [← hq_];exact (hn HB)⟩;clear Qc Qb Qe Qa HB hq_;have Qc:=n0_;have Qb:=n1_;have Qe:=n2_;have Qa:=n3_;have HB:=n4_;clear n0_ n1_ n2_ n3_ n4_))
   replace Qc:=Aside0.mk (Kd.R_drew Qc.out);replace Qb:=Aside0.mk (Kd.R_drew Qb.out);replace Qe:=Aside0.mk (Kd.R_drew Qe.out);replace Qa:=Aside0.mk (Kd.R_drew Qa.out);replace HB:=Aside0.mk (below_drew1 HB.out);obtain ⟨Ao23,co23,VS⟩:=Kd.R_slice Qb.out
   (first | subst VS | (injection VS with f1_ f2_ f3_;have f4_:=f1_.symm;have f5_:=f3_.symm;clear f1_ f2_ f3_;subst f4_;subst f5_))
   have Vl:0≤((Qj):Int):=pd;have Vm:(Qj) < (Qg.length:Int):=pd;obtain ⟨VT,XB,QN⟩:=Kd.at_int (Kd.R_reads' Qb.out).2.2 (Qj) Vl Vm;cases XB;replace Vl:=eq_true Vl;replace Vm:=eq_true Vm;have Vn:0≤((Qj):Int):=pd;have Vo:(Qj) < (Qd.length:Int):=pd;obtain ⟨VU,XC,QO⟩:=Kd.at_int (Kd.R_reads' Qc.out).2.2 (Qj) Vn Vo;cases XC;replace Vn:=eq_true Vn;replace Vo:=eq_true Vo;obtain ⟨Vp,Vq,VV⟩:=Kd.R_slice Qa.out
   (first | subst VV | (injection VV with f1_ f2_ f3_;have f4_:=f1_.symm;have f5_:=f3_.symm;clear f1_ f2_ f3_;subst f4_;subst f5_))
   refine start_ (n:=11) (S:=fun w'=>w'.cell? (VT.add ((Qj)).toNat)=some (.int .i64 (rd Qg (Qj)))∧w'.cell? (VU.add ((Qj)).toNat)=some (.int .i64 (rd Qd (Qj)))) (ds:=[]) #[false,false,false,false,false,false,false,false,false,false,false] (by kernel_rfl) rfl rfl ⟨QN,QO⟩ (fun hHeld=>?_);refine with_tabW celluloidref06_Raw.tab9 celluloidref06_Raw.bits9 (fun HT_ HW_=>?_);generalize wr.drew=w22 at Qc Qb Qe Qa HB QN QO hHeld ⊢;refine pureQ 0 (some 50) (tk 1 10) (any_of HT_.out (by kernel_rfl)) ?_;refine pureQ 1 (some 51) (tk 2 9) (any_of HT_.out (by kernel_rfl)) ?_;refine pureQ 2 (some 52) (tk 3 8) (any_of HT_.out (by kernel_rfl)) ?_;refine pureQ 3 (some 53) (tk 4 7) (any_of HT_.out (by kernel_rfl)) ?_;refine pureQ 5 (some 55) #[true,true,true,true,false,true,false,false,false,false,false] (any_of HT_.out (by kernel_rfl)) ?_;refine pureQ 6 (some 56) #[true,true,true,true,false,true,true,false,false,false,false] (any_of HT_.out (by kernel_rfl)) ?_;refine pureQ 7 (some 57) #[true,true,true,true,false,true,true,true,false,false,false] (any_of HT_.out (by kernel_rfl)) ?_;refine take_ (i:=4) (N:=some 54) (v:=?_) (a':=?_) (tk 8 3) rfl rfl (take_ofW HT_.out HW_.out (by kernel_rfl)) (fun _ _ _ h=>h) (Or.inl ⟨by rfl,?_⟩) hHeld ?_ ?_;rotate_left
   ·rintro w' ⟨s0,s1⟩;go_simp;with_reducible rfl
   rotate_left
   ·simp only [Act.put,List.setIfInBounds_toArray,List.set_cons_zero,List.set_cons_succ,i64_w,i32_w];rfl
   refine take_ (i:=8) (N:=some 58) (v:=?_) (a':=?_) (tk 9 2) rfl rfl (take_ofW HT_.out HW_.out (by kernel_rfl)) (fun _ _ _ h=>h) (Or.inl ⟨by rfl,?_⟩) hHeld ?_ ?_;rotate_left
   ·rintro w' ⟨s0,s1⟩;go_simp;with_reducible rfl
   rotate_left
   ·simp only [Act.put,List.setIfInBounds_toArray,List.set_cons_zero,List.set_cons_succ,i64_w,i32_w];rfl
   refine one_ (i:=9) (N:=some 59) (tk 10 1) rfl rfl (one_of HT_.out (by kernel_rfl)) (by decide) (fun K hK=>?_);refine goes_ Try.func67 (by kernel_rfl) rfl #[.slice Vp Qk.length Vq,.int .i64 (rd Qg (Qj)),.int .i64 (rd Qd (Qj))] (by rfl) rfl rfl (by (try simp only [List.map_toArray,List.map_cons,List.map_nil]);first | done | (simp only [QH];rfl) | rfl | (simp only [List.length_drop,List.length_take];rfl)) ?_;(with_reducible refine (celluloidref06_code.calls k1 (fun k_=>some k_=(.slice Vp Qk.length Vq:Value).ownBlock) (.slice Vp Qk.length Vq) Qk (rd Qg (Qj)) (rd Qd (Qj)) QY w _ ?side1 ?side2 A21.out).mono ?_)
   (case side1=>repeat (first | (with_reducible first | exact HB.out | apply below_alloc | apply pw_below_drewN | apply below_drew1) | exact HB.out))
   (case side2=>exact Kd.R_tight rfl Qa.out)
   rintro e w25 ⟨v171,rfl,ho0,hb,hkp⟩;have HS0_:=cell_kept (hHeld.1) hkp (by first | (rw [add_block];exact (fun hs_=>((((Kd.R_apart' Qb.out (Kd.R_typed Qa.out) (by decide))).1 _ rfl).2) hs_)) | (show ¬ _;simp only [add_block];exact (fun hs_=>((((Kd.R_apart' Qb.out (Kd.R_typed Qa.out) (by decide))).1 _ rfl).2) hs_)) | exact (fun hs_=>((((Kd.R_apart' Qb.out (Kd.R_typed Qa.out) (by decide))).1 _ rfl).2) hs_));have HS1_:=cell_kept (hHeld.2) hkp (by first | (rw [add_block];exact (fun hs_=>((((Kd.R_apart' Qc.out (Kd.R_typed Qa.out) (by decide))).1 _ rfl).2) hs_)) | (show ¬ _;simp only [add_block];exact (fun hs_=>((((Kd.R_apart' Qc.out (Kd.R_typed Qa.out) (by decide))).1 _ rfl).2) hs_)) | exact (fun hs_=>((((Kd.R_apart' Qc.out (Kd.R_typed Qa.out) (by decide))).1 _ rfl).2) hs_));refine ⟨_,rfl,?_⟩;replace Qc:=ka Qc Qa hkp;replace Qb:=ka Qb Qa hkp;replace Qe:=ka Qe Qa hkp;have VW:=Aside0.mk (Kd.R_mono (ok':=fun k_=>True) ho0 (fun k_ hk_=>trivial));replace HB:=Aside0.mk hb;clear Qa
   (try clear hb)
   (try clear hkp)
   (try clear ho0)
   refine hK.out _ _ ⟨HS0_,HS1_⟩ (fun hHeld=>?_);clear hK K;refine normQ ?_;refine pureQ 10 (some 7) (tk 11 0) (any_of HT_.out (by kernel_rfl)) ?_;refine done_ (done_of HT_.out (by kernel_rfl)) ?_;(try go_wp2);go_roundg k1
   case measure=>have:=HK1.out;omega
   case rel=>exact ⟨(QY),(wrap64 (Qm+1)),(by first | rfl | (simp;done) | (simp [*];done)),H',⟨by have:=HK1.out;omega⟩,⟨rr Qc⟩,⟨rr Qb⟩,⟨rr Qe⟩,⟨rr VW⟩,⟨hn HB⟩⟩
  ·rw [if_neg c14] at H;have Vd:(Qy == 0)=false:=beq_eq_false_iff_ne.mpr c14;have Ve:(Qy != 0)=true:=bne_iff_ne.mpr c14;have H':=Aside0.mk H;clear H;(go_wp2_with (first | ((with_reducible refine gate_callee (f:=38) rfl ?_);refine goesQ (some 41) Try.func38 #[.string a0,.int .i64 Qm] ?_;(with_reducible refine (celluloidref06_Run.calls k1 a0 Qm Qy QL _ A13.out).mono ?_);rintro e w' ⟨rfl,⟨nd,rfl⟩⟩;refine ⟨_,rfl,?_⟩)))
   go_loopg [12,13] k1 (fun kq v12 v13 w'=>∃ (Qf:Int) (Qr:Int),v12=.int .i64 Qf∧v13=.int .i64 Qr∧Aside0 (celluloidref06_Raw.l1 kq a0 Qd Qg Qu Qk Qm Qy QL Qf Qr=some r)∧Aside0 (kq≤k1)∧Aside0 (Kd.R (Kd.int .i64) 3 w' w.heap.size (fun k_=>some k_ ≠ (QA:Value).ownBlock∧some k_ ≠ (Qv:Value).ownBlock) (.slice Ao6 Qd.length co6) Qd)∧Aside0 (Kd.R (Kd.int .i64) 3 w' w.heap.size (fun k_=>some k_ ≠ ((.slice Ao6 Qd.length co6):Value).ownBlock∧some k_ ≠ (Qv:Value).ownBlock) QA Qg)∧Aside0 (Kd.R (Kd.int .i64) 3 w' w.heap.size (fun k_=>some k_ ≠ ((.slice Ao6 Qd.length co6):Value).ownBlock∧some k_ ≠ (QA:Value).ownBlock) Qv Qu)∧Aside0 (Kd.R (Kd.int .u8) 5 w' w.heap.size (fun _=>True) u7 Qk)∧Aside0 (Below w.heap.size w w'))
   case atStart=>exact ⟨(257),(257),(by first | rfl | (simp;done) | (simp [*];done)),(by first | rfl | (simp;done) | (simp [*];done)),H',⟨Nat.le_refl _⟩,⟨rr Qc⟩,⟨rr Qb⟩,⟨rr Qe⟩,⟨rr Qa⟩,⟨hn HB⟩⟩
   clear H';clear QS c14 Vd Ve;obtain ⟨Qf,Qr,rfl,rfl,HA,HK2,Qc,Qb,Qe,Qa,HB⟩:=hrel
   rcases gk with _ | k2
   ·exact absurd HA.out (by simp [celluloidref06_Raw.l1])
   have H:=HA.out;clear HA;simp only [celluloidref06_Raw.l1] at H;by_cases c26:Qr < 286
   ·rw [if_pos c26] at H;have Vf:=decide_eq_true c26;clear c26;replace H:=Option.bind_eq_some_iff.mp H;obtain ⟨⟨Vr,VX⟩,VY,H⟩:=H;have A27:=Aside0.mk VY;clear VY;by_cases c28:Vr≤Qy
    ·rw [if_pos c28] at H;have VZ:=decide_eq_true c28;clear c28;have H':=Aside0.mk H;clear H;(go_wp2_with (first | ((with_reducible refine gate_callee (f:=68) rfl ?_);refine goesQ (some 68) Try.func68 #[.int .i64 Qr] ?_;(with_reducible refine (celluloidref05_Length.calls k2 Qr Vr VX _ A27.out).mono ?_);rintro e w' ⟨rfl,⟨nd,rfl⟩⟩;refine ⟨_,rfl,?_⟩)));go_roundg k2
     case measure=>have:=HK1.out;have:=HK2.out;omega
     case rel=>exact ⟨(Qr),(wrap64 (Qr+1)),(by first | rfl | (simp;done) | (simp [*];done)),(by first | rfl | (simp;done) | (simp [*];done)),H',⟨by have:=HK1.out;have:=HK2.out;omega⟩,⟨rr Qc⟩,⟨rr Qb⟩,⟨rr Qe⟩,⟨rr Qa⟩,⟨hn HB⟩⟩
    ·rw [if_neg c28] at H;have VZ:=decide_eq_false c28;clear c28;have H':=Aside0.mk H;clear H;(go_wp2_with (first | ((with_reducible refine gate_callee (f:=68) rfl ?_);refine goesQ (some 68) Try.func68 #[.int .i64 Qr] ?_;(with_reducible refine (celluloidref05_Length.calls k2 Qr Vr VX _ A27.out).mono ?_);rintro e w' ⟨rfl,⟨nd,rfl⟩⟩;refine ⟨_,rfl,?_⟩)));go_roundg k2
     case measure=>have:=HK1.out;have:=HK2.out;omega
     case rel=>exact ⟨(Qf),(wrap64 (Qr+1)),(by first | rfl | (simp;done) | (simp [*];done)),(by first | rfl | (simp;done) | (simp [*];done)),H',⟨by have:=HK1.out;have:=HK2.out;omega⟩,⟨rr Qc⟩,⟨rr Qb⟩,⟨rr Qe⟩,⟨rr Qa⟩,⟨hn HB⟩⟩
   ·rw [if_neg c26] at H;have Vf:=decide_eq_false c26;clear c26;replace H:=Option.bind_eq_some_iff.mp H;obtain ⟨⟨Vs,Vt⟩,V0,H⟩:=H;have A29:=Aside0.mk V0;clear V0;by_cases c30:0≤Qf;rotate_left
    ·rw [if_neg c30] at H;exact absurd H (by simp)
    rw [if_pos c30] at H;have V1:=decide_eq_true c30;clear c30;by_cases c31:Qf < (Qg.length:Int);rotate_left
    ·rw [if_neg c31] at H;exact absurd H (by simp)
    rw [if_pos c31] at H;have V2:=decide_eq_true c31;clear c31;by_cases c32:Qf < (Qd.length:Int);rotate_left
    ·rw [if_neg c32] at H;exact absurd H (by simp)
    rw [if_pos c32] at H;have V3:=decide_eq_true c32;clear c32;replace H:=Option.bind_eq_some_iff.mp H;obtain ⟨QT,V4,H⟩:=H;have A33:=Aside0.mk V4;clear V4;replace H:=Option.bind_eq_some_iff.mp H;obtain ⟨QM,V5,H⟩:=H;have A34:=Aside0.mk V5;clear V5;have H':=Aside0.mk H;clear H;(try go_wp2_with (first | ((with_reducible refine gate_callee (f:=68) rfl ?_);refine goesQ (some 77) Try.func68 #[.int .i64 Qf] ?_;(with_reducible refine (celluloidref05_Length.calls k2 Qf Vs Vt _ A29.out).mono ?_);rintro e w' ⟨rfl,⟨nd,rfl⟩⟩;refine ⟨_,rfl,?_⟩)))
    (try (rw [drewN_self wr];generalize hq_:World.drewN wr _=wr;have n0_:Aside0 (Kd.R (Kd.int .i64) 3 wr w.heap.size (fun k_=>some k_ ≠ (QA:Value).ownBlock∧some k_ ≠ (Qv:Value).ownBlock) (.slice Ao6 Qd.length co6) Qd):=⟨by rw [← hq_];exact (rr Qc)⟩;have n1_:Aside0 (Kd.R (Kd.int .i64) 3 wr w.heap.size (fun k_=>some k_ ≠ (.slice Ao6 Qd.length co6:Value).ownBlock∧some k_ ≠ (Qv:Value).ownBlock) QA Qg):=⟨by rw [← hq_];exact (rr Qb)⟩;have n2_:Aside0 (Kd.R (Kd.int .i64) 3 wr w.heap.size (fun k_=>some k_ ≠ (.slice Ao6 Qd.length co6:Value).ownBlock∧some k_ ≠ (QA:Value).ownBlock) Qv Qu):=⟨by rw [← hq_];exact (rr Qe)⟩;have n3_:Aside0 (Kd.R (Kd.int .u8) 5 wr w.heap.size (fun _=>True) u7 Qk):=⟨by rw [← hq_];exact (rr Qa)⟩;have n4_:Aside0 (Below w.heap.size w wr):=⟨by rw [← hq_];exact (hn HB)⟩;clear Qc Qb Qe Qa HB hq_;have Qc:=n0_;have Qb:=n1_;have Qe:=n2_;have Qa:=n3_;have HB:=n4_;clear n0_ n1_ n2_ n3_ n4_))
    replace Qc:=Aside0.mk (Kd.R_drew Qc.out);replace Qb:=Aside0.mk (Kd.R_drew Qb.out);replace Qe:=Aside0.mk (Kd.R_drew Qe.out);replace Qa:=Aside0.mk (Kd.R_drew Qa.out);replace HB:=Aside0.mk (below_drew1 HB.out);obtain ⟨Ao36,Vu,V6⟩:=Kd.R_slice Qb.out
    (first | subst V6 | (injection V6 with f1_ f2_ f3_;have f4_:=f1_.symm;have f5_:=f3_.symm;clear f1_ f2_ f3_;subst f4_;subst f5_))
    have QZ:0≤(Qf:Int):=pd;have Q0:Qf < (Qg.length:Int):=pd;obtain ⟨QP,XD,QE⟩:=Kd.at_int (Kd.R_reads' Qb.out).2.2 Qf QZ Q0;cases XD;replace QZ:=eq_true QZ;replace Q0:=eq_true Q0;have Q1:0≤(Qf:Int):=pd;have Q2:Qf < (Qd.length:Int):=pd;obtain ⟨QQ,XE,QF⟩:=Kd.at_int (Kd.R_reads' Qc.out).2.2 Qf Q1 Q2;cases XE;replace Q1:=eq_true Q1;replace Q2:=eq_true Q2;obtain ⟨Vv,Vw,V7⟩:=Kd.R_slice Qa.out
    (first | subst V7 | (injection V7 with f1_ f2_ f3_;have f4_:=f1_.symm;have f5_:=f3_.symm;clear f1_ f2_ f3_;subst f4_;subst f5_))
    refine start_ (n:=11) (S:=fun w'=>w'.cell? (QP.add (Qf).toNat)=some (.int .i64 (rd Qg Qf))∧w'.cell? (QQ.add (Qf).toNat)=some (.int .i64 (rd Qd Qf))) (ds:=[]) #[false,false,false,false,false,false,false,false,false,false,false] (by kernel_rfl) rfl rfl ⟨QE,QF⟩ (fun hHeld=>?_);refine with_tabW celluloidref06_Raw.tab19 celluloidref06_Raw.bits19 (fun HT_ HW_=>?_);generalize wr.drew=w35 at Qc Qb Qe Qa HB QE QF hHeld ⊢;refine pureQ 0 (some 80) (tk 1 10) (any_of HT_.out (by kernel_rfl)) ?_;refine pureQ 1 (some 81) (tk 2 9) (any_of HT_.out (by kernel_rfl)) ?_;refine pureQ 2 (some 82) (tk 3 8) (any_of HT_.out (by kernel_rfl)) ?_;refine pureQ 3 (some 83) (tk 4 7) (any_of HT_.out (by kernel_rfl)) ?_;refine pureQ 5 (some 85) #[true,true,true,true,false,true,false,false,false,false,false] (any_of HT_.out (by kernel_rfl)) ?_;refine pureQ 6 (some 86) #[true,true,true,true,false,true,true,false,false,false,false] (any_of HT_.out (by kernel_rfl)) ?_;refine pureQ 7 (some 87) #[true,true,true,true,false,true,true,true,false,false,false] (any_of HT_.out (by kernel_rfl)) ?_;refine take_ (i:=4) (N:=some 84) (v:=?_) (a':=?_) (tk 8 3) rfl rfl (take_ofW HT_.out HW_.out (by kernel_rfl)) (fun _ _ _ h=>h) (Or.inl ⟨by rfl,?_⟩) hHeld ?_ ?_;rotate_left
    ·rintro w' ⟨s0,s1⟩;go_simp;with_reducible rfl
    rotate_left
    ·simp only [Act.put,List.setIfInBounds_toArray,List.set_cons_zero,List.set_cons_succ,i64_w,i32_w];rfl
    refine take_ (i:=8) (N:=some 88) (v:=?_) (a':=?_) (tk 9 2) rfl rfl (take_ofW HT_.out HW_.out (by kernel_rfl)) (fun _ _ _ h=>h) (Or.inl ⟨by rfl,?_⟩) hHeld ?_ ?_;rotate_left
    ·rintro w' ⟨s0,s1⟩;go_simp;with_reducible rfl
    rotate_left
    ·simp only [Act.put,List.setIfInBounds_toArray,List.set_cons_zero,List.set_cons_succ,i64_w,i32_w];rfl
    refine one_ (i:=9) (N:=some 89) (tk 10 1) rfl rfl (one_of HT_.out (by kernel_rfl)) (by decide) (fun K hK=>?_);refine goesP Try.func67 #[.slice Vv Qk.length Vw,.int .i64 (rd Qg Qf),.int .i64 (rd Qd Qf)] ?_;(with_reducible refine (celluloidref06_code.calls k2 (fun k_=>some k_=(.slice Vv Qk.length Vw:Value).ownBlock) (.slice Vv Qk.length Vw) Qk (rd Qg Qf) (rd Qd Qf) QT w _ ?side1 ?side2 A33.out).mono ?_)
    (case side1=>repeat (first | (with_reducible first | exact HB.out | apply below_alloc | apply pw_below_drewN | apply below_drew1) | exact HB.out))
    (case side2=>exact Kd.R_tight rfl Qa.out)
    rintro e w38 ⟨v180,rfl,ho0,hb,hkp⟩;have HS0_:=cell_kept (hHeld.1) hkp (by first | (rw [add_block];exact (fun hs_=>((((Kd.R_apart' Qb.out (Kd.R_typed Qa.out) (by decide))).1 _ rfl).2) hs_)) | (show ¬ _;simp only [add_block];exact (fun hs_=>((((Kd.R_apart' Qb.out (Kd.R_typed Qa.out) (by decide))).1 _ rfl).2) hs_)) | exact (fun hs_=>((((Kd.R_apart' Qb.out (Kd.R_typed Qa.out) (by decide))).1 _ rfl).2) hs_));have HS1_:=cell_kept (hHeld.2) hkp (by first | (rw [add_block];exact (fun hs_=>((((Kd.R_apart' Qc.out (Kd.R_typed Qa.out) (by decide))).1 _ rfl).2) hs_)) | (show ¬ _;simp only [add_block];exact (fun hs_=>((((Kd.R_apart' Qc.out (Kd.R_typed Qa.out) (by decide))).1 _ rfl).2) hs_)) | exact (fun hs_=>((((Kd.R_apart' Qc.out (Kd.R_typed Qa.out) (by decide))).1 _ rfl).2) hs_));refine ⟨_,rfl,?_⟩;replace Qc:=ka Qc Qa hkp;replace Qb:=ka Qb Qa hkp;replace Qe:=ka Qe Qa hkp;have QC:=Aside0.mk (Kd.R_mono (ok':=fun k_=>True) ho0 (fun k_ hk_=>trivial));replace HB:=Aside0.mk hb;clear Qa
    (try clear hb)
    (try clear hkp)
    (try clear ho0)
    refine hK.out _ _ ⟨HS0_,HS1_⟩ (fun hHeld=>?_);clear hK K;refine normQ ?_;refine pureQ 10 (some 7) (tk 11 0) (any_of HT_.out (by kernel_rfl)) ?_;refine done_ (done_of HT_.out (by kernel_rfl)) ?_;obtain ⟨Vx,Vy,XF⟩:=Kd.R_slice QC.out;subst XF;(try go_wp2_with (first | ((with_reducible refine gate_callee (f:=69) rfl ?_);refine goesQ (some 95) Try.func69 #[.slice Vx QT.length Vy,.int .i64 (wrap64 (Qy - Vs)),.int .i64 Vt] ?_;(with_reducible refine (celluloidref06_number.calls k2 (fun k_=>some k_=(.slice Vx QT.length Vy:Value).ownBlock) (.slice Vx QT.length Vy) QT (wrap64 (Qy - Vs)) Vt QM w _ ?side1 ?side2 A34.out).mono ?_);(case side1=>repeat (first | (with_reducible first | exact HB.out | apply below_alloc | apply pw_below_drewN | apply below_drew1) | exact HB.out));(case side2=>exact Kd.R_tight rfl QC.out);rintro e w40 ⟨XG,rfl,ho0,hb,hkp⟩;refine ⟨_,rfl,?_⟩;replace Qc:=ka Qc QC hkp;replace Qb:=ka Qb QC hkp;replace Qe:=ka Qe QC hkp;have V8:=Aside0.mk (Kd.R_mono (ok':=fun k_=>True) ho0 (fun k_ hk_=>trivial));replace HB:=Aside0.mk hb;clear QC;(try clear hb);(try clear hkp);(try clear ho0))))
    go_loopg [12,18] k2 (fun kq v12 v18 w'=>∃ (Ql:Int) (Qs:Int),v12=.int .i64 Ql∧v18=.int .i64 Qs∧Aside0 (celluloidref06_Raw.l2 kq a0 Qd Qg Qu QM Qm Qy QL Ql Qs=some r)∧Aside0 (kq≤k2)∧Aside0 (Kd.R (Kd.int .i64) 3 w' w.heap.size (fun k_=>some k_ ≠ ((.slice (some QP) Qg.length Vu):Value).ownBlock∧some k_ ≠ (Qv:Value).ownBlock) (.slice (some QQ) Qd.length co6) Qd)∧Aside0 (Kd.R (Kd.int .i64) 3 w' w.heap.size (fun k_=>some k_ ≠ ((.slice (some QQ) Qd.length co6):Value).ownBlock∧some k_ ≠ (Qv:Value).ownBlock) (.slice (some QP) Qg.length Vu) Qg)∧Aside0 (Kd.R (Kd.int .i64) 3 w' w.heap.size (fun k_=>some k_ ≠ ((.slice (some QQ) Qd.length co6):Value).ownBlock∧some k_ ≠ ((.slice (some QP) Qg.length Vu):Value).ownBlock) Qv Qu)∧Aside0 (Kd.R (Kd.int .u8) 5 w' w.heap.size (fun _=>True) XG QM)∧Aside0 (Below w.heap.size w w'))
    case atStart=>exact ⟨(0),(0),(by first | rfl | (simp;done) | (simp [*];done)),(by first | rfl | (simp;done) | (simp [*];done)),H',⟨Nat.le_refl _⟩,⟨rr Qc⟩,⟨rr Qb⟩,⟨rr Qe⟩,⟨rr V8⟩,⟨hn HB⟩⟩
    clear H';clear Vf V1 V2 V3 QE QF QZ Q1 Q0 Q2;obtain ⟨Ql,Qs,rfl,rfl,HA,HK3,Qc,Qb,Qe,Qa,HB⟩:=hrel
    rcases gk with _ | k3
    ·exact absurd HA.out (by simp [celluloidref06_Raw.l2])
    have H:=HA.out;clear HA;simp only [celluloidref06_Raw.l2] at H;by_cases c41:Qs < 30
    ·rw [if_pos c41] at H;have V9:=decide_eq_true c41;clear c41;replace H:=Option.bind_eq_some_iff.mp H;obtain ⟨⟨Vz,Xa⟩,Xb,H⟩:=H;have A42:=Aside0.mk Xb;clear Xb;by_cases c43:Vz≤QL
     ·rw [if_pos c43] at H;have Xc:=decide_eq_true c43;clear c43;have H':=Aside0.mk H;clear H;(go_wp2_with (first | ((with_reducible refine gate_callee (f:=70) rfl ?_);refine goesQ (some 102) Try.func70 #[.int .i64 Qs] ?_;(with_reducible refine (celluloidref05_Distance.calls k3 Qs Vz Xa _ A42.out).mono ?_);rintro e w' ⟨rfl,⟨nd,rfl⟩⟩;refine ⟨_,rfl,?_⟩)));go_roundg k3
      case measure=>have:=HK1.out;have:=HK2.out;have:=HK3.out;omega
      case rel=>exact ⟨(Qs),(wrap64 (Qs+1)),(by first | rfl | (simp;done) | (simp [*];done)),(by first | rfl | (simp;done) | (simp [*];done)),H',⟨by have:=HK1.out;have:=HK2.out;have:=HK3.out;omega⟩,⟨rr Qc⟩,⟨rr Qb⟩,⟨rr Qe⟩,⟨rr Qa⟩,⟨hn HB⟩⟩
     ·rw [if_neg c43] at H;have Xc:=decide_eq_false c43;clear c43;have H':=Aside0.mk H;clear H;(go_wp2_with (first | ((with_reducible refine gate_callee (f:=70) rfl ?_);refine goesQ (some 102) Try.func70 #[.int .i64 Qs] ?_;(with_reducible refine (celluloidref05_Distance.calls k3 Qs Vz Xa _ A42.out).mono ?_);rintro e w' ⟨rfl,⟨nd,rfl⟩⟩;refine ⟨_,rfl,?_⟩)));go_roundg k3
      case measure=>have:=HK1.out;have:=HK2.out;have:=HK3.out;omega
      case rel=>exact ⟨(Ql),(wrap64 (Qs+1)),(by first | rfl | (simp;done) | (simp [*];done)),(by first | rfl | (simp;done) | (simp [*];done)),H',⟨by have:=HK1.out;have:=HK2.out;have:=HK3.out;omega⟩,⟨rr Qc⟩,⟨rr Qb⟩,⟨rr Qe⟩,⟨rr Qa⟩,⟨hn HB⟩⟩
    ·rw [if_neg c41] at H;have V9:=decide_eq_false c41;clear c41;replace H:=Option.bind_eq_some_iff.mp H;obtain ⟨⟨VA,VB⟩,Xd,H⟩:=H;have A44:=Aside0.mk Xd;clear Xd;by_cases c45:0≤Ql;rotate_left
     ·rw [if_neg c45] at H;exact absurd H (by simp)
     rw [if_pos c45] at H;have c45b0:=decide_eq_true c45;clear c45;by_cases c46:Ql < (Qu.length:Int);rotate_left
     ·rw [if_neg c46] at H;exact absurd H (by simp)
     rw [if_pos c46] at H;have c46b0:=decide_eq_true c46;clear c46;replace H:=Option.bind_eq_some_iff.mp H;obtain ⟨QU,Xe,H⟩:=H;have A47:=Aside0.mk Xe;clear Xe;replace H:=Option.bind_eq_some_iff.mp H;obtain ⟨Xf,Xg,H⟩:=H;have A48:=Aside0.mk Xg;clear Xg;have H':=Aside0.mk H;clear H;(go_wp2_with (first | ((with_reducible refine gate_callee (f:=70) rfl ?_);refine goesQ (some 111) Try.func70 #[.int .i64 Ql] ?_;(with_reducible refine (celluloidref05_Distance.calls k3 Ql VA VB _ A44.out).mono ?_);rintro e w' ⟨rfl,⟨nd,rfl⟩⟩;refine ⟨_,rfl,?_⟩;obtain ⟨Ao49,co49,XH⟩:=Kd.R_slice Qe.out;subst XH;have VC:0≤(Ql:Int):=pd;have VD:Ql < (Qu.length:Int):=pd;obtain ⟨ad189,XI,hx189_0⟩:=Kd.at_int (Kd.R_reads' Qe.out).2.2 Ql VC VD;cases XI;replace VC:=eq_true VC;replace VD:=eq_true VD;obtain ⟨VE,VF,XJ⟩:=Kd.R_slice Qa.out;subst XJ) | ((with_reducible refine gate_callee (f:=67) rfl ?_);refine goesQ (some 119) Try.func67 #[.slice VE QM.length VF,.int .i64 (rd Qu Ql),.int .i64 5] ?_;(with_reducible refine (celluloidref06_code.calls k3 (fun k_=>some k_=(.slice VE QM.length VF:Value).ownBlock) (.slice VE QM.length VF) QM (rd Qu Ql) 5 QU w _ ?side1 ?side2 A47.out).mono ?_);(case side1=>repeat (first | (with_reducible first | exact HB.out | apply below_alloc | apply pw_below_drewN | apply below_drew1) | exact HB.out));(case side2=>exact Kd.R_tight rfl Qa.out);rintro e w51 ⟨v191,rfl,ho0,hb,hkp⟩;refine ⟨_,rfl,?_⟩;replace Qc:=ka Qc Qa hkp;replace Qb:=ka Qb Qa hkp;replace Qe:=ka Qe Qa hkp;have QD:=Aside0.mk (Kd.R_mono (ok':=fun k_=>True) ho0 (fun k_ hk_=>trivial));replace HB:=Aside0.mk hb;clear Qa;(try clear hb);(try clear hkp);(try clear ho0);obtain ⟨VG,VH,XK⟩:=Kd.R_slice QD.out;subst XK) | ((with_reducible refine gate_callee (f:=69) rfl ?_);refine goesQ (some 125) Try.func69 #[.slice VG QU.length VH,.int .i64 (wrap64 (QL - VA)),.int .i64 VB] ?_;(with_reducible refine (celluloidref06_number.calls k3 (fun k_=>some k_=(.slice VG QU.length VH:Value).ownBlock) (.slice VG QU.length VH) QU (wrap64 (QL - VA)) VB Xf w _ ?side1 ?side2 A48.out).mono ?_);(case side1=>repeat (first | (with_reducible first | exact HB.out | apply below_alloc | apply pw_below_drewN | apply below_drew1) | exact HB.out));(case side2=>exact Kd.R_tight rfl QD.out);rintro e w53 ⟨v194,rfl,ho0,hb,hkp⟩;refine ⟨_,rfl,?_⟩;replace Qc:=ka Qc QD hkp;replace Qb:=ka Qb QD hkp;replace Qe:=ka Qe QD hkp;have Xh:=Aside0.mk (Kd.R_mono (ok':=fun k_=>True) ho0 (fun k_ hk_=>trivial));replace HB:=Aside0.mk hb;clear QD;(try clear hb);(try clear hkp);(try clear ho0))))
     go_roundg k3
     case measure=>have:=HK1.out;have:=HK2.out;have:=HK3.out;omega
     case rel=>exact ⟨(Xf),(wrap64 (Qm+Qy)),(by first | rfl | (simp;done) | (simp [*];done)),H',⟨by have:=HK1.out;have:=HK2.out;have:=HK3.out;omega⟩,⟨rr Qc⟩,⟨rr Qb⟩,⟨rr Qe⟩,⟨rr Xh⟩,⟨hn HB⟩⟩
 ·rw [if_neg c12] at H;have QS:=decide_eq_false c12;clear c12;by_cases c54:256 < (Qg.length:Int);rotate_left
  ·rw [if_neg c54] at H;exact absurd H (by simp)
  rw [if_pos c54] at H;have Xi:=decide_eq_true c54;have Xj:decide (256 < Qg.length)=true:=decide_eq_true (by omega);clear c54;by_cases c55:256 < (Qd.length:Int);rotate_left
  ·rw [if_neg c55] at H;exact absurd H (by simp)
  rw [if_pos c55] at H;have Xk:=decide_eq_true c55;have Xl:decide (256 < Qd.length)=true:=decide_eq_true (by omega);clear c55;replace H:=Option.bind_eq_some_iff.mp H;obtain ⟨Qn,Xm,H⟩:=H;have A56:=Aside0.mk Xm;clear Xm;obtain ⟨QG,QI⟩:∃ j_:Int,(wrap64 (Int.tdiv (wrap64 ((Qn.length:Int)+7)) 8))=j_:=⟨_,rfl⟩;replace H:(if 0≤(QG) then (if (QG:Int).toNat≤281474976710656 then (celluloidref06_Raw.l3 k1 Qn (List.replicate (QG:Int).toNat 0) 0) else (none)) else (none))=some r:=by first | (rw [QI] at H;exact H) | (simp only [QI] at H ⊢;exact H)
  (try rw [QI] at A56)
  have hji57w:(IntKind.i64.wrap (Int.tdiv (wrap64 ((Qn.length:Int)+7)) 8))=QG:=(i64_w _).trans QI;by_cases c58:0≤(QG);rotate_left
  ·rw [if_neg c58] at H;exact absurd H (by simp)
  rw [if_pos c58] at H;have Xn:=eq_true c58;have Xo:=decide_eq_true c58;clear c58;by_cases c59:(QG:Int).toNat≤281474976710656;rotate_left
  ·rw [if_neg c59] at H;exact absurd H (by simp)
  rw [if_pos c59] at H;have Xp:=eq_true c59;have Xq:=decide_eq_true c59;clear c59;obtain ⟨Xr,hy201⟩:∃ y_:List Int,y_=(List.replicate (QG:Int).toNat 0):=⟨_,rfl⟩;replace H:(celluloidref06_Raw.l3 k1 Qn Xr 0)=some r:=by first | (rw [hy201];with_reducible exact H) | (have H2_:=(Option.bind_some _ _).symm.trans H;rw [hy201];with_reducible exact H2_) | (have H2_:=(Option.bind_some _ _).symm.trans H;with_reducible exact H2_) | with_reducible exact H | (rw [hy201];exact H) | exact H
  have Vg:=Aside0.mk hy201;clear hy201;have H':=Aside0.mk H;clear H;try go_wp2
  replace Qc:=Aside0.mk (Kd.R_drew Qc.out);replace Qb:=Aside0.mk (Kd.R_drew Qb.out);replace Qe:=Aside0.mk (Kd.R_drew Qe.out);replace Qa:=Aside0.mk (Kd.R_drew Qa.out);replace HB:=Aside0.mk (below_drew1 HB.out);obtain ⟨Ao61,co61,Xs⟩:=Kd.R_slice Qb.out
  (first | subst Xs | (injection Xs with f1_ f2_ f3_;have f4_:=f1_.symm;have f5_:=f3_.symm;clear f1_ f2_ f3_;subst f4_;subst f5_))
  have Q3:0≤(256:Int):=(by omega);have Q4:256 < (Qg.length:Int):=pd;obtain ⟨Vh,XL,Qw⟩:=Kd.at_int (Kd.R_reads' Qb.out).2.2 256 Q3 Q4;cases XL
  (try simp only [show (256:Int).toNat=256 from rfl,Nat.reduceMul,Nat.reduceEqDiff,Go.Addr.add,↓reduceIte] at Qw)
  have qi196:(256 < Qg.length)=True:=eq_true (by omega)
  (try rw [show ((256:Int)).toNat=256 from rfl] at Qw)
  replace Q3:=eq_true Q3;replace Q4:=eq_true Q4;have Q5:0≤(256:Int):=(by omega);have Q6:256 < (Qd.length:Int):=pd;obtain ⟨Vi,XM,Qx⟩:=Kd.at_int (Kd.R_reads' Qc.out).2.2 256 Q5 Q6;cases XM
  (try simp only [show (256:Int).toNat=256 from rfl,Nat.reduceMul,Nat.reduceEqDiff,Go.Addr.add,↓reduceIte] at Qx)
  have qi197:(256 < Qd.length)=True:=eq_true (by omega)
  (try rw [show ((256:Int)).toNat=256 from rfl] at Qx)
  replace Q5:=eq_true Q5;replace Q6:=eq_true Q6;obtain ⟨VI,VJ,Xt⟩:=Kd.R_slice Qa.out
  (first | subst Xt | (injection Xt with f1_ f2_ f3_;have f4_:=f1_.symm;have f5_:=f3_.symm;clear f1_ f2_ f3_;subst f4_;subst f5_))
  refine start_ (n:=9) (S:=fun w'=>w'.cell? ⟨Vh.block,Vh.off+256,none⟩=some (.int .i64 (rd Qg 256))∧w'.cell? ⟨Vi.block,Vi.off+256,none⟩=some (.int .i64 (rd Qd 256))) (ds:=[]) #[false,false,false,false,false,false,false,false,false] (by kernel_rfl) rfl rfl ⟨Qw,Qx⟩ (fun hHeld=>?_);refine with_tabW celluloidref06_Raw.tab32 celluloidref06_Raw.bits32 (fun HT_ HW_=>?_);generalize wr.drew=w60 at Qc Qb Qe Qa HB Qw Qx hHeld ⊢;refine pureQ 0 (some 129) (tk 1 8) (any_of HT_.out (by kernel_rfl)) ?_;refine pureQ 1 (some 130) (tk 2 7) (any_of HT_.out (by kernel_rfl)) ?_;refine pureQ 2 (some 131) (tk 3 6) (any_of HT_.out (by kernel_rfl)) ?_;refine pureQ 4 (some 133) #[true,true,true,false,true,false,false,false,false] (any_of HT_.out (by kernel_rfl)) ?_;refine pureQ 5 (some 134) #[true,true,true,false,true,true,false,false,false] (any_of HT_.out (by kernel_rfl)) ?_;refine take_ (i:=3) (N:=some 132) (v:=?_) (a':=?_) (tk 6 3) rfl rfl (take_ofW HT_.out HW_.out (by kernel_rfl)) (fun _ _ _ h=>h) (Or.inl ⟨by rfl,?_⟩) hHeld ?_ ?_;rotate_left
  ·rintro w' ⟨s0,s1⟩;go_simp;with_reducible rfl
  rotate_left
  ·simp only [Act.put,List.setIfInBounds_toArray,List.set_cons_zero,List.set_cons_succ,i64_w,i32_w];rfl
  refine take_ (i:=6) (N:=some 135) (v:=?_) (a':=?_) (tk 7 2) rfl rfl (take_ofW HT_.out HW_.out (by kernel_rfl)) (fun _ _ _ h=>h) (Or.inl ⟨by rfl,?_⟩) hHeld ?_ ?_;rotate_left
  ·rintro w' ⟨s0,s1⟩;go_simp;with_reducible rfl
  rotate_left
  ·simp only [Act.put,List.setIfInBounds_toArray,List.set_cons_zero,List.set_cons_succ,i64_w,i32_w];rfl
  refine one_ (i:=7) (N:=some 136) (tk 8 1) rfl rfl (one_of HT_.out (by kernel_rfl)) (by decide) (fun K hK=>?_);refine goesP Try.func67 #[.slice VI Qk.length VJ,.int .i64 (rd Qg 256),.int .i64 (rd Qd 256)] ?_;with_reducible refine (celluloidref06_code.calls k1 (fun k_=>some k_=(.slice VI Qk.length VJ:Value).ownBlock) (.slice VI Qk.length VJ) Qk (rd Qg 256) (rd Qd 256) Qn w _ ?side1 ?side2 A56.out).mono ?_
  (case side1=>repeat (first | (with_reducible first | exact HB.out | apply below_alloc | apply pw_below_drewN | apply below_drew1) | exact HB.out))
  (case side2=>exact Kd.R_tight rfl Qa.out)
  rintro e w63 ⟨v199,rfl,ho0,hb,hkp⟩;have HS0_:=cell_kept (hHeld.1) hkp (by first | (rw [add_block];exact (fun hs_=>((((Kd.R_apart' Qb.out (Kd.R_typed Qa.out) (by decide))).1 _ rfl).2) hs_)) | (show ¬ _;simp only [add_block];exact (fun hs_=>((((Kd.R_apart' Qb.out (Kd.R_typed Qa.out) (by decide))).1 _ rfl).2) hs_)) | exact (fun hs_=>((((Kd.R_apart' Qb.out (Kd.R_typed Qa.out) (by decide))).1 _ rfl).2) hs_));have HS1_:=cell_kept (hHeld.2) hkp (by first | (rw [add_block];exact (fun hs_=>((((Kd.R_apart' Qc.out (Kd.R_typed Qa.out) (by decide))).1 _ rfl).2) hs_)) | (show ¬ _;simp only [add_block];exact (fun hs_=>((((Kd.R_apart' Qc.out (Kd.R_typed Qa.out) (by decide))).1 _ rfl).2) hs_)) | exact (fun hs_=>((((Kd.R_apart' Qc.out (Kd.R_typed Qa.out) (by decide))).1 _ rfl).2) hs_));refine ⟨_,rfl,?_⟩;replace Qc:=ka Qc Qa hkp;replace Qb:=ka Qb Qa hkp;replace Qe:=ka Qe Qa hkp;have QJ:=Aside0.mk (Kd.R_mono (ok':=fun k_=>True) ho0 (fun k_ hk_=>trivial));replace HB:=Aside0.mk hb;clear Qa
  (try clear hb)
  (try clear hkp)
  (try clear ho0)
  refine hK.out _ _ ⟨HS0_,HS1_⟩ (fun hHeld=>?_);clear hK K;refine normQ ?_;refine pureQ 8 (some 7) (tk 9 0) (any_of HT_.out (by kernel_rfl)) ?_;refine done_ (done_of HT_.out (by kernel_rfl)) ?_;obtain ⟨Xu,QV,XN⟩:=Kd.R_slice QJ.out;subst XN;try go_wp2_with (first | ((with_reducible refine gate_dst (N:=141) rfl ?_);refine Kd.R_make (Kd.int .u8) _ 5 rfl (N:=141) rfl 40 _ _ rfl QG rfl rfl Try.underlying40 (.int .u8 0) 1 info5 rfl (by decide) (by omega) 0 (ok:=fun _=>True) (okp:=fun _=>True) rfl (fun _ hk=>hk) trivial pd (Nat.le_trans (Nat.mul_le_mul_right _ (pd:QG.toNat≤281474976710656)) (by omega)) (Below.refl _ _) (Nat.le_refl _) ?_;intro Q7 w65 ho66 hb hg_ hnew_;clear hg_ hnew_;(first | rw [← Vg.out] at ho66 | (simp only [Int.reduceToNat] at ho66;rw [← Vg.out] at ho66));replace Qc:=rk Qc hb;replace Qb:=rk Qb hb;replace Qe:=rk Qe hb;have Xv:=Aside0.mk (Kd.R_lower (Kd.R_new' ho66 (Kd.R_lt (rr QJ))) (below_size (hn HB)));replace QJ:=Aside0.mk (Kd.R_elder' (rr QJ) (Kd.R_base ho66) hb);replace HB:=hs HB hb;clear hb ho66))
  go_loopg [22] k1 (fun kq v22 w'=>∃ (Qh:List Int) (Qi:Int),v22=.int .i64 Qi∧Aside0 (celluloidref06_Raw.l3 kq Qn Qh Qi=some r)∧Aside0 (kq≤k1)∧Aside0 (Kd.R (Kd.int .u8) 5 w' w.heap.size (fun k_=>some k_ ≠ (Q7:Value).ownBlock) (.slice Xu Qn.length QV) Qn)∧Aside0 (Kd.R (Kd.int .u8) 5 w' w.heap.size (fun k_=>some k_ ≠ ((.slice Xu Qn.length QV):Value).ownBlock) Q7 Qh)∧Aside0 (Below w.heap.size w w'))
  case atStart=>exact ⟨(Xr),(0),(by first | rfl | (simp;done) | (simp [*];done)),H',⟨Nat.le_refl _⟩,⟨by (with_reducible repeat (first | apply Kd.R_alloc | apply Kd.R_drewN | apply Kd.R_drew));exact Kd.R_mono QJ.out (fun _ hk=>hk.2)⟩,⟨by (with_reducible repeat (first | apply Kd.R_alloc | apply Kd.R_drewN | apply Kd.R_drew));exact Kd.R_mono Xv.out (fun _ hk=>hk.2)⟩,⟨hn HB⟩⟩
  clear H';clear QS Xi Xj Xk Xl Xn Xo Xp Xq Qw Qx Q3 Q5 Q4 Q6;obtain ⟨Qh,Qi,rfl,HA,HK2,Qa,Qt,HB⟩:=hrel
  rcases gk with _ | k2
  ·exact absurd HA.out (by simp [celluloidref06_Raw.l3])
  have H:=HA.out;clear HA;simp only [celluloidref06_Raw.l3] at H;by_cases c67:Qi < (Qn.length:Int);rotate_left
  ·rw [if_neg c67] at H;have Vj:=decide_eq_false c67;clear c67;obtain rfl:=Option.some.inj H;have hcv77:=own_string (P:=Try.prog) Try.underlying40 Try.underlying5 Try.underlying9 (Kd.own_of_R Qt.out);go_wp2;go_ret;exact ⟨by first | rfl | (simp [errW_none,errW_some] <;> rfl) | (simp only [← QI];first | rfl | (simp [errW_none,errW_some] <;> rfl)) | (simp [*,errW_none,errW_some] <;> rfl),hn HB⟩
  rw [if_pos c67] at H;have Vj:=decide_eq_true c67;clear c67;by_cases c68:0≤Qi;rotate_left
  ·rw [if_neg c68] at H;exact absurd H (by simp)
  rw [if_pos c68] at H;have Xw:=decide_eq_true c68;clear c68;have H':=Aside0.mk H;clear H;have Q8:0≤(Qi:Int):=pd;have Q9:Qi < (Qn.length:Int):=pd;obtain ⟨QW,XO,Va⟩:=Kd.at_int (Kd.R_reads' Qa.out).2.2 Qi Q8 Q9;cases XO;replace Q8:=eq_true Q8;replace Q9:=eq_true Q9;go_wp2
  go_loopg [23,24] k2 (fun kq v23 v24 w'=>∃ (Qz:Int) (QK:Int),v23=.int .u8 Qz∧v24=.int .i64 QK∧Aside0 (celluloidref06_Raw.l4 kq Qn Qh Qi Qz QK=some r)∧Aside0 (kq≤k2)∧Aside0 (Kd.R (Kd.int .u8) 5 w' w.heap.size (fun k_=>some k_ ≠ (Q7:Value).ownBlock) (.slice (some QW) Qn.length QV) Qn)∧Aside0 (Kd.R (Kd.int .u8) 5 w' w.heap.size (fun k_=>some k_ ≠ ((.slice (some QW) Qn.length QV):Value).ownBlock) Q7 Qh)∧Aside0 (Below w.heap.size w w'))
  case atStart=>exact ⟨(rd Qn Qi),(0),(by first | rfl | (simp;done) | (simp [*];done)),(by first | rfl | (simp;done) | (simp [*];done)),H',⟨Nat.le_refl _⟩,⟨rr Qa⟩,⟨rr Qt⟩,⟨hn HB⟩⟩
  clear H';clear Vj Xw Va Q8 Q9;obtain ⟨Qz,QK,rfl,rfl,HA,HK3,Qa,Qt,HB⟩:=hrel
  rcases gk with _ | k3
  ·exact absurd HA.out (by simp [celluloidref06_Raw.l4])
  have H:=HA.out;clear HA;simp only [celluloidref06_Raw.l4] at H;by_cases c69:QK < (Int.tmod Qi 8)
  ·rw [if_pos c69] at H;have Xx:=decide_eq_true c69;clear c69;have H':=Aside0.mk H;clear H;go_wp2;go_roundg k3
   case measure=>have:=HK1.out;have:=HK2.out;have:=HK3.out;omega
   case rel=>exact ⟨((Qz*2) % 256),(wrap64 (QK+1)),(by first | rfl | (simp;done) | (simp [*];done)),(by first | rfl | (simp;done) | (simp [*];done)),H',⟨by have:=HK1.out;have:=HK2.out;have:=HK3.out;omega⟩,⟨rr Qa⟩,⟨rr Qt⟩,⟨hn HB⟩⟩
  rw [if_neg c69] at H;have Xx:=decide_eq_false c69;clear c69;obtain ⟨Qo,QX⟩:∃ j_:Int,(wrap64 (Int.tdiv Qi 8))=j_:=⟨_,rfl⟩;replace H:(if 0≤(Qo) then (if (Qo) < (Qh.length:Int) then (celluloidref06_Raw.l3 k3 Qn (Qh.set ((Qo):Int).toNat (((rd Qh (Qo))+Qz) % 256)) (wrap64 (Qi+1))) else (none)) else (none))=some r:=by first | (rw [QX] at H;exact H) | (simp only [QX] at H ⊢;exact H)
  have hji70w:(IntKind.i64.wrap (Int.tdiv Qi 8))=Qo:=(i64_w _).trans QX;by_cases c71:0≤(Qo);rotate_left
  ·rw [if_neg c71] at H;exact absurd H (by simp)
  rw [if_pos c71] at H;have c71b0:=decide_eq_true c71;clear c71;by_cases c72:(Qo) < (Qh.length:Int);rotate_left
  ·rw [if_neg c72] at H;exact absurd H (by simp)
  rw [if_pos c72] at H;have c72b0:=decide_eq_true c72;clear c72;obtain ⟨VK,hy206⟩:∃ y_:List Int,y_=(Qh.set ((Qo):Int).toNat (((rd Qh (Qo))+Qz) % 256)):=⟨_,rfl⟩;replace H:(celluloidref06_Raw.l3 k3 Qn VK (wrap64 (Qi+1)))=some r:=by first | (rw [hy206];with_reducible exact H) | (have H2_:=(Option.bind_some _ _).symm.trans H;rw [hy206];with_reducible exact H2_) | (have H2_:=(Option.bind_some _ _).symm.trans H;with_reducible exact H2_) | with_reducible exact H | (rw [hy206];exact H) | exact H
  have Xy:=Aside0.mk hy206;clear hy206;have H':=Aside0.mk H;clear H;obtain ⟨Ao74,VL,XP⟩:=Kd.R_slice Qt.out;subst XP;have VM:0≤((Qo):Int):=pd;have VN:(Qo) < (Qh.length:Int):=pd;obtain ⟨ad205,XQ,Vb⟩:=Kd.at_int (Kd.R_reads' Qt.out).2.2 (Qo) VM VN;cases XQ;replace VM:=eq_true VM;replace VN:=eq_true VN;have p73:0≤((Qo):Int):=pd;have q73:((Qo):Int) < ((Qh.length:Int):Int):=pd;obtain ⟨go73,co73,Xz,XA,gl73,cl73,HG73⟩:=Kd.R_form Qt.out (by omega)
  (first | cases Xz | (injection Xz with ea_ en_ ec_;(first | subst ea_ | (injection ea_ with ea_;subst ea_));subst ec_;clear en_))
  have GB73:=Aside0.mk XA;have GG73:=Aside0.mk HG73;clear XA gl73 HG73
  (first | simp only [add_plain] at Vb | skip)
  obtain ⟨hx73_0,hf73_0⟩:=Kd.R_celln 0 Qt.out ((Qo):Int) p73 q73;replace p73:=eq_true p73;replace q73:=eq_true q73;have HP75:=Kd.R_putg Qt.out ((Qo):Int) (((rd Qh (Qo))+Qz) % 256);go_wp2_with (first | ((with_reducible refine gate_store (t:=5) (p:=167) rfl ?_);refine store_event (t:=5) (p:=167) (v:=?vo_w76) (w1:=(wr.setCell ⟨go73,((Qo):Int).toNat,none⟩ (.int .u8 (((rd Qh (Qo))+Qz) % 256)))) ?hg ?ho ?hn ?hr ?_;(case ho=>rfl);(case hg=>rfl);(case hn=>rfl);(case hr=>first | (go_simp;done) | (go_simp;rfl));intro w76 hw;have hg:wr.grownBy w76 (some go73):=(by rw [hw];exact HP75.2);have hp_:Kd.R (Kd.int .u8) 5 w76 w.heap.size (fun k_=>some k_ ≠ (.slice (some QW) Qn.length QV:Value).ownBlock) (.slice (some ⟨go73,0,none⟩) Qh.length VL) VK:=(by rw [hw,Xy.out];exact HP75.1);clear HP75;replace Qa:=Aside0.mk (Kd.R_after (v:=(.slice (some ⟨go73,0,none⟩) Qh.length VL)) (v1:=(.slice (some ⟨go73,0,none⟩) Qh.length VL)) (ok:=(fun _=>True)) (by (with_reducible repeat (first | apply Kd.R_alloc | apply Kd.R_drewN | apply Kd.R_drew));exact Kd.R_mono Qa.out (fun _ hk=>⟨trivial,hk⟩)) hg (.inl rfl));replace Qt:=Aside0.mk (hp_);replace HB:=Aside0.mk ((by rw [hw];exact below_set (HB.out) GB73.out:Below w.heap.size w w76));clear hg hw hp_))
  go_roundg k3
  case measure=>have:=HK1.out;have:=HK2.out;have:=HK3.out;omega
  case rel=>exact ⟨(VK),(wrap64 (Qi+1)),(by first | rfl | (simp;done) | (simp [*];done)),H',⟨by have:=HK1.out;have:=HK2.out;have:=HK3.out;omega⟩,⟨by (with_reducible repeat (first | apply Kd.R_alloc | apply Kd.R_drewN | apply Kd.R_drew));exact Kd.R_mono Qa.out (fun _ hk=>hk.2)⟩,⟨rr Qt⟩,⟨hn HB⟩⟩
end Go.Proofs.Ytpbhkdamkbopkaa.GDefl
namespace Go.Proofs.Ytpbhkdamkbopkaa.GDefl
open Go.Proofs.Ytpbhkdamkbopkaa.Sq
open Go.RowKit Go.Proofs.YtpbhkdamkbopkaaW.PrintWords Go.Proofs.YtpbhkdamkbopkaaW.PrintLast Go.Proofs.YtpbhkdamkbopkaaW.PrintMore Go.Proofs.Ytpbhkdamkbopkaa.Wr1 Go.Proofs.Ytpbhkdamkbopkaa.GRuns
attribute [local go_sem] max2_int min2_int max_two min_two max_three min_three max_four min_four
set_option linter.unusedVariables false
set_option linter.unusedSimpArgs false
def celluloidref03_low.f (a0:Int):Option (Int):=some ((((a0) % 4294967296) % 65536) % 65521)
set_option maxHeartbeats 8000000 in
set_option maxRecDepth 100000 in
theorem celluloidref03_low.calls (a0 : Int) (r : Int) (w : World) (h : celluloidref03_low.f a0 = some r) :
  Calls Try.prog 107 #[.int .i64 a0] w fun e w'=>e=.returned (.int .i64 r)∧Drawn0 w w':=by
 have H:=h;unfold celluloidref03_low.f at H;clear h;obtain rfl:=Option.some.inj H;go_enter Try.func107,Try.ntmps107;go_wp2;go_ret;exact ⟨by first | rfl | (simp;done) | (simp [*];done),by repeat (first | exact Drawn0.refl _ | apply Drawn0.step)⟩
def celluloidref03_high.f (a0:Int):Option (Int):=some ((((a0) % 4294967296) / 65536) % 65521)
set_option maxHeartbeats 8000000 in
set_option maxRecDepth 100000 in
theorem celluloidref03_high.calls (a0 : Int) (r : Int) (w : World) (h : celluloidref03_high.f a0 = some r) :
  Calls Try.prog 108 #[.int .i64 a0] w fun e w'=>e=.returned (.int .i64 r)∧Drawn0 w w':=by
 have H:=h;unfold celluloidref03_high.f at H;clear h;obtain rfl:=Option.some.inj H;go_enter Try.func108,Try.ntmps108;go_wp2;go_ret;exact ⟨by first | rfl | (simp;done) | (simp [*];done),by repeat (first | exact Drawn0.refl _ | apply Drawn0.step)⟩
def celluloidref03_More.l0:Nat → ByteArray → Int → Int → Int → Int → Option (Int)
 |0,_,_,_,_,_=>none
 |k+1,x1,x5,x6,x7,x8=>if x8 < x7 then (if 0≤x8 then (if x8 < (x1.size:Int) then (celluloidref03_More.l0 k x1 (wrap64 (x5+(wrap64 (bt x1 x8)))) (Int.tmod (wrap64 (x6+(wrap64 ((wrap64 (bt x1 x8))*(wrap64 (x7 - x8)))))) 65521) x7 (wrap64 (x8+1))) else (none)) else (none)) else (some (wrap64 ((wrap64 ((Int.tmod x6 65521)*65536))+(Int.tmod x5 65521))))
def celluloidref03_More.f (k:Nat) (a0:Int) (a1:ByteArray):Option (Int):=(celluloidref03_low.f a0).bind fun t207=>((celluloidref03_high.f a0).bind fun t208=>(celluloidref03_More.l0 k a1 t207 (wrap64 (t208+(wrap64 (((a1.size:Int) % 65521)*t207)))) (a1.size:Int) 0))
set_option maxHeartbeats 8000000 in
set_option maxRecDepth 100000 in
theorem celluloidref03_More.calls (k : Nat) (a0 : Int) (a1 : ByteArray) (r : Int) (w : World) (h : celluloidref03_More.f k a0 a1 = some r) :
  Calls Try.prog 93 #[.int .i64 a0,.string a1] w fun e w'=>e=.returned (.int .i64 r)∧Drawn0 w w':=by
 have H:=h;unfold celluloidref03_More.f at H;clear h;replace H:=Option.bind_eq_some_iff.mp H;obtain ⟨Qd,A30,H⟩:=H;have A3:=Aside0.mk A30;clear A30;replace H:=Option.bind_eq_some_iff.mp H;obtain ⟨Qe,A40,H⟩:=H;have A4:=Aside0.mk A40;clear A40;have H':=Aside0.mk H;clear H;go_enter Try.func93,Try.ntmps93;go_wp2_with (first | ((with_reducible refine gate_callee (f:=107) rfl ?_);refine goesQ (some 10) Try.func107 #[.int .i64 a0] ?_;(with_reducible refine (celluloidref03_low.calls a0 Qd _ A3.out).mono ?_);rintro e w' ⟨rfl,⟨nd,rfl⟩⟩;refine ⟨_,rfl,?_⟩) | ((with_reducible refine gate_callee (f:=108) rfl ?_);refine goesQ (some 12) Try.func108 #[.int .i64 a0] ?_;(with_reducible refine (celluloidref03_high.calls a0 Qe _ A4.out).mono ?_);rintro e w' ⟨rfl,⟨nd,rfl⟩⟩;refine ⟨_,rfl,?_⟩))
 go_loopg [5,6,8] k (fun kq v5 v6 v8 w'=>∃ (Qb:Int) (Qc:Int) (Qa:Int),v5=.int .i64 Qb∧v6=.int .i64 Qc∧v8=.int .i64 Qa∧Aside0 (celluloidref03_More.l0 kq a1 Qb Qc (a1.size:Int) Qa=some r)∧Aside0 (kq≤k)∧Drawn0 w w')
 case atStart=>exact ⟨(Qd),(wrap64 (Qe+(wrap64 (((a1.size:Int) % 65521)*Qd)))),(0),(by first | rfl | (simp;done) | (simp [*];done)),(by first | rfl | (simp;done) | (simp [*];done)),(by first | rfl | (simp;done) | (simp [*];done)),H',⟨Nat.le_refl _⟩,by repeat (first | exact Drawn0.refl _ | apply Drawn0.step)⟩
 clear H';try clear c1
 try clear p2
 obtain ⟨Qb,Qc,Qa,rfl,rfl,rfl,HA,HK1,⟨m1,rfl⟩⟩:=hrel
 rcases gk with _ | k1
 ·exact absurd HA.out (by simp [celluloidref03_More.l0])
 have H:=HA.out;clear HA;simp only [celluloidref03_More.l0] at H;by_cases c5:Qa < (a1.size:Int);rotate_left
 ·rw [if_neg c5] at H;have Qf:=decide_eq_false c5;clear c5;obtain rfl:=Option.some.inj H;go_wp2;go_ret;exact ⟨by first | rfl | (simp;done) | (simp [*];done),by repeat (first | exact Drawn0.refl _ | apply Drawn0.step)⟩
 rw [if_pos c5] at H;have Qf:=decide_eq_true c5;clear c5;by_cases c6:0≤Qa;rotate_left
 ·rw [if_neg c6] at H;exact absurd H (by simp)
 rw [if_pos c6] at H;have c6b0:=decide_eq_true c6;clear c6;by_cases c7:Qa < (a1.size:Int);rotate_left
 ·rw [if_neg c7] at H;exact absurd H (by simp)
 rw [if_pos c7] at H;have c7b0:=decide_eq_true c7;clear c7;have H':=Aside0.mk H;clear H;have p8:0≤(Qa:Int):=of_decide_eq_true (by first | (with_reducible assumption) | assumption);have q8:Qa < (a1.size:Int):=of_decide_eq_true (by first | (with_reducible assumption) | assumption);have hx8:=bt_at a1 Qa;replace p8:=eq_true p8;replace q8:=eq_true q8;have p9:0≤(Qa:Int):=of_decide_eq_true (by first | (with_reducible assumption) | assumption);have q9:Qa < (a1.size:Int):=of_decide_eq_true (by first | (with_reducible assumption) | assumption);have hx9:=bt_at a1 Qa;replace p9:=eq_true p9;replace q9:=eq_true q9;go_wp2;go_roundg k1
 case measure=>have:=HK1.out;omega
 case rel=>exact ⟨(wrap64 (Qb+(wrap64 (bt a1 Qa)))),(Int.tmod (wrap64 (Qc+(wrap64 ((wrap64 (bt a1 Qa))*(wrap64 ((a1.size:Int) - Qa)))))) 65521),(wrap64 (Qa+1)),(by first | rfl | (simp;done) | (simp [*];done)),(by first | rfl | (simp;done) | (simp [*];done)),(by first | rfl | (simp;done) | (simp [*];done)),H',⟨by have:=HK1.out;omega⟩,by repeat (first | exact Drawn0.refl _ | apply Drawn0.step)⟩
def celluloidref03_Sum.f (k:Nat) (a0:ByteArray):Option (Int):=(celluloidref03_More.f k 1 a0).bind fun t209=>(some t209)
set_option maxHeartbeats 8000000 in
set_option maxRecDepth 100000 in
theorem celluloidref03_Sum.calls (k : Nat) (a0 : ByteArray) (r : Int) (w : World) (h : celluloidref03_Sum.f k a0 = some r) :
  Calls Try.prog 71 #[.string a0] w fun e w'=>e=.returned (.int .i64 r)∧Drawn0 w w':=by
 have H:=h;unfold celluloidref03_Sum.f at H;clear h;replace H:=Option.bind_eq_some_iff.mp H;obtain ⟨Qa,A20,H⟩:=H;have A2:=Aside0.mk A20;clear A20;obtain rfl:=Option.some.inj H;go_enter Try.func71,Try.ntmps71;go_wp2_with (first | ((with_reducible refine gate_callee (f:=93) rfl ?_);refine goesQ (some 4) Try.func93 #[.int .i64 1,.string a0] ?_;(with_reducible refine (celluloidref03_More.calls k 1 a0 Qa _ A2.out).mono ?_);rintro e w' ⟨rfl,⟨nd,rfl⟩⟩;refine ⟨_,rfl,?_⟩))
 go_ret;exact ⟨by first | rfl | (simp;done) | (simp [*];done),by repeat (first | exact Drawn0.refl _ | apply Drawn0.step)⟩
end Go.Proofs.Ytpbhkdamkbopkaa.GDefl
namespace Go.Proofs.Ytpbhkdamkbopkaa.GDefl
open Go.Proofs.Ytpbhkdamkbopkaa.Sq
open Go.RowKit Go.Proofs.YtpbhkdamkbopkaaW.PrintWords Go.Proofs.YtpbhkdamkbopkaaW.PrintLast Go.Proofs.YtpbhkdamkbopkaaW.PrintMore Go.Proofs.Ytpbhkdamkbopkaa.Wr1 Go.Proofs.Ytpbhkdamkbopkaa.GRuns
attribute [local go_sem] max2_int min2_int max_two min_two max_three min_three max_four min_four
set_option linter.unusedVariables false
set_option linter.unusedSimpArgs false
def celluloidref06_Close.f (k:Nat) (a0:ByteArray):Option (ByteArray):=(celluloidref03_Sum.f k a0).bind fun t210=>((some (([120,156]:List Int):List Int)).bind fun y211=>((celluloidref06_Raw.f k a0).bind fun t214=>(if (strOfNums y211).size+t214.size≤9223372036854775807 then ((some (([(wrap64 (Int.tdiv t210 16777216)) % 256,(Int.tmod (wrap64 (Int.tdiv t210 65536)) 256) % 256,(Int.tmod (wrap64 (Int.tdiv t210 256)) 256) % 256,(Int.tmod t210 256) % 256]:List Int):List Int)).bind fun y215=>(if ((strOfNums y211) ++ t214).size+(strOfNums y215).size≤9223372036854775807 then (some (((strOfNums y211) ++ t214) ++ (strOfNums y215))) else (none))) else (none))))
def celluloidref06_Close.T2:Bool × List (List Nat × List Nat):=(true,[([],[]),([0],[0]),([],[]),([2],[2]),([1,3],[1,3]),([],[]),([5],[5]),([6],[6]),([],[]),([8],[8]),([9],[9]),([10],[10]),([],[]),([12],[12]),([13],[13]),([14],[14]),([],[]),([16],[16]),([17],[17]),([7,11,15,18],[7,11,15,18]),([19],[19]),([4,20],[4,20]),([21,3,0,1,2,3,4,5,6,7,8,9,10,11,12,13,14,15,16,17,18,19,20,21],[21])])
def celluloidref06_Close.B2:List Nat:=[0,1,0,4,15,0,32,96,0,256,768,1792,0,4096,12288,28672,0,65536,196608,524256,1048544,2097151,4194303]
theorem celluloidref06_Close.tab2:rtab .any (opsOf Try.f42 2)=celluloidref06_Close.T2:=by kernel_rfl
theorem celluloidref06_Close.bits2:waitsOk celluloidref06_Close.T2.2 celluloidref06_Close.B2=true:=by kernel_rfl
set_option maxHeartbeats 8000000 in
set_option maxRecDepth 100000 in
theorem celluloidref06_Close.calls (k : Nat) (a0 : ByteArray) (r : ByteArray) (w : World) (h : celluloidref06_Close.f k a0 = some r) :
  Calls Try.prog 42 #[.string a0] w fun e w'=>e=.returned (.string r)∧Below w.heap.size w w':=by
 have HB:=Aside0.mk (Below.refl w.heap.size w);have H:=h;unfold celluloidref06_Close.f at H;clear h;replace H:=Option.bind_eq_some_iff.mp H;obtain ⟨Qa,A20,H⟩:=H;have A2:=Aside0.mk A20;clear A20;obtain ⟨Qc,hy211⟩:∃ y_:List Int,y_=(([120,156]:List Int)):=⟨_,rfl⟩;replace H:((celluloidref06_Raw.f k a0).bind fun Qb=>(if (strOfNums Qc).size+Qb.size≤9223372036854775807 then ((some (([(wrap64 (Int.tdiv Qa 16777216)) % 256,(Int.tmod (wrap64 (Int.tdiv Qa 65536)) 256) % 256,(Int.tmod (wrap64 (Int.tdiv Qa 256)) 256) % 256,(Int.tmod Qa 256) % 256]:List Int):List Int)).bind fun Qd=>(if ((strOfNums Qc) ++ Qb).size+(strOfNums Qd).size≤9223372036854775807 then (some (((strOfNums Qc) ++ Qb) ++ (strOfNums Qd))) else (none))) else (none)))=some r:=by first | (rw [hy211];with_reducible exact H) | (have H2_:=(Option.bind_some _ _).symm.trans H;rw [hy211];with_reducible exact H2_) | (have H2_:=(Option.bind_some _ _).symm.trans H;with_reducible exact H2_) | with_reducible exact H | (rw [hy211];exact H) | exact H
 have Qe:=Aside0.mk hy211;clear hy211;replace H:=Option.bind_eq_some_iff.mp H;obtain ⟨Qb,A30,H⟩:=H;have A3:=Aside0.mk A30;clear A30;by_cases c4:(strOfNums Qc).size+Qb.size≤9223372036854775807;rotate_left
 ·rw [if_neg c4] at H;exact absurd H (by simp)
 rw [if_pos c4] at H;have c4b0:=eq_true c4;have c4b1:=decide_eq_true c4;try have c4b2:=eq_false (Nat.not_lt.2 c4)
 obtain ⟨Qd,hy215⟩:∃ y_:List Int,y_=(([(wrap64 (Int.tdiv Qa 16777216)) % 256,(Int.tmod (wrap64 (Int.tdiv Qa 65536)) 256) % 256,(Int.tmod (wrap64 (Int.tdiv Qa 256)) 256) % 256,(Int.tmod Qa 256) % 256]:List Int)):=⟨_,rfl⟩;replace H:(if ((strOfNums Qc) ++ Qb).size+(strOfNums Qd).size≤9223372036854775807 then (some (((strOfNums Qc) ++ Qb) ++ (strOfNums Qd))) else (none))=some r:=by first | (rw [hy215];with_reducible exact H) | (have H2_:=(Option.bind_some _ _).symm.trans H;rw [hy215];with_reducible exact H2_) | (have H2_:=(Option.bind_some _ _).symm.trans H;with_reducible exact H2_) | with_reducible exact H | (rw [hy215];exact H) | exact H
 have Qf:=Aside0.mk hy215;clear hy215;by_cases c5:((strOfNums Qc) ++ Qb).size+(strOfNums Qd).size≤9223372036854775807;rotate_left
 ·rw [if_neg c5] at H;exact absurd H (by simp)
 rw [if_pos c5] at H;have c5b0:=eq_true c5;have c5b1:=decide_eq_true c5;try have c5b2:=eq_false (Nat.not_lt.2 c5)
 have c5b3:(9223372036854775807 < (strOfNums Qc).size+Qb.size+(strOfNums Qd).size)=False:=eq_false (Nat.not_lt.2 (by have h_:=c5;rw [ByteArray.size_append] at h_;exact h_));obtain rfl:=Option.some.inj H;go_enter Try.func42,Try.ntmps42;try go_wp2_with (first | ((with_reducible refine gate_callee (f:=71) rfl ?_);refine goesQ (some 5) Try.func71 #[.string a0] ?_;(with_reducible refine (celluloidref03_Sum.calls k a0 Qa _ A2.out).mono ?_);rintro e w' ⟨rfl,⟨nd,rfl⟩⟩;refine ⟨_,rfl,?_⟩))
 replace HB:=Aside0.mk (below_drew1 (pw_below_drewN HB.out nd));refine start_ (n:=23) (S:=fun w'=>True) (ds:=[]) #[false,false,false,false,false,false,false,false,false,false,false,false,false,false,false,false,false,false,false,false,false,false,false] (by kernel_rfl) rfl rfl trivial (fun hHeld=>?_);refine with_tabW celluloidref06_Close.tab2 celluloidref06_Close.bits2 (fun HT_ HW_=>?_);generalize (w.drewN nd).drew=w6 at HB hHeld ⊢;refine pureQ 2 (some 8) #[false,false,true,false,false,false,false,false,false,false,false,false,false,false,false,false,false,false,false,false,false,false,false] (any_of HT_.out (by kernel_rfl)) ?_;refine pureQ 5 (some 11) #[false,false,true,false,false,true,false,false,false,false,false,false,false,false,false,false,false,false,false,false,false,false,false] (any_of HT_.out (by kernel_rfl)) ?_;refine pureQ 6 (some 12) #[false,false,true,false,false,true,true,false,false,false,false,false,false,false,false,false,false,false,false,false,false,false,false] (any_of HT_.out (by kernel_rfl)) ?_;refine pureQ 7 (some 13) #[false,false,true,false,false,true,true,true,false,false,false,false,false,false,false,false,false,false,false,false,false,false,false] (any_of HT_.out (by kernel_rfl)) ?_;refine pureQ 8 (some 14) #[false,false,true,false,false,true,true,true,true,false,false,false,false,false,false,false,false,false,false,false,false,false,false] (any_of HT_.out (by kernel_rfl)) ?_;refine pureQ 9 (some 15) #[false,false,true,false,false,true,true,true,true,true,false,false,false,false,false,false,false,false,false,false,false,false,false] (any_of HT_.out (by kernel_rfl)) ?_
 refine pureQ 10 (some 16) #[false,false,true,false,false,true,true,true,true,true,true,false,false,false,false,false,false,false,false,false,false,false,false] (any_of HT_.out (by kernel_rfl)) ?_;refine pureQ 11 (some 17) #[false,false,true,false,false,true,true,true,true,true,true,true,false,false,false,false,false,false,false,false,false,false,false] (any_of HT_.out (by kernel_rfl)) ?_;refine pureQ 12 (some 18) #[false,false,true,false,false,true,true,true,true,true,true,true,true,false,false,false,false,false,false,false,false,false,false] (any_of HT_.out (by kernel_rfl)) ?_;refine pureQ 13 (some 19) #[false,false,true,false,false,true,true,true,true,true,true,true,true,true,false,false,false,false,false,false,false,false,false] (any_of HT_.out (by kernel_rfl)) ?_;refine pureQ 14 (some 20) #[false,false,true,false,false,true,true,true,true,true,true,true,true,true,true,false,false,false,false,false,false,false,false] (any_of HT_.out (by kernel_rfl)) ?_;refine pureQ 15 (some 21) #[false,false,true,false,false,true,true,true,true,true,true,true,true,true,true,true,false,false,false,false,false,false,false] (any_of HT_.out (by kernel_rfl)) ?_;refine pureQ 16 (some 22) #[false,false,true,false,false,true,true,true,true,true,true,true,true,true,true,true,true,false,false,false,false,false,false] (any_of HT_.out (by kernel_rfl)) ?_;refine pureQ 17 (some 23) #[false,false,true,false,false,true,true,true,true,true,true,true,true,true,true,true,true,true,false,false,false,false,false] (any_of HT_.out (by kernel_rfl)) ?_
 refine pureQ 18 (some 24) #[false,false,true,false,false,true,true,true,true,true,true,true,true,true,true,true,true,true,true,false,false,false,false] (any_of HT_.out (by kernel_rfl)) ?_;refine inv_at [0,1,3,4,19,20,21,22] (fun a0_ b a w'=>∃ u v:Value,a=putSel a0_ b [(0,6,u),(1,7,.string (strOfNums Qc)),(3,9,.string Qb),(4,10,.string ((strOfNums Qc) ++ Qb)),(19,25,v),(20,26,.string (strOfNums Qd)),(21,27,.string (((strOfNums Qc) ++ Qb) ++ (strOfNums Qd))),(22,2,.string (((strOfNums Qc) ++ Qb) ++ (strOfNums Qd)))]∧(b 0=true → Kd.R (Kd.int .u8) 5 w' w.heap.size (fun _=>True) u Qc)∧(b 19=true → Kd.R (Kd.int .u8) 5 w' w.heap.size (fun _=>True) v Qd)∧Below w.heap.size w w') HT_.out HW_.out (by kernel_rfl) (by kernel_rfl) ?_ ?_ ?_
 ·exact ⟨undef,undef,by simp only [putSel,Bool.false_eq_true,if_false],fun h=>absurd h (by decide),fun h=>absurd h (by decide),HB.out⟩
 ·clear HB hHeld;refine steps_cons (fun b a w' ⟨u,v,ha,hR,hS,hB⟩ hb hon hoff=>⟨_,rfl,fun K hK=>?_⟩) ?_
  ·refine Kd.R_lit_step (Kd.int .u8) w'.heap.size 5 ?hg (N:=6) ?hd (xs:=([120,156]:List Int)) (inner:=[.int .u8 120,.int .u8 156]) (ok:=fun _=>True) (okp:=fun _=>True) ?hr ?hp (fun _ hk=>hk) trivial (Below.refl _ _) (Nat.le_refl _) (by simp) ?_;(case hd=>rfl);(case hg=>rfl);(case hr=>first | (go_simp;done) | (go_simp;rfl));(case hp=>exact (Reps.one (show Kd.M (Kd.int .u8) _ _ _ 120 [.int .u8 120] from rfl) (Reps.one (show Kd.M (Kd.int .u8) _ _ _ 156 [.int .u8 156] from rfl) (Reps.none _ _))));intro z w1 ho h1 hg_ hnew_;rw [← Qe.out] at ho;exact hK.out _ _ ⟨z,v,up_ ha 0 hb,fun _=>Kd.R_lower ho (below_size hB),fun h=>Kd.R_below (hS h) h1,below_step hB h1⟩
  refine steps_cons (fun b a w' ⟨u,v,ha,hR,hS,hB⟩ hb hon hoff=>⟨_,rfl,fun K hK=>?_⟩) ?_
  ·exact cvS Try.underlying40 Try.underlying5 Try.underlying9 (hR (hon 0 (by kernel_rfl))) (on_ ha 0 (hon 0 (by kernel_rfl))) (hK.out _ _ ⟨u,v,up_ ha 1 hb,hR,hS,hB⟩)
  refine steps_cons (fun b a w' ⟨u,v,ha,hR,hS,hB⟩ hb hon hoff=>⟨_,rfl,fun K hK=>?_⟩) ?_
  ·refine goesP Try.func41 #[.string a0] ?_ (hargs:=ev1 (of_ ha));(with_reducible refine (celluloidref06_Raw.calls k a0 Qb _ A3.out).mono ?_);rintro e w1 ⟨rfl,h1⟩;exact ⟨_,rfl,hK.out _ _ ⟨u,v,up_ ha 2 hb,fun h=>Kd.R_below (hR h) h1,fun h=>Kd.R_below (hS h) h1,below_step hB h1⟩⟩
  refine steps_cons (fun b a w' ⟨u,v,ha,hR,hS,hB⟩ hb hon hoff=>⟨_,rfl,fun K hK=>?_⟩) ?_
  ·exact catS (on_ ha 1 (hon 1 (by kernel_rfl))) (on_ ha 2 (hon 3 (by kernel_rfl))) c4 (hK.out _ _ ⟨u,v,up_ ha 3 hb,hR,hS,hB⟩)
  refine steps_cons (fun b a w' ⟨u,v,ha,hR,hS,hB⟩ hb hon hoff=>⟨_,rfl,fun K hK=>?_⟩) ?_
  ·have e13:a.tmps[13]?=some (.int .u8 ((wrap64 (Int.tdiv Qa 16777216)) % 256)):=of_ ha;have e17:a.tmps[17]?=some (.int .u8 ((Int.tmod (wrap64 (Int.tdiv Qa 65536)) 256) % 256)):=of_ ha;have e21:a.tmps[21]?=some (.int .u8 ((Int.tmod (wrap64 (Int.tdiv Qa 256)) 256) % 256)):=of_ ha;have e24:a.tmps[24]?=some (.int .u8 ((Int.tmod Qa 256) % 256)):=of_ ha;replace ha:=Aside0.mk ha;refine Kd.R_lit_step (Kd.int .u8) w'.heap.size 5 ?hg (N:=25) ?hd (xs:=([(wrap64 (Int.tdiv Qa 16777216)) % 256,(Int.tmod (wrap64 (Int.tdiv Qa 65536)) 256) % 256,(Int.tmod (wrap64 (Int.tdiv Qa 256)) 256) % 256,(Int.tmod Qa 256) % 256]:List Int)) (inner:=[.int .u8 ((wrap64 (Int.tdiv Qa 16777216)) % 256),.int .u8 ((Int.tmod (wrap64 (Int.tdiv Qa 65536)) 256) % 256),.int .u8 ((Int.tmod (wrap64 (Int.tdiv Qa 256)) 256) % 256),.int .u8 ((Int.tmod Qa 256) % 256)]) (ok:=fun _=>True) (okp:=fun _=>True) ?hr ?hp (fun _ hk=>hk) trivial (Below.refl _ _) (Nat.le_refl _) (by simp) ?_;(case hd=>rfl);(case hg=>rfl);(case hr=>first | (go_simp;done) | (go_simp;rfl));(case hp=>exact (Reps.one (show Kd.M (Kd.int .u8) _ _ _ ((wrap64 (Int.tdiv Qa 16777216)) % 256) [.int .u8 ((wrap64 (Int.tdiv Qa 16777216)) % 256)] from rfl) (Reps.one (show Kd.M (Kd.int .u8) _ _ _ ((Int.tmod (wrap64 (Int.tdiv Qa 65536)) 256) % 256) [.int .u8 ((Int.tmod (wrap64 (Int.tdiv Qa 65536)) 256) % 256)] from rfl) (Reps.one (show Kd.M (Kd.int .u8) _ _ _ ((Int.tmod (wrap64 (Int.tdiv Qa 256)) 256) % 256) [.int .u8 ((Int.tmod (wrap64 (Int.tdiv Qa 256)) 256) % 256)] from rfl) (Reps.one (show Kd.M (Kd.int .u8) _ _ _ ((Int.tmod Qa 256) % 256) [.int .u8 ((Int.tmod Qa 256) % 256)] from rfl) (Reps.none _ _))))))
   intro z w1 ho h1 hg_ hnew_;rw [← Qf.out] at ho;exact hK.out _ _ ⟨u,z,up_ ha.out 4 hb,fun h=>Kd.R_below (hR h) h1,fun _=>Kd.R_lower ho (below_size hB),below_step hB h1⟩
  refine steps_cons (fun b a w' ⟨u,v,ha,hR,hS,hB⟩ hb hon hoff=>⟨_,rfl,fun K hK=>?_⟩) ?_
  ·exact cvS Try.underlying40 Try.underlying5 Try.underlying9 (hS (hon 19 (by kernel_rfl))) (on_ ha 4 (hon 19 (by kernel_rfl))) (hK.out _ _ ⟨u,v,up_ ha 5 hb,hR,hS,hB⟩)
  refine steps_cons (fun b a w' ⟨u,v,ha,hR,hS,hB⟩ hb hon hoff=>⟨_,rfl,fun K hK=>?_⟩) ?_
  ·exact catS (on_ ha 3 (hon 4 (by kernel_rfl))) (on_ ha 5 (hon 20 (by kernel_rfl))) c5 (hK.out _ _ ⟨u,v,up_ ha 6 hb,hR,hS,hB⟩)
  refine steps_cons (fun b a w' ⟨u,v,ha,hR,hS,hB⟩ hb hon hoff=>⟨_,rfl,fun K hK=>?_⟩) ?_
  ·exact asS (on_ ha 6 (hon 21 (by kernel_rfl))) (hK.out _ _ ⟨u,v,up_ ha 7 hb,hR,hS,hB⟩)
  exact steps_nil
 rintro b a w2 hall ⟨u,v,ha,hR,hS,hB⟩;have HB:=Aside0.mk hB;subst ha;simp only [putSel,hall 0 (by kernel_rfl),hall 1 (by kernel_rfl),hall 3 (by kernel_rfl),hall 4 (by kernel_rfl),hall 19 (by kernel_rfl),hall 20 (by kernel_rfl),hall 21 (by kernel_rfl),hall 22 (by kernel_rfl),if_true,Act.put,List.setIfInBounds_toArray,List.set_cons_zero,List.set_cons_succ];try go_wp2
 go_ret;exact ⟨by first | rfl | (simp [errW_none,errW_some] <;> rfl) | (simp [*,errW_none,errW_some] <;> rfl),hn HB⟩
end Go.Proofs.Ytpbhkdamkbopkaa.GDefl
namespace Go.Proofs.Ytpbhkdamkbopkaa.GPxp
open Go.RowKit Go.Proofs.YtpbhkdamkbopkaaW.PrintWords Go.Proofs.YtpbhkdamkbopkaaW.PrintLast Go.Proofs.YtpbhkdamkbopkaaW.PrintMore Go.Proofs.Ytpbhkdamkbopkaa.Wr2 Go.Proofs.Ytpbhkdamkbopkaa.Wr1 Go.Proofs.Ytpbhkdamkbopkaa.GRuns Go.Proofs.Ytpbhkdamkbopkaa.GBack2 Go.Proofs.Ytpbhkdamkbopkaa.GPix Go.Proofs.Ytpbhkdamkbopkaa.PR Go.Proofs.Ytpbhkdamkbopkaa.GPixb Go.Proofs.Ytpbhkdamkbopkaa.GDefl
attribute [local go_sem] max2_int min2_int max_two min_two max_three min_three max_four min_four
set_option linter.unusedVariables false
set_option linter.unusedSimpArgs false
def celluloidref11_two.f (a0:Int):Option (ByteArray):=some (strOfNums (([(Int.tmod a0 256) % 256,(wrap64 (Int.tdiv a0 256)) % 256]:List Int)))
set_option maxHeartbeats 8000000 in
set_option maxRecDepth 100000 in
theorem celluloidref11_two.calls (a0 : Int) (r : ByteArray) (w : World) (h : celluloidref11_two.f a0 = some r) :
  Calls Try.prog 86 #[.int .i64 a0] w fun e w'=>e=.returned (.string r)∧Below w.heap.size w w':=by
 have HB:=Aside0.mk (Below.refl w.heap.size w);have H:=h;unfold celluloidref11_two.f at H;clear h;obtain ⟨Qc,hy203⟩:∃ y_:List Int,y_=(([(Int.tmod a0 256) % 256,(wrap64 (Int.tdiv a0 256)) % 256]:List Int)):=⟨_,rfl⟩;replace H:(some (strOfNums Qc))=some r:=by first | (rw [hy203];with_reducible exact H) | (have H2_:=(Option.bind_some _ _).symm.trans H;rw [hy203];with_reducible exact H2_) | (have H2_:=(Option.bind_some _ _).symm.trans H;with_reducible exact H2_) | with_reducible exact H | (rw [hy203];exact H) | exact H
 have Qa:=Aside0.mk hy203;clear hy203;obtain rfl:=Option.some.inj H;go_enter Try.func86,Try.ntmps86;go_wp2_with (first | ((with_reducible refine gate_dst (N:=9) rfl ?_);refine Kd.R_lit (Kd.int .u8) _ 5 ?hg (N:=9) ?hd (xs:=([(Int.tmod a0 256) % 256,(wrap64 (Int.tdiv a0 256)) % 256]:List Int)) (inner:=[.int .u8 ((Int.tmod a0 256) % 256),.int .u8 ((wrap64 (Int.tdiv a0 256)) % 256)]) (ok:=fun _=>True) (okp:=fun _=>True) ?hr ?hp (fun _ hk=>hk) trivial (Below.refl _ _) (Nat.le_refl _) (by simp) ?_;(case hd=>rfl);(case hg=>rfl);(case hr=>first | (go_simp;done) | (go_simp;rfl));(case hp=>exact (Reps.one (show Kd.M (Kd.int .u8) _ _ _ ((Int.tmod a0 256) % 256) [.int .u8 ((Int.tmod a0 256) % 256)] from rfl) (Reps.one (show Kd.M (Kd.int .u8) _ _ _ ((wrap64 (Int.tdiv a0 256)) % 256) [.int .u8 ((wrap64 (Int.tdiv a0 256)) % 256)] from rfl) (Reps.none _ _))));intro v204 w2 ho3 hb hg_ hnew_;clear hg_ hnew_;(first | rw [← Qa.out] at ho3 | (simp only [Int.reduceToNat] at ho3;rw [← Qa.out] at ho3));have n0_:=Aside0.mk (Kd.R_lower ho3 (below_size (by repeat (first | (with_reducible first | exact HB.out | apply below_alloc | apply pw_below_drewN | apply below_drew1) | exact HB.out))));have n1_:=Aside0.mk (below_step (by repeat (first | (with_reducible first | exact HB.out | apply below_alloc | apply pw_below_drewN | apply below_drew1) | exact HB.out)) hb);clear HB;have Qb:=n0_;have HB:=n1_;clear n0_ n1_;clear hb ho3;have hcv4:=own_string (P:=Try.prog) Try.underlying40 Try.underlying5 Try.underlying9 (Kd.own_of_R Qb.out)))
 go_ret;exact ⟨by first | rfl | (simp [errW_none,errW_some] <;> rfl) | (simp [*,errW_none,errW_some] <;> rfl),by repeat (first | (with_reducible first | exact HB.out | apply below_alloc | apply pw_below_drewN | apply below_drew1) | exact HB.out)⟩
def celluloidref11_Raw.l0:Nat → List Int → Int → Int → Int → Int → List (S89) → Option (ByteArray)
 |0,_,_,_,_,_,_=>none
 |k+1,x3,x4,x207000,x207001,x207002,x207003=>if x4 < (x207003.length:Int) then (if 0≤x4 then ((some (([((rd_T89 x207003 x4).f3) % 256]:List Int):List Int)).bind fun y209=>(if x3.length+y209.length < 140737488355328 then ((some (x3 ++ y209:List Int)).bind fun y212=>((some (([((rd_T89 x207003 x4).f0) % 256]:List Int):List Int)).bind fun y215=>(if y212.length+y215.length < 140737488355328 then ((some (y212 ++ y215:List Int)).bind fun y218=>((some (([((rd_T89 x207003 x4).f1) % 256]:List Int):List Int)).bind fun y221=>(if y218.length+y221.length < 140737488355328 then ((some (y218 ++ y221:List Int)).bind fun y224=>((some (([((rd_T89 x207003 x4).f2) % 256]:List Int):List Int)).bind fun y227=>(if y224.length+y227.length < 140737488355328 then (celluloidref11_Raw.l0 k (y224 ++ y227) (wrap64 (x4+1)) x207000 x207001 x207002 x207003) else (none)))) else (none)))) else (none)))) else (none))) else (none)) else (some (strOfNums x3))
def celluloidref11_Raw.f (k:Nat) (a0_0:Int) (a0_1:Int) (a0_2:Int) (l0_3:List (S89)):Option (ByteArray):=celluloidref11_Raw.l0 k ([]:List Int) 0 a0_0 a0_1 a0_2 l0_3
def celluloidref11_Raw.T6:Bool × List (List Nat × List Nat):=(true,[([],[]),([],[]),([1],[1]),([2],[2]),([3],[3]),([0,4],[0,4]),([],[]),([6],[6]),([7],[7]),([8],[8]),([5,9,5],[5,9]),([],[]),([11],[11]),([12],[12]),([13],[13]),([10,14,10],[10,14]),([],[]),([16],[16]),([17],[17]),([18],[18]),([15,19,15],[15,19]),([20,20,0,1,2,3,4,5,6,7,8,9,10,11,12,13,14,15,16,17,18,19,20],[0,20])])
def celluloidref11_Raw.B6:List Nat:=[0,0,2,6,14,31,0,64,192,448,1023,0,2048,6144,14336,32767,0,65536,196608,458752,1048575,2097151]
theorem celluloidref11_Raw.tab6:rtab .any (opsOf Try.f87 6)=celluloidref11_Raw.T6:=by kernel_rfl
theorem celluloidref11_Raw.bits6:waitsOk celluloidref11_Raw.T6.2 celluloidref11_Raw.B6=true:=by kernel_rfl
end Go.Proofs.Ytpbhkdamkbopkaa.GPxp
