/- Parts of the proof, glued by a program of this session (wip/tools/claimfit.py). -/
import Derived.Test.YtpbhkdamkbopkaaMPTF
namespace Go.Proofs.Ytpbhkdamkbopkaa.GPixb
open Go.Proofs.Ytpbhkdamkbopkaa.Sq
open Go.RowKit Go.Proofs.YtpbhkdamkbopkaaW.PrintWords Go.Proofs.YtpbhkdamkbopkaaW.PrintLast Go.Proofs.YtpbhkdamkbopkaaW.PrintMore Go.Proofs.Ytpbhkdamkbopkaa.Wr2 Go.Proofs.Ytpbhkdamkbopkaa.Wr1 Go.Proofs.Ytpbhkdamkbopkaa.GRuns Go.Proofs.Ytpbhkdamkbopkaa.GBack2 Go.Proofs.Ytpbhkdamkbopkaa.GPix Go.Proofs.Ytpbhkdamkbopkaa.PR
attribute [local go_sem] max2_int min2_int max_two min_two max_three min_three max_four min_four
set_option linter.unusedVariables false
set_option linter.unusedSimpArgs false
def pixel_Put.l0:Nat → List Int → List (S89) → Int → Int → ByteArray → Int → Option (ByteArray × Int)
 |0,_,_,_,_,_,_=>none
 |k+1,x6,x40,x41,x42,x109000,x109001=>if x42 < x41 then (if 0≤x42 then (if x42 < (x40.length:Int) then ((some (([((rd_T89 x40 x42).f3) % 256,((rd_T89 x40 x42).f0) % 256,((rd_T89 x40 x42).f1) % 256,((rd_T89 x40 x42).f2) % 256]:List Int):List Int)).bind fun y122=>(if x6.length+y122.length < 140737488355328 then (pixel_Put.l0 k (x6 ++ y122) x40 x41 (wrap64 (x42+1)) x109000 x109001) else (none))) else (none)) else (none)) else ((deflate_Close.f k (strOfNums x6)).bind fun bt128=>(if x109000.size+bt128.1.size≤9223372036854775807 then (some (x109000 ++ bt128.1,bt128.2)) else (none)))
def pixel_Put.f (k:Nat) (a0_0:Int) (a0_1:Int) (a0_2:Int) (l0_3:List (S89)):Option (ByteArray × Int):=(pixel_Right.f k a0_0 a0_1 a0_2 l0_3).bind fun t104=>(if t104=true then ((bits_PutLittle.f k (⟨#[]⟩:ByteArray) 0 a0_0 2).bind fun bt105=>((bits_PutBytes.f bt105.1 bt105.2.1 (strOfNums (([5]:List Int)))).bind fun bt112=>((bits_PutLittle.f k bt112.1 bt112.2 a0_1 2).bind fun bt114=>((bits_PutLittle.f k bt114.1 bt114.2.1 a0_2 2).bind fun bt117=>(pixel_Put.l0 k ([]:List Int) l0_3 (l0_3.length:Int) 0 bt117.1 bt117.2.1))))) else (some ((⟨#[]⟩:ByteArray),1)))
theorem pixel_Put.mono_l:∀ k,(∀ y0 y1 y2 y3 y4 y5,LeO (pixel_Put.l0 k y0 y1 y2 y3 y4 y5) (pixel_Put.l0 (k+1) y0 y1 y2 y3 y4 y5))
 |0=>fun _ _ _ _ _ _ r h=>by simp [pixel_Put.l0] at h
 |k+1=>by
  have ih0:=pixel_Put.mono_l k
  ·intro y0 y1 y2 y3 y4 y5
   unfold pixel_Put.l0
   repeat' first
   |(with_reducible exact ih0 _ _ _ _ _ _)
   |(with_reducible exact bits_PutLittle.mono _ _ _ _ _)
   |(with_reducible exact deflate_Close.mono _ _)
   |(with_reducible exact pixel_Right.mono _ _ _ _ _)
   |(with_reducible exact LeO.refl _)
   |(with_reducible exact LeO.none _)
   |(with_reducible refine LeO.ite ?_ ?_)
   |(with_reducible refine LeO.bind ?_ (fun _=>?_))
   |exact ih0 _ _ _ _ _ _
   |exact bits_PutLittle.mono _ _ _ _ _
   |exact deflate_Close.mono _ _
   |exact pixel_Right.mono _ _ _ _ _
   |exact LeO.none _
   |refine LeO.ite ?_ ?_
   |refine LeO.bind ?_ (fun _=>?_)
theorem pixel_Put.mono:∀ a0 a1 a2 a3 k,LeO (pixel_Put.f k a0 a1 a2 a3) (pixel_Put.f (k+1) a0 a1 a2 a3):=by
 intro a0 a1 a2 a3 k
 have ih0:=pixel_Put.mono_l k
 unfold pixel_Put.f
 repeat' first
   |(with_reducible exact ih0 _ _ _ _ _ _)
   |(with_reducible exact bits_PutLittle.mono _ _ _ _ _)
   |(with_reducible exact deflate_Close.mono _ _)
   |(with_reducible exact pixel_Right.mono _ _ _ _ _)
   |(with_reducible exact LeO.refl _)
   |(with_reducible exact LeO.none _)
   |(with_reducible refine LeO.ite ?_ ?_)
   |(with_reducible refine LeO.bind ?_ (fun _=>?_))
   |exact ih0 _ _ _ _ _ _
   |exact bits_PutLittle.mono _ _ _ _ _
   |exact deflate_Close.mono _ _
   |exact pixel_Right.mono _ _ _ _ _
   |exact LeO.none _
   |refine LeO.ite ?_ ?_
   |refine LeO.bind ?_ (fun _=>?_)
set_option maxHeartbeats 8000000 in
set_option maxRecDepth 100000 in
theorem pixel_Put.calls (k : Nat) (a0_0 : Int) (a0_1 : Int) (a0_2 : Int) (A0_3 : Option Addr) (c0_3 : Nat) (l0_3 : List (S89)) (r1 : ByteArray) (r2 : Int) (w : World) (hr0_3 : Kd.C k89 w A0_3 l0_3.length l0_3) (hc0_3 : l0_3.length ≤ c0_3) (h : pixel_Put.f k a0_0 a0_1 a0_2 l0_3 = some (r1, r2)) :
  Calls Try.prog 50 #[.agg #[.int .i64 a0_0,.int .i64 a0_1,.int .i64 a0_2,.slice A0_3 l0_3.length c0_3]] w fun e w'=>e=.returned (.tuple #[.string r1,.int .i64 r2])∧Below w.heap.size w w':=by
 have hu76:=Try.underlying76
 have hu124:=Try.underlying124
 have hu89:=Try.underlying89
 have HR0_3:=Aside0.mk hr0_3
 have HC0_3:=Aside0.mk hc0_3
 clear hr0_3 hc0_3
 have HB:=Aside0.mk (Below.refl w.heap.size w)
 have H:((pixel_Right.f k a0_0 a0_1 a0_2 l0_3).bind fun t104=>(if t104=true then ((bits_PutLittle.f k (⟨#[]⟩:ByteArray) 0 a0_0 2).bind fun bt105=>((bits_PutBytes.f bt105.1 bt105.2.1 (strOfNums (([5]:List Int)))).bind fun bt112=>((bits_PutLittle.f k bt112.1 bt112.2 a0_1 2).bind fun bt114=>((bits_PutLittle.f k bt114.1 bt114.2.1 a0_2 2).bind fun bt117=>(pixel_Put.l0 k ([]:List Int) l0_3 (l0_3.length:Int) 0 bt117.1 bt117.2.1))))) else (some ((⟨#[]⟩:ByteArray),1))))=some (r1,r2):=h
 clear h
 replace H:=Option.bind_eq_some_iff.mp H
 obtain ⟨t104,A20,H⟩:=H
 replace H:(if t104=true then ((bits_PutLittle.f k (⟨#[]⟩:ByteArray) 0 a0_0 2).bind fun bt105=>((bits_PutBytes.f bt105.1 bt105.2.1 (strOfNums (([5]:List Int)))).bind fun bt112=>((bits_PutLittle.f k bt112.1 bt112.2 a0_1 2).bind fun bt114=>((bits_PutLittle.f k bt114.1 bt114.2.1 a0_2 2).bind fun bt117=>(pixel_Put.l0 k ([]:List Int) l0_3 (l0_3.length:Int) 0 bt117.1 bt117.2.1))))) else (some ((⟨#[]⟩:ByteArray),1)))=some (r1,r2):=H
 have A2:=Aside0.mk A20
 clear A20
 by_cases c3:t104=true
 ·subst c3
  have H1:((bits_PutLittle.f k (⟨#[]⟩:ByteArray) 0 a0_0 2).bind fun bt105=>((bits_PutBytes.f bt105.1 bt105.2.1 (strOfNums (([5]:List Int)))).bind fun bt112=>((bits_PutLittle.f k bt112.1 bt112.2 a0_1 2).bind fun bt114=>((bits_PutLittle.f k bt114.1 bt114.2.1 a0_2 2).bind fun bt117=>(pixel_Put.l0 k ([]:List Int) l0_3 (l0_3.length:Int) 0 bt117.1 bt117.2.1)))))=some (r1,r2):=by rw [if_pos rfl] at H;exact H
  clear H
  have H:=H1
  clear H1
  replace H:=Option.bind_eq_some_iff.mp H
  obtain ⟨⟨t105,t106,t107⟩,A40,H⟩:=H
  replace H:((bits_PutBytes.f t105 t106 (strOfNums (([5]:List Int)))).bind fun bt112=>((bits_PutLittle.f k bt112.1 bt112.2 a0_1 2).bind fun bt114=>((bits_PutLittle.f k bt114.1 bt114.2.1 a0_2 2).bind fun bt117=>(pixel_Put.l0 k ([]:List Int) l0_3 (l0_3.length:Int) 0 bt117.1 bt117.2.1))))=some (r1,r2):=H
  have A4:=Aside0.mk A40
  clear A40
  obtain ⟨y109,hy109⟩:∃ y_:List Int,y_=(([5]:List Int)):=⟨_,rfl⟩
  replace H:((bits_PutBytes.f t105 t106 (strOfNums y109)).bind fun bt112=>((bits_PutLittle.f k bt112.1 bt112.2 a0_1 2).bind fun bt114=>((bits_PutLittle.f k bt114.1 bt114.2.1 a0_2 2).bind fun bt117=>(pixel_Put.l0 k ([]:List Int) l0_3 (l0_3.length:Int) 0 bt117.1 bt117.2.1))))=some (r1,r2):=by first | (rw [hy109];with_reducible exact H) | (have H2_:=(Option.bind_some _ _).symm.trans H;rw [hy109];with_reducible exact H2_) | (have H2_:=(Option.bind_some _ _).symm.trans H;with_reducible exact H2_) | with_reducible exact H | (rw [hy109];exact H) | exact H
  have Ny109:=Aside0.mk hy109
  clear hy109
  replace H:=Option.bind_eq_some_iff.mp H
  obtain ⟨⟨t112,t113⟩,A50,H⟩:=H
  replace H:((bits_PutLittle.f k t112 t113 a0_1 2).bind fun bt114=>((bits_PutLittle.f k bt114.1 bt114.2.1 a0_2 2).bind fun bt117=>(pixel_Put.l0 k ([]:List Int) l0_3 (l0_3.length:Int) 0 bt117.1 bt117.2.1)))=some (r1,r2):=H
  have A5:=Aside0.mk A50
  clear A50
  replace H:=Option.bind_eq_some_iff.mp H
  obtain ⟨⟨t114,t115,t116⟩,A60,H⟩:=H
  replace H:((bits_PutLittle.f k t114 t115 a0_2 2).bind fun bt117=>(pixel_Put.l0 k ([]:List Int) l0_3 (l0_3.length:Int) 0 bt117.1 bt117.2.1))=some (r1,r2):=H
  have A6:=Aside0.mk A60
  clear A60
  replace H:=Option.bind_eq_some_iff.mp H
  obtain ⟨⟨t117,t118,t119⟩,A70,H⟩:=H
  replace H:(pixel_Put.l0 k ([]:List Int) l0_3 (l0_3.length:Int) 0 t117 t118)=some (r1,r2):=H
  have A7:=Aside0.mk A70
  clear A70
  have H':=Aside0.mk H
  clear H
  go_enter Try.func50,Try.ntmps50
  go_wp2_with (first | ((with_reducible refine gate_dst (N:=1) rfl ?_);refine boxQ 1 #[.int .i64 a0_0,.int .i64 a0_1,.int .i64 a0_2,.slice A0_3 l0_3.length c0_3] 76 ?_;intro gb103 hg w8 hbox hb;have n0_:=hs HB hb;have n1_:=Aside0.mk (hbox);have n2_:=gs HB hg;have n3_:=gs HB hg;clear HB;have HB:=n0_;have BK103:=n1_;have GW103:=n2_;have GE103:=n3_;clear n0_ n1_ n2_ n3_;clear hb hbox hg;obtain ⟨hcz9_0,hcz9_1,hcz9_2,hcz9_3⟩:=cc4 BK103;obtain ⟨hfz9_0,hfz9_1,hfz9_2,hfz9_3⟩:=ff4 BK103) | ((with_reducible refine gate_callee (f:=53) rfl ?_);refine goesQ (some 12) Try.func53 #[.agg #[.int .i64 a0_0,.int .i64 a0_1,.int .i64 a0_2,.slice A0_3 l0_3.length c0_3]] ?_;(with_reducible refine (pixel_Right.calls k a0_0 a0_1 a0_2 _ _ l0_3 true _ ?side1 ?side2 A2.out).mono ?_);(case side1=>repeat (first | exact (Kd.C_below HR0_3.out HB.out) | (with_reducible refine Kd.C_alloc ?_ _) | (with_reducible refine Kd.C_drewN ?_ _) | (with_reducible refine Kd.C_drew ?_)));(case side2=>exact HC0_3.out);rintro e w10 ⟨rfl,hb⟩;refine ⟨_,rfl,?_⟩;have n0_:=bb BK103 hb;have n1_:=hs HB hb;clear BK103;clear HB;have BK103:=n0_;have HB:=n1_;clear n0_ n1_;(try clear hb);obtain ⟨hcz11_0,hcz11_1,hcz11_2,hcz11_3⟩:=cc4 BK103;obtain ⟨hfz11_0,hfz11_1,hfz11_2,hfz11_3⟩:=ff4 BK103) | ((with_reducible refine gate_callee (f:=78) rfl ?_);refine goesQ (some 18) Try.func78 #[.agg #[.string (⟨#[]⟩:ByteArray),.int .i64 0],.int .i64 a0_0,.int .i64 2] ?_;(with_reducible refine (bits_PutLittle.calls k (⟨#[]⟩:ByteArray) 0 a0_0 2 t105 t106 t107 _ A4.out).mono ?_);rintro e w12 ⟨rfl,hb⟩;refine ⟨_,rfl,?_⟩;have n0_:=bb BK103 hb;have n1_:=hs HB hb;clear BK103;clear HB;have BK103:=n0_;have HB:=n1_;clear n0_ n1_;(try clear hb)) | ((with_reducible refine gate_dst (N:=4) rfl ?_);refine boxQ 4 #[.string (⟨#[]⟩:ByteArray),.int .i64 0] 124 ?_;intro gb108 hg w13 hbox hb;have n0_:=bb BK103 hb;have n1_:=hs HB hb;have n2_:=Aside0.mk (hbox);have n3_:=gs HB hg;have n4_:=gs HB hg;have n5_:=nl BK103 hg;have n6_:=ng BK103 hg;clear BK103;clear HB;have BK103:=n0_;have HB:=n1_;have BK108:=n2_;have GW108:=n3_;have GE108:=n4_;have NB103_108:=n5_;have NB108_103:=n6_;clear n0_ n1_ n2_ n3_ n4_ n5_ n6_;clear hb hbox hg;have hnb14:=NB108_103.out;have hnc14:=NB103_108.out;obtain ⟨hcz15_0,hcz15_1⟩:=cc2 BK108;obtain ⟨hfz15_0,hfz15_1⟩:=ff2 BK108) | ((with_reducible refine gate_dst (N:=22) rfl ?_);refine Kd.R_lit (Kd.int .u8) _ 5 ?hg (N:=22) ?hd (xs:=([5]:List Int)) (inner:=[.int .u8 5]) (ok:=fun _=>True) (okp:=fun _=>True) ?hr ?hp (fun _ hk=>hk) trivial (Below.refl _ _) (Nat.le_refl _) (by simp) ?_;(case hd=>rfl);(case hg=>rfl);(case hr=>first | (go_simp;done) | (go_simp;rfl));(case hp=>exact (Reps.one (show Kd.M (Kd.int .u8) _ _ _ 5 [.int .u8 5] from rfl) (Reps.none _ _)));intro v110 w16 ho17 hb hg_ hnew_;clear hg_ hnew_;(first | rw [← Ny109.out] at ho17 | (simp only [Int.reduceToNat] at ho17;rw [← Ny109.out] at ho17));have n0_:=Aside0.mk (Kd.R_lower ho17 (below_size (hn HB)));have n1_:=bb BK103 hb;have n2_:=bp #[.string t105,.int .i64 t106] BK108 hb;have n3_:=hs HB hb;clear BK103;clear BK108;clear HB;have HO111:=n0_;have BK103:=n1_;have BK108:=n2_;have HB:=n3_;clear n0_ n1_ n2_ n3_;clear hb ho17;have hcv18:=own_string (P:=Try.prog) Try.underlying40 Try.underlying5 Try.underlying9 (Kd.own_of_R HO111.out)) | ((with_reducible refine gate_callee (f:=79) rfl ?_);refine goesQ (some 24) Try.func79 #[.agg #[.string t105,.int .i64 t106],.string (strOfNums y109)] ?_;(with_reducible refine (bits_PutBytes.calls t105 t106 (strOfNums y109) t112 t113 _ A5.out).mono ?_);rintro e w19 ⟨rfl,hb⟩;refine ⟨_,rfl,?_⟩;have n0_:=rk HO111 hb;have n1_:=bb BK103 hb;have n2_:=bb BK108 hb;have n3_:=hs HB hb;clear HO111;clear BK103;clear BK108;clear HB;have HO111:=n0_;have BK103:=n1_;have BK108:=n2_;have HB:=n3_;clear n0_ n1_ n2_ n3_;(try clear hb);obtain ⟨hcz20_0,hcz20_1⟩:=cc2 BK108;obtain ⟨hfz20_0,hfz20_1⟩:=ff2 BK108;obtain ⟨hcz21_0,hcz21_1,hcz21_2,hcz21_3⟩:=cc4 BK103;obtain ⟨hfz21_0,hfz21_1,hfz21_2,hfz21_3⟩:=ff4 BK103) | ((with_reducible refine gate_callee (f:=78) rfl ?_);refine goesQ (some 29) Try.func78 #[.agg #[.string t112,.int .i64 t113],.int .i64 a0_1,.int .i64 2] ?_;(with_reducible refine (bits_PutLittle.calls k t112 t113 a0_1 2 t114 t115 t116 _ A6.out).mono ?_);rintro e w22 ⟨rfl,hb⟩;refine ⟨_,rfl,?_⟩;have n0_:=Aside0.mk (Kd.R_below (by (with_reducible repeat (first | apply Kd.R_alloc | apply Kd.R_drewN | apply Kd.R_drew));exact (Kd.R_mono (Kd.R_far (p:=⟨gb108,1,none⟩) (Kd.R_far (p:=⟨gb108,0,none⟩) (Kd.R_types HO111.out BK108.out (by decide)) (fun _ hk=>hk.2) (.string t112)) (fun _ hk=>hk.2) (.int .i64 t113)) (fun _ h_=>h_.1))) hb);have n1_:=bb BK103 hb;have n2_:=bp #[.string t112,.int .i64 t113] BK108 hb;have n3_:=hs HB hb;clear HO111;clear BK103;clear BK108;clear HB;have HO111:=n0_;have BK103:=n1_;have BK108:=n2_;have HB:=n3_;clear n0_ n1_ n2_ n3_;(try clear hb);obtain ⟨hcz23_0,hcz23_1⟩:=cc2 BK108;obtain ⟨hfz23_0,hfz23_1⟩:=ff2 BK108;obtain ⟨hcz24_0,hcz24_1,hcz24_2,hcz24_3⟩:=cc4 BK103;obtain ⟨hfz24_0,hfz24_1,hfz24_2,hfz24_3⟩:=ff4 BK103) | ((with_reducible refine gate_callee (f:=78) rfl ?_);refine goesQ (some 36) Try.func78 #[.agg #[.string t114,.int .i64 t115],.int .i64 a0_2,.int .i64 2] ?_;(with_reducible refine (bits_PutLittle.calls k t114 t115 a0_2 2 t117 t118 t119 _ A7.out).mono ?_);rintro e w25 ⟨rfl,hb⟩;refine ⟨_,rfl,?_⟩;have n0_:=Aside0.mk (Kd.R_below (by (with_reducible repeat (first | apply Kd.R_alloc | apply Kd.R_drewN | apply Kd.R_drew));exact (Kd.R_mono (Kd.R_far (p:=⟨gb108,1,none⟩) (Kd.R_far (p:=⟨gb108,0,none⟩) (Kd.R_types HO111.out BK108.out (by decide)) (fun _ hk=>hk.2) (.string t114)) (fun _ hk=>hk.2) (.int .i64 t115)) (fun _ h_=>h_.1))) hb);have n1_:=bb BK103 hb;have n2_:=bp #[.string t114,.int .i64 t115] BK108 hb;have n3_:=hs HB hb;clear HO111;clear BK103;clear BK108;clear HB;have HO111:=n0_;have BK103:=n1_;have BK108:=n2_;have HB:=n3_;clear n0_ n1_ n2_ n3_;(try clear hb);obtain ⟨hcz26_0,hcz26_1⟩:=cc2 BK108;obtain ⟨hfz26_0,hfz26_1⟩:=ff2 BK108;obtain ⟨hcz27_0,hcz27_1,hcz27_2,hcz27_3⟩:=cc4 BK103;obtain ⟨hfz27_0,hfz27_1,hfz27_2,hfz27_3⟩:=ff4 BK103))
  go_loopg [6,42] k (fun kq v6 v42 w'=>∃ (x6_1:List Int) (x42_1:Int),v42=.int .i64 x42_1∧Aside0 (pixel_Put.l0 kq x6_1 l0_3 (l0_3.length:Int) x42_1 t117 t118=some (r1,r2))∧Aside0 (kq≤k)∧Aside0 (Kd.R (Kd.int .u8) 5 w' w.heap.size (fun _=>True) v6 x6_1)∧Aside0 (w'.heap[gb103]?=some (.cells #[.int .i64 a0_0,.int .i64 a0_1,.int .i64 a0_2,(.slice A0_3 l0_3.length c0_3)] 76 (0,0)))∧Aside0 (w'.heap[gb108]?=some (.cells #[.string t117,.int .i64 t118] 124 (0,0)))∧Aside0 (Below w.heap.size w w'))
  case atStart=>exact ⟨(([]:List Int)),(0),(by first | rfl | (simp;done) | (simp [*];done)),H',⟨Nat.le_refl _⟩,⟨by first | exact Kd.R_nil _ _ _ _ _ | exact Kd.N_nil _ _ _ _ _ | exact Kd.V_nil _ _ _ _ _ | exact Kd.Q_nil _ _ _ _ _ | exact Kd.S_nil _ _ _ _ _⟩,⟨by (with_reducible repeat (first | refine blk_drewN ?_ _ | refine blk_drew ?_ | refine blk_alloc ?_ _));refine blk_far ?_ NB103_108.out _;(with_reducible repeat (first | refine blk_drewN ?_ _ | refine blk_drew ?_ | refine blk_alloc ?_ _));refine blk_far ?_ NB103_108.out _;(with_reducible repeat (first | refine blk_drewN ?_ _ | refine blk_drew ?_ | refine blk_alloc ?_ _));exact BK103.out⟩,⟨by (with_reducible repeat (first | refine blk_drewN ?_ _ | refine blk_drew ?_ | refine blk_alloc ?_ _));refine blk_put (cs:=#[.string t117,.int .i64 t115]) ?_ 1 _ rfl;(with_reducible repeat (first | refine blk_drewN ?_ _ | refine blk_drew ?_ | refine blk_alloc ?_ _));refine blk_put (cs:=#[.string t114,.int .i64 t115]) ?_ 0 _ rfl;(with_reducible repeat (first | refine blk_drewN ?_ _ | refine blk_drew ?_ | refine blk_alloc ?_ _));exact BK108.out⟩,⟨hn HB⟩⟩
  case round =>
   clear H'
   try clear c1
   try clear hcv1
   try clear p2
   try clear c3
   try clear c5
   try clear c7
   try clear c14
   try clear hcv18
   try clear hcz11_0
   try clear hcz11_1
   try clear hcz11_2
   try clear hcz11_3
   try clear hcz15_0
   try clear hcz15_1
   try clear hcz20_0
   try clear hcz20_1
   try clear hcz21_0
   try clear hcz21_1
   try clear hcz21_2
   try clear hcz21_3
   try clear hcz23_0
   try clear hcz23_1
   try clear hcz24_0
   try clear hcz24_1
   try clear hcz24_2
   try clear hcz24_3
   try clear hcz26_0
   try clear hcz26_1
   try clear hcz27_0
   try clear hcz27_1
   try clear hcz27_2
   try clear hcz27_3
   try clear hcz9_0
   try clear hcz9_1
   try clear hcz9_2
   try clear hcz9_3
   try clear hfz11_0
   try clear hfz11_1
   try clear hfz11_2
   try clear hfz11_3
   try clear hfz15_0
   try clear hfz15_1
   try clear hfz20_0
   try clear hfz20_1
   try clear hfz21_0
   try clear hfz21_1
   try clear hfz21_2
   try clear hfz21_3
   try clear hfz23_0
   try clear hfz23_1
   try clear hfz24_0
   try clear hfz24_1
   try clear hfz24_2
   try clear hfz24_3
   try clear hfz26_0
   try clear hfz26_1
   try clear hfz27_0
   try clear hfz27_1
   try clear hfz27_2
   try clear hfz27_3
   try clear hfz9_0
   try clear hfz9_1
   try clear hfz9_2
   try clear hfz9_3
   obtain ⟨x6_1,x42_1,rfl,HA,HK1,HO_6,BK103,BK108,HB⟩:=hrel
   cases gk with
   |zero=>exact absurd HA.out (by simp [pixel_Put.l0])
   |succ k1 =>
    have H:=HA.out
    clear HA
    simp only [pixel_Put.l0] at H
    by_cases c28:x42_1 < (l0_3.length:Int)
    ·rw [if_pos c28] at H
     have c28b0:decide (x42_1 < (l0_3.length:Int))=true:=decide_eq_true c28
     clear c28
     by_cases c29:0≤x42_1
     ·rw [if_pos c29] at H
      have c29b0:decide (0≤x42_1)=true:=decide_eq_true c29
      clear c29
      by_cases c30:x42_1 < (l0_3.length:Int)
      ·rw [if_pos c30] at H
       have c30b0:decide (x42_1 < (l0_3.length:Int))=true:=decide_eq_true c30
       clear c30
       obtain ⟨y122,hy122⟩:∃ y_:List Int,y_=(([((rd_T89 l0_3 x42_1).f3) % 256,((rd_T89 l0_3 x42_1).f0) % 256,((rd_T89 l0_3 x42_1).f1) % 256,((rd_T89 l0_3 x42_1).f2) % 256]:List Int)):=⟨_,rfl⟩
       replace H:(if x6_1.length+y122.length < 140737488355328 then (pixel_Put.l0 k1 (x6_1 ++ y122) l0_3 (l0_3.length:Int) (wrap64 (x42_1+1)) t117 t118) else (none))=some (r1,r2):=by first | (rw [hy122];with_reducible exact H) | (have H2_:=(Option.bind_some _ _).symm.trans H;rw [hy122];with_reducible exact H2_) | (have H2_:=(Option.bind_some _ _).symm.trans H;with_reducible exact H2_) | with_reducible exact H | (rw [hy122];exact H) | exact H
       have Ny122:=Aside0.mk hy122
       clear hy122
       by_cases c31:x6_1.length+y122.length < 140737488355328
       ·rw [if_pos c31] at H
        have LMc31:=Aside0.mk c31
        clear c31
        obtain ⟨y125,hy125⟩:∃ y_:List Int,y_=(x6_1 ++ y122):=⟨_,rfl⟩
        replace H:(pixel_Put.l0 k1 y125 l0_3 (l0_3.length:Int) (wrap64 (x42_1+1)) t117 t118)=some (r1,r2):=by first | (rw [hy125];with_reducible exact H) | (have H2_:=(Option.bind_some _ _).symm.trans H;rw [hy125];with_reducible exact H2_) | (have H2_:=(Option.bind_some _ _).symm.trans H;with_reducible exact H2_) | with_reducible exact H | (rw [hy125];exact H) | exact H
        have Ny125:=Aside0.mk hy125
        clear hy125
        have H':=Aside0.mk H
        clear H
        have p120:0≤(x42_1:Int):=of_decide_eq_true (by first | (with_reducible assumption) | assumption)
        have q120:x42_1 < (l0_3.length:Int):=of_decide_eq_true (by first | (with_reducible assumption) | assumption)
        obtain ⟨ad120,e120,hx120_0,hx120_1,hx120_2,hx120_3⟩:=at_T89 HR0_3.out x42_1 p120 q120
        cases e120
        replace hx120_0:=(HB.out.cell (World.block_lt_of_cell? w _ hx120_0)).trans hx120_0
        replace hx120_1:=(HB.out.cell (World.block_lt_of_cell? w _ hx120_1)).trans hx120_1
        replace hx120_2:=(HB.out.cell (World.block_lt_of_cell? w _ hx120_2)).trans hx120_2
        replace hx120_3:=(HB.out.cell (World.block_lt_of_cell? w _ hx120_3)).trans hx120_3
        replace p120:=eq_true p120
        replace q120:=eq_true q120
        go_wp2_with (first | ((with_reducible refine gate_dst (N:=8) rfl ?_);refine boxQ 8 #[.int .i64 0,.int .i64 0,.int .i64 0,.int .i64 0] 89 ?_;intro gb121 hg w32 hbox hb;have n0_:=rk HO_6 hb;have n1_:=bb BK103 hb;have n2_:=bb BK108 hb;have n3_:=hs HB hb;have n4_:=Aside0.mk (hbox);have n5_:=gs HB hg;have n6_:=gs HB hg;have n7_:=nl BK103 hg;have n8_:=ng BK103 hg;have n9_:=nl BK108 hg;have n10_:=ng BK108 hg;clear HO_6;clear BK103;clear BK108;clear HB;have HO_6:=n0_;have BK103:=n1_;have BK108:=n2_;have HB:=n3_;have BK121:=n4_;have GW121:=n5_;have GE121:=n6_;have NB103_121:=n7_;have NB121_103:=n8_;have NB108_121:=n9_;have NB121_108:=n10_;clear n0_ n1_ n2_ n3_ n4_ n5_ n6_ n7_ n8_ n9_ n10_;clear hb hbox hg;have hnb33:=NB121_103.out;have hnc33:=NB103_121.out;have hnb34:=NB121_108.out;have hnc34:=NB108_121.out;obtain ⟨hcz35_0,hcz35_1,hcz35_2,hcz35_3⟩:=cc4 BK121;obtain ⟨hfz35_0,hfz35_1,hfz35_2,hfz35_3⟩:=ff4 BK121) | ((with_reducible refine gate_dst (N:=59) rfl ?_);refine Kd.R_lit (Kd.int .u8) _ 5 ?hg (N:=59) ?hd (xs:=([((rd_T89 l0_3 x42_1).f3) % 256,((rd_T89 l0_3 x42_1).f0) % 256,((rd_T89 l0_3 x42_1).f1) % 256,((rd_T89 l0_3 x42_1).f2) % 256]:List Int)) (inner:=[.int .u8 (((rd_T89 l0_3 x42_1).f3) % 256),.int .u8 (((rd_T89 l0_3 x42_1).f0) % 256),.int .u8 (((rd_T89 l0_3 x42_1).f1) % 256),.int .u8 (((rd_T89 l0_3 x42_1).f2) % 256)]) (ok:=fun _=>True) (okp:=fun _=>True) ?hr ?hp (fun _ hk=>hk) trivial (Below.refl _ _) (Nat.le_refl _) (by simp) ?_;(case hd=>rfl);(case hg=>rfl);(case hr=>first | (go_simp;done) | (go_simp;rfl));(case hp=>exact (Reps.one (show Kd.M (Kd.int .u8) _ _ _ (((rd_T89 l0_3 x42_1).f3) % 256) [.int .u8 (((rd_T89 l0_3 x42_1).f3) % 256)] from rfl) (Reps.one (show Kd.M (Kd.int .u8) _ _ _ (((rd_T89 l0_3 x42_1).f0) % 256) [.int .u8 (((rd_T89 l0_3 x42_1).f0) % 256)] from rfl) (Reps.one (show Kd.M (Kd.int .u8) _ _ _ (((rd_T89 l0_3 x42_1).f1) % 256) [.int .u8 (((rd_T89 l0_3 x42_1).f1) % 256)] from rfl) (Reps.one (show Kd.M (Kd.int .u8) _ _ _ (((rd_T89 l0_3 x42_1).f2) % 256) [.int .u8 (((rd_T89 l0_3 x42_1).f2) % 256)] from rfl) (Reps.none _ _))))));intro v123 w36 ho37 hb hg_ hnew_;clear hg_ hnew_;(first | rw [← Ny122.out] at ho37 | (simp only [Int.reduceToNat] at ho37;rw [← Ny122.out] at ho37));have n0_:=Aside0.mk (Kd.R_elder' (by (with_reducible repeat (first | apply Kd.R_alloc | apply Kd.R_drewN | apply Kd.R_drew));exact (Kd.R_mono (Kd.R_far (p:=⟨gb121,3,none⟩) (Kd.R_far (p:=⟨gb121,2,none⟩) (Kd.R_far (p:=⟨gb121,1,none⟩) (Kd.R_far (p:=⟨gb121,0,none⟩) (Kd.R_types HO_6.out BK121.out (by decide)) (fun _ hk=>hk.2) (.int .i64 ((rd_T89 l0_3 x42_1).f0))) (fun _ hk=>hk.2) (.int .i64 ((rd_T89 l0_3 x42_1).f1))) (fun _ hk=>hk.2) (.int .i64 ((rd_T89 l0_3 x42_1).f2))) (fun _ hk=>hk.2) (.int .i64 ((rd_T89 l0_3 x42_1).f3))) (fun _ h_=>h_.1))) (Kd.R_base ho37) hb);have n1_:=Aside0.mk (Kd.R_lower (Kd.R_new' ho37 (Kd.R_lt (by (with_reducible repeat (first | apply Kd.R_alloc | apply Kd.R_drewN | apply Kd.R_drew));exact (Kd.R_mono (Kd.R_far (p:=⟨gb121,3,none⟩) (Kd.R_far (p:=⟨gb121,2,none⟩) (Kd.R_far (p:=⟨gb121,1,none⟩) (Kd.R_far (p:=⟨gb121,0,none⟩) (Kd.R_types HO_6.out BK121.out (by decide)) (fun _ hk=>hk.2) (.int .i64 ((rd_T89 l0_3 x42_1).f0))) (fun _ hk=>hk.2) (.int .i64 ((rd_T89 l0_3 x42_1).f1))) (fun _ hk=>hk.2) (.int .i64 ((rd_T89 l0_3 x42_1).f2))) (fun _ hk=>hk.2) (.int .i64 ((rd_T89 l0_3 x42_1).f3))) (fun _ h_=>h_.1))))) (below_size (hn HB)));have n2_:=bb BK103 hb;have n3_:=bb BK108 hb;have n4_:=bp #[.int .i64 ((rd_T89 l0_3 x42_1).f0),.int .i64 ((rd_T89 l0_3 x42_1).f1),.int .i64 ((rd_T89 l0_3 x42_1).f2),.int .i64 ((rd_T89 l0_3 x42_1).f3)] BK121 hb;have n5_:=hs HB hb;clear HO_6;clear BK103;clear BK108;clear BK121;clear HB;have HO_6:=n0_;have HO124:=n1_;have BK103:=n2_;have BK108:=n3_;have BK121:=n4_;have HB:=n5_;clear n0_ n1_ n2_ n3_ n4_ n5_;clear hb ho37;obtain ⟨Ao39,co39,eo39⟩:=Kd.R_slice HO124.out;subst eo39) | ((with_reducible refine gate_builtin (b:=.append) (xs:=#[.tmp 46,.tmp 59]) rfl ?_);at_builtin;refine Kd.R_append_rows (Kd.int .u8) (w0:=w) w.heap.size rfl (.tmp 46) (.tmp 59) 40 5 (.int .u8 0) 1 rfl Try.underlying40 GPix.info5 rfl (by decide) (by omega) u6 x6_1 y122 _ _ _ (fun k_=>some k_ ≠ (.slice Ao39 y122.length co39:Value).ownBlock) (fun _=>False) rfl rfl ?aO ?aR (fun _ _ h=>h) (fun _ h=>h.elim) ?aF ?aB ?aS ?aL ?_;(case aR=>repeat (first | exact (Kd.R_reads' HO124.out).2.2 | (with_reducible refine Kd.C_alloc ?_ _) | (with_reducible refine Kd.C_drewN ?_ _) | (with_reducible refine Kd.C_drew ?_)));(case aB=>exact (hn HB));(case aF=>exact (fun k_ hk=>Kd.fresh' (Kd.R_lt (by (with_reducible repeat (first | apply Kd.R_alloc | apply Kd.R_drewN | apply Kd.R_drew));exact HO124.out)) k_ hk));(case aO=>exact (by (with_reducible repeat (first | apply Kd.R_alloc | apply Kd.R_drewN | apply Kd.R_drew));exact Kd.R_mono HO_6.out (fun _ hk=>hk.2)));(case aS=>exact (below_size (hn HB)));(case aL=>have:=LMc31.out;omega);intro v126 w38 ho hb hg hat;rw [← Ny125.out] at ho;have n0_:=Aside0.mk (blk_grown (g:=gb103) (o:=.cells #[.int .i64 a0_0,.int .i64 a0_1,.int .i64 a0_2,.slice (some ad120) l0_3.length c0_3] 76 (0,0)) (by (with_reducible repeat (first | refine blk_drewN ?_ _ | refine blk_drew ?_ | refine blk_alloc ?_ _));exact BK103.out) hg (Kd.R_ne HO_6.out BK103.out (by decide)));have n1_:=Aside0.mk (blk_grown (g:=gb108) (o:=.cells #[.string t117,.int .i64 t118] 124 (0,0)) (by (with_reducible repeat (first | refine blk_drewN ?_ _ | refine blk_drew ?_ | refine blk_alloc ?_ _));exact BK108.out) hg (Kd.R_ne HO_6.out BK108.out (by decide)));have n2_:=Aside0.mk (blk_grown (g:=gb121) (o:=.cells #[.int .i64 ((rd_T89 l0_3 x42_1).f0),.int .i64 ((rd_T89 l0_3 x42_1).f1),.int .i64 ((rd_T89 l0_3 x42_1).f2),.int .i64 ((rd_T89 l0_3 x42_1).f3)] 89 (0,0)) (by (with_reducible repeat (first | refine blk_drewN ?_ _ | refine blk_drew ?_ | refine blk_alloc ?_ _));exact BK121.out) hg (Kd.R_ne HO_6.out BK121.out (by decide)));have n3_:=Aside0.mk (Kd.R_after (ok:=(fun _=>True)) (by (with_reducible repeat (first | apply Kd.R_alloc | apply Kd.R_drewN | apply Kd.R_drew));exact HO124.out) hg hat);have n4_:=Aside0.mk (hb);have n5_:=Aside0.mk (ho);clear BK103;clear BK108;clear BK121;clear HO124;clear HB;clear HO_6;have BK103:=n0_;have BK108:=n1_;have BK121:=n2_;have HO124:=n3_;have HB:=n4_;have HO127:=n5_;clear n0_ n1_ n2_ n3_ n4_ n5_;clear ho hb hg hat))
        go_roundg k1
        case measure=>have:=HK1.out;omega
        case rel=>exact ⟨(y125),(wrap64 (x42_1+1)),(by first | rfl | (simp;done) | (simp [*];done)),H',⟨by have:=HK1.out;omega⟩,⟨by (with_reducible repeat (first | apply Kd.R_alloc | apply Kd.R_drewN | apply Kd.R_drew));exact Kd.R_mono HO127.out (fun _ hk=>trivial)⟩,⟨by (with_reducible repeat (first | refine blk_drewN ?_ _ | refine blk_drew ?_ | refine blk_alloc ?_ _));exact BK103.out⟩,⟨by (with_reducible repeat (first | refine blk_drewN ?_ _ | refine blk_drew ?_ | refine blk_alloc ?_ _));exact BK108.out⟩,⟨hn HB⟩⟩
       ·rw [if_neg c31] at H
        exact absurd H (by simp)
      ·rw [if_neg c30] at H
       exact absurd H (by simp)
     ·rw [if_neg c29] at H
      exact absurd H (by simp)
    ·rw [if_neg c28] at H
     have c28b0:decide (x42_1 < (l0_3.length:Int))=false:=decide_eq_false c28
     clear c28
     replace H:=Option.bind_eq_some_iff.mp H
     obtain ⟨⟨t128,t129⟩,A400,H⟩:=H
     replace H:(if t117.size+t128.size≤9223372036854775807 then (some (t117 ++ t128,t129)) else (none))=some (r1,r2):=H
     have A40:=Aside0.mk A400
     clear A400
     by_cases c41:t117.size+t128.size≤9223372036854775807
     ·rw [if_pos c41] at H
      have c41b0:=eq_true c41
      have c41b1:decide (t117.size+t128.size≤9223372036854775807)=true:=decide_eq_true c41
      try have c41b2:(9223372036854775807 < t117.size+t128.size)=False:=eq_false (Nat.not_lt.2 c41)
      simp only [Option.some.injEq,Prod.mk.injEq] at H
      obtain ⟨rfl,rfl⟩:=H
      have hcv42:=own_string (P:=Try.prog) Try.underlying40 Try.underlying5 Try.underlying9 (Kd.own_of_R HO_6.out)
      go_wp2_with (first | ((with_reducible refine gate_callee (f:=40) rfl ?_);refine goesQ (some 65) Try.func40 #[.string (strOfNums x6_1)] ?_;(with_reducible refine (deflate_Close.calls k1 (strOfNums x6_1) t128 t129 _ A40.out).mono ?_);rintro e w43 ⟨rfl,hb⟩;refine ⟨_,rfl,?_⟩;have n0_:=rk HO_6 hb;have n1_:=bb BK103 hb;have n2_:=bb BK108 hb;have n3_:=hs HB hb;clear HO_6;clear BK103;clear BK108;clear HB;have HO_6:=n0_;have BK103:=n1_;have BK108:=n2_;have HB:=n3_;clear n0_ n1_ n2_ n3_;(try clear hb);have hnb44:=NB108_103.out;have hnc44:=NB103_108.out;obtain ⟨hcz45_0,hcz45_1⟩:=cc2 BK108;obtain ⟨hfz45_0,hfz45_1⟩:=ff2 BK108))
      go_ret2
      exact ⟨by first | rfl | (simp [errW_none,errW_some] <;> rfl) | (simp [*,errW_none,errW_some] <;> rfl),hn HB⟩
     ·rw [if_neg c41] at H
      exact absurd H (by simp)
 ·replace c3:=Bool.eq_false_iff.mpr c3
  subst c3
  have H1:(some ((⟨#[]⟩:ByteArray),1))=some (r1,r2):=by rw [if_neg (show ¬ (false=true) by decide)] at H;exact H
  clear H
  have H:=H1
  clear H1
  simp only [Option.some.injEq,Prod.mk.injEq] at H
  obtain ⟨rfl,rfl⟩:=H
  go_enter Try.func50,Try.ntmps50
  go_wp2_with (first | ((with_reducible refine gate_dst (N:=1) rfl ?_);refine boxQ 1 #[.int .i64 a0_0,.int .i64 a0_1,.int .i64 a0_2,.slice A0_3 l0_3.length c0_3] 76 ?_;intro gb103 hg w46 hbox hb;have n0_:=hs HB hb;have n1_:=Aside0.mk (hbox);have n2_:=gs HB hg;have n3_:=gs HB hg;clear HB;have HB:=n0_;have BK103:=n1_;have GW103:=n2_;have GE103:=n3_;clear n0_ n1_ n2_ n3_;clear hb hbox hg;obtain ⟨hcz47_0,hcz47_1,hcz47_2,hcz47_3⟩:=cc4 BK103;obtain ⟨hfz47_0,hfz47_1,hfz47_2,hfz47_3⟩:=ff4 BK103) | ((with_reducible refine gate_callee (f:=53) rfl ?_);refine goesQ (some 12) Try.func53 #[.agg #[.int .i64 a0_0,.int .i64 a0_1,.int .i64 a0_2,.slice A0_3 l0_3.length c0_3]] ?_;(with_reducible refine (pixel_Right.calls k a0_0 a0_1 a0_2 _ _ l0_3 false _ ?side1 ?side2 A2.out).mono ?_);(case side1=>repeat (first | exact (Kd.C_below HR0_3.out HB.out) | (with_reducible refine Kd.C_alloc ?_ _) | (with_reducible refine Kd.C_drewN ?_ _) | (with_reducible refine Kd.C_drew ?_)));(case side2=>exact HC0_3.out);rintro e w48 ⟨rfl,hb⟩;refine ⟨_,rfl,?_⟩;have n0_:=bb BK103 hb;have n1_:=hs HB hb;clear BK103;clear HB;have BK103:=n0_;have HB:=n1_;clear n0_ n1_;(try clear hb)))
  go_ret2
  exact ⟨by first | rfl | (simp [errW_none,errW_some] <;> rfl) | (simp [*,errW_none,errW_some] <;> rfl),hn HB⟩
def pixel_Take.f (k:Nat) (a0:ByteArray):Option (Int × Int × Int × (List (S89)) × Int):=(pixel_head.f k a0 0).bind fun bt231=>(if bt231.2.2.2.2.2.2=0 then ((inflate_Open.f k bt231.2.2.2.2.2.1 262144).bind fun bt241=>(if bt241.2=0 then (if bt231.2.2.2.2.1 > 0 then ((pixel_numbered.f k bt241.1 bt231.2.2.2.2.1 bt231.2.1 bt231.2.2.1).bind fun bt243=>(if bt243.2=true then ((pixel_Right.f k bt231.1 bt231.2.1 bt231.2.2.1 bt243.1).bind fun t247=>(if t247=true then (some (bt231.1,bt231.2.1,bt231.2.2.1,bt243.1,0)) else (some (0,0,0,([]:List (S89)),3)))) else (some (0,0,0,([]:List (S89)),3)))) else ((pixel_plain.f k bt241.1 (wrap64 (bt231.2.1*bt231.2.2.1))).bind fun bt248=>(if bt248.2=true then ((pixel_Right.f k bt231.1 bt231.2.1 bt231.2.2.1 bt248.1).bind fun t252=>(if t252=true then (some (bt231.1,bt231.2.1,bt231.2.2.1,bt248.1,0)) else (some (0,0,0,([]:List (S89)),3)))) else (some (0,0,0,([]:List (S89)),3))))) else (some (0,0,0,([]:List (S89)),bt241.2)))) else (some (0,0,0,([]:List (S89)),bt231.2.2.2.2.2.2)))
theorem pixel_Take.mono:∀ a0 k,LeO (pixel_Take.f k a0) (pixel_Take.f (k+1) a0):=by
 intro a0 k
 unfold pixel_Take.f
 repeat' first
   |(with_reducible exact inflate_Open.mono _ _ _)
   |(with_reducible exact pixel_Right.mono _ _ _ _ _)
   |(with_reducible exact pixel_head.mono _ _ _)
   |(with_reducible exact pixel_numbered.mono _ _ _ _ _)
   |(with_reducible exact pixel_plain.mono _ _ _)
   |(with_reducible exact LeO.refl _)
   |(with_reducible exact LeO.none _)
   |(with_reducible refine LeO.ite ?_ ?_)
   |(with_reducible refine LeO.bind ?_ (fun _=>?_))
   |exact inflate_Open.mono _ _ _
   |exact pixel_Right.mono _ _ _ _ _
   |exact pixel_head.mono _ _ _
   |exact pixel_numbered.mono _ _ _ _ _
   |exact pixel_plain.mono _ _ _
   |exact LeO.none _
   |refine LeO.ite ?_ ?_
   |refine LeO.bind ?_ (fun _=>?_)
set_option maxHeartbeats 8000000 in
set_option maxRecDepth 100000 in
theorem pixel_Take.calls (k : Nat) (a0 : ByteArray) (r1 : Int) (r2 : Int) (r3 : Int) (r4 : List (S89)) (r5 : Int) (w : World) (h : pixel_Take.f k a0 = some (r1, r2, r3, r4, r5)) :
  Calls Try.prog 54 #[.string a0] w fun e w'=>∃ v3_:Value,e=.returned (.tuple #[.agg #[.int .i64 r1,.int .i64 r2,.int .i64 r3,v3_],.int .i64 r5])∧Kd.R k89 89 w' w.heap.size (fun _=>True) v3_ r4∧Below w.heap.size w w':=by
 have hu76:=Try.underlying76
 have hu133:=Try.underlying133
 have HB:=Aside0.mk (Below.refl w.heap.size w)
 have H:((pixel_head.f k a0 0).bind fun bt231=>(if bt231.2.2.2.2.2.2=0 then ((inflate_Open.f k bt231.2.2.2.2.2.1 262144).bind fun bt241=>(if bt241.2=0 then (if bt231.2.2.2.2.1 > 0 then ((pixel_numbered.f k bt241.1 bt231.2.2.2.2.1 bt231.2.1 bt231.2.2.1).bind fun bt243=>(if bt243.2=true then ((pixel_Right.f k bt231.1 bt231.2.1 bt231.2.2.1 bt243.1).bind fun t247=>(if t247=true then (some (bt231.1,bt231.2.1,bt231.2.2.1,bt243.1,0)) else (some (0,0,0,([]:List (S89)),3)))) else (some (0,0,0,([]:List (S89)),3)))) else ((pixel_plain.f k bt241.1 (wrap64 (bt231.2.1*bt231.2.2.1))).bind fun bt248=>(if bt248.2=true then ((pixel_Right.f k bt231.1 bt231.2.1 bt231.2.2.1 bt248.1).bind fun t252=>(if t252=true then (some (bt231.1,bt231.2.1,bt231.2.2.1,bt248.1,0)) else (some (0,0,0,([]:List (S89)),3)))) else (some (0,0,0,([]:List (S89)),3))))) else (some (0,0,0,([]:List (S89)),bt241.2)))) else (some (0,0,0,([]:List (S89)),bt231.2.2.2.2.2.2))))=some (r1,r2,r3,r4,r5):=h
 clear h
 replace H:=Option.bind_eq_some_iff.mp H
 obtain ⟨⟨t231,t232,t233,t234,t237,t238,t239⟩,A20,H⟩:=H
 replace H:(if t239=0 then ((inflate_Open.f k t238 262144).bind fun bt241=>(if bt241.2=0 then (if t237 > 0 then ((pixel_numbered.f k bt241.1 t237 t232 t233).bind fun bt243=>(if bt243.2=true then ((pixel_Right.f k t231 t232 t233 bt243.1).bind fun t247=>(if t247=true then (some (t231,t232,t233,bt243.1,0)) else (some (0,0,0,([]:List (S89)),3)))) else (some (0,0,0,([]:List (S89)),3)))) else ((pixel_plain.f k bt241.1 (wrap64 (t232*t233))).bind fun bt248=>(if bt248.2=true then ((pixel_Right.f k t231 t232 t233 bt248.1).bind fun t252=>(if t252=true then (some (t231,t232,t233,bt248.1,0)) else (some (0,0,0,([]:List (S89)),3)))) else (some (0,0,0,([]:List (S89)),3))))) else (some (0,0,0,([]:List (S89)),bt241.2)))) else (some (0,0,0,([]:List (S89)),t239)))=some (r1,r2,r3,r4,r5):=H
 have A2:=Aside0.mk A20
 clear A20
 by_cases c3:t239=0
 ·rw [if_pos c3] at H
  have c3b0:(t239 == 0)=true:=beq_iff_eq.mpr c3
  have c3b1:(t239 != 0)=false:=bne_eq_false_iff_eq.mpr c3
  clear c3
  replace H:=Option.bind_eq_some_iff.mp H
  obtain ⟨⟨t241,t242⟩,A40,H⟩:=H
  replace H:(if t242=0 then (if t237 > 0 then ((pixel_numbered.f k t241 t237 t232 t233).bind fun bt243=>(if bt243.2=true then ((pixel_Right.f k t231 t232 t233 bt243.1).bind fun t247=>(if t247=true then (some (t231,t232,t233,bt243.1,0)) else (some (0,0,0,([]:List (S89)),3)))) else (some (0,0,0,([]:List (S89)),3)))) else ((pixel_plain.f k t241 (wrap64 (t232*t233))).bind fun bt248=>(if bt248.2=true then ((pixel_Right.f k t231 t232 t233 bt248.1).bind fun t252=>(if t252=true then (some (t231,t232,t233,bt248.1,0)) else (some (0,0,0,([]:List (S89)),3)))) else (some (0,0,0,([]:List (S89)),3))))) else (some (0,0,0,([]:List (S89)),t242)))=some (r1,r2,r3,r4,r5):=H
  have A4:=Aside0.mk A40
  clear A40
  by_cases c5:t242=0
  ·rw [if_pos c5] at H
   have c5b0:(t242 == 0)=true:=beq_iff_eq.mpr c5
   have c5b1:(t242 != 0)=false:=bne_eq_false_iff_eq.mpr c5
   clear c5
   by_cases c6:t237 > 0
   ·rw [if_pos c6] at H
    have c6b0:decide (0 < t237)=true:=decide_eq_true c6
    clear c6
    replace H:=Option.bind_eq_some_iff.mp H
    obtain ⟨⟨t243,t244⟩,A70,H⟩:=H
    replace H:(if t244=true then ((pixel_Right.f k t231 t232 t233 t243).bind fun t247=>(if t247=true then (some (t231,t232,t233,t243,0)) else (some (0,0,0,([]:List (S89)),3)))) else (some (0,0,0,([]:List (S89)),3)))=some (r1,r2,r3,r4,r5):=H
    have A7:=Aside0.mk A70
    clear A70
    by_cases c8:t244=true
    ·subst c8
     have H1:((pixel_Right.f k t231 t232 t233 t243).bind fun t247=>(if t247=true then (some (t231,t232,t233,t243,0)) else (some (0,0,0,([]:List (S89)),3))))=some (r1,r2,r3,r4,r5):=by rw [if_pos rfl] at H;exact H
     clear H
     have H:=H1
     clear H1
     replace H:=Option.bind_eq_some_iff.mp H
     obtain ⟨t247,A90,H⟩:=H
     replace H:(if t247=true then (some (t231,t232,t233,t243,0)) else (some (0,0,0,([]:List (S89)),3)))=some (r1,r2,r3,r4,r5):=H
     have A9:=Aside0.mk A90
     clear A90
     by_cases c10:t247=true
     ·subst c10
      have H1:(some (t231,t232,t233,t243,0))=some (r1,r2,r3,r4,r5):=by rw [if_pos rfl] at H;exact H
      clear H
      have H:=H1
      clear H1
      simp only [Option.some.injEq,Prod.mk.injEq] at H
      obtain ⟨rfl,rfl,rfl,rfl,rfl⟩:=H
      go_enter Try.func54,Try.ntmps54
      go_wp2_with (first | ((with_reducible refine gate_dst (N:=2) rfl ?_);refine boxQ 2 #[.int .i64 0,.int .i64 0,.int .i64 0,.slice none 0 0] 76 ?_;intro gb230 hg w11 hbox hb;have n0_:=hs HB hb;have n1_:=Aside0.mk (hbox);have n2_:=gs HB hg;have n3_:=gs HB hg;clear HB;have HB:=n0_;have BK230:=n1_;have GW230:=n2_;have GE230:=n3_;clear n0_ n1_ n2_ n3_;clear hb hbox hg) | ((with_reducible refine gate_callee (f:=83) rfl ?_);refine goesQ (some 13) Try.func83 #[.agg #[.string a0,.int .i64 0]] ?_;(with_reducible refine (pixel_head.calls k a0 0 t231 t232 t233 t234 t237 t238 t239 _ A2.out).mono ?_);rintro e w12 ⟨v235,rfl,ho0,hb⟩;refine ⟨_,rfl,?_⟩;have n0_:=Aside0.mk (Kd.R_lower ho0 (below_size (hn HB)));have n1_:=bb BK230 hb;have n2_:=hs HB hb;clear BK230;clear HB;have HO236:=n0_;have BK230:=n1_;have HB:=n2_;clear n0_ n1_ n2_;(try clear hb);(try clear ho0)) | ((with_reducible refine gate_dst (N:=4) rfl ?_);refine boxQ 4 #[.int .i64 0,.int .i64 0,.int .i64 0,.slice none 0 0] 76 ?_;intro gb240 hg w13 hbox hb;have n0_:=rk HO236 hb;have n1_:=bb BK230 hb;have n2_:=hs HB hb;have n3_:=Aside0.mk (hbox);have n4_:=gs HB hg;have n5_:=gs HB hg;have n6_:=nl BK230 hg;have n7_:=ng BK230 hg;clear HO236;clear BK230;clear HB;have HO236:=n0_;have BK230:=n1_;have HB:=n2_;have BK240:=n3_;have GW240:=n4_;have GE240:=n5_;have NB230_240:=n6_;have NB240_230:=n7_;clear n0_ n1_ n2_ n3_ n4_ n5_ n6_ n7_;clear hb hbox hg;have hnb14:=NB240_230.out;have hnc14:=NB230_240.out;obtain ⟨hcz15_0,hcz15_1,hcz15_2,hcz15_3⟩:=cc4 BK240;obtain ⟨hfz15_0,hfz15_1,hfz15_2,hfz15_3⟩:=ff4 BK240;obtain ⟨Ao16,co16,eo16⟩:=Kd.R_slice HO236.out;subst eo16) | ((with_reducible refine gate_callee (f:=46) rfl ?_);refine goesQ (some 24) Try.func46 #[.string t238,.int .i64 262144] ?_;(with_reducible refine (inflate_Open.calls k t238 262144 t241 t242 _ A4.out).mono ?_);rintro e w17 ⟨rfl,hb⟩;refine ⟨_,rfl,?_⟩;have n0_:=Aside0.mk (Kd.R_below (by (with_reducible repeat (first | apply Kd.R_alloc | apply Kd.R_drewN | apply Kd.R_drew));exact (Kd.R_mono (Kd.R_far (p:=⟨gb240,3,none⟩) (Kd.R_far (p:=⟨gb240,2,none⟩) (Kd.R_far (p:=⟨gb240,1,none⟩) (Kd.R_far (p:=⟨gb240,0,none⟩) (Kd.R_types HO236.out BK240.out (by decide)) (fun _ hk=>hk.2) (.int .i64 t231)) (fun _ hk=>hk.2) (.int .i64 t232)) (fun _ hk=>hk.2) (.int .i64 t233)) (fun _ hk=>hk.2) (.slice Ao16 t234.length co16)) (fun _ h_=>h_.1))) hb);have n1_:=bb BK230 hb;have n2_:=bp #[.int .i64 t231,.int .i64 t232,.int .i64 t233,.slice Ao16 t234.length co16] BK240 hb;have n3_:=hs HB hb;clear HO236;clear BK230;clear BK240;clear HB;have HO236:=n0_;have BK230:=n1_;have BK240:=n2_;have HB:=n3_;clear n0_ n1_ n2_ n3_;(try clear hb);obtain ⟨hcz18_0,hcz18_1,hcz18_2,hcz18_3⟩:=cc4 BK240;obtain ⟨hfz18_0,hfz18_1,hfz18_2,hfz18_3⟩:=ff4 BK240) | ((with_reducible refine gate_callee (f:=84) rfl ?_);refine goesQ (some 40) Try.func84 #[.string t241,.int .i64 t237,.int .i64 t232,.int .i64 t233] ?_;(with_reducible refine (pixel_numbered.calls k t241 t237 t232 t233 t243 true _ A7.out).mono ?_);rintro e w19 ⟨v245,rfl,ho0,hb⟩;refine ⟨_,rfl,?_⟩;have n0_:=Aside0.mk (Kd.R_elder' (by (with_reducible repeat (first | apply Kd.R_alloc | apply Kd.R_drewN | apply Kd.R_drew));exact HO236.out) (Kd.R_base ho0) hb);have n1_:=Aside0.mk (Kd.R_lower (Kd.R_new' ho0 (Kd.R_lt (by (with_reducible repeat (first | apply Kd.R_alloc | apply Kd.R_drewN | apply Kd.R_drew));exact HO236.out))) (below_size (hn HB)));have n2_:=bb BK230 hb;have n3_:=bb BK240 hb;have n4_:=hs HB hb;clear HO236;clear BK230;clear BK240;clear HB;have HO236:=n0_;have HO246:=n1_;have BK230:=n2_;have BK240:=n3_;have HB:=n4_;clear n0_ n1_ n2_ n3_ n4_;(try clear hb);(try clear ho0);obtain ⟨Ao20,co20,eo20⟩:=Kd.R_slice HO246.out;subst eo20;obtain ⟨hcz21_0,hcz21_1,hcz21_2,hcz21_3⟩:=cc4 BK240;obtain ⟨hfz21_0,hfz21_1,hfz21_2,hfz21_3⟩:=ff4 BK240) | (go_at_call 53;(with_reducible refine (pixel_Right.calls k t231 t232 t233 _ _ t243 true _ ?side1 ?side2 A9.out).mono ?_);(case side1=>refine (Kd.R_reads' (e:=89) (base:=w.heap.size) (ok:=fun k_=>(True∧some k_ ≠ (.slice Ao16 t234.length co16:Value).ownBlock)) (n:=t243.length) (c:=co20) ?_).2.2;exact (by (with_reducible repeat (first | apply Kd.R_alloc | apply Kd.R_drewN | apply Kd.R_drew));exact (Kd.R_mono (Kd.R_far (p:=⟨gb240,3,none⟩) (Kd.R_types HO246.out BK240.out (by decide)) (fun _ hk=>hk.2) (.slice Ao20 t243.length co20)) (fun _ h_=>h_.1))));(case side2=>exact (Kd.R_reads' HO246.out).2.1);rintro e w22 ⟨rfl,hb⟩;have n0_:=Aside0.mk (Kd.R_below (by (with_reducible repeat (first | apply Kd.R_alloc | apply Kd.R_drewN | apply Kd.R_drew));exact (Kd.R_mono (Kd.R_far (p:=⟨gb240,3,none⟩) (Kd.R_types HO236.out BK240.out (by decide)) (fun _ hk=>hk.2) (.slice Ao20 t243.length co20)) (fun _ h_=>h_.1))) hb);have n1_:=Aside0.mk (Kd.R_below (by (with_reducible repeat (first | apply Kd.R_alloc | apply Kd.R_drewN | apply Kd.R_drew));exact (Kd.R_mono (Kd.R_far (p:=⟨gb240,3,none⟩) (Kd.R_types HO246.out BK240.out (by decide)) (fun _ hk=>hk.2) (.slice Ao20 t243.length co20)) (fun _ h_=>h_.1))) hb);have n2_:=bb BK230 hb;have n3_:=bp #[.int .i64 t231,.int .i64 t232,.int .i64 t233,.slice Ao20 t243.length co20] BK240 hb;have n4_:=hs HB hb;clear HO236;clear HO246;clear BK230;clear BK240;clear HB;have HO236:=n0_;have HO246:=n1_;have BK230:=n2_;have BK240:=n3_;have HB:=n4_;clear n0_ n1_ n2_ n3_ n4_;(try clear hb);obtain ⟨hcz23_0,hcz23_1,hcz23_2,hcz23_3⟩:=cc4 BK240;obtain ⟨hfz23_0,hfz23_1,hfz23_2,hfz23_3⟩:=ff4 BK240;obtain ⟨hcz24_0,hcz24_1,hcz24_2,hcz24_3⟩:=cc4 BK230;obtain ⟨hfz24_0,hfz24_1,hfz24_2,hfz24_3⟩:=ff4 BK230))
      refine bodyPost_ret (results_ct rfl _ _ gb230 76 #[.int .i64 t231,.int .i64 t232,.int .i64 t233,.slice Ao20 t243.length co20] (0,0) _ rfl (bq BK230) Try.underlying76 rfl (by kernel_rfl)) rfl ?_
      exact ⟨_,by first | rfl | (simp [errW_none,errW_some] <;> rfl) | (simp [*,errW_none,errW_some] <;> rfl),by (with_reducible repeat (first | apply Kd.R_alloc | apply Kd.R_drewN | apply Kd.R_drew));exact Kd.R_mono (Kd.R_far (p:=⟨gb230,3,none⟩) (Kd.R_far (p:=⟨gb230,2,none⟩) (Kd.R_far (p:=⟨gb230,1,none⟩) (Kd.R_far (p:=⟨gb230,0,none⟩) (Kd.R_types HO246.out BK230.out (by decide)) (fun _ hk=>hk.2) (.int .i64 t231)) (fun _ hk=>hk.2) (.int .i64 t232)) (fun _ hk=>hk.2) (.int .i64 t233)) (fun _ hk=>hk.2) (.slice Ao20 t243.length co20)) (fun _ hk=>trivial),hn HB⟩
     ·replace c10:=Bool.eq_false_iff.mpr c10
      subst c10
      have H1:(some (0,0,0,([]:List (S89)),3))=some (r1,r2,r3,r4,r5):=by rw [if_neg (show ¬ (false=true) by decide)] at H;exact H
      clear H
      have H:=H1
      clear H1
      simp only [Option.some.injEq,Prod.mk.injEq] at H
      obtain ⟨rfl,rfl,rfl,rfl,rfl⟩:=H
      go_enter Try.func54,Try.ntmps54
      go_wp2_with (first | ((with_reducible refine gate_dst (N:=2) rfl ?_);refine boxQ 2 #[.int .i64 0,.int .i64 0,.int .i64 0,.slice none 0 0] 76 ?_;intro gb230 hg w25 hbox hb;have n0_:=hs HB hb;have n1_:=Aside0.mk (hbox);have n2_:=gs HB hg;have n3_:=gs HB hg;clear HB;have HB:=n0_;have BK230:=n1_;have GW230:=n2_;have GE230:=n3_;clear n0_ n1_ n2_ n3_;clear hb hbox hg) | ((with_reducible refine gate_callee (f:=83) rfl ?_);refine goesQ (some 13) Try.func83 #[.agg #[.string a0,.int .i64 0]] ?_;(with_reducible refine (pixel_head.calls k a0 0 t231 t232 t233 t234 t237 t238 t239 _ A2.out).mono ?_);rintro e w26 ⟨v235,rfl,ho0,hb⟩;refine ⟨_,rfl,?_⟩;have n0_:=Aside0.mk (Kd.R_lower ho0 (below_size (hn HB)));have n1_:=bb BK230 hb;have n2_:=hs HB hb;clear BK230;clear HB;have HO236:=n0_;have BK230:=n1_;have HB:=n2_;clear n0_ n1_ n2_;(try clear hb);(try clear ho0)) | ((with_reducible refine gate_dst (N:=4) rfl ?_);refine boxQ 4 #[.int .i64 0,.int .i64 0,.int .i64 0,.slice none 0 0] 76 ?_;intro gb240 hg w27 hbox hb;have n0_:=rk HO236 hb;have n1_:=bb BK230 hb;have n2_:=hs HB hb;have n3_:=Aside0.mk (hbox);have n4_:=gs HB hg;have n5_:=gs HB hg;have n6_:=nl BK230 hg;have n7_:=ng BK230 hg;clear HO236;clear BK230;clear HB;have HO236:=n0_;have BK230:=n1_;have HB:=n2_;have BK240:=n3_;have GW240:=n4_;have GE240:=n5_;have NB230_240:=n6_;have NB240_230:=n7_;clear n0_ n1_ n2_ n3_ n4_ n5_ n6_ n7_;clear hb hbox hg;have hnb28:=NB240_230.out;have hnc28:=NB230_240.out;obtain ⟨hcz29_0,hcz29_1,hcz29_2,hcz29_3⟩:=cc4 BK240;obtain ⟨hfz29_0,hfz29_1,hfz29_2,hfz29_3⟩:=ff4 BK240;obtain ⟨Ao30,co30,eo30⟩:=Kd.R_slice HO236.out;subst eo30) | ((with_reducible refine gate_callee (f:=46) rfl ?_);refine goesQ (some 24) Try.func46 #[.string t238,.int .i64 262144] ?_;(with_reducible refine (inflate_Open.calls k t238 262144 t241 t242 _ A4.out).mono ?_);rintro e w31 ⟨rfl,hb⟩;refine ⟨_,rfl,?_⟩;have n0_:=Aside0.mk (Kd.R_below (by (with_reducible repeat (first | apply Kd.R_alloc | apply Kd.R_drewN | apply Kd.R_drew));exact (Kd.R_mono (Kd.R_far (p:=⟨gb240,3,none⟩) (Kd.R_far (p:=⟨gb240,2,none⟩) (Kd.R_far (p:=⟨gb240,1,none⟩) (Kd.R_far (p:=⟨gb240,0,none⟩) (Kd.R_types HO236.out BK240.out (by decide)) (fun _ hk=>hk.2) (.int .i64 t231)) (fun _ hk=>hk.2) (.int .i64 t232)) (fun _ hk=>hk.2) (.int .i64 t233)) (fun _ hk=>hk.2) (.slice Ao30 t234.length co30)) (fun _ h_=>h_.1))) hb);have n1_:=bb BK230 hb;have n2_:=bp #[.int .i64 t231,.int .i64 t232,.int .i64 t233,.slice Ao30 t234.length co30] BK240 hb;have n3_:=hs HB hb;clear HO236;clear BK230;clear BK240;clear HB;have HO236:=n0_;have BK230:=n1_;have BK240:=n2_;have HB:=n3_;clear n0_ n1_ n2_ n3_;(try clear hb);obtain ⟨hcz32_0,hcz32_1,hcz32_2,hcz32_3⟩:=cc4 BK240;obtain ⟨hfz32_0,hfz32_1,hfz32_2,hfz32_3⟩:=ff4 BK240) | ((with_reducible refine gate_callee (f:=84) rfl ?_);refine goesQ (some 40) Try.func84 #[.string t241,.int .i64 t237,.int .i64 t232,.int .i64 t233] ?_;(with_reducible refine (pixel_numbered.calls k t241 t237 t232 t233 t243 true _ A7.out).mono ?_);rintro e w33 ⟨v245,rfl,ho0,hb⟩;refine ⟨_,rfl,?_⟩;have n0_:=Aside0.mk (Kd.R_elder' (by (with_reducible repeat (first | apply Kd.R_alloc | apply Kd.R_drewN | apply Kd.R_drew));exact HO236.out) (Kd.R_base ho0) hb);have n1_:=Aside0.mk (Kd.R_lower (Kd.R_new' ho0 (Kd.R_lt (by (with_reducible repeat (first | apply Kd.R_alloc | apply Kd.R_drewN | apply Kd.R_drew));exact HO236.out))) (below_size (hn HB)));have n2_:=bb BK230 hb;have n3_:=bb BK240 hb;have n4_:=hs HB hb;clear HO236;clear BK230;clear BK240;clear HB;have HO236:=n0_;have HO246:=n1_;have BK230:=n2_;have BK240:=n3_;have HB:=n4_;clear n0_ n1_ n2_ n3_ n4_;(try clear hb);(try clear ho0);obtain ⟨Ao34,co34,eo34⟩:=Kd.R_slice HO246.out;subst eo34;obtain ⟨hcz35_0,hcz35_1,hcz35_2,hcz35_3⟩:=cc4 BK240;obtain ⟨hfz35_0,hfz35_1,hfz35_2,hfz35_3⟩:=ff4 BK240) | (go_at_call 53;(with_reducible refine (pixel_Right.calls k t231 t232 t233 _ _ t243 false _ ?side1 ?side2 A9.out).mono ?_);(case side1=>refine (Kd.R_reads' (e:=89) (base:=w.heap.size) (ok:=fun k_=>(True∧some k_ ≠ (.slice Ao30 t234.length co30:Value).ownBlock)) (n:=t243.length) (c:=co34) ?_).2.2;exact (by (with_reducible repeat (first | apply Kd.R_alloc | apply Kd.R_drewN | apply Kd.R_drew));exact (Kd.R_mono (Kd.R_far (p:=⟨gb240,3,none⟩) (Kd.R_types HO246.out BK240.out (by decide)) (fun _ hk=>hk.2) (.slice Ao34 t243.length co34)) (fun _ h_=>h_.1))));(case side2=>exact (Kd.R_reads' HO246.out).2.1);rintro e w36 ⟨rfl,hb⟩;have n0_:=Aside0.mk (Kd.R_below (by (with_reducible repeat (first | apply Kd.R_alloc | apply Kd.R_drewN | apply Kd.R_drew));exact (Kd.R_mono (Kd.R_far (p:=⟨gb240,3,none⟩) (Kd.R_types HO236.out BK240.out (by decide)) (fun _ hk=>hk.2) (.slice Ao34 t243.length co34)) (fun _ h_=>h_.1))) hb);have n1_:=Aside0.mk (Kd.R_below (by (with_reducible repeat (first | apply Kd.R_alloc | apply Kd.R_drewN | apply Kd.R_drew));exact (Kd.R_mono (Kd.R_far (p:=⟨gb240,3,none⟩) (Kd.R_types HO246.out BK240.out (by decide)) (fun _ hk=>hk.2) (.slice Ao34 t243.length co34)) (fun _ h_=>h_.1))) hb);have n2_:=bb BK230 hb;have n3_:=bp #[.int .i64 t231,.int .i64 t232,.int .i64 t233,.slice Ao34 t243.length co34] BK240 hb;have n4_:=hs HB hb;clear HO236;clear HO246;clear BK230;clear BK240;clear HB;have HO236:=n0_;have HO246:=n1_;have BK230:=n2_;have BK240:=n3_;have HB:=n4_;clear n0_ n1_ n2_ n3_ n4_;(try clear hb);obtain ⟨hcz37_0,hcz37_1,hcz37_2,hcz37_3⟩:=cc4 BK230;obtain ⟨hfz37_0,hfz37_1,hfz37_2,hfz37_3⟩:=ff4 BK230))
      refine bodyPost_ret (results_ct rfl _ _ gb230 76 #[.int .i64 0,.int .i64 0,.int .i64 0,.slice none 0 0] (0,0) _ rfl (bq BK230) Try.underlying76 rfl (by kernel_rfl)) rfl ?_
      exact ⟨_,by first | rfl | (simp [errW_none,errW_some] <;> rfl) | (simp [*,errW_none,errW_some] <;> rfl),by first | exact Kd.R_nil _ _ _ _ _ | exact Kd.N_nil _ _ _ _ _ | exact Kd.V_nil _ _ _ _ _ | exact Kd.Q_nil _ _ _ _ _ | exact Kd.S_nil _ _ _ _ _,hn HB⟩
    ·replace c8:=Bool.eq_false_iff.mpr c8
     subst c8
     have H1:(some (0,0,0,([]:List (S89)),3))=some (r1,r2,r3,r4,r5):=by rw [if_neg (show ¬ (false=true) by decide)] at H;exact H
     clear H
     have H:=H1
     clear H1
     simp only [Option.some.injEq,Prod.mk.injEq] at H
     obtain ⟨rfl,rfl,rfl,rfl,rfl⟩:=H
     go_enter Try.func54,Try.ntmps54
     go_wp2_with (first | ((with_reducible refine gate_dst (N:=2) rfl ?_);refine boxQ 2 #[.int .i64 0,.int .i64 0,.int .i64 0,.slice none 0 0] 76 ?_;intro gb230 hg w38 hbox hb;have n0_:=hs HB hb;have n1_:=Aside0.mk (hbox);have n2_:=gs HB hg;have n3_:=gs HB hg;clear HB;have HB:=n0_;have BK230:=n1_;have GW230:=n2_;have GE230:=n3_;clear n0_ n1_ n2_ n3_;clear hb hbox hg) | ((with_reducible refine gate_callee (f:=83) rfl ?_);refine goesQ (some 13) Try.func83 #[.agg #[.string a0,.int .i64 0]] ?_;(with_reducible refine (pixel_head.calls k a0 0 t231 t232 t233 t234 t237 t238 t239 _ A2.out).mono ?_);rintro e w39 ⟨v235,rfl,ho0,hb⟩;refine ⟨_,rfl,?_⟩;have n0_:=Aside0.mk (Kd.R_lower ho0 (below_size (hn HB)));have n1_:=bb BK230 hb;have n2_:=hs HB hb;clear BK230;clear HB;have HO236:=n0_;have BK230:=n1_;have HB:=n2_;clear n0_ n1_ n2_;(try clear hb);(try clear ho0)) | ((with_reducible refine gate_dst (N:=4) rfl ?_);refine boxQ 4 #[.int .i64 0,.int .i64 0,.int .i64 0,.slice none 0 0] 76 ?_;intro gb240 hg w40 hbox hb;have n0_:=rk HO236 hb;have n1_:=bb BK230 hb;have n2_:=hs HB hb;have n3_:=Aside0.mk (hbox);have n4_:=gs HB hg;have n5_:=gs HB hg;have n6_:=nl BK230 hg;have n7_:=ng BK230 hg;clear HO236;clear BK230;clear HB;have HO236:=n0_;have BK230:=n1_;have HB:=n2_;have BK240:=n3_;have GW240:=n4_;have GE240:=n5_;have NB230_240:=n6_;have NB240_230:=n7_;clear n0_ n1_ n2_ n3_ n4_ n5_ n6_ n7_;clear hb hbox hg;have hnb41:=NB240_230.out;have hnc41:=NB230_240.out;obtain ⟨hcz42_0,hcz42_1,hcz42_2,hcz42_3⟩:=cc4 BK240;obtain ⟨hfz42_0,hfz42_1,hfz42_2,hfz42_3⟩:=ff4 BK240;obtain ⟨Ao43,co43,eo43⟩:=Kd.R_slice HO236.out;subst eo43) | ((with_reducible refine gate_callee (f:=46) rfl ?_);refine goesQ (some 24) Try.func46 #[.string t238,.int .i64 262144] ?_;(with_reducible refine (inflate_Open.calls k t238 262144 t241 t242 _ A4.out).mono ?_);rintro e w44 ⟨rfl,hb⟩;refine ⟨_,rfl,?_⟩;have n0_:=Aside0.mk (Kd.R_below (by (with_reducible repeat (first | apply Kd.R_alloc | apply Kd.R_drewN | apply Kd.R_drew));exact (Kd.R_mono (Kd.R_far (p:=⟨gb240,3,none⟩) (Kd.R_far (p:=⟨gb240,2,none⟩) (Kd.R_far (p:=⟨gb240,1,none⟩) (Kd.R_far (p:=⟨gb240,0,none⟩) (Kd.R_types HO236.out BK240.out (by decide)) (fun _ hk=>hk.2) (.int .i64 t231)) (fun _ hk=>hk.2) (.int .i64 t232)) (fun _ hk=>hk.2) (.int .i64 t233)) (fun _ hk=>hk.2) (.slice Ao43 t234.length co43)) (fun _ h_=>h_.1))) hb);have n1_:=bb BK230 hb;have n2_:=bp #[.int .i64 t231,.int .i64 t232,.int .i64 t233,.slice Ao43 t234.length co43] BK240 hb;have n3_:=hs HB hb;clear HO236;clear BK230;clear BK240;clear HB;have HO236:=n0_;have BK230:=n1_;have BK240:=n2_;have HB:=n3_;clear n0_ n1_ n2_ n3_;(try clear hb);obtain ⟨hcz45_0,hcz45_1,hcz45_2,hcz45_3⟩:=cc4 BK240;obtain ⟨hfz45_0,hfz45_1,hfz45_2,hfz45_3⟩:=ff4 BK240) | ((with_reducible refine gate_callee (f:=84) rfl ?_);refine goesQ (some 40) Try.func84 #[.string t241,.int .i64 t237,.int .i64 t232,.int .i64 t233] ?_;(with_reducible refine (pixel_numbered.calls k t241 t237 t232 t233 t243 false _ A7.out).mono ?_);rintro e w46 ⟨v245,rfl,ho0,hb⟩;refine ⟨_,rfl,?_⟩;have n0_:=Aside0.mk (Kd.R_elder' (by (with_reducible repeat (first | apply Kd.R_alloc | apply Kd.R_drewN | apply Kd.R_drew));exact HO236.out) (Kd.R_base ho0) hb);have n1_:=Aside0.mk (Kd.R_lower (Kd.R_new' ho0 (Kd.R_lt (by (with_reducible repeat (first | apply Kd.R_alloc | apply Kd.R_drewN | apply Kd.R_drew));exact HO236.out))) (below_size (hn HB)));have n2_:=bb BK230 hb;have n3_:=bb BK240 hb;have n4_:=hs HB hb;clear HO236;clear BK230;clear BK240;clear HB;have HO236:=n0_;have HO246:=n1_;have BK230:=n2_;have BK240:=n3_;have HB:=n4_;clear n0_ n1_ n2_ n3_ n4_;(try clear hb);(try clear ho0);obtain ⟨Ao47,co47,eo47⟩:=Kd.R_slice HO246.out;subst eo47;obtain ⟨hcz48_0,hcz48_1,hcz48_2,hcz48_3⟩:=cc4 BK240;obtain ⟨hfz48_0,hfz48_1,hfz48_2,hfz48_3⟩:=ff4 BK240;obtain ⟨hcz49_0,hcz49_1,hcz49_2,hcz49_3⟩:=cc4 BK230;obtain ⟨hfz49_0,hfz49_1,hfz49_2,hfz49_3⟩:=ff4 BK230))
     refine bodyPost_ret (results_ct rfl _ _ gb230 76 #[.int .i64 0,.int .i64 0,.int .i64 0,.slice none 0 0] (0,0) _ rfl (bq BK230) Try.underlying76 rfl (by kernel_rfl)) rfl ?_
     exact ⟨_,by first | rfl | (simp [errW_none,errW_some] <;> rfl) | (simp [*,errW_none,errW_some] <;> rfl),by first | exact Kd.R_nil _ _ _ _ _ | exact Kd.N_nil _ _ _ _ _ | exact Kd.V_nil _ _ _ _ _ | exact Kd.Q_nil _ _ _ _ _ | exact Kd.S_nil _ _ _ _ _,hn HB⟩
   ·rw [if_neg c6] at H
    have c6b0:decide (0 < t237)=false:=decide_eq_false c6
    clear c6
    replace H:=Option.bind_eq_some_iff.mp H
    obtain ⟨⟨t248,t249⟩,A500,H⟩:=H
    replace H:(if t249=true then ((pixel_Right.f k t231 t232 t233 t248).bind fun t252=>(if t252=true then (some (t231,t232,t233,t248,0)) else (some (0,0,0,([]:List (S89)),3)))) else (some (0,0,0,([]:List (S89)),3)))=some (r1,r2,r3,r4,r5):=H
    have A50:=Aside0.mk A500
    clear A500
    by_cases c51:t249=true
    ·subst c51
     have H1:((pixel_Right.f k t231 t232 t233 t248).bind fun t252=>(if t252=true then (some (t231,t232,t233,t248,0)) else (some (0,0,0,([]:List (S89)),3))))=some (r1,r2,r3,r4,r5):=by rw [if_pos rfl] at H;exact H
     clear H
     have H:=H1
     clear H1
     replace H:=Option.bind_eq_some_iff.mp H
     obtain ⟨t252,A520,H⟩:=H
     replace H:(if t252=true then (some (t231,t232,t233,t248,0)) else (some (0,0,0,([]:List (S89)),3)))=some (r1,r2,r3,r4,r5):=H
     have A52:=Aside0.mk A520
     clear A520
     by_cases c53:t252=true
     ·subst c53
      have H1:(some (t231,t232,t233,t248,0))=some (r1,r2,r3,r4,r5):=by rw [if_pos rfl] at H;exact H
      clear H
      have H:=H1
      clear H1
      simp only [Option.some.injEq,Prod.mk.injEq] at H
      obtain ⟨rfl,rfl,rfl,rfl,rfl⟩:=H
      go_enter Try.func54,Try.ntmps54
      go_wp2_with (first | ((with_reducible refine gate_dst (N:=2) rfl ?_);refine boxQ 2 #[.int .i64 0,.int .i64 0,.int .i64 0,.slice none 0 0] 76 ?_;intro gb230 hg w54 hbox hb;have n0_:=hs HB hb;have n1_:=Aside0.mk (hbox);have n2_:=gs HB hg;have n3_:=gs HB hg;clear HB;have HB:=n0_;have BK230:=n1_;have GW230:=n2_;have GE230:=n3_;clear n0_ n1_ n2_ n3_;clear hb hbox hg) | ((with_reducible refine gate_callee (f:=83) rfl ?_);refine goesQ (some 13) Try.func83 #[.agg #[.string a0,.int .i64 0]] ?_;(with_reducible refine (pixel_head.calls k a0 0 t231 t232 t233 t234 t237 t238 t239 _ A2.out).mono ?_);rintro e w55 ⟨v235,rfl,ho0,hb⟩;refine ⟨_,rfl,?_⟩;have n0_:=Aside0.mk (Kd.R_lower ho0 (below_size (hn HB)));have n1_:=bb BK230 hb;have n2_:=hs HB hb;clear BK230;clear HB;have HO236:=n0_;have BK230:=n1_;have HB:=n2_;clear n0_ n1_ n2_;(try clear hb);(try clear ho0)) | ((with_reducible refine gate_dst (N:=4) rfl ?_);refine boxQ 4 #[.int .i64 0,.int .i64 0,.int .i64 0,.slice none 0 0] 76 ?_;intro gb240 hg w56 hbox hb;have n0_:=rk HO236 hb;have n1_:=bb BK230 hb;have n2_:=hs HB hb;have n3_:=Aside0.mk (hbox);have n4_:=gs HB hg;have n5_:=gs HB hg;have n6_:=nl BK230 hg;have n7_:=ng BK230 hg;clear HO236;clear BK230;clear HB;have HO236:=n0_;have BK230:=n1_;have HB:=n2_;have BK240:=n3_;have GW240:=n4_;have GE240:=n5_;have NB230_240:=n6_;have NB240_230:=n7_;clear n0_ n1_ n2_ n3_ n4_ n5_ n6_ n7_;clear hb hbox hg;have hnb57:=NB240_230.out;have hnc57:=NB230_240.out;obtain ⟨hcz58_0,hcz58_1,hcz58_2,hcz58_3⟩:=cc4 BK240;obtain ⟨hfz58_0,hfz58_1,hfz58_2,hfz58_3⟩:=ff4 BK240;obtain ⟨Ao59,co59,eo59⟩:=Kd.R_slice HO236.out;subst eo59) | ((with_reducible refine gate_callee (f:=46) rfl ?_);refine goesQ (some 24) Try.func46 #[.string t238,.int .i64 262144] ?_;(with_reducible refine (inflate_Open.calls k t238 262144 t241 t242 _ A4.out).mono ?_);rintro e w60 ⟨rfl,hb⟩;refine ⟨_,rfl,?_⟩;have n0_:=Aside0.mk (Kd.R_below (by (with_reducible repeat (first | apply Kd.R_alloc | apply Kd.R_drewN | apply Kd.R_drew));exact (Kd.R_mono (Kd.R_far (p:=⟨gb240,3,none⟩) (Kd.R_far (p:=⟨gb240,2,none⟩) (Kd.R_far (p:=⟨gb240,1,none⟩) (Kd.R_far (p:=⟨gb240,0,none⟩) (Kd.R_types HO236.out BK240.out (by decide)) (fun _ hk=>hk.2) (.int .i64 t231)) (fun _ hk=>hk.2) (.int .i64 t232)) (fun _ hk=>hk.2) (.int .i64 t233)) (fun _ hk=>hk.2) (.slice Ao59 t234.length co59)) (fun _ h_=>h_.1))) hb);have n1_:=bb BK230 hb;have n2_:=bp #[.int .i64 t231,.int .i64 t232,.int .i64 t233,.slice Ao59 t234.length co59] BK240 hb;have n3_:=hs HB hb;clear HO236;clear BK230;clear BK240;clear HB;have HO236:=n0_;have BK230:=n1_;have BK240:=n2_;have HB:=n3_;clear n0_ n1_ n2_ n3_;(try clear hb);obtain ⟨hcz61_0,hcz61_1,hcz61_2,hcz61_3⟩:=cc4 BK240;obtain ⟨hfz61_0,hfz61_1,hfz61_2,hfz61_3⟩:=ff4 BK240) | ((with_reducible refine gate_callee (f:=85) rfl ?_);refine goesQ (some 51) Try.func85 #[.string t241,.int .i64 (wrap64 (t232*t233))] ?_;(with_reducible refine (pixel_plain.calls k t241 (wrap64 (t232*t233)) t248 true _ A50.out).mono ?_);rintro e w62 ⟨v250,rfl,ho0,hb⟩;refine ⟨_,rfl,?_⟩;have n0_:=Aside0.mk (Kd.R_elder' (by (with_reducible repeat (first | apply Kd.R_alloc | apply Kd.R_drewN | apply Kd.R_drew));exact HO236.out) (Kd.R_base ho0) hb);have n1_:=Aside0.mk (Kd.R_lower (Kd.R_new' ho0 (Kd.R_lt (by (with_reducible repeat (first | apply Kd.R_alloc | apply Kd.R_drewN | apply Kd.R_drew));exact HO236.out))) (below_size (hn HB)));have n2_:=bb BK230 hb;have n3_:=bb BK240 hb;have n4_:=hs HB hb;clear HO236;clear BK230;clear BK240;clear HB;have HO236:=n0_;have HO251:=n1_;have BK230:=n2_;have BK240:=n3_;have HB:=n4_;clear n0_ n1_ n2_ n3_ n4_;(try clear hb);(try clear ho0);obtain ⟨Ao63,co63,eo63⟩:=Kd.R_slice HO251.out;subst eo63;obtain ⟨hcz64_0,hcz64_1,hcz64_2,hcz64_3⟩:=cc4 BK240;obtain ⟨hfz64_0,hfz64_1,hfz64_2,hfz64_3⟩:=ff4 BK240) | (go_at_call 53;(with_reducible refine (pixel_Right.calls k t231 t232 t233 _ _ t248 true _ ?side1 ?side2 A52.out).mono ?_);(case side1=>refine (Kd.R_reads' (e:=89) (base:=w.heap.size) (ok:=fun k_=>(True∧some k_ ≠ (.slice Ao59 t234.length co59:Value).ownBlock)) (n:=t248.length) (c:=co63) ?_).2.2;exact (by (with_reducible repeat (first | apply Kd.R_alloc | apply Kd.R_drewN | apply Kd.R_drew));exact (Kd.R_mono (Kd.R_far (p:=⟨gb240,3,none⟩) (Kd.R_types HO251.out BK240.out (by decide)) (fun _ hk=>hk.2) (.slice Ao63 t248.length co63)) (fun _ h_=>h_.1))));(case side2=>exact (Kd.R_reads' HO251.out).2.1);rintro e w65 ⟨rfl,hb⟩;have n0_:=Aside0.mk (Kd.R_below (by (with_reducible repeat (first | apply Kd.R_alloc | apply Kd.R_drewN | apply Kd.R_drew));exact (Kd.R_mono (Kd.R_far (p:=⟨gb240,3,none⟩) (Kd.R_types HO236.out BK240.out (by decide)) (fun _ hk=>hk.2) (.slice Ao63 t248.length co63)) (fun _ h_=>h_.1))) hb);have n1_:=Aside0.mk (Kd.R_below (by (with_reducible repeat (first | apply Kd.R_alloc | apply Kd.R_drewN | apply Kd.R_drew));exact (Kd.R_mono (Kd.R_far (p:=⟨gb240,3,none⟩) (Kd.R_types HO251.out BK240.out (by decide)) (fun _ hk=>hk.2) (.slice Ao63 t248.length co63)) (fun _ h_=>h_.1))) hb);have n2_:=bb BK230 hb;have n3_:=bp #[.int .i64 t231,.int .i64 t232,.int .i64 t233,.slice Ao63 t248.length co63] BK240 hb;have n4_:=hs HB hb;clear HO236;clear HO251;clear BK230;clear BK240;clear HB;have HO236:=n0_;have HO251:=n1_;have BK230:=n2_;have BK240:=n3_;have HB:=n4_;clear n0_ n1_ n2_ n3_ n4_;(try clear hb);obtain ⟨hcz66_0,hcz66_1,hcz66_2,hcz66_3⟩:=cc4 BK240;obtain ⟨hfz66_0,hfz66_1,hfz66_2,hfz66_3⟩:=ff4 BK240;obtain ⟨hcz67_0,hcz67_1,hcz67_2,hcz67_3⟩:=cc4 BK230;obtain ⟨hfz67_0,hfz67_1,hfz67_2,hfz67_3⟩:=ff4 BK230))
      refine bodyPost_ret (results_ct rfl _ _ gb230 76 #[.int .i64 t231,.int .i64 t232,.int .i64 t233,.slice Ao63 t248.length co63] (0,0) _ rfl (bq BK230) Try.underlying76 rfl (by kernel_rfl)) rfl ?_
      exact ⟨_,by first | rfl | (simp [errW_none,errW_some] <;> rfl) | (simp [*,errW_none,errW_some] <;> rfl),by (with_reducible repeat (first | apply Kd.R_alloc | apply Kd.R_drewN | apply Kd.R_drew));exact Kd.R_mono (Kd.R_far (p:=⟨gb230,3,none⟩) (Kd.R_far (p:=⟨gb230,2,none⟩) (Kd.R_far (p:=⟨gb230,1,none⟩) (Kd.R_far (p:=⟨gb230,0,none⟩) (Kd.R_types HO251.out BK230.out (by decide)) (fun _ hk=>hk.2) (.int .i64 t231)) (fun _ hk=>hk.2) (.int .i64 t232)) (fun _ hk=>hk.2) (.int .i64 t233)) (fun _ hk=>hk.2) (.slice Ao63 t248.length co63)) (fun _ hk=>trivial),hn HB⟩
     ·replace c53:=Bool.eq_false_iff.mpr c53
      subst c53
      have H1:(some (0,0,0,([]:List (S89)),3))=some (r1,r2,r3,r4,r5):=by rw [if_neg (show ¬ (false=true) by decide)] at H;exact H
      clear H
      have H:=H1
      clear H1
      simp only [Option.some.injEq,Prod.mk.injEq] at H
      obtain ⟨rfl,rfl,rfl,rfl,rfl⟩:=H
      go_enter Try.func54,Try.ntmps54
      go_wp2_with (first | ((with_reducible refine gate_dst (N:=2) rfl ?_);refine boxQ 2 #[.int .i64 0,.int .i64 0,.int .i64 0,.slice none 0 0] 76 ?_;intro gb230 hg w68 hbox hb;have n0_:=hs HB hb;have n1_:=Aside0.mk (hbox);have n2_:=gs HB hg;have n3_:=gs HB hg;clear HB;have HB:=n0_;have BK230:=n1_;have GW230:=n2_;have GE230:=n3_;clear n0_ n1_ n2_ n3_;clear hb hbox hg) | ((with_reducible refine gate_callee (f:=83) rfl ?_);refine goesQ (some 13) Try.func83 #[.agg #[.string a0,.int .i64 0]] ?_;(with_reducible refine (pixel_head.calls k a0 0 t231 t232 t233 t234 t237 t238 t239 _ A2.out).mono ?_);rintro e w69 ⟨v235,rfl,ho0,hb⟩;refine ⟨_,rfl,?_⟩;have n0_:=Aside0.mk (Kd.R_lower ho0 (below_size (hn HB)));have n1_:=bb BK230 hb;have n2_:=hs HB hb;clear BK230;clear HB;have HO236:=n0_;have BK230:=n1_;have HB:=n2_;clear n0_ n1_ n2_;(try clear hb);(try clear ho0)) | ((with_reducible refine gate_dst (N:=4) rfl ?_);refine boxQ 4 #[.int .i64 0,.int .i64 0,.int .i64 0,.slice none 0 0] 76 ?_;intro gb240 hg w70 hbox hb;have n0_:=rk HO236 hb;have n1_:=bb BK230 hb;have n2_:=hs HB hb;have n3_:=Aside0.mk (hbox);have n4_:=gs HB hg;have n5_:=gs HB hg;have n6_:=nl BK230 hg;have n7_:=ng BK230 hg;clear HO236;clear BK230;clear HB;have HO236:=n0_;have BK230:=n1_;have HB:=n2_;have BK240:=n3_;have GW240:=n4_;have GE240:=n5_;have NB230_240:=n6_;have NB240_230:=n7_;clear n0_ n1_ n2_ n3_ n4_ n5_ n6_ n7_;clear hb hbox hg;have hnb71:=NB240_230.out;have hnc71:=NB230_240.out;obtain ⟨hcz72_0,hcz72_1,hcz72_2,hcz72_3⟩:=cc4 BK240;obtain ⟨hfz72_0,hfz72_1,hfz72_2,hfz72_3⟩:=ff4 BK240;obtain ⟨Ao73,co73,eo73⟩:=Kd.R_slice HO236.out;subst eo73) | ((with_reducible refine gate_callee (f:=46) rfl ?_);refine goesQ (some 24) Try.func46 #[.string t238,.int .i64 262144] ?_;(with_reducible refine (inflate_Open.calls k t238 262144 t241 t242 _ A4.out).mono ?_);rintro e w74 ⟨rfl,hb⟩;refine ⟨_,rfl,?_⟩;have n0_:=Aside0.mk (Kd.R_below (by (with_reducible repeat (first | apply Kd.R_alloc | apply Kd.R_drewN | apply Kd.R_drew));exact (Kd.R_mono (Kd.R_far (p:=⟨gb240,3,none⟩) (Kd.R_far (p:=⟨gb240,2,none⟩) (Kd.R_far (p:=⟨gb240,1,none⟩) (Kd.R_far (p:=⟨gb240,0,none⟩) (Kd.R_types HO236.out BK240.out (by decide)) (fun _ hk=>hk.2) (.int .i64 t231)) (fun _ hk=>hk.2) (.int .i64 t232)) (fun _ hk=>hk.2) (.int .i64 t233)) (fun _ hk=>hk.2) (.slice Ao73 t234.length co73)) (fun _ h_=>h_.1))) hb);have n1_:=bb BK230 hb;have n2_:=bp #[.int .i64 t231,.int .i64 t232,.int .i64 t233,.slice Ao73 t234.length co73] BK240 hb;have n3_:=hs HB hb;clear HO236;clear BK230;clear BK240;clear HB;have HO236:=n0_;have BK230:=n1_;have BK240:=n2_;have HB:=n3_;clear n0_ n1_ n2_ n3_;(try clear hb);obtain ⟨hcz75_0,hcz75_1,hcz75_2,hcz75_3⟩:=cc4 BK240;obtain ⟨hfz75_0,hfz75_1,hfz75_2,hfz75_3⟩:=ff4 BK240) | ((with_reducible refine gate_callee (f:=85) rfl ?_);refine goesQ (some 51) Try.func85 #[.string t241,.int .i64 (wrap64 (t232*t233))] ?_;(with_reducible refine (pixel_plain.calls k t241 (wrap64 (t232*t233)) t248 true _ A50.out).mono ?_);rintro e w76 ⟨v250,rfl,ho0,hb⟩;refine ⟨_,rfl,?_⟩;have n0_:=Aside0.mk (Kd.R_elder' (by (with_reducible repeat (first | apply Kd.R_alloc | apply Kd.R_drewN | apply Kd.R_drew));exact HO236.out) (Kd.R_base ho0) hb);have n1_:=Aside0.mk (Kd.R_lower (Kd.R_new' ho0 (Kd.R_lt (by (with_reducible repeat (first | apply Kd.R_alloc | apply Kd.R_drewN | apply Kd.R_drew));exact HO236.out))) (below_size (hn HB)));have n2_:=bb BK230 hb;have n3_:=bb BK240 hb;have n4_:=hs HB hb;clear HO236;clear BK230;clear BK240;clear HB;have HO236:=n0_;have HO251:=n1_;have BK230:=n2_;have BK240:=n3_;have HB:=n4_;clear n0_ n1_ n2_ n3_ n4_;(try clear hb);(try clear ho0);obtain ⟨Ao77,co77,eo77⟩:=Kd.R_slice HO251.out;subst eo77;obtain ⟨hcz78_0,hcz78_1,hcz78_2,hcz78_3⟩:=cc4 BK240;obtain ⟨hfz78_0,hfz78_1,hfz78_2,hfz78_3⟩:=ff4 BK240) | (go_at_call 53;(with_reducible refine (pixel_Right.calls k t231 t232 t233 _ _ t248 false _ ?side1 ?side2 A52.out).mono ?_);(case side1=>refine (Kd.R_reads' (e:=89) (base:=w.heap.size) (ok:=fun k_=>(True∧some k_ ≠ (.slice Ao73 t234.length co73:Value).ownBlock)) (n:=t248.length) (c:=co77) ?_).2.2;exact (by (with_reducible repeat (first | apply Kd.R_alloc | apply Kd.R_drewN | apply Kd.R_drew));exact (Kd.R_mono (Kd.R_far (p:=⟨gb240,3,none⟩) (Kd.R_types HO251.out BK240.out (by decide)) (fun _ hk=>hk.2) (.slice Ao77 t248.length co77)) (fun _ h_=>h_.1))));(case side2=>exact (Kd.R_reads' HO251.out).2.1);rintro e w79 ⟨rfl,hb⟩;have n0_:=Aside0.mk (Kd.R_below (by (with_reducible repeat (first | apply Kd.R_alloc | apply Kd.R_drewN | apply Kd.R_drew));exact (Kd.R_mono (Kd.R_far (p:=⟨gb240,3,none⟩) (Kd.R_types HO236.out BK240.out (by decide)) (fun _ hk=>hk.2) (.slice Ao77 t248.length co77)) (fun _ h_=>h_.1))) hb);have n1_:=Aside0.mk (Kd.R_below (by (with_reducible repeat (first | apply Kd.R_alloc | apply Kd.R_drewN | apply Kd.R_drew));exact (Kd.R_mono (Kd.R_far (p:=⟨gb240,3,none⟩) (Kd.R_types HO251.out BK240.out (by decide)) (fun _ hk=>hk.2) (.slice Ao77 t248.length co77)) (fun _ h_=>h_.1))) hb);have n2_:=bb BK230 hb;have n3_:=bp #[.int .i64 t231,.int .i64 t232,.int .i64 t233,.slice Ao77 t248.length co77] BK240 hb;have n4_:=hs HB hb;clear HO236;clear HO251;clear BK230;clear BK240;clear HB;have HO236:=n0_;have HO251:=n1_;have BK230:=n2_;have BK240:=n3_;have HB:=n4_;clear n0_ n1_ n2_ n3_ n4_;(try clear hb);obtain ⟨hcz80_0,hcz80_1,hcz80_2,hcz80_3⟩:=cc4 BK230;obtain ⟨hfz80_0,hfz80_1,hfz80_2,hfz80_3⟩:=ff4 BK230))
      refine bodyPost_ret (results_ct rfl _ _ gb230 76 #[.int .i64 0,.int .i64 0,.int .i64 0,.slice none 0 0] (0,0) _ rfl (bq BK230) Try.underlying76 rfl (by kernel_rfl)) rfl ?_
      exact ⟨_,by first | rfl | (simp [errW_none,errW_some] <;> rfl) | (simp [*,errW_none,errW_some] <;> rfl),by first | exact Kd.R_nil _ _ _ _ _ | exact Kd.N_nil _ _ _ _ _ | exact Kd.V_nil _ _ _ _ _ | exact Kd.Q_nil _ _ _ _ _ | exact Kd.S_nil _ _ _ _ _,hn HB⟩
    ·replace c51:=Bool.eq_false_iff.mpr c51
     subst c51
     have H1:(some (0,0,0,([]:List (S89)),3))=some (r1,r2,r3,r4,r5):=by rw [if_neg (show ¬ (false=true) by decide)] at H;exact H
     clear H
     have H:=H1
     clear H1
     simp only [Option.some.injEq,Prod.mk.injEq] at H
     obtain ⟨rfl,rfl,rfl,rfl,rfl⟩:=H
     go_enter Try.func54,Try.ntmps54
     go_wp2_with (first | ((with_reducible refine gate_dst (N:=2) rfl ?_);refine boxQ 2 #[.int .i64 0,.int .i64 0,.int .i64 0,.slice none 0 0] 76 ?_;intro gb230 hg w81 hbox hb;have n0_:=hs HB hb;have n1_:=Aside0.mk (hbox);have n2_:=gs HB hg;have n3_:=gs HB hg;clear HB;have HB:=n0_;have BK230:=n1_;have GW230:=n2_;have GE230:=n3_;clear n0_ n1_ n2_ n3_;clear hb hbox hg) | ((with_reducible refine gate_callee (f:=83) rfl ?_);refine goesQ (some 13) Try.func83 #[.agg #[.string a0,.int .i64 0]] ?_;(with_reducible refine (pixel_head.calls k a0 0 t231 t232 t233 t234 t237 t238 t239 _ A2.out).mono ?_);rintro e w82 ⟨v235,rfl,ho0,hb⟩;refine ⟨_,rfl,?_⟩;have n0_:=Aside0.mk (Kd.R_lower ho0 (below_size (hn HB)));have n1_:=bb BK230 hb;have n2_:=hs HB hb;clear BK230;clear HB;have HO236:=n0_;have BK230:=n1_;have HB:=n2_;clear n0_ n1_ n2_;(try clear hb);(try clear ho0)) | ((with_reducible refine gate_dst (N:=4) rfl ?_);refine boxQ 4 #[.int .i64 0,.int .i64 0,.int .i64 0,.slice none 0 0] 76 ?_;intro gb240 hg w83 hbox hb;have n0_:=rk HO236 hb;have n1_:=bb BK230 hb;have n2_:=hs HB hb;have n3_:=Aside0.mk (hbox);have n4_:=gs HB hg;have n5_:=gs HB hg;have n6_:=nl BK230 hg;have n7_:=ng BK230 hg;clear HO236;clear BK230;clear HB;have HO236:=n0_;have BK230:=n1_;have HB:=n2_;have BK240:=n3_;have GW240:=n4_;have GE240:=n5_;have NB230_240:=n6_;have NB240_230:=n7_;clear n0_ n1_ n2_ n3_ n4_ n5_ n6_ n7_;clear hb hbox hg;have hnb84:=NB240_230.out;have hnc84:=NB230_240.out;obtain ⟨hcz85_0,hcz85_1,hcz85_2,hcz85_3⟩:=cc4 BK240;obtain ⟨hfz85_0,hfz85_1,hfz85_2,hfz85_3⟩:=ff4 BK240;obtain ⟨Ao86,co86,eo86⟩:=Kd.R_slice HO236.out;subst eo86) | ((with_reducible refine gate_callee (f:=46) rfl ?_);refine goesQ (some 24) Try.func46 #[.string t238,.int .i64 262144] ?_;(with_reducible refine (inflate_Open.calls k t238 262144 t241 t242 _ A4.out).mono ?_);rintro e w87 ⟨rfl,hb⟩;refine ⟨_,rfl,?_⟩;have n0_:=Aside0.mk (Kd.R_below (by (with_reducible repeat (first | apply Kd.R_alloc | apply Kd.R_drewN | apply Kd.R_drew));exact (Kd.R_mono (Kd.R_far (p:=⟨gb240,3,none⟩) (Kd.R_far (p:=⟨gb240,2,none⟩) (Kd.R_far (p:=⟨gb240,1,none⟩) (Kd.R_far (p:=⟨gb240,0,none⟩) (Kd.R_types HO236.out BK240.out (by decide)) (fun _ hk=>hk.2) (.int .i64 t231)) (fun _ hk=>hk.2) (.int .i64 t232)) (fun _ hk=>hk.2) (.int .i64 t233)) (fun _ hk=>hk.2) (.slice Ao86 t234.length co86)) (fun _ h_=>h_.1))) hb);have n1_:=bb BK230 hb;have n2_:=bp #[.int .i64 t231,.int .i64 t232,.int .i64 t233,.slice Ao86 t234.length co86] BK240 hb;have n3_:=hs HB hb;clear HO236;clear BK230;clear BK240;clear HB;have HO236:=n0_;have BK230:=n1_;have BK240:=n2_;have HB:=n3_;clear n0_ n1_ n2_ n3_;(try clear hb);obtain ⟨hcz88_0,hcz88_1,hcz88_2,hcz88_3⟩:=cc4 BK240;obtain ⟨hfz88_0,hfz88_1,hfz88_2,hfz88_3⟩:=ff4 BK240) | ((with_reducible refine gate_callee (f:=85) rfl ?_);refine goesQ (some 51) Try.func85 #[.string t241,.int .i64 (wrap64 (t232*t233))] ?_;(with_reducible refine (pixel_plain.calls k t241 (wrap64 (t232*t233)) t248 false _ A50.out).mono ?_);rintro e w89 ⟨v250,rfl,ho0,hb⟩;refine ⟨_,rfl,?_⟩;have n0_:=Aside0.mk (Kd.R_elder' (by (with_reducible repeat (first | apply Kd.R_alloc | apply Kd.R_drewN | apply Kd.R_drew));exact HO236.out) (Kd.R_base ho0) hb);have n1_:=Aside0.mk (Kd.R_lower (Kd.R_new' ho0 (Kd.R_lt (by (with_reducible repeat (first | apply Kd.R_alloc | apply Kd.R_drewN | apply Kd.R_drew));exact HO236.out))) (below_size (hn HB)));have n2_:=bb BK230 hb;have n3_:=bb BK240 hb;have n4_:=hs HB hb;clear HO236;clear BK230;clear BK240;clear HB;have HO236:=n0_;have HO251:=n1_;have BK230:=n2_;have BK240:=n3_;have HB:=n4_;clear n0_ n1_ n2_ n3_ n4_;(try clear hb);(try clear ho0);obtain ⟨Ao90,co90,eo90⟩:=Kd.R_slice HO251.out;subst eo90;obtain ⟨hcz91_0,hcz91_1,hcz91_2,hcz91_3⟩:=cc4 BK240;obtain ⟨hfz91_0,hfz91_1,hfz91_2,hfz91_3⟩:=ff4 BK240;obtain ⟨hcz92_0,hcz92_1,hcz92_2,hcz92_3⟩:=cc4 BK230;obtain ⟨hfz92_0,hfz92_1,hfz92_2,hfz92_3⟩:=ff4 BK230))
     refine bodyPost_ret (results_ct rfl _ _ gb230 76 #[.int .i64 0,.int .i64 0,.int .i64 0,.slice none 0 0] (0,0) _ rfl (bq BK230) Try.underlying76 rfl (by kernel_rfl)) rfl ?_
     exact ⟨_,by first | rfl | (simp [errW_none,errW_some] <;> rfl) | (simp [*,errW_none,errW_some] <;> rfl),by first | exact Kd.R_nil _ _ _ _ _ | exact Kd.N_nil _ _ _ _ _ | exact Kd.V_nil _ _ _ _ _ | exact Kd.Q_nil _ _ _ _ _ | exact Kd.S_nil _ _ _ _ _,hn HB⟩
  ·rw [if_neg c5] at H
   have c5b0:(t242 == 0)=false:=beq_eq_false_iff_ne.mpr c5
   have c5b1:(t242 != 0)=true:=bne_iff_ne.mpr c5
   simp only [Option.some.injEq,Prod.mk.injEq] at H
   obtain ⟨rfl,rfl,rfl,rfl,rfl⟩:=H
   go_enter Try.func54,Try.ntmps54
   go_wp2_with (first | ((with_reducible refine gate_dst (N:=2) rfl ?_);refine boxQ 2 #[.int .i64 0,.int .i64 0,.int .i64 0,.slice none 0 0] 76 ?_;intro gb230 hg w93 hbox hb;have n0_:=hs HB hb;have n1_:=Aside0.mk (hbox);have n2_:=gs HB hg;have n3_:=gs HB hg;clear HB;have HB:=n0_;have BK230:=n1_;have GW230:=n2_;have GE230:=n3_;clear n0_ n1_ n2_ n3_;clear hb hbox hg) | ((with_reducible refine gate_callee (f:=83) rfl ?_);refine goesQ (some 13) Try.func83 #[.agg #[.string a0,.int .i64 0]] ?_;(with_reducible refine (pixel_head.calls k a0 0 t231 t232 t233 t234 t237 t238 t239 _ A2.out).mono ?_);rintro e w94 ⟨v235,rfl,ho0,hb⟩;refine ⟨_,rfl,?_⟩;have n0_:=Aside0.mk (Kd.R_lower ho0 (below_size (hn HB)));have n1_:=bb BK230 hb;have n2_:=hs HB hb;clear BK230;clear HB;have HO236:=n0_;have BK230:=n1_;have HB:=n2_;clear n0_ n1_ n2_;(try clear hb);(try clear ho0)) | ((with_reducible refine gate_dst (N:=4) rfl ?_);refine boxQ 4 #[.int .i64 0,.int .i64 0,.int .i64 0,.slice none 0 0] 76 ?_;intro gb240 hg w95 hbox hb;have n0_:=rk HO236 hb;have n1_:=bb BK230 hb;have n2_:=hs HB hb;have n3_:=Aside0.mk (hbox);have n4_:=gs HB hg;have n5_:=gs HB hg;have n6_:=nl BK230 hg;have n7_:=ng BK230 hg;clear HO236;clear BK230;clear HB;have HO236:=n0_;have BK230:=n1_;have HB:=n2_;have BK240:=n3_;have GW240:=n4_;have GE240:=n5_;have NB230_240:=n6_;have NB240_230:=n7_;clear n0_ n1_ n2_ n3_ n4_ n5_ n6_ n7_;clear hb hbox hg;have hnb96:=NB240_230.out;have hnc96:=NB230_240.out;obtain ⟨hcz97_0,hcz97_1,hcz97_2,hcz97_3⟩:=cc4 BK240;obtain ⟨hfz97_0,hfz97_1,hfz97_2,hfz97_3⟩:=ff4 BK240;obtain ⟨Ao98,co98,eo98⟩:=Kd.R_slice HO236.out;subst eo98) | ((with_reducible refine gate_callee (f:=46) rfl ?_);refine goesQ (some 24) Try.func46 #[.string t238,.int .i64 262144] ?_;(with_reducible refine (inflate_Open.calls k t238 262144 t241 t242 _ A4.out).mono ?_);rintro e w99 ⟨rfl,hb⟩;refine ⟨_,rfl,?_⟩;have n0_:=Aside0.mk (Kd.R_below (by (with_reducible repeat (first | apply Kd.R_alloc | apply Kd.R_drewN | apply Kd.R_drew));exact (Kd.R_mono (Kd.R_far (p:=⟨gb240,3,none⟩) (Kd.R_far (p:=⟨gb240,2,none⟩) (Kd.R_far (p:=⟨gb240,1,none⟩) (Kd.R_far (p:=⟨gb240,0,none⟩) (Kd.R_types HO236.out BK240.out (by decide)) (fun _ hk=>hk.2) (.int .i64 t231)) (fun _ hk=>hk.2) (.int .i64 t232)) (fun _ hk=>hk.2) (.int .i64 t233)) (fun _ hk=>hk.2) (.slice Ao98 t234.length co98)) (fun _ h_=>h_.1))) hb);have n1_:=bb BK230 hb;have n2_:=bp #[.int .i64 t231,.int .i64 t232,.int .i64 t233,.slice Ao98 t234.length co98] BK240 hb;have n3_:=hs HB hb;clear HO236;clear BK230;clear BK240;clear HB;have HO236:=n0_;have BK230:=n1_;have BK240:=n2_;have HB:=n3_;clear n0_ n1_ n2_ n3_;(try clear hb);obtain ⟨hcz100_0,hcz100_1,hcz100_2,hcz100_3⟩:=cc4 BK230;obtain ⟨hfz100_0,hfz100_1,hfz100_2,hfz100_3⟩:=ff4 BK230))
   refine bodyPost_ret (results_ct rfl _ _ gb230 76 #[.int .i64 0,.int .i64 0,.int .i64 0,.slice none 0 0] (0,0) _ rfl (bq BK230) Try.underlying76 rfl (by kernel_rfl)) rfl ?_
   exact ⟨_,by first | rfl | (simp [errW_none,errW_some] <;> rfl) | (simp [*,errW_none,errW_some] <;> rfl),by first | exact Kd.R_nil _ _ _ _ _ | exact Kd.N_nil _ _ _ _ _ | exact Kd.V_nil _ _ _ _ _ | exact Kd.Q_nil _ _ _ _ _ | exact Kd.S_nil _ _ _ _ _,hn HB⟩
 ·rw [if_neg c3] at H
  have c3b0:(t239 == 0)=false:=beq_eq_false_iff_ne.mpr c3
  have c3b1:(t239 != 0)=true:=bne_iff_ne.mpr c3
  simp only [Option.some.injEq,Prod.mk.injEq] at H
  obtain ⟨rfl,rfl,rfl,rfl,rfl⟩:=H
  go_enter Try.func54,Try.ntmps54
  go_wp2_with (first | ((with_reducible refine gate_dst (N:=2) rfl ?_);refine boxQ 2 #[.int .i64 0,.int .i64 0,.int .i64 0,.slice none 0 0] 76 ?_;intro gb230 hg w101 hbox hb;have n0_:=hs HB hb;have n1_:=Aside0.mk (hbox);have n2_:=gs HB hg;have n3_:=gs HB hg;clear HB;have HB:=n0_;have BK230:=n1_;have GW230:=n2_;have GE230:=n3_;clear n0_ n1_ n2_ n3_;clear hb hbox hg) | ((with_reducible refine gate_callee (f:=83) rfl ?_);refine goesQ (some 13) Try.func83 #[.agg #[.string a0,.int .i64 0]] ?_;(with_reducible refine (pixel_head.calls k a0 0 t231 t232 t233 t234 t237 t238 t239 _ A2.out).mono ?_);rintro e w102 ⟨v235,rfl,ho0,hb⟩;refine ⟨_,rfl,?_⟩;have n0_:=Aside0.mk (Kd.R_lower ho0 (below_size (hn HB)));have n1_:=bb BK230 hb;have n2_:=hs HB hb;clear BK230;clear HB;have HO236:=n0_;have BK230:=n1_;have HB:=n2_;clear n0_ n1_ n2_;(try clear hb);(try clear ho0)) | ((with_reducible refine gate_dst (N:=4) rfl ?_);refine boxQ 4 #[.int .i64 0,.int .i64 0,.int .i64 0,.slice none 0 0] 76 ?_;intro gb240 hg w103 hbox hb;have n0_:=rk HO236 hb;have n1_:=bb BK230 hb;have n2_:=hs HB hb;have n3_:=Aside0.mk (hbox);have n4_:=gs HB hg;have n5_:=gs HB hg;have n6_:=nl BK230 hg;have n7_:=ng BK230 hg;clear HO236;clear BK230;clear HB;have HO236:=n0_;have BK230:=n1_;have HB:=n2_;have BK240:=n3_;have GW240:=n4_;have GE240:=n5_;have NB230_240:=n6_;have NB240_230:=n7_;clear n0_ n1_ n2_ n3_ n4_ n5_ n6_ n7_;clear hb hbox hg;have hnb104:=NB240_230.out;have hnc104:=NB230_240.out;obtain ⟨hcz105_0,hcz105_1,hcz105_2,hcz105_3⟩:=cc4 BK240;obtain ⟨hfz105_0,hfz105_1,hfz105_2,hfz105_3⟩:=ff4 BK240;obtain ⟨Ao106,co106,eo106⟩:=Kd.R_slice HO236.out;subst eo106;obtain ⟨hcz107_0,hcz107_1,hcz107_2,hcz107_3⟩:=cc4 BK230;obtain ⟨hfz107_0,hfz107_1,hfz107_2,hfz107_3⟩:=ff4 BK230))
  refine bodyPost_ret (results_ct rfl _ _ gb230 76 #[.int .i64 0,.int .i64 0,.int .i64 0,.slice none 0 0] (0,0) _ rfl (bq BK230) Try.underlying76 rfl (by kernel_rfl)) rfl ?_
  exact ⟨_,by first | rfl | (simp [errW_none,errW_some] <;> rfl) | (simp [*,errW_none,errW_some] <;> rfl),by first | exact Kd.R_nil _ _ _ _ _ | exact Kd.N_nil _ _ _ _ _ | exact Kd.V_nil _ _ _ _ _ | exact Kd.Q_nil _ _ _ _ _ | exact Kd.S_nil _ _ _ _ _,hn HB⟩
def pixel_Pixel.f (k:Nat) (a0_0:Int) (a0_1:Int) (a0_2:Int) (l0_3:List (S89)) (a1:Int) (a2:Int):Option (Int × Int × Int × Int):=(pixel_Right.f k a0_0 a0_1 a0_2 l0_3).bind fun t255=>(if t255=true then (if a1 < 0 then (some (0,0,0,0)) else (if a2 < 0 then (some (0,0,0,0)) else (if a1 ≥ a0_1 then (some (0,0,0,0)) else (if a2 ≥ a0_2 then (some (0,0,0,0)) else (if 0≤(wrap64 ((wrap64 (a2*a0_1))+a1)) then (if (wrap64 ((wrap64 (a2*a0_1))+a1)) < (l0_3.length:Int) then (some ((rd_T89 l0_3 (wrap64 ((wrap64 (a2*a0_1))+a1))).f0,(rd_T89 l0_3 (wrap64 ((wrap64 (a2*a0_1))+a1))).f1,(rd_T89 l0_3 (wrap64 ((wrap64 (a2*a0_1))+a1))).f2,(rd_T89 l0_3 (wrap64 ((wrap64 (a2*a0_1))+a1))).f3)) else (none)) else (none)))))) else (some (0,0,0,0)))
theorem pixel_Pixel.mono:∀ a0 a1 a2 a3 a4 a5 k,LeO (pixel_Pixel.f k a0 a1 a2 a3 a4 a5) (pixel_Pixel.f (k+1) a0 a1 a2 a3 a4 a5):=by
 intro a0 a1 a2 a3 a4 a5 k
 unfold pixel_Pixel.f
 repeat' first
   |(with_reducible exact pixel_Right.mono _ _ _ _ _)
   |(with_reducible exact LeO.refl _)
   |(with_reducible exact LeO.none _)
   |(with_reducible refine LeO.ite ?_ ?_)
   |(with_reducible refine LeO.bind ?_ (fun _=>?_))
   |exact pixel_Right.mono _ _ _ _ _
   |exact LeO.none _
   |refine LeO.ite ?_ ?_
   |refine LeO.bind ?_ (fun _=>?_)
set_option maxHeartbeats 8000000 in
set_option maxRecDepth 100000 in
theorem pixel_Pixel.calls (k : Nat) (a0_0 : Int) (a0_1 : Int) (a0_2 : Int) (A0_3 : Option Addr) (c0_3 : Nat) (l0_3 : List (S89)) (a1 : Int) (a2 : Int) (r1 : Int) (r2 : Int) (r3 : Int) (r4 : Int) (w : World) (hr0_3 : Kd.C k89 w A0_3 l0_3.length l0_3) (hc0_3 : l0_3.length ≤ c0_3) (h : pixel_Pixel.f k a0_0 a0_1 a0_2 l0_3 a1 a2 = some (r1, r2, r3, r4)) :
  Calls Try.prog 58 #[.agg #[.int .i64 a0_0,.int .i64 a0_1,.int .i64 a0_2,.slice A0_3 l0_3.length c0_3],.int .i64 a1,.int .i64 a2] w fun e w'=>e=.returned (.agg #[.int .i64 r1,.int .i64 r2,.int .i64 r3,.int .i64 r4])∧Below w.heap.size w w':=by
 have hu76:=Try.underlying76
 have hu89:=Try.underlying89
 have HR0_3:=Aside0.mk hr0_3
 have HC0_3:=Aside0.mk hc0_3
 clear hr0_3 hc0_3
 have HB:=Aside0.mk (Below.refl w.heap.size w)
 have H:((pixel_Right.f k a0_0 a0_1 a0_2 l0_3).bind fun t255=>(if t255=true then (if a1 < 0 then (some (0,0,0,0)) else (if a2 < 0 then (some (0,0,0,0)) else (if a1 ≥ a0_1 then (some (0,0,0,0)) else (if a2 ≥ a0_2 then (some (0,0,0,0)) else (if 0≤(wrap64 ((wrap64 (a2*a0_1))+a1)) then (if (wrap64 ((wrap64 (a2*a0_1))+a1)) < (l0_3.length:Int) then (some ((rd_T89 l0_3 (wrap64 ((wrap64 (a2*a0_1))+a1))).f0,(rd_T89 l0_3 (wrap64 ((wrap64 (a2*a0_1))+a1))).f1,(rd_T89 l0_3 (wrap64 ((wrap64 (a2*a0_1))+a1))).f2,(rd_T89 l0_3 (wrap64 ((wrap64 (a2*a0_1))+a1))).f3)) else (none)) else (none)))))) else (some (0,0,0,0))))=some (r1,r2,r3,r4):=h
 clear h
 replace H:=Option.bind_eq_some_iff.mp H
 obtain ⟨t255,A40,H⟩:=H
 replace H:(if t255=true then (if a1 < 0 then (some (0,0,0,0)) else (if a2 < 0 then (some (0,0,0,0)) else (if a1 ≥ a0_1 then (some (0,0,0,0)) else (if a2 ≥ a0_2 then (some (0,0,0,0)) else (if 0≤(wrap64 ((wrap64 (a2*a0_1))+a1)) then (if (wrap64 ((wrap64 (a2*a0_1))+a1)) < (l0_3.length:Int) then (some ((rd_T89 l0_3 (wrap64 ((wrap64 (a2*a0_1))+a1))).f0,(rd_T89 l0_3 (wrap64 ((wrap64 (a2*a0_1))+a1))).f1,(rd_T89 l0_3 (wrap64 ((wrap64 (a2*a0_1))+a1))).f2,(rd_T89 l0_3 (wrap64 ((wrap64 (a2*a0_1))+a1))).f3)) else (none)) else (none)))))) else (some (0,0,0,0)))=some (r1,r2,r3,r4):=H
 have A4:=Aside0.mk A40
 clear A40
 by_cases c5:t255=true
 ·subst c5
  have H1:(if a1 < 0 then (some (0,0,0,0)) else (if a2 < 0 then (some (0,0,0,0)) else (if a1 ≥ a0_1 then (some (0,0,0,0)) else (if a2 ≥ a0_2 then (some (0,0,0,0)) else (if 0≤(wrap64 ((wrap64 (a2*a0_1))+a1)) then (if (wrap64 ((wrap64 (a2*a0_1))+a1)) < (l0_3.length:Int) then (some ((rd_T89 l0_3 (wrap64 ((wrap64 (a2*a0_1))+a1))).f0,(rd_T89 l0_3 (wrap64 ((wrap64 (a2*a0_1))+a1))).f1,(rd_T89 l0_3 (wrap64 ((wrap64 (a2*a0_1))+a1))).f2,(rd_T89 l0_3 (wrap64 ((wrap64 (a2*a0_1))+a1))).f3)) else (none)) else (none))))))=some (r1,r2,r3,r4):=by rw [if_pos rfl] at H;exact H
  clear H
  have H:=H1
  clear H1
  by_cases c6:a1 < 0
  ·rw [if_pos c6] at H
   have c6b0:decide (a1 < 0)=true:=decide_eq_true c6
   clear c6
   simp only [Option.some.injEq,Prod.mk.injEq] at H
   obtain ⟨rfl,rfl,rfl,rfl⟩:=H
   go_enter Try.func58,Try.ntmps58
   go_wp2_with (first | ((with_reducible refine gate_dst (N:=3) rfl ?_);refine boxQ 3 #[.int .i64 a0_0,.int .i64 a0_1,.int .i64 a0_2,.slice A0_3 l0_3.length c0_3] 76 ?_;intro gb253 hg w7 hbox hb;have n0_:=hs HB hb;have n1_:=Aside0.mk (hbox);have n2_:=gs HB hg;have n3_:=gs HB hg;clear HB;have HB:=n0_;have BK253:=n1_;have GW253:=n2_;have GE253:=n3_;clear n0_ n1_ n2_ n3_;clear hb hbox hg) | ((with_reducible refine gate_dst (N:=6) rfl ?_);refine boxQ 6 #[.int .i64 0,.int .i64 0,.int .i64 0,.int .i64 0] 89 ?_;intro gb254 hg w8 hbox hb;have n0_:=bb BK253 hb;have n1_:=hs HB hb;have n2_:=Aside0.mk (hbox);have n3_:=gs HB hg;have n4_:=gs HB hg;have n5_:=nl BK253 hg;have n6_:=ng BK253 hg;clear BK253;clear HB;have BK253:=n0_;have HB:=n1_;have BK254:=n2_;have GW254:=n3_;have GE254:=n4_;have NB253_254:=n5_;have NB254_253:=n6_;clear n0_ n1_ n2_ n3_ n4_ n5_ n6_;clear hb hbox hg;have hnb9:=NB253_254.out;have hnc9:=NB254_253.out;obtain ⟨hcz10_0,hcz10_1,hcz10_2,hcz10_3⟩:=cc4 BK253;obtain ⟨hfz10_0,hfz10_1,hfz10_2,hfz10_3⟩:=ff4 BK253) | ((with_reducible refine gate_callee (f:=53) rfl ?_);refine goesQ (some 8) Try.func53 #[.agg #[.int .i64 a0_0,.int .i64 a0_1,.int .i64 a0_2,.slice A0_3 l0_3.length c0_3]] ?_;(with_reducible refine (pixel_Right.calls k a0_0 a0_1 a0_2 _ _ l0_3 true _ ?side1 ?side2 A4.out).mono ?_);(case side1=>repeat (first | exact (Kd.C_below HR0_3.out HB.out) | (with_reducible refine Kd.C_alloc ?_ _) | (with_reducible refine Kd.C_drewN ?_ _) | (with_reducible refine Kd.C_drew ?_)));(case side2=>exact HC0_3.out);rintro e w11 ⟨rfl,hb⟩;refine ⟨_,rfl,?_⟩;have n0_:=bb BK253 hb;have n1_:=bb BK254 hb;have n2_:=hs HB hb;clear BK253;clear BK254;clear HB;have BK253:=n0_;have BK254:=n1_;have HB:=n2_;clear n0_ n1_ n2_;(try clear hb);obtain ⟨hcz12_0,hcz12_1,hcz12_2,hcz12_3⟩:=cc4 BK254;obtain ⟨hfz12_0,hfz12_1,hfz12_2,hfz12_3⟩:=ff4 BK254))
   refine bodyPost_ret (results_cell_row rfl _ _ gb254 89 #[.int .i64 0,.int .i64 0,.int .i64 0,.int .i64 0] (0,0) _ rfl (bq BK254) Try.underlying89 rfl (by kernel_rfl)) rfl ?_
   exact ⟨by first | rfl | (simp [errW_none,errW_some] <;> rfl) | (simp [*,errW_none,errW_some] <;> rfl),hn HB⟩
  ·rw [if_neg c6] at H
   have c6b0:decide (a1 < 0)=false:=decide_eq_false c6
   clear c6
   by_cases c13:a2 < 0
   ·rw [if_pos c13] at H
    have c13b0:decide (a2 < 0)=true:=decide_eq_true c13
    clear c13
    simp only [Option.some.injEq,Prod.mk.injEq] at H
    obtain ⟨rfl,rfl,rfl,rfl⟩:=H
    go_enter Try.func58,Try.ntmps58
    go_wp2_with (first | ((with_reducible refine gate_dst (N:=3) rfl ?_);refine boxQ 3 #[.int .i64 a0_0,.int .i64 a0_1,.int .i64 a0_2,.slice A0_3 l0_3.length c0_3] 76 ?_;intro gb253 hg w14 hbox hb;have n0_:=hs HB hb;have n1_:=Aside0.mk (hbox);have n2_:=gs HB hg;have n3_:=gs HB hg;clear HB;have HB:=n0_;have BK253:=n1_;have GW253:=n2_;have GE253:=n3_;clear n0_ n1_ n2_ n3_;clear hb hbox hg) | ((with_reducible refine gate_dst (N:=6) rfl ?_);refine boxQ 6 #[.int .i64 0,.int .i64 0,.int .i64 0,.int .i64 0] 89 ?_;intro gb254 hg w15 hbox hb;have n0_:=bb BK253 hb;have n1_:=hs HB hb;have n2_:=Aside0.mk (hbox);have n3_:=gs HB hg;have n4_:=gs HB hg;have n5_:=nl BK253 hg;have n6_:=ng BK253 hg;clear BK253;clear HB;have BK253:=n0_;have HB:=n1_;have BK254:=n2_;have GW254:=n3_;have GE254:=n4_;have NB253_254:=n5_;have NB254_253:=n6_;clear n0_ n1_ n2_ n3_ n4_ n5_ n6_;clear hb hbox hg;have hnb16:=NB253_254.out;have hnc16:=NB254_253.out;obtain ⟨hcz17_0,hcz17_1,hcz17_2,hcz17_3⟩:=cc4 BK253;obtain ⟨hfz17_0,hfz17_1,hfz17_2,hfz17_3⟩:=ff4 BK253) | ((with_reducible refine gate_callee (f:=53) rfl ?_);refine goesQ (some 8) Try.func53 #[.agg #[.int .i64 a0_0,.int .i64 a0_1,.int .i64 a0_2,.slice A0_3 l0_3.length c0_3]] ?_;(with_reducible refine (pixel_Right.calls k a0_0 a0_1 a0_2 _ _ l0_3 true _ ?side1 ?side2 A4.out).mono ?_);(case side1=>repeat (first | exact (Kd.C_below HR0_3.out HB.out) | (with_reducible refine Kd.C_alloc ?_ _) | (with_reducible refine Kd.C_drewN ?_ _) | (with_reducible refine Kd.C_drew ?_)));(case side2=>exact HC0_3.out);rintro e w18 ⟨rfl,hb⟩;refine ⟨_,rfl,?_⟩;have n0_:=bb BK253 hb;have n1_:=bb BK254 hb;have n2_:=hs HB hb;clear BK253;clear BK254;clear HB;have BK253:=n0_;have BK254:=n1_;have HB:=n2_;clear n0_ n1_ n2_;(try clear hb);obtain ⟨hcz19_0,hcz19_1,hcz19_2,hcz19_3⟩:=cc4 BK254;obtain ⟨hfz19_0,hfz19_1,hfz19_2,hfz19_3⟩:=ff4 BK254))
    refine bodyPost_ret (results_cell_row rfl _ _ gb254 89 #[.int .i64 0,.int .i64 0,.int .i64 0,.int .i64 0] (0,0) _ rfl (bq BK254) Try.underlying89 rfl (by kernel_rfl)) rfl ?_
    exact ⟨by first | rfl | (simp [errW_none,errW_some] <;> rfl) | (simp [*,errW_none,errW_some] <;> rfl),hn HB⟩
   ·rw [if_neg c13] at H
    have c13b0:decide (a2 < 0)=false:=decide_eq_false c13
    clear c13
    by_cases c20:a1 ≥ a0_1
    ·rw [if_pos c20] at H
     have c20b0:decide (a0_1≤a1)=true:=decide_eq_true c20
     clear c20
     simp only [Option.some.injEq,Prod.mk.injEq] at H
     obtain ⟨rfl,rfl,rfl,rfl⟩:=H
     go_enter Try.func58,Try.ntmps58
     go_wp2_with (first | ((with_reducible refine gate_dst (N:=3) rfl ?_);refine boxQ 3 #[.int .i64 a0_0,.int .i64 a0_1,.int .i64 a0_2,.slice A0_3 l0_3.length c0_3] 76 ?_;intro gb253 hg w21 hbox hb;have n0_:=hs HB hb;have n1_:=Aside0.mk (hbox);have n2_:=gs HB hg;have n3_:=gs HB hg;clear HB;have HB:=n0_;have BK253:=n1_;have GW253:=n2_;have GE253:=n3_;clear n0_ n1_ n2_ n3_;clear hb hbox hg) | ((with_reducible refine gate_dst (N:=6) rfl ?_);refine boxQ 6 #[.int .i64 0,.int .i64 0,.int .i64 0,.int .i64 0] 89 ?_;intro gb254 hg w22 hbox hb;have n0_:=bb BK253 hb;have n1_:=hs HB hb;have n2_:=Aside0.mk (hbox);have n3_:=gs HB hg;have n4_:=gs HB hg;have n5_:=nl BK253 hg;have n6_:=ng BK253 hg;clear BK253;clear HB;have BK253:=n0_;have HB:=n1_;have BK254:=n2_;have GW254:=n3_;have GE254:=n4_;have NB253_254:=n5_;have NB254_253:=n6_;clear n0_ n1_ n2_ n3_ n4_ n5_ n6_;clear hb hbox hg;have hnb23:=NB253_254.out;have hnc23:=NB254_253.out;obtain ⟨hcz24_0,hcz24_1,hcz24_2,hcz24_3⟩:=cc4 BK253;obtain ⟨hfz24_0,hfz24_1,hfz24_2,hfz24_3⟩:=ff4 BK253) | ((with_reducible refine gate_callee (f:=53) rfl ?_);refine goesQ (some 8) Try.func53 #[.agg #[.int .i64 a0_0,.int .i64 a0_1,.int .i64 a0_2,.slice A0_3 l0_3.length c0_3]] ?_;(with_reducible refine (pixel_Right.calls k a0_0 a0_1 a0_2 _ _ l0_3 true _ ?side1 ?side2 A4.out).mono ?_);(case side1=>repeat (first | exact (Kd.C_below HR0_3.out HB.out) | (with_reducible refine Kd.C_alloc ?_ _) | (with_reducible refine Kd.C_drewN ?_ _) | (with_reducible refine Kd.C_drew ?_)));(case side2=>exact HC0_3.out);rintro e w25 ⟨rfl,hb⟩;refine ⟨_,rfl,?_⟩;have n0_:=bb BK253 hb;have n1_:=bb BK254 hb;have n2_:=hs HB hb;clear BK253;clear BK254;clear HB;have BK253:=n0_;have BK254:=n1_;have HB:=n2_;clear n0_ n1_ n2_;(try clear hb);obtain ⟨hcz26_0,hcz26_1,hcz26_2,hcz26_3⟩:=cc4 BK253;obtain ⟨hfz26_0,hfz26_1,hfz26_2,hfz26_3⟩:=ff4 BK253;obtain ⟨hcz27_0,hcz27_1,hcz27_2,hcz27_3⟩:=cc4 BK254;obtain ⟨hfz27_0,hfz27_1,hfz27_2,hfz27_3⟩:=ff4 BK254))
     refine bodyPost_ret (results_cell_row rfl _ _ gb254 89 #[.int .i64 0,.int .i64 0,.int .i64 0,.int .i64 0] (0,0) _ rfl (bq BK254) Try.underlying89 rfl (by kernel_rfl)) rfl ?_
     exact ⟨by first | rfl | (simp [errW_none,errW_some] <;> rfl) | (simp [*,errW_none,errW_some] <;> rfl),hn HB⟩
    ·rw [if_neg c20] at H
     have c20b0:decide (a0_1≤a1)=false:=decide_eq_false c20
     clear c20
     by_cases c28:a2 ≥ a0_2
     ·rw [if_pos c28] at H
      have c28b0:decide (a0_2≤a2)=true:=decide_eq_true c28
      clear c28
      simp only [Option.some.injEq,Prod.mk.injEq] at H
      obtain ⟨rfl,rfl,rfl,rfl⟩:=H
      go_enter Try.func58,Try.ntmps58
      go_wp2_with (first | ((with_reducible refine gate_dst (N:=3) rfl ?_);refine boxQ 3 #[.int .i64 a0_0,.int .i64 a0_1,.int .i64 a0_2,.slice A0_3 l0_3.length c0_3] 76 ?_;intro gb253 hg w29 hbox hb;have n0_:=hs HB hb;have n1_:=Aside0.mk (hbox);have n2_:=gs HB hg;have n3_:=gs HB hg;clear HB;have HB:=n0_;have BK253:=n1_;have GW253:=n2_;have GE253:=n3_;clear n0_ n1_ n2_ n3_;clear hb hbox hg) | ((with_reducible refine gate_dst (N:=6) rfl ?_);refine boxQ 6 #[.int .i64 0,.int .i64 0,.int .i64 0,.int .i64 0] 89 ?_;intro gb254 hg w30 hbox hb;have n0_:=bb BK253 hb;have n1_:=hs HB hb;have n2_:=Aside0.mk (hbox);have n3_:=gs HB hg;have n4_:=gs HB hg;have n5_:=nl BK253 hg;have n6_:=ng BK253 hg;clear BK253;clear HB;have BK253:=n0_;have HB:=n1_;have BK254:=n2_;have GW254:=n3_;have GE254:=n4_;have NB253_254:=n5_;have NB254_253:=n6_;clear n0_ n1_ n2_ n3_ n4_ n5_ n6_;clear hb hbox hg;have hnb31:=NB253_254.out;have hnc31:=NB254_253.out;obtain ⟨hcz32_0,hcz32_1,hcz32_2,hcz32_3⟩:=cc4 BK253;obtain ⟨hfz32_0,hfz32_1,hfz32_2,hfz32_3⟩:=ff4 BK253) | ((with_reducible refine gate_callee (f:=53) rfl ?_);refine goesQ (some 8) Try.func53 #[.agg #[.int .i64 a0_0,.int .i64 a0_1,.int .i64 a0_2,.slice A0_3 l0_3.length c0_3]] ?_;(with_reducible refine (pixel_Right.calls k a0_0 a0_1 a0_2 _ _ l0_3 true _ ?side1 ?side2 A4.out).mono ?_);(case side1=>repeat (first | exact (Kd.C_below HR0_3.out HB.out) | (with_reducible refine Kd.C_alloc ?_ _) | (with_reducible refine Kd.C_drewN ?_ _) | (with_reducible refine Kd.C_drew ?_)));(case side2=>exact HC0_3.out);rintro e w33 ⟨rfl,hb⟩;refine ⟨_,rfl,?_⟩;have n0_:=bb BK253 hb;have n1_:=bb BK254 hb;have n2_:=hs HB hb;clear BK253;clear BK254;clear HB;have BK253:=n0_;have BK254:=n1_;have HB:=n2_;clear n0_ n1_ n2_;(try clear hb);obtain ⟨hcz34_0,hcz34_1,hcz34_2,hcz34_3⟩:=cc4 BK253;obtain ⟨hfz34_0,hfz34_1,hfz34_2,hfz34_3⟩:=ff4 BK253;obtain ⟨hcz35_0,hcz35_1,hcz35_2,hcz35_3⟩:=cc4 BK254;obtain ⟨hfz35_0,hfz35_1,hfz35_2,hfz35_3⟩:=ff4 BK254))
      refine bodyPost_ret (results_cell_row rfl _ _ gb254 89 #[.int .i64 0,.int .i64 0,.int .i64 0,.int .i64 0] (0,0) _ rfl (bq BK254) Try.underlying89 rfl (by kernel_rfl)) rfl ?_
      exact ⟨by first | rfl | (simp [errW_none,errW_some] <;> rfl) | (simp [*,errW_none,errW_some] <;> rfl),hn HB⟩
     ·rw [if_neg c28] at H
      have c28b0:decide (a0_2≤a2)=false:=decide_eq_false c28
      clear c28
      obtain ⟨ji36,hji36⟩:∃ j_:Int,(wrap64 ((wrap64 (a2*a0_1))+a1))=j_:=⟨_,rfl⟩
      replace H:(if 0≤(ji36) then (if (ji36) < (l0_3.length:Int) then (some ((rd_T89 l0_3 (ji36)).f0,(rd_T89 l0_3 (ji36)).f1,(rd_T89 l0_3 (ji36)).f2,(rd_T89 l0_3 (ji36)).f3)) else (none)) else (none))=some (r1,r2,r3,r4):=by first | (rw [hji36] at H;exact H) | (simp only [hji36] at H ⊢;exact H)
      (try rw [hji36] at A4)
      have hji36w:(IntKind.i64.wrap ((wrap64 (a2*a0_1))+a1))=ji36:=(i64_w _).trans hji36
      by_cases c37:0≤(ji36)
      ·rw [if_pos c37] at H
       have c37b0:decide (0≤(ji36))=true:=decide_eq_true c37
       clear c37
       by_cases c38:(ji36) < (l0_3.length:Int)
       ·rw [if_pos c38] at H
        have c38b0:decide ((ji36) < (l0_3.length:Int))=true:=decide_eq_true c38
        clear c38
        simp only [Option.some.injEq,Prod.mk.injEq] at H
        obtain ⟨rfl,rfl,rfl,rfl⟩:=H
        go_enter Try.func58,Try.ntmps58
        go_wp2_with (first | ((with_reducible refine gate_dst (N:=3) rfl ?_);refine boxQ 3 #[.int .i64 a0_0,.int .i64 a0_1,.int .i64 a0_2,.slice A0_3 l0_3.length c0_3] 76 ?_;intro gb253 hg w39 hbox hb;have n0_:=hs HB hb;have n1_:=Aside0.mk (hbox);have n2_:=gs HB hg;have n3_:=gs HB hg;clear HB;have HB:=n0_;have BK253:=n1_;have GW253:=n2_;have GE253:=n3_;clear n0_ n1_ n2_ n3_;clear hb hbox hg) | ((with_reducible refine gate_dst (N:=6) rfl ?_);refine boxQ 6 #[.int .i64 0,.int .i64 0,.int .i64 0,.int .i64 0] 89 ?_;intro gb254 hg w40 hbox hb;have n0_:=bb BK253 hb;have n1_:=hs HB hb;have n2_:=Aside0.mk (hbox);have n3_:=gs HB hg;have n4_:=gs HB hg;have n5_:=nl BK253 hg;have n6_:=ng BK253 hg;clear BK253;clear HB;have BK253:=n0_;have HB:=n1_;have BK254:=n2_;have GW254:=n3_;have GE254:=n4_;have NB253_254:=n5_;have NB254_253:=n6_;clear n0_ n1_ n2_ n3_ n4_ n5_ n6_;clear hb hbox hg;have hnb41:=NB253_254.out;have hnc41:=NB254_253.out;obtain ⟨hcz42_0,hcz42_1,hcz42_2,hcz42_3⟩:=cc4 BK253;obtain ⟨hfz42_0,hfz42_1,hfz42_2,hfz42_3⟩:=ff4 BK253) | ((with_reducible refine gate_callee (f:=53) rfl ?_);refine goesQ (some 8) Try.func53 #[.agg #[.int .i64 a0_0,.int .i64 a0_1,.int .i64 a0_2,.slice A0_3 l0_3.length c0_3]] ?_;(with_reducible refine (pixel_Right.calls k a0_0 a0_1 a0_2 _ _ l0_3 true _ ?side1 ?side2 A4.out).mono ?_);(case side1=>repeat (first | exact (Kd.C_below HR0_3.out HB.out) | (with_reducible refine Kd.C_alloc ?_ _) | (with_reducible refine Kd.C_drewN ?_ _) | (with_reducible refine Kd.C_drew ?_)));(case side2=>exact HC0_3.out);rintro e w43 ⟨rfl,hb⟩;refine ⟨_,rfl,?_⟩;have n0_:=bb BK253 hb;have n1_:=bb BK254 hb;have n2_:=hs HB hb;clear BK253;clear BK254;clear HB;have BK253:=n0_;have BK254:=n1_;have HB:=n2_;clear n0_ n1_ n2_;(try clear hb);obtain ⟨hcz44_0,hcz44_1,hcz44_2,hcz44_3⟩:=cc4 BK253;obtain ⟨hfz44_0,hfz44_1,hfz44_2,hfz44_3⟩:=ff4 BK253;have p256:0≤((ji36):Int):=of_decide_eq_true (by first | (with_reducible assumption) | assumption);have q256:(ji36) < (l0_3.length:Int):=of_decide_eq_true (by first | (with_reducible assumption) | assumption);obtain ⟨ad256,e256,hx256_0,hx256_1,hx256_2,hx256_3⟩:=at_T89 HR0_3.out (ji36) p256 q256;cases e256;replace hx256_0:=(HB.out.cell (World.block_lt_of_cell? w _ hx256_0)).trans hx256_0;replace hx256_1:=(HB.out.cell (World.block_lt_of_cell? w _ hx256_1)).trans hx256_1;replace hx256_2:=(HB.out.cell (World.block_lt_of_cell? w _ hx256_2)).trans hx256_2;replace hx256_3:=(HB.out.cell (World.block_lt_of_cell? w _ hx256_3)).trans hx256_3;replace p256:=eq_true p256;replace q256:=eq_true q256;obtain ⟨hcz45_0,hcz45_1,hcz45_2,hcz45_3⟩:=cc4 BK254;obtain ⟨hfz45_0,hfz45_1,hfz45_2,hfz45_3⟩:=ff4 BK254))
        refine bodyPost_ret (results_cell_row rfl _ _ gb254 89 #[.int .i64 ((rd_T89 l0_3 (ji36)).f0),.int .i64 ((rd_T89 l0_3 (ji36)).f1),.int .i64 ((rd_T89 l0_3 (ji36)).f2),.int .i64 ((rd_T89 l0_3 (ji36)).f3)] (0,0) _ rfl (bq BK254) Try.underlying89 rfl (by kernel_rfl)) rfl ?_
        exact ⟨by first | rfl | (simp [errW_none,errW_some] <;> rfl) | (simp only [← hji36];first | rfl | (simp [errW_none,errW_some] <;> rfl)) | (simp [*,errW_none,errW_some] <;> rfl),hn HB⟩
       ·rw [if_neg c38] at H
        exact absurd H (by simp)
      ·rw [if_neg c37] at H
       exact absurd H (by simp)
 ·replace c5:=Bool.eq_false_iff.mpr c5
  subst c5
  have H1:(some (0,0,0,0))=some (r1,r2,r3,r4):=by rw [if_neg (show ¬ (false=true) by decide)] at H;exact H
  clear H
  have H:=H1
  clear H1
  simp only [Option.some.injEq,Prod.mk.injEq] at H
  obtain ⟨rfl,rfl,rfl,rfl⟩:=H
  go_enter Try.func58,Try.ntmps58
  go_wp2_with (first | ((with_reducible refine gate_dst (N:=3) rfl ?_);refine boxQ 3 #[.int .i64 a0_0,.int .i64 a0_1,.int .i64 a0_2,.slice A0_3 l0_3.length c0_3] 76 ?_;intro gb253 hg w46 hbox hb;have n0_:=hs HB hb;have n1_:=Aside0.mk (hbox);have n2_:=gs HB hg;have n3_:=gs HB hg;clear HB;have HB:=n0_;have BK253:=n1_;have GW253:=n2_;have GE253:=n3_;clear n0_ n1_ n2_ n3_;clear hb hbox hg) | ((with_reducible refine gate_dst (N:=6) rfl ?_);refine boxQ 6 #[.int .i64 0,.int .i64 0,.int .i64 0,.int .i64 0] 89 ?_;intro gb254 hg w47 hbox hb;have n0_:=bb BK253 hb;have n1_:=hs HB hb;have n2_:=Aside0.mk (hbox);have n3_:=gs HB hg;have n4_:=gs HB hg;have n5_:=nl BK253 hg;have n6_:=ng BK253 hg;clear BK253;clear HB;have BK253:=n0_;have HB:=n1_;have BK254:=n2_;have GW254:=n3_;have GE254:=n4_;have NB253_254:=n5_;have NB254_253:=n6_;clear n0_ n1_ n2_ n3_ n4_ n5_ n6_;clear hb hbox hg;have hnb48:=NB253_254.out;have hnc48:=NB254_253.out;obtain ⟨hcz49_0,hcz49_1,hcz49_2,hcz49_3⟩:=cc4 BK253;obtain ⟨hfz49_0,hfz49_1,hfz49_2,hfz49_3⟩:=ff4 BK253) | ((with_reducible refine gate_callee (f:=53) rfl ?_);refine goesQ (some 8) Try.func53 #[.agg #[.int .i64 a0_0,.int .i64 a0_1,.int .i64 a0_2,.slice A0_3 l0_3.length c0_3]] ?_;(with_reducible refine (pixel_Right.calls k a0_0 a0_1 a0_2 _ _ l0_3 false _ ?side1 ?side2 A4.out).mono ?_);(case side1=>repeat (first | exact (Kd.C_below HR0_3.out HB.out) | (with_reducible refine Kd.C_alloc ?_ _) | (with_reducible refine Kd.C_drewN ?_ _) | (with_reducible refine Kd.C_drew ?_)));(case side2=>exact HC0_3.out);rintro e w50 ⟨rfl,hb⟩;refine ⟨_,rfl,?_⟩;have n0_:=bb BK253 hb;have n1_:=bb BK254 hb;have n2_:=hs HB hb;clear BK253;clear BK254;clear HB;have BK253:=n0_;have BK254:=n1_;have HB:=n2_;clear n0_ n1_ n2_;(try clear hb);obtain ⟨hcz51_0,hcz51_1,hcz51_2,hcz51_3⟩:=cc4 BK254;obtain ⟨hfz51_0,hfz51_1,hfz51_2,hfz51_3⟩:=ff4 BK254))
  refine bodyPost_ret (results_cell_row rfl _ _ gb254 89 #[.int .i64 0,.int .i64 0,.int .i64 0,.int .i64 0] (0,0) _ rfl (bq BK254) Try.underlying89 rfl (by kernel_rfl)) rfl ?_
  exact ⟨by first | rfl | (simp [errW_none,errW_some] <;> rfl) | (simp [*,errW_none,errW_some] <;> rfl),hn HB⟩
end Go.Proofs.Ytpbhkdamkbopkaa.GPixb
namespace Go.Proofs.Ytpbhkdamkbopkaa.GPixb
open Go.Proofs.Ytpbhkdamkbopkaa.Sq
open Go.RowKit Go.Proofs.YtpbhkdamkbopkaaW.PrintWords Go.Proofs.YtpbhkdamkbopkaaW.PrintLast Go.Proofs.YtpbhkdamkbopkaaW.PrintMore Go.Proofs.Ytpbhkdamkbopkaa.Wr2 Go.Proofs.Ytpbhkdamkbopkaa.Wr1 Go.Proofs.Ytpbhkdamkbopkaa.GRuns Go.Proofs.Ytpbhkdamkbopkaa.GBack2 Go.Proofs.Ytpbhkdamkbopkaa.GPix Go.Proofs.Ytpbhkdamkbopkaa.PR
attribute [local go_sem] max2_int min2_int max_two min_two max_three min_three max_four min_four
set_option linter.unusedVariables false
set_option linter.unusedSimpArgs false
def celluloidlaw11_awake.f (k:Nat) :Option (Bool):=(pixel_Put.f k 258 1 1 (([(⟨1,0,0,9⟩:S89)]:List (S89)))).bind fun bt261=>((pixel_Take.f k bt261.1).bind fun bt263=>(if (bt261.1.size:Int) > 7 then (if 0≤7 then (if 7≤(bt261.1.size:Int) then (if (bt261.1.extract 0 7).toList=([2,1,5,1,0,1,0]:List UInt8) then (if bt261.2=0 then (if bt263.2.2.2.2=0 then (if (bt263.2.2.2.1.length:Int)=1 then (if 0 < (bt263.2.2.2.1.length:Int) then (if ((rd_T89 bt263.2.2.2.1 0).f3)=9 then ((pixel_Pixel.f k bt263.1 bt263.2.1 bt263.2.2.1 bt263.2.2.2.1 0 0).bind fun bt272=>(some (bt272.1 == 1))) else (some false)) else (none)) else (some false)) else (some false)) else (some false)) else (some false)) else (none)) else (none)) else (some false)))
theorem celluloidlaw11_awake.mono:∀ k,LeO (celluloidlaw11_awake.f k ) (celluloidlaw11_awake.f (k+1) ):=by
 intro  k
 unfold celluloidlaw11_awake.f
 repeat' first
   |(with_reducible exact pixel_Pixel.mono _ _ _ _ _ _ _)
   |(with_reducible exact pixel_Put.mono _ _ _ _ _)
   |(with_reducible exact pixel_Take.mono _ _)
   |(with_reducible exact LeO.refl _)
   |(with_reducible exact LeO.none _)
   |(with_reducible refine LeO.ite ?_ ?_)
   |(with_reducible refine LeO.bind ?_ (fun _=>?_))
   |exact pixel_Pixel.mono _ _ _ _ _ _ _
   |exact pixel_Put.mono _ _ _ _ _
   |exact pixel_Take.mono _ _
   |exact LeO.none _
   |refine LeO.ite ?_ ?_
   |refine LeO.bind ?_ (fun _=>?_)
theorem celluloidlaw11_awake.at_:celluloidlaw11_awake.f 300=some true:=by decide +kernel
theorem celluloidlaw11_awake.more (k r) (h:celluloidlaw11_awake.f k=some r):∀ d,celluloidlaw11_awake.f (k+d)=some r
 |0=>h
 |d+1=>celluloidlaw11_awake.mono _ _ (celluloidlaw11_awake.more k r h d)
theorem celluloidlaw11_awake.true_ (k r) (h:celluloidlaw11_awake.f k=some r):r=true:=by
 have h1:=celluloidlaw11_awake.more k r h 300
 have h2:=celluloidlaw11_awake.more 300 true celluloidlaw11_awake.at_ k
 rw [Nat.add_comm,h1] at h2
 exact Option.some.inj h2
set_option maxHeartbeats 8000000 in
set_option maxRecDepth 100000 in
theorem celluloidlaw11_awake.calls (k : Nat)  (r : Bool) (w : World) (h : celluloidlaw11_awake.f k  = some r) :
  Calls Try.prog 49 #[] w fun e w'=>e=.returned (.bool r)∧Below w.heap.size w w':=by
 have hu89:=Try.underlying89
 have hu76:=Try.underlying76
 have HB:=Aside0.mk (Below.refl w.heap.size w)
 have hr_:=Aside0.mk (celluloidlaw11_awake.true_ k r h)
 have hfd89:∀ (x0 x1 x2 x3:Int) (w:World),(Instr.field 89 (.agg #[.int .i64 x0,.int .i64 x1,.int .i64 x2,.int .i64 x3]) 0).run Try.prog w=.ok (.int .i64 x0) w:=fun _ _ _ _ _=>by kernel_rfl
 have H:((pixel_Put.f k 258 1 1 (([(⟨1,0,0,9⟩:S89)]:List (S89)))).bind fun bt261=>((pixel_Take.f k bt261.1).bind fun bt263=>(if (bt261.1.size:Int) > 7 then (if 0≤7 then (if 7≤(bt261.1.size:Int) then (if (bt261.1.extract 0 7).toList=([2,1,5,1,0,1,0]:List UInt8) then (if bt261.2=0 then (if bt263.2.2.2.2=0 then (if (bt263.2.2.2.1.length:Int)=1 then (if 0 < (bt263.2.2.2.1.length:Int) then (if ((rd_T89 bt263.2.2.2.1 0).f3)=9 then ((pixel_Pixel.f k bt263.1 bt263.2.1 bt263.2.2.1 bt263.2.2.2.1 0 0).bind fun bt272=>(some (bt272.1 == 1))) else (some false)) else (none)) else (some false)) else (some false)) else (some false)) else (some false)) else (none)) else (none)) else (some false))))=some r:=h
 clear h
 obtain ⟨y257,hy257⟩:∃ y_:List (S89),y_=(([(⟨1,0,0,9⟩:S89)]:List (S89))):=⟨_,rfl⟩
 replace H:((pixel_Put.f k 258 1 1 y257).bind fun bt261=>((pixel_Take.f k bt261.1).bind fun bt263=>(if (bt261.1.size:Int) > 7 then (if 0≤7 then (if 7≤(bt261.1.size:Int) then (if (bt261.1.extract 0 7).toList=([2,1,5,1,0,1,0]:List UInt8) then (if bt261.2=0 then (if bt263.2.2.2.2=0 then (if (bt263.2.2.2.1.length:Int)=1 then (if 0 < (bt263.2.2.2.1.length:Int) then (if ((rd_T89 bt263.2.2.2.1 0).f3)=9 then ((pixel_Pixel.f k bt263.1 bt263.2.1 bt263.2.2.1 bt263.2.2.2.1 0 0).bind fun bt272=>(some (bt272.1 == 1))) else (some false)) else (none)) else (some false)) else (some false)) else (some false)) else (some false)) else (none)) else (none)) else (some false))))=some r:=by first | (rw [hy257];with_reducible exact H) | (have H2_:=(Option.bind_some _ _).symm.trans H;rw [hy257];with_reducible exact H2_) | (have H2_:=(Option.bind_some _ _).symm.trans H;with_reducible exact H2_) | with_reducible exact H | (rw [hy257];exact H) | exact H
 have Ny257:=Aside0.mk hy257
 clear hy257
 replace H:=Option.bind_eq_some_iff.mp H
 obtain ⟨⟨t261,t262⟩,A10,H⟩:=H
 replace H:((pixel_Take.f k t261).bind fun bt263=>(if (t261.size:Int) > 7 then (if 0≤7 then (if 7≤(t261.size:Int) then (if (t261.extract 0 7).toList=([2,1,5,1,0,1,0]:List UInt8) then (if t262=0 then (if bt263.2.2.2.2=0 then (if (bt263.2.2.2.1.length:Int)=1 then (if 0 < (bt263.2.2.2.1.length:Int) then (if ((rd_T89 bt263.2.2.2.1 0).f3)=9 then ((pixel_Pixel.f k bt263.1 bt263.2.1 bt263.2.2.1 bt263.2.2.2.1 0 0).bind fun bt272=>(some (bt272.1 == 1))) else (some false)) else (none)) else (some false)) else (some false)) else (some false)) else (some false)) else (none)) else (none)) else (some false)))=some r:=H
 have A1:=Aside0.mk A10
 clear A10
 replace H:=Option.bind_eq_some_iff.mp H
 obtain ⟨⟨t263,t264,t265,t266,t269⟩,A20,H⟩:=H
 replace H:(if (t261.size:Int) > 7 then (if 0≤7 then (if 7≤(t261.size:Int) then (if (t261.extract 0 7).toList=([2,1,5,1,0,1,0]:List UInt8) then (if t262=0 then (if t269=0 then (if (t266.length:Int)=1 then (if 0 < (t266.length:Int) then (if ((rd_T89 t266 0).f3)=9 then ((pixel_Pixel.f k t263 t264 t265 t266 0 0).bind fun bt272=>(some (bt272.1 == 1))) else (some false)) else (none)) else (some false)) else (some false)) else (some false)) else (some false)) else (none)) else (none)) else (some false))=some r:=H
 have A2:=Aside0.mk A20
 clear A20
 by_cases c3:(t261.size:Int) > 7
 ·rw [if_pos c3] at H
  have c3b0:decide (7 < (t261.size:Int))=true:=decide_eq_true c3
  have c3b1:decide (7 < t261.size)=true:=decide_eq_true (by omega)
  clear c3
  by_cases c4:0≤7
  ·rw [if_pos c4] at H
   have c4b0:=eq_true c4
   have c4b1:decide (0≤7)=true:=decide_eq_true c4
   clear c4
   by_cases c5:7≤(t261.size:Int)
   ·rw [if_pos c5] at H
    have c5b0:=eq_true c5
    have c5b1:decide (7≤(t261.size:Int))=true:=decide_eq_true c5
    clear c5
    by_cases c6:(t261.extract 0 7).toList=([2,1,5,1,0,1,0]:List UInt8)
    ·rw [if_pos c6] at H
     have c6b0:((t261.extract 0 7).toList == ([2,1,5,1,0,1,0]:List UInt8))=true:=beq_iff_eq.mpr c6
     have c6b1:((t261.extract 0 7).toList != ([2,1,5,1,0,1,0]:List UInt8))=false:=bne_eq_false_iff_eq.mpr c6
     clear c6
     by_cases c7:t262=0
     ·rw [if_pos c7] at H
      have c7b0:(t262 == 0)=true:=beq_iff_eq.mpr c7
      have c7b1:(t262 != 0)=false:=bne_eq_false_iff_eq.mpr c7
      clear c7
      by_cases c8:t269=0
      ·rw [if_pos c8] at H
       have c8b0:(t269 == 0)=true:=beq_iff_eq.mpr c8
       have c8b1:(t269 != 0)=false:=bne_eq_false_iff_eq.mpr c8
       clear c8
       by_cases c9:(t266.length:Int)=1
       ·rw [if_pos c9] at H
        have c9b0:((t266.length:Int) == 1)=true:=beq_iff_eq.mpr c9
        have c9b1:((t266.length:Int) != 1)=false:=bne_eq_false_iff_eq.mpr c9
        clear c9
        by_cases c10:0 < (t266.length:Int)
        ·rw [if_pos c10] at H
         have c10b0:decide (0 < (t266.length:Int))=true:=decide_eq_true c10
         have c10b1:decide (0 < t266.length)=true:=decide_eq_true (by omega)
         clear c10
         by_cases c11:((rd_T89 t266 0).f3)=9
         ·rw [if_pos c11] at H
          have c11b0:(((rd_T89 t266 0).f3) == 9)=true:=beq_iff_eq.mpr c11
          have c11b1:(((rd_T89 t266 0).f3) != 9)=false:=bne_eq_false_iff_eq.mpr c11
          clear c11
          replace H:=Option.bind_eq_some_iff.mp H
          obtain ⟨⟨t272,t273,t274,t275⟩,A120,H⟩:=H
          replace H:(some (t272 == 1))=some r:=H
          have A12:=Aside0.mk A120
          clear A120
          obtain rfl:=Option.some.inj H
          go_enter Try.func49,Try.ntmps49
          go_wp2_with (first | ((with_reducible refine gate_dst (N:=7) rfl ?_);(try (refine gate_guard (by rfl) ?_;dsimp only));refine Kd.R_lit k89 _ 89 ?hg (N:=7) ?hd (xs:=([(⟨1,0,0,9⟩:S89)]:List (S89))) (inner:=[.int .i64 1,.int .i64 0,.int .i64 0,.int .i64 9]) (ok:=fun _=>True) (okp:=fun _=>True) ?hr ?hp (fun _ hk=>hk) trivial (Below.refl _ _) (Nat.le_refl _) (by simp) ?_;(case hd=>rfl);(case hg=>rfl);(case hr=>first | (go_simp;done) | (go_simp;rfl));(case hp=>exact (Reps.c4 (show Kd.M k89 _ _ _ (⟨1,0,0,9⟩:S89) [.int .i64 1,.int .i64 0,.int .i64 0,.int .i64 9] from (k89_mkM _ _ _ (⟨1,0,0,9⟩:S89) )) (Reps.none _ _)));intro v258 w13 ho14 hb hg_ hnew_;clear hg_ hnew_;(first | rw [← Ny257.out] at ho14 | (simp only [Int.reduceToNat] at ho14;rw [← Ny257.out] at ho14));have n0_:=Aside0.mk (Kd.R_lower ho14 (below_size (hn HB)));have n1_:=hs HB hb;clear HB;have HO259:=n0_;have HB:=n1_;clear n0_ n1_;clear hb ho14;obtain ⟨Ao15,co15,eo15⟩:=Kd.R_slice HO259.out;subst eo15) | ((with_reducible refine gate_dst (N:=1) rfl ?_);(try (refine gate_guard (by rfl) ?_;dsimp only));refine boxQ 1 #[.int .i64 0,.int .i64 0,.int .i64 0,.slice none 0 0] 76 ?_;intro gb260 hg w16 hbox hb;have n0_:=rk HO259 hb;have n1_:=hs HB hb;have n2_:=Aside0.mk (hbox);have n3_:=gs HB hg;have n4_:=gs HB hg;clear HO259;clear HB;have HO259:=n0_;have HB:=n1_;have BK260:=n2_;have GW260:=n3_;have GE260:=n4_;clear n0_ n1_ n2_ n3_ n4_;clear hb hbox hg;obtain ⟨hcz17_0,hcz17_1,hcz17_2,hcz17_3⟩:=cc4 BK260;obtain ⟨hfz17_0,hfz17_1,hfz17_2,hfz17_3⟩:=ff4 BK260) | ((with_reducible refine gate_callee (f:=50) rfl ?_);refine goesQ (some 11) Try.func50 #[.agg #[.int .i64 258,.int .i64 1,.int .i64 1,.slice Ao15 y257.length co15]] ?_;(with_reducible refine (pixel_Put.calls k 258 1 1 _ _ y257 t261 t262 _ ?side1 ?side2 A1.out).mono ?_);(case side1=>refine (Kd.R_reads' (e:=89) (base:=w.heap.size) (ok:=fun k_=>True) (n:=y257.length) (c:=co15) ?_).2.2;exact (by (with_reducible repeat (first | apply Kd.R_alloc | apply Kd.R_drewN | apply Kd.R_drew));exact (Kd.R_mono (Kd.R_far (p:=⟨gb260,3,none⟩) (Kd.R_far (p:=⟨gb260,2,none⟩) (Kd.R_far (p:=⟨gb260,1,none⟩) (Kd.R_far (p:=⟨gb260,0,none⟩) (Kd.R_types HO259.out BK260.out (by decide)) (fun _ hk=>hk.2) (.int .i64 258)) (fun _ hk=>hk.2) (.int .i64 1)) (fun _ hk=>hk.2) (.int .i64 1)) (fun _ hk=>hk.2) (.slice Ao15 y257.length co15)) (fun _ h_=>h_.1))));(case side2=>exact (Kd.R_reads' HO259.out).2.1);rintro e w18 ⟨rfl,hb⟩;refine ⟨_,rfl,?_⟩;have n0_:=Aside0.mk (Kd.R_below (by (with_reducible repeat (first | apply Kd.R_alloc | apply Kd.R_drewN | apply Kd.R_drew));exact (Kd.R_mono (Kd.R_far (p:=⟨gb260,3,none⟩) (Kd.R_far (p:=⟨gb260,2,none⟩) (Kd.R_far (p:=⟨gb260,1,none⟩) (Kd.R_far (p:=⟨gb260,0,none⟩) (Kd.R_types HO259.out BK260.out (by decide)) (fun _ hk=>hk.2) (.int .i64 258)) (fun _ hk=>hk.2) (.int .i64 1)) (fun _ hk=>hk.2) (.int .i64 1)) (fun _ hk=>hk.2) (.slice Ao15 y257.length co15)) (fun _ h_=>h_.1))) hb);have n1_:=bp #[.int .i64 258,.int .i64 1,.int .i64 1,.slice Ao15 y257.length co15] BK260 hb;have n2_:=hs HB hb;clear HO259;clear BK260;clear HB;have HO259:=n0_;have BK260:=n1_;have HB:=n2_;clear n0_ n1_ n2_;(try clear hb)) | ((with_reducible refine gate_callee (f:=54) rfl ?_);refine goesQ (some 16) Try.func54 #[.string t261] ?_;(with_reducible refine (pixel_Take.calls k t261 t263 t264 t265 t266 t269 _ A2.out).mono ?_);rintro e w19 ⟨v267,rfl,ho0,hb⟩;refine ⟨_,rfl,?_⟩;have n0_:=Aside0.mk (Kd.R_elder' (by (with_reducible repeat (first | apply Kd.R_alloc | apply Kd.R_drewN | apply Kd.R_drew));exact HO259.out) (Kd.R_base ho0) hb);have n1_:=Aside0.mk (Kd.R_lower (Kd.R_new' ho0 (Kd.R_lt (by (with_reducible repeat (first | apply Kd.R_alloc | apply Kd.R_drewN | apply Kd.R_drew));exact HO259.out))) (below_size (hn HB)));have n2_:=bb BK260 hb;have n3_:=hs HB hb;clear HO259;clear BK260;clear HB;have HO259:=n0_;have HO268:=n1_;have BK260:=n2_;have HB:=n3_;clear n0_ n1_ n2_ n3_;(try clear hb);(try clear ho0)) | ((with_reducible refine gate_dst (N:=4) rfl ?_);(try (refine gate_guard (by rfl) ?_;dsimp only));refine boxQ 4 #[.int .i64 0,.int .i64 0,.int .i64 0,.slice none 0 0] 76 ?_;intro gb270 hg w20 hbox hb;have n0_:=rk HO259 hb;have n1_:=rk HO268 hb;have n2_:=bb BK260 hb;have n3_:=hs HB hb;have n4_:=Aside0.mk (hbox);have n5_:=gs HB hg;have n6_:=gs HB hg;have n7_:=nl BK260 hg;have n8_:=ng BK260 hg;clear HO259;clear HO268;clear BK260;clear HB;have HO259:=n0_;have HO268:=n1_;have BK260:=n2_;have HB:=n3_;have BK270:=n4_;have GW270:=n5_;have GE270:=n6_;have NB260_270:=n7_;have NB270_260:=n8_;clear n0_ n1_ n2_ n3_ n4_ n5_ n6_ n7_ n8_;clear hb hbox hg;have hnb21:=NB270_260.out;have hnc21:=NB260_270.out;obtain ⟨hcz22_0,hcz22_1,hcz22_2,hcz22_3⟩:=cc4 BK270;obtain ⟨hfz22_0,hfz22_1,hfz22_2,hfz22_3⟩:=ff4 BK270;obtain ⟨Ao23,co23,eo23⟩:=Kd.R_slice HO268.out;subst eo23;have p271:0≤(0:Int):=(by omega);have q271:0 < (t266.length:Int):=of_decide_eq_true (by first | (with_reducible assumption) | assumption);obtain ⟨ad271,e271,hx271_0,hx271_1,hx271_2,hx271_3⟩:=at_T89 (Kd.R_reads' HO268.out).2.2 0 p271 q271;cases e271;have qi271:(0 < t266.length)=True:=eq_true (by omega);(try rw [show ((0:Int)).toNat=0 from rfl] at hx271_0);(try rw [show 0*4=0 from rfl] at hx271_0);(try rw [Addr.add_zero'] at hx271_0);(try rw [show ((0:Int)).toNat=0 from rfl] at hx271_1);(try rw [show 0*4=0 from rfl] at hx271_1);(try rw [Addr.add_zero'] at hx271_1);(try rw [show ((0:Int)).toNat=0 from rfl] at hx271_2);(try rw [show 0*4=0 from rfl] at hx271_2);(try rw [Addr.add_zero'] at hx271_2);(try rw [show ((0:Int)).toNat=0 from rfl] at hx271_3);(try rw [show 0*4=0 from rfl] at hx271_3);(try rw [Addr.add_zero'] at hx271_3);have hn271_0:ad271.block ≠ gb270:=Kd.own_blk (Kd.R_ne HO268.out BK270.out (by decide));have hn271_1:ad271.block ≠ gb270:=Kd.own_blk (Kd.R_ne HO268.out BK270.out (by decide));have hn271_2:ad271.block ≠ gb270:=Kd.own_blk (Kd.R_ne HO268.out BK270.out (by decide));have hn271_3:ad271.block ≠ gb270:=Kd.own_blk (Kd.R_ne HO268.out BK270.out (by decide));replace hx271_0:=(cell_far (p:=⟨gb270,0,none⟩) (by first | (rw [add_block];exact hn271_0) | (show (Addr.add _ _).block ≠ _;rw [add_block];exact hn271_0) | exact hn271_0) (.int .i64 t263)).trans hx271_0;replace hx271_1:=(cell_far (p:=⟨gb270,0,none⟩) (by first | (rw [add_block];exact hn271_0) | (show (Addr.add _ _).block ≠ _;rw [add_block];exact hn271_0) | exact hn271_0) (.int .i64 t263)).trans hx271_1;replace hx271_2:=(cell_far (p:=⟨gb270,0,none⟩) (by first | (rw [add_block];exact hn271_0) | (show (Addr.add _ _).block ≠ _;rw [add_block];exact hn271_0) | exact hn271_0) (.int .i64 t263)).trans hx271_2;replace hx271_3:=(cell_far (p:=⟨gb270,0,none⟩) (by first | (rw [add_block];exact hn271_0) | (show (Addr.add _ _).block ≠ _;rw [add_block];exact hn271_0) | exact hn271_0) (.int .i64 t263)).trans hx271_3;replace hx271_0:=(cell_far (p:=⟨gb270,1,none⟩) (by first | (rw [add_block];exact hn271_1) | (show (Addr.add _ _).block ≠ _;rw [add_block];exact hn271_1) | exact hn271_1) (.int .i64 t264)).trans hx271_0;replace hx271_1:=(cell_far (p:=⟨gb270,1,none⟩) (by first | (rw [add_block];exact hn271_1) | (show (Addr.add _ _).block ≠ _;rw [add_block];exact hn271_1) | exact hn271_1) (.int .i64 t264)).trans hx271_1;replace hx271_2:=(cell_far (p:=⟨gb270,1,none⟩) (by first | (rw [add_block];exact hn271_1) | (show (Addr.add _ _).block ≠ _;rw [add_block];exact hn271_1) | exact hn271_1) (.int .i64 t264)).trans hx271_2;replace hx271_3:=(cell_far (p:=⟨gb270,1,none⟩) (by first | (rw [add_block];exact hn271_1) | (show (Addr.add _ _).block ≠ _;rw [add_block];exact hn271_1) | exact hn271_1) (.int .i64 t264)).trans hx271_3;replace hx271_0:=(cell_far (p:=⟨gb270,2,none⟩) (by first | (rw [add_block];exact hn271_2) | (show (Addr.add _ _).block ≠ _;rw [add_block];exact hn271_2) | exact hn271_2) (.int .i64 t265)).trans hx271_0;replace hx271_1:=(cell_far (p:=⟨gb270,2,none⟩) (by first | (rw [add_block];exact hn271_2) | (show (Addr.add _ _).block ≠ _;rw [add_block];exact hn271_2) | exact hn271_2) (.int .i64 t265)).trans hx271_1;replace hx271_2:=(cell_far (p:=⟨gb270,2,none⟩) (by first | (rw [add_block];exact hn271_2) | (show (Addr.add _ _).block ≠ _;rw [add_block];exact hn271_2) | exact hn271_2) (.int .i64 t265)).trans hx271_2;replace hx271_3:=(cell_far (p:=⟨gb270,2,none⟩) (by first | (rw [add_block];exact hn271_2) | (show (Addr.add _ _).block ≠ _;rw [add_block];exact hn271_2) | exact hn271_2) (.int .i64 t265)).trans hx271_3;replace hx271_0:=(cell_far (p:=⟨gb270,3,none⟩) (by first | (rw [add_block];exact hn271_3) | (show (Addr.add _ _).block ≠ _;rw [add_block];exact hn271_3) | exact hn271_3) (.slice (some ad271) t266.length co23)).trans hx271_0;replace hx271_1:=(cell_far (p:=⟨gb270,3,none⟩) (by first | (rw [add_block];exact hn271_3) | (show (Addr.add _ _).block ≠ _;rw [add_block];exact hn271_3) | exact hn271_3) (.slice (some ad271) t266.length co23)).trans hx271_1;replace hx271_2:=(cell_far (p:=⟨gb270,3,none⟩) (by first | (rw [add_block];exact hn271_3) | (show (Addr.add _ _).block ≠ _;rw [add_block];exact hn271_3) | exact hn271_3) (.slice (some ad271) t266.length co23)).trans hx271_2;replace hx271_3:=(cell_far (p:=⟨gb270,3,none⟩) (by first | (rw [add_block];exact hn271_3) | (show (Addr.add _ _).block ≠ _;rw [add_block];exact hn271_3) | exact hn271_3) (.slice (some ad271) t266.length co23)).trans hx271_3;clear hn271_0;clear hn271_1;clear hn271_2;clear hn271_3;replace p271:=eq_true p271;replace q271:=eq_true q271) | (go_at_call 58;(with_reducible refine (pixel_Pixel.calls k t263 t264 t265 _ _ t266 0 0 t272 t273 t274 t275 _ ?side1 ?side2 A12.out).mono ?_);(case side1=>refine (Kd.R_reads' (e:=89) (base:=w.heap.size) (ok:=fun k_=>(True∧some k_ ≠ (.slice Ao15 y257.length co15:Value).ownBlock)) (n:=t266.length) (c:=co23) ?_).2.2;exact (by (with_reducible repeat (first | apply Kd.R_alloc | apply Kd.R_drewN | apply Kd.R_drew));exact (Kd.R_mono (Kd.R_far (p:=⟨gb270,3,none⟩) (Kd.R_far (p:=⟨gb270,2,none⟩) (Kd.R_far (p:=⟨gb270,1,none⟩) (Kd.R_far (p:=⟨gb270,0,none⟩) (Kd.R_types HO268.out BK270.out (by decide)) (fun _ hk=>hk.2) (.int .i64 t263)) (fun _ hk=>hk.2) (.int .i64 t264)) (fun _ hk=>hk.2) (.int .i64 t265)) (fun _ hk=>hk.2) (.slice (some ad271) t266.length co23)) (fun _ h_=>h_.1))));(case side2=>exact (Kd.R_reads' HO268.out).2.1);rintro e w24 ⟨rfl,hb⟩;have n0_:=Aside0.mk (Kd.R_below (by (with_reducible repeat (first | apply Kd.R_alloc | apply Kd.R_drewN | apply Kd.R_drew));exact (Kd.R_mono (Kd.R_far (p:=⟨gb270,3,none⟩) (Kd.R_far (p:=⟨gb270,2,none⟩) (Kd.R_far (p:=⟨gb270,1,none⟩) (Kd.R_far (p:=⟨gb270,0,none⟩) (Kd.R_types HO259.out BK270.out (by decide)) (fun _ hk=>hk.2) (.int .i64 t263)) (fun _ hk=>hk.2) (.int .i64 t264)) (fun _ hk=>hk.2) (.int .i64 t265)) (fun _ hk=>hk.2) (.slice (some ad271) t266.length co23)) (fun _ h_=>h_.1))) hb);have n1_:=Aside0.mk (Kd.R_below (by (with_reducible repeat (first | apply Kd.R_alloc | apply Kd.R_drewN | apply Kd.R_drew));exact (Kd.R_mono (Kd.R_far (p:=⟨gb270,3,none⟩) (Kd.R_far (p:=⟨gb270,2,none⟩) (Kd.R_far (p:=⟨gb270,1,none⟩) (Kd.R_far (p:=⟨gb270,0,none⟩) (Kd.R_types HO268.out BK270.out (by decide)) (fun _ hk=>hk.2) (.int .i64 t263)) (fun _ hk=>hk.2) (.int .i64 t264)) (fun _ hk=>hk.2) (.int .i64 t265)) (fun _ hk=>hk.2) (.slice (some ad271) t266.length co23)) (fun _ h_=>h_.1))) hb);have n2_:=bb BK260 hb;have n3_:=bp #[.int .i64 t263,.int .i64 t264,.int .i64 t265,.slice (some ad271) t266.length co23] BK270 hb;have n4_:=hs HB hb;clear HO259;clear HO268;clear BK260;clear BK270;clear HB;have HO259:=n0_;have HO268:=n1_;have BK260:=n2_;have BK270:=n3_;have HB:=n4_;clear n0_ n1_ n2_ n3_ n4_;(try clear hb)))
          go_ret
          exact ⟨by first | rfl | (simp [errW_none,errW_some] <;> rfl) | (simp [*,errW_none,errW_some] <;> rfl),hn HB⟩
         ·rw [if_neg c11] at H
          have c11b0:(((rd_T89 t266 0).f3) == 9)=false:=beq_eq_false_iff_ne.mpr c11
          have c11b1:(((rd_T89 t266 0).f3) != 9)=true:=bne_iff_ne.mpr c11
          exact absurd (Option.some.inj H) (by rw [hr_.out];decide)
        ·rw [if_neg c10] at H
         exact absurd H (by simp)
       ·rw [if_neg c9] at H
        have c9b0:((t266.length:Int) == 1)=false:=beq_eq_false_iff_ne.mpr c9
        have c9b1:((t266.length:Int) != 1)=true:=bne_iff_ne.mpr c9
        exact absurd (Option.some.inj H) (by rw [hr_.out];decide)
      ·rw [if_neg c8] at H
       have c8b0:(t269 == 0)=false:=beq_eq_false_iff_ne.mpr c8
       have c8b1:(t269 != 0)=true:=bne_iff_ne.mpr c8
       exact absurd (Option.some.inj H) (by rw [hr_.out];decide)
     ·rw [if_neg c7] at H
      have c7b0:(t262 == 0)=false:=beq_eq_false_iff_ne.mpr c7
      have c7b1:(t262 != 0)=true:=bne_iff_ne.mpr c7
      exact absurd (Option.some.inj H) (by rw [hr_.out];decide)
    ·rw [if_neg c6] at H
     have c6b0:((t261.extract 0 7).toList == ([2,1,5,1,0,1,0]:List UInt8))=false:=beq_eq_false_iff_ne.mpr c6
     have c6b1:((t261.extract 0 7).toList != ([2,1,5,1,0,1,0]:List UInt8))=true:=bne_iff_ne.mpr c6
     exact absurd (Option.some.inj H) (by rw [hr_.out];decide)
   ·rw [if_neg c5] at H
    exact absurd H (by simp)
  ·rw [if_neg c4] at H
   exact absurd H (by simp)
 ·rw [if_neg c3] at H
  have c3b0:decide (7 < (t261.size:Int))=false:=decide_eq_false c3
  have c3b1:decide (7 < t261.size)=false:=decide_eq_false (by omega)
  clear c3
  exact absurd (Option.some.inj H) (by rw [hr_.out];decide)
def celluloidlaw11_ref.f (a0_0:Int) (a0_1:Int) (a0_2:Int) (l0_3:List (S89)):Option (Int × Int × Int × (List (S89))):=some (a0_0,a0_1,a0_2,l0_3)
set_option maxHeartbeats 8000000 in
set_option maxRecDepth 100000 in
theorem celluloidlaw11_ref.calls (a0_0 : Int) (a0_1 : Int) (a0_2 : Int) (P0_3_ : Nat → Prop) (u9000_ : Value) (l0_3 : List (S89)) (r1 : Int) (r2 : Int) (r3 : Int) (r4 : List (S89)) (w0 w : World) (hB : Below w0.heap.size w0 w) (ho0_3 : Kd.R k89 89 w w0.heap.size P0_3_ u9000_ l0_3) (h : celluloidlaw11_ref.f a0_0 a0_1 a0_2 l0_3 = some (r1, r2, r3, r4)) :
  Calls Try.prog 52 #[.agg #[.int .i64 a0_0,.int .i64 a0_1,.int .i64 a0_2,u9000_]] w fun e w'=>∃ v3_:Value,e=.returned (.agg #[.int .i64 r1,.int .i64 r2,.int .i64 r3,v3_])∧Kd.R k89 89 w' w0.heap.size (fun k_=>(P0_3_ k_ ∨ w.heap.size≤k_)) v3_ r4∧Below w0.heap.size w0 w'∧Kept w w' (fun k_=>P0_3_ k_):=by
 have hu76:=Try.underlying76
 have hu79:=Try.underlying79
 have HO0_3:=Aside0.mk (show Kd.R k89 89 w w0.heap.size (fun k_=>(P0_3_ k_ ∨ w.heap.size≤k_)) u9000_ l0_3 from Kd.R_mono ho0_3 (fun k_ hk=>(.inl hk)))
 have HK:=Aside0.mk (Kept.refl w (fun k_=>P0_3_ k_))
 have HW0:=Aside0.mk hB.size
 have HB:=Aside0.mk hB
 clear hB
 have H:(some (a0_0,a0_1,a0_2,l0_3))=some (r1,r2,r3,r4):=h
 clear h
 simp only [Option.some.injEq,Prod.mk.injEq] at H
 obtain ⟨rfl,rfl,rfl,rfl⟩:=H
 obtain ⟨Ao2,co2,eo2⟩:=Kd.R_slice HO0_3.out
 subst eo2
 go_enter Try.func52,Try.ntmps52
 go_wp2_with (first | ((with_reducible refine gate_dst (N:=1) rfl ?_);refine boxQ 1 #[.int .i64 a0_0,.int .i64 a0_1,.int .i64 a0_2,.slice Ao2 l0_3.length co2] 76 ?_;intro gb276 hg w3 hbox hb;have n0_:=rk HO0_3 hb;have n1_:=Aside0.mk (Kept.below (S:=(fun k_=>P0_3_ k_)) (by repeat (first | (with_reducible first | exact HK.out | apply Kept.alloc | apply Kept.drewN | apply Kept.drew) | exact HK.out)) hb);have n2_:=hs HB hb;have n3_:=Aside0.mk (hbox);have n4_:=Aside0.mk ((by rw [hg];exact (by first | exact HK.out.1 | exact (show Kept w _ (fun k_=>P0_3_ k_) from by repeat (first | (with_reducible first | exact HK.out | apply Kept.alloc | apply Kept.drewN | apply Kept.drew) | exact HK.out)).1):w.heap.size≤gb276));have n5_:=gs HB hg;clear HO0_3;clear HK;clear HB;have HO0_3:=n0_;have HK:=n1_;have HB:=n2_;have BK276:=n3_;have GW276:=n4_;have GE276:=n5_;clear n0_ n1_ n2_ n3_ n4_ n5_;clear hb hbox hg) | ((with_reducible refine gate_dst (N:=2) rfl ?_);refine boxQ 2 #[.int .i64 0,.int .i64 0,.int .i64 0,.slice none 0 0] 79 ?_;intro gb277 hg w4 hbox hb;have n0_:=rk HO0_3 hb;have n1_:=bb BK276 hb;have n2_:=Aside0.mk (Kept.below (S:=(fun k_=>P0_3_ k_)) (by repeat (first | (with_reducible first | exact HK.out | apply Kept.alloc | apply Kept.drewN | apply Kept.drew | refine Kept.setCell ?_ (.inr GW276.out) _) | exact HK.out)) hb);have n3_:=hs HB hb;have n4_:=Aside0.mk (hbox);have n5_:=Aside0.mk ((by rw [hg];exact (by first | exact HK.out.1 | exact (show Kept w _ (fun k_=>P0_3_ k_) from by repeat (first | (with_reducible first | exact HK.out | apply Kept.alloc | apply Kept.drewN | apply Kept.drew | refine Kept.setCell ?_ (.inr GW276.out) _) | exact HK.out)).1):w.heap.size≤gb277));have n6_:=gs HB hg;have n7_:=nl BK276 hg;have n8_:=ng BK276 hg;clear HO0_3;clear BK276;clear HK;clear HB;have HO0_3:=n0_;have BK276:=n1_;have HK:=n2_;have HB:=n3_;have BK277:=n4_;have GW277:=n5_;have GE277:=n6_;have NB276_277:=n7_;have NB277_276:=n8_;clear n0_ n1_ n2_ n3_ n4_ n5_ n6_ n7_ n8_;clear hb hbox hg;have hnb5:=NB276_277.out;have hnc5:=NB277_276.out;obtain ⟨hcz6_0,hcz6_1,hcz6_2,hcz6_3⟩:=cc4 BK276;obtain ⟨hfz6_0,hfz6_1,hfz6_2,hfz6_3⟩:=ff4 BK276;obtain ⟨hcz7_0,hcz7_1,hcz7_2,hcz7_3⟩:=cc4 BK277;obtain ⟨hfz7_0,hfz7_1,hfz7_2,hfz7_3⟩:=ff4 BK277))
 refine bodyPost_ret (results_cell_row rfl _ _ gb277 79 #[.int .i64 a0_0,.int .i64 a0_1,.int .i64 a0_2,.slice Ao2 l0_3.length co2] (0,0) _ rfl (bq BK277) Try.underlying79 rfl (by kernel_rfl)) rfl ?_
 exact ⟨_,by first | rfl | (simp [errW_none,errW_some] <;> rfl) | (simp [*,errW_none,errW_some] <;> rfl),by (with_reducible repeat (first | apply Kd.R_alloc | apply Kd.R_drewN | apply Kd.R_drew));exact Kd.R_mono (Kd.R_far (p:=⟨gb277,3,none⟩) (Kd.R_far (p:=⟨gb277,2,none⟩) (Kd.R_far (p:=⟨gb277,1,none⟩) (Kd.R_far (p:=⟨gb277,0,none⟩) (Kd.R_types HO0_3.out BK277.out (by decide)) (fun _ hk=>hk.2) (.int .i64 a0_0)) (fun _ hk=>hk.2) (.int .i64 a0_1)) (fun _ hk=>hk.2) (.int .i64 a0_2)) (fun _ hk=>hk.2) (.slice Ao2 l0_3.length co2)) (fun _ hk=>hk.1),hn HB,by repeat (first | (with_reducible first | exact HK.out | apply Kept.alloc | apply Kept.drewN | apply Kept.drew | refine Kept.setCell ?_ (.inr GW276.out) _ | refine Kept.setCell ?_ (.inr GW277.out) _) | exact HK.out)⟩
end Go.Proofs.Ytpbhkdamkbopkaa.GPixb
namespace Go.Proofs.Ytpbhkdamkbopkaa.GPixb
open Go.RowKit Go.Proofs.YtpbhkdamkbopkaaW.PrintWords Go.Proofs.YtpbhkdamkbopkaaW.PrintLast Go.Proofs.YtpbhkdamkbopkaaW.PrintMore Go.Proofs.Ytpbhkdamkbopkaa.Wr2 Go.Proofs.Ytpbhkdamkbopkaa.Wr1 Go.Proofs.Ytpbhkdamkbopkaa.GRuns Go.Proofs.Ytpbhkdamkbopkaa.GBack2 Go.Proofs.Ytpbhkdamkbopkaa.GPix Go.Proofs.Ytpbhkdamkbopkaa.PR
attribute [local go_sem] max2_int min2_int max_two min_two max_three min_three max_four min_four
set_option linter.unusedVariables false
set_option linter.unusedSimpArgs false
mutual
def celluloidlaw11_PixelTable.j0:Nat → Int → List (S89) → List Int → Int → Int → Bool → Option (Bool)
 |0,_,_,_,_,_,_=>none
 |k+1,x0,x3,x4,x11,x12,x49=>if x49=true then ((celluloidlaw11_awake.f k).bind fun t327=>(some t327)) else (celluloidlaw11_PixelTable.l0 k x0 x3 x4 x11 x12 (⟨#[]⟩:ByteArray) x3 (x3.length:Int) 0)
def celluloidlaw11_PixelTable.l0:Nat → Int → List (S89) → List Int → Int → Int → ByteArray → List (S89) → Int → Int → Option (Bool)
 |0,_,_,_,_,_,_,_,_,_=>none
 |k+1,x0,x3,x4,x11,x12,x13,x51,x52,x53=>if x53 < x52 then (if 0≤x53 then (if x53 < (x51.length:Int) then (if ((rd_T89 x51 x53).f0) < 0 then ((celluloidlaw11_awake.f k).bind fun t330=>(some t330)) else (if ((rd_T89 x51 x53).f1) < 0 then ((celluloidlaw11_awake.f k).bind fun t331=>(some t331)) else (if ((rd_T89 x51 x53).f2) < 0 then ((celluloidlaw11_awake.f k).bind fun t332=>(some t332)) else (if ((rd_T89 x51 x53).f3) > 255 then ((celluloidlaw11_awake.f k).bind fun t333=>(some t333)) else (if ((rd_T89 x51 x53).f0) > ((rd_T89 x51 x53).f3) then ((celluloidlaw11_awake.f k).bind fun t334=>(some t334)) else (if ((rd_T89 x51 x53).f1) > ((rd_T89 x51 x53).f3) then ((celluloidlaw11_awake.f k).bind fun t335=>(some t335)) else (if ((rd_T89 x51 x53).f2) > ((rd_T89 x51 x53).f3) then ((celluloidlaw11_awake.f k).bind fun t336=>(some t336)) else ((some (([((rd_T89 x51 x53).f0) % 256,((rd_T89 x51 x53).f1) % 256,((rd_T89 x51 x53).f2) % 256,((rd_T89 x51 x53).f3) % 256]:List Int):List Int)).bind fun y337=>(if x13.size+(strOfNums y337).size≤9223372036854775807 then (celluloidlaw11_PixelTable.l0 k x0 x3 x4 x11 x12 (x13 ++ (strOfNums y337)) x51 x52 (wrap64 (x53+1))) else (none)))))))))) else (none)) else (none)) else (celluloidlaw11_PixelTable.l1 k x0 x3 x4 x11 x12 x13 0 (wrap64 (x0)) x11 x12 ([]:List (S89)))
def celluloidlaw11_PixelTable.l1:Nat → Int → List (S89) → List Int → Int → Int → ByteArray → Int → Int → Int → Int → List (S89) → Option (Bool)
 |0,_,_,_,_,_,_,_,_,_,_,_=>none
 |k+1,x0,x3,x4,x11,x12,x13,x17,x341000,x341001,x341002,x341003=>if x17 < x12 then (celluloidlaw11_PixelTable.l2 k x0 x3 x4 x11 x12 x13 x17 0 x341000 x341001 x341002 x341003) else ((deflate_Close.f k x13).bind fun bt349=>((some (([(x0) % 256,(x0 / 256) % 256,3,(x11) % 256,0,(x12) % 256,0,(wrap64 ((x3.length:Int) - 1)) % 256]:List Int):List Int)).bind fun y351=>(if (strOfNums y351).size+bt349.1.size≤9223372036854775807 then ((pixel_Take.f k ((strOfNums y351) ++ bt349.1)).bind fun bt354=>(if bt349.2=0 then (if bt354.2.2.2.2=0 then ((celluloidlaw11_ref.f bt354.1 bt354.2.1 bt354.2.2.1 bt354.2.2.2.1).bind fun bt362=>((celluloidlaw11_ref.f x341000 x341001 x341002 x341003).bind fun bt368=>((celluloidref11_Equal.f k bt362.1 bt362.2.1 bt362.2.2.1 bt362.2.2.2 bt368.1 bt368.2.1 bt368.2.2.1 bt368.2.2.2).bind fun t374=>(if t374=true then ((celluloidlaw11_awake.f k).bind fun t375=>(some t375)) else (some false))))) else (some false)) else (some false))) else (none))))
def celluloidlaw11_PixelTable.l2:Nat → Int → List (S89) → List Int → Int → Int → ByteArray → Int → Int → Int → Int → Int → List (S89) → Option (Bool)
 |0,_,_,_,_,_,_,_,_,_,_,_,_=>none
 |k+1,x0,x3,x4,x11,x12,x13,x17,x18,x341000,x341001,x341002,x341003=>if x18 < (wrap64 ((wrap64 (Int.tdiv (wrap64 (x11+3)) 4))*4)) then (if (x4.length:Int)=0 then (none) else (if 0≤(Int.tmod (wrap64 ((wrap64 (x17*x11))+x18)) (x4.length:Int)) then (if (Int.tmod (wrap64 ((wrap64 (x17*x11))+x18)) (x4.length:Int)) < (x4.length:Int) then (if (x3.length:Int)=0 then (none) else ((some (([(Int.tmod (wrap64 (rd x4 (Int.tmod (wrap64 ((wrap64 (x17*x11))+x18)) (x4.length:Int)))) (x3.length:Int)) % 256]:List Int):List Int)).bind fun y342=>(if x13.size+(strOfNums y342).size≤9223372036854775807 then (if x18 < x11 then (if 0≤(Int.tmod (wrap64 (rd x4 (Int.tmod (wrap64 ((wrap64 (x17*x11))+x18)) (x4.length:Int)))) (x3.length:Int)) then (if (Int.tmod (wrap64 (rd x4 (Int.tmod (wrap64 ((wrap64 (x17*x11))+x18)) (x4.length:Int)))) (x3.length:Int)) < (x3.length:Int) then (if x341003.length < 4398046511104 then (celluloidlaw11_PixelTable.l2 k x0 x3 x4 x11 x12 (x13 ++ (strOfNums y342)) x17 (wrap64 (x18+1)) x341000 x341001 x341002 (x341003 ++ [(⟨(rd_T89 x3 (Int.tmod (wrap64 (rd x4 (Int.tmod (wrap64 ((wrap64 (x17*x11))+x18)) (x4.length:Int)))) (x3.length:Int))).f0,(rd_T89 x3 (Int.tmod (wrap64 (rd x4 (Int.tmod (wrap64 ((wrap64 (x17*x11))+x18)) (x4.length:Int)))) (x3.length:Int))).f1,(rd_T89 x3 (Int.tmod (wrap64 (rd x4 (Int.tmod (wrap64 ((wrap64 (x17*x11))+x18)) (x4.length:Int)))) (x3.length:Int))).f2,(rd_T89 x3 (Int.tmod (wrap64 (rd x4 (Int.tmod (wrap64 ((wrap64 (x17*x11))+x18)) (x4.length:Int)))) (x3.length:Int))).f3⟩:S89)])) else (none)) else (none)) else (none)) else (celluloidlaw11_PixelTable.l2 k x0 x3 x4 x11 x12 (x13 ++ (strOfNums y342)) x17 (wrap64 (x18+1)) x341000 x341001 x341002 x341003)) else (none)))) else (none)) else (none))) else (celluloidlaw11_PixelTable.l1 k x0 x3 x4 x11 x12 x13 (wrap64 (x17+1)) x341000 x341001 x341002 x341003)
end
def celluloidlaw11_PixelTable.f (k:Nat) (a0:Int) (a1:Int) (a2:Int) (l3:List (S89)) (l4:List Int):Option (Bool):=if (l3.length:Int)=0 then (celluloidlaw11_PixelTable.j0 k a0 l3 l4 (wrap64 (1+(wrap64 (Int.tmod a1 20)))) (wrap64 (1+(wrap64 (Int.tmod a2 20)))) true) else (if (l3.length:Int) > 16 then (celluloidlaw11_PixelTable.j0 k a0 l3 l4 (wrap64 (1+(wrap64 (Int.tmod a1 20)))) (wrap64 (1+(wrap64 (Int.tmod a2 20)))) true) else (if (l4.length:Int)=0 then (celluloidlaw11_PixelTable.j0 k a0 l3 l4 (wrap64 (1+(wrap64 (Int.tmod a1 20)))) (wrap64 (1+(wrap64 (Int.tmod a2 20)))) true) else (celluloidlaw11_PixelTable.j0 k a0 l3 l4 (wrap64 (1+(wrap64 (Int.tmod a1 20)))) (wrap64 (1+(wrap64 (Int.tmod a2 20)))) (decide ((l4.length:Int) > 1000)))))
def celluloidlaw11_PixelTable.T22:Bool × List (List Nat × List Nat):=(true,[([],[]),([0],[0]),([],[]),([],[]),([2,3],[2,3]),([4],[4]),([5],[5]),([1,6],[1,6]),([0,1,2,3,4,5,6,7],[]),([8,7,7,0,1,2,3,4,5,6,7],[7,8])])
def celluloidlaw11_PixelTable.B22:List Nat:=[0,1,0,0,12,28,60,127,255,511]
theorem celluloidlaw11_PixelTable.tab22:rtab .any (opsOf Try.f23 22)=celluloidlaw11_PixelTable.T22:=by kernel_rfl
theorem celluloidlaw11_PixelTable.bits22:waitsOk celluloidlaw11_PixelTable.T22.2 celluloidlaw11_PixelTable.B22=true:=by kernel_rfl
def celluloidlaw11_PixelTable.T25:Bool × List (List Nat × List Nat):=(true,[([],[]),([0],[0]),([1],[1]),([2],[2]),([3,2],[2,3]),([2,4],[2,4]),([5,2],[5]),([6],[6]),([7,6,6],[6,7]),([6],[6]),([9,8,6],[6,9]),([8,10,10,6],[6,8,10]),([6,11],[6,11]),([12,11],[12]),([13,13],[13]),([13,14],[13,14]),([15,14,0,1,2,3,4,5,6,7,8,9,10,11,12,13,14,15],[15])])
def celluloidlaw11_PixelTable.B25:List Nat:=[0,1,3,7,15,31,63,127,255,127,1023,2047,4095,8191,16383,32767,65535]
theorem celluloidlaw11_PixelTable.tab25:rtab .any (opsOf Try.f23 25)=celluloidlaw11_PixelTable.T25:=by kernel_rfl
theorem celluloidlaw11_PixelTable.bits25:waitsOk celluloidlaw11_PixelTable.T25.2 celluloidlaw11_PixelTable.B25=true:=by kernel_rfl
end Go.Proofs.Ytpbhkdamkbopkaa.GPixb
