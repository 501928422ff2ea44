/- Parts of the proof, glued by a program of this session (wip/tools/claimfit.py). -/
import Derived.Test.YtpbhkdamkbopkaaMPTE
namespace Go.Proofs.Ytpbhkdamkbopkaa.GPix
open Go.Proofs.Ytpbhkdamkbopkaa.Sq
open Go.RowKit Go.Proofs.YtpbhkdamkbopkaaW.PrintWords Go.Proofs.YtpbhkdamkbopkaaW.PrintLast Go.Proofs.YtpbhkdamkbopkaaW.PrintMore Go.Proofs.Ytpbhkdamkbopkaa.Wr2 Go.Proofs.Ytpbhkdamkbopkaa.Wr1 Go.Proofs.Ytpbhkdamkbopkaa.GRuns Go.Proofs.Ytpbhkdamkbopkaa.GBack2
attribute [local go_sem] max2_int min2_int max_two min_two max_three min_three max_four min_four
set_option linter.unusedVariables false
set_option linter.unusedSimpArgs false
def pixel_head.j0:Nat → Int → Int → Bool → ByteArray → Int → Int → Int → Int → Option (Int × Int × Int × (List (S89)) × Int × ByteArray × Int)
 |0,_,_,_,_,_,_,_,_=>none
 |k+1,x7,x8,x36,x232000,x232001,x234000,x234001,x234002=>if x36=true then (some (x234000,x234001,x234002,([]:List (S89)),0,(⟨#[]⟩:ByteArray),3)) else ((bits_Little.f k x232000 x232001 2).bind fun bt242=>(if bt242.2.2.2=0 then ((bits_Little.f k bt242.2.1 bt242.2.2.1 2).bind fun bt246=>(if bt246.2.2.2=0 then (if x7=3 then ((bits_Little.f k bt246.2.1 bt246.2.2.1 1).bind fun bt250=>(if bt250.2.2.2=0 then (if (mn bt242.1 bt246.1) < 1 then (some (x234000,bt242.1,bt246.1,([]:List (S89)),0,(⟨#[]⟩:ByteArray),7)) else (if (mx bt242.1 bt246.1) > 64 then (some (x234000,bt242.1,bt246.1,([]:List (S89)),0,(⟨#[]⟩:ByteArray),7)) else (if 0≤(wrap64 (Int.tdiv bt250.2.2.1 8)) then (if (wrap64 (Int.tdiv bt250.2.2.1 8))≤(bt250.2.1.size:Int) then (some (x234000,bt242.1,bt246.1,([]:List (S89)),wrap64 (bt250.1+1),bt250.2.1.extract ((wrap64 (Int.tdiv bt250.2.2.1 8)):Int).toNat bt250.2.1.size,0)) else (none)) else (none)))) else (some (x234000,bt242.1,bt246.1,([]:List (S89)),0,(⟨#[]⟩:ByteArray),bt250.2.2.2)))) else (if (mn bt242.1 bt246.1) < 1 then (some (x234000,bt242.1,bt246.1,([]:List (S89)),0,(⟨#[]⟩:ByteArray),7)) else (if (mx bt242.1 bt246.1) > 64 then (some (x234000,bt242.1,bt246.1,([]:List (S89)),0,(⟨#[]⟩:ByteArray),7)) else (if 0≤(wrap64 (Int.tdiv bt246.2.2.1 8)) then (if (wrap64 (Int.tdiv bt246.2.2.1 8))≤(bt246.2.1.size:Int) then (some (x234000,bt242.1,bt246.1,([]:List (S89)),x8,bt246.2.1.extract ((wrap64 (Int.tdiv bt246.2.2.1 8)):Int).toNat bt246.2.1.size,0)) else (none)) else (none))))) else (some (x234000,bt242.1,bt246.1,([]:List (S89)),0,(⟨#[]⟩:ByteArray),bt246.2.2.2)))) else (some (x234000,bt242.1,x234002,([]:List (S89)),0,(⟨#[]⟩:ByteArray),bt242.2.2.2))))
def pixel_head.f (k:Nat) (a0_0:ByteArray) (a0_1:Int):Option (Int × Int × Int × (List (S89)) × Int × ByteArray × Int):=(bits_Little.f k a0_0 a0_1 2).bind fun bt234=>(if bt234.2.2.2=0 then ((bits_Little.f k bt234.2.1 bt234.2.2.1 1).bind fun bt238=>(if bt238.2.2.2=0 then (if bt238.1=3 then (pixel_head.j0 k bt238.1 0 false bt238.2.1 bt238.2.2.1 bt234.1 0 0) else (pixel_head.j0 k bt238.1 0 (bt238.1 != 5) bt238.2.1 bt238.2.2.1 bt234.1 0 0)) else (some (bt234.1,0,0,([]:List (S89)),0,(⟨#[]⟩:ByteArray),bt238.2.2.2)))) else (some (bt234.1,0,0,([]:List (S89)),0,(⟨#[]⟩:ByteArray),bt234.2.2.2)))
theorem pixel_head.mono_l:∀ k,(∀ y0 y1 y2 y3 y4 y5 y6 y7,LeO (pixel_head.j0 k y0 y1 y2 y3 y4 y5 y6 y7) (pixel_head.j0 (k+1) y0 y1 y2 y3 y4 y5 y6 y7))
 |0=>fun _ _ _ _ _ _ _ _ r h=>by simp [pixel_head.j0] at h
 |k+1=>by
  have ih0:=pixel_head.mono_l k
  ·intro y0 y1 y2 y3 y4 y5 y6 y7
   unfold pixel_head.j0
   repeat' first
   |(with_reducible exact ih0 _ _ _ _ _ _ _ _)
   |(with_reducible exact bits_Little.mono _ _ _ _)
   |(with_reducible exact LeO.refl _)
   |(with_reducible exact LeO.none _)
   |(with_reducible refine LeO.ite ?_ ?_)
   |(with_reducible refine LeO.bind ?_ (fun _=>?_))
   |exact ih0 _ _ _ _ _ _ _ _
   |exact bits_Little.mono _ _ _ _
   |exact LeO.none _
   |refine LeO.ite ?_ ?_
   |refine LeO.bind ?_ (fun _=>?_)
theorem pixel_head.mono:∀ a0 a1 k,LeO (pixel_head.f k a0 a1) (pixel_head.f (k+1) a0 a1):=by
 intro a0 a1 k
 have ih0:=pixel_head.mono_l k
 unfold pixel_head.f
 repeat' first
   |(with_reducible exact ih0 _ _ _ _ _ _ _ _)
   |(with_reducible exact bits_Little.mono _ _ _ _)
   |(with_reducible exact LeO.refl _)
   |(with_reducible exact LeO.none _)
   |(with_reducible refine LeO.ite ?_ ?_)
   |(with_reducible refine LeO.bind ?_ (fun _=>?_))
   |exact ih0 _ _ _ _ _ _ _ _
   |exact bits_Little.mono _ _ _ _
   |exact LeO.none _
   |refine LeO.ite ?_ ?_
   |refine LeO.bind ?_ (fun _=>?_)
def pixel_head.T25:Bool × List (List Nat × List Nat):=(true,[([],[]),([],[]),([],[]),([2],[2]),([],[]),([4],[4]),([5],[5]),([3,6],[3,6]),([0,0],[0]),([1,8,0,1,8],[1]),([7,9,0,1,2,3,4,5,6,7,8,9],[7]),([10,0,1,2,3,4,5,6,7,8,9,10],[])])
def pixel_head.B25:List Nat:=[0,0,0,4,0,16,48,124,1,259,1023,2047]
theorem pixel_head.tab25:rtab .any (opsOf Try.f83 25)=pixel_head.T25:=by kernel_rfl
theorem pixel_head.bits25:waitsOk pixel_head.T25.2 pixel_head.B25=true:=by kernel_rfl
set_option maxHeartbeats 8000000 in
set_option maxRecDepth 100000 in
theorem pixel_head.calls (k : Nat) (a0_0 : ByteArray) (a0_1 : Int) (r1 : Int) (r2 : Int) (r3 : Int) (r4 : List (S89)) (r5 : Int) (r6 : ByteArray) (r7 : Int) (w : World) (h : pixel_head.f k a0_0 a0_1 = some (r1, r2, r3, r4, r5, r6, r7)) :
  Calls Try.prog 83 #[.agg #[.string a0_0,.int .i64 a0_1]] w fun e w'=>∃ v3_:Value,e=.returned (.tuple #[.agg #[.int .i64 r1,.int .i64 r2,.int .i64 r3,v3_],.int .i64 r5,.string r6,.int .i64 r7])∧Kd.R k89 89 w' w.heap.size (fun _=>True) v3_ r4∧Below w.heap.size w w':=by
 have hu133:=Try.underlying133
 have hu76:=Try.underlying76
 have HB:=Aside0.mk (Below.refl w.heap.size w)
 have H:((bits_Little.f k a0_0 a0_1 2).bind fun bt234=>(if bt234.2.2.2=0 then ((bits_Little.f k bt234.2.1 bt234.2.2.1 1).bind fun bt238=>(if bt238.2.2.2=0 then (if bt238.1=3 then (pixel_head.j0 k bt238.1 0 false bt238.2.1 bt238.2.2.1 bt234.1 0 0) else (pixel_head.j0 k bt238.1 0 (bt238.1 != 5) bt238.2.1 bt238.2.2.1 bt234.1 0 0)) else (some (bt234.1,0,0,([]:List (S89)),0,(⟨#[]⟩:ByteArray),bt238.2.2.2)))) else (some (bt234.1,0,0,([]:List (S89)),0,(⟨#[]⟩:ByteArray),bt234.2.2.2))))=some (r1,r2,r3,r4,r5,r6,r7):=h
 clear h
 replace H:=Option.bind_eq_some_iff.mp H
 obtain ⟨⟨t234,t235,t236,t237⟩,A20,H⟩:=H
 replace H:(if t237=0 then ((bits_Little.f k t235 t236 1).bind fun bt238=>(if bt238.2.2.2=0 then (if bt238.1=3 then (pixel_head.j0 k bt238.1 0 false bt238.2.1 bt238.2.2.1 t234 0 0) else (pixel_head.j0 k bt238.1 0 (bt238.1 != 5) bt238.2.1 bt238.2.2.1 t234 0 0)) else (some (t234,0,0,([]:List (S89)),0,(⟨#[]⟩:ByteArray),bt238.2.2.2)))) else (some (t234,0,0,([]:List (S89)),0,(⟨#[]⟩:ByteArray),t237)))=some (r1,r2,r3,r4,r5,r6,r7):=H
 have A2:=Aside0.mk A20
 clear A20
 by_cases c3:t237=0
 ·rw [if_pos c3] at H
  have c3b0:(t237 == 0)=true:=beq_iff_eq.mpr c3
  have c3b1:(t237 != 0)=false:=bne_eq_false_iff_eq.mpr c3
  clear c3
  replace H:=Option.bind_eq_some_iff.mp H
  obtain ⟨⟨t238,t239,t240,t241⟩,A40,H⟩:=H
  replace H:(if t241=0 then (if t238=3 then (pixel_head.j0 k t238 0 false t239 t240 t234 0 0) else (pixel_head.j0 k t238 0 (t238 != 5) t239 t240 t234 0 0)) else (some (t234,0,0,([]:List (S89)),0,(⟨#[]⟩:ByteArray),t241)))=some (r1,r2,r3,r4,r5,r6,r7):=H
  have A4:=Aside0.mk A40
  clear A40
  by_cases c5:t241=0
  ·rw [if_pos c5] at H
   have c5b0:(t241 == 0)=true:=beq_iff_eq.mpr c5
   have c5b1:(t241 != 0)=false:=bne_eq_false_iff_eq.mpr c5
   clear c5
   have HC6:=Aside0.mk H
   clear H
   go_enter Try.func83,Try.ntmps83
   go_upto_region 10 with (first | ((with_reducible refine gate_dst (N:=1) rfl ?_);(try (refine gate_guard (by rfl) ?_;dsimp only));refine boxQ 1 #[.string a0_0,.int .i64 a0_1] 133 ?_;intro gb231 hg w7 hbox hb;have n0_:=hs HB hb;have n1_:=Aside0.mk (hbox);have n2_:=gs HB hg;have n3_:=gs HB hg;clear HB;have HB:=n0_;have BK231:=n1_;have GW231:=n2_;have GE231:=n3_;clear n0_ n1_ n2_ n3_;clear hb hbox hg) | ((with_reducible refine gate_dst (N:=2) rfl ?_);(try (refine gate_guard (by rfl) ?_;dsimp only));refine boxQ 2 #[.int .i64 0,.int .i64 0,.int .i64 0,.slice none 0 0] 76 ?_;intro gb232 hg w8 hbox hb;have n0_:=bb BK231 hb;have n1_:=hs HB hb;have n2_:=Aside0.mk (hbox);have n3_:=gs HB hg;have n4_:=gs HB hg;have n5_:=nl BK231 hg;have n6_:=ng BK231 hg;clear BK231;clear HB;have BK231:=n0_;have HB:=n1_;have BK232:=n2_;have GW232:=n3_;have GE232:=n4_;have NB231_232:=n5_;have NB232_231:=n6_;clear n0_ n1_ n2_ n3_ n4_ n5_ n6_;clear hb hbox hg) | ((with_reducible refine gate_dst (N:=6) rfl ?_);(try (refine gate_guard (by rfl) ?_;dsimp only));refine boxQ 6 #[.int .i64 0,.int .i64 0,.int .i64 0,.slice none 0 0] 76 ?_;intro gb233 hg w9 hbox hb;have n0_:=bb BK231 hb;have n1_:=bb BK232 hb;have n2_:=hs HB hb;have n3_:=Aside0.mk (hbox);have n4_:=gs HB hg;have n5_:=gs HB hg;have n6_:=nl BK231 hg;have n7_:=ng BK231 hg;have n8_:=nl BK232 hg;have n9_:=ng BK232 hg;clear BK231;clear BK232;clear HB;have BK231:=n0_;have BK232:=n1_;have HB:=n2_;have BK233:=n3_;have GW233:=n4_;have GE233:=n5_;have NB231_233:=n6_;have NB233_231:=n7_;have NB232_233:=n8_;have NB233_232:=n9_;clear n0_ n1_ n2_ n3_ n4_ n5_ n6_ n7_ n8_ n9_;clear hb hbox hg;have hnb10:=NB231_232.out;have hnc10:=NB232_231.out;have hnb11:=NB231_233.out;have hnc11:=NB233_231.out;obtain ⟨hcz12_0,hcz12_1⟩:=cc2 BK231;obtain ⟨hfz12_0,hfz12_1⟩:=ff2 BK231) | ((with_reducible refine gate_callee (f:=105) rfl ?_);refine goesQ (some 12) Try.func105 #[.agg #[.string a0_0,.int .i64 a0_1],.int .i64 2] ?_;(with_reducible refine (bits_Little.calls k a0_0 a0_1 2 t234 t235 t236 t237 _ A2.out).mono ?_);rintro e w13 ⟨rfl,hb⟩;refine ⟨_,rfl,?_⟩;have n0_:=bb BK231 hb;have n1_:=bb BK232 hb;have n2_:=bb BK233 hb;have n3_:=hs HB hb;clear BK231;clear BK232;clear BK233;clear HB;have BK231:=n0_;have BK232:=n1_;have BK233:=n2_;have HB:=n3_;clear n0_ n1_ n2_ n3_;(try clear hb);have hnb14:=NB233_232.out;have hnc14:=NB232_233.out;obtain ⟨hcz15_0,hcz15_1,hcz15_2,hcz15_3⟩:=cc4 BK233;obtain ⟨hfz15_0,hfz15_1,hfz15_2,hfz15_3⟩:=ff4 BK233;obtain ⟨hcz16_0,hcz16_1⟩:=cc2 BK231;obtain ⟨hfz16_0,hfz16_1⟩:=ff2 BK231) | ((with_reducible refine gate_callee (f:=105) rfl ?_);refine goesQ (some 23) Try.func105 #[.agg #[.string t235,.int .i64 t236],.int .i64 1] ?_;(with_reducible refine (bits_Little.calls k t235 t236 1 t238 t239 t240 t241 _ A4.out).mono ?_);rintro e w17 ⟨rfl,hb⟩;refine ⟨_,rfl,?_⟩;have n0_:=bp #[.string t235,.int .i64 t236] BK231 hb;have n1_:=bb BK232 hb;have n2_:=bp #[.int .i64 t234,.int .i64 0,.int .i64 0,.slice none 0 0] BK233 hb;have n3_:=hs HB hb;clear BK231;clear BK232;clear BK233;clear HB;have BK231:=n0_;have BK232:=n1_;have BK233:=n2_;have HB:=n3_;clear n0_ n1_ n2_ n3_;(try clear hb);obtain ⟨hcz18_0,hcz18_1⟩:=cc2 BK231;obtain ⟨hfz18_0,hfz18_1⟩:=ff2 BK231))
   (try simp only [Act.put,List.setIfInBounds_toArray,List.set_cons_zero,List.set_cons_succ])
   go_cut [36] (fun v36 wc=>∃ (kq:Nat) (x36_5:Bool),v36=.bool x36_5∧Aside0 (pixel_head.j0 kq t238 0 x36_5 t239 t240 t234 0 0=some (r1,r2,r3,r4,r5,r6,r7))∧Aside0 (kq≤k)∧Aside0 (wc.heap[gb231]?=some (.cells #[.string t239,.int .i64 t240] 133 (0,0)))∧Aside0 (wc.heap[gb232]?=some (.cells #[.int .i64 0,.int .i64 0,.int .i64 0,(.slice none 0 0)] 76 (0,0)))∧Aside0 (wc.heap[gb233]?=some (.cells #[.int .i64 t234,.int .i64 0,.int .i64 0,(.slice none 0 0)] 76 (0,0)))∧Aside0 (Below w.heap.size w wc))
   case first =>
    have H:=HC6.out
    clear HC6
    by_cases c19:t238=3
    ·rw [if_pos c19] at H
     have c19b0:(t238 == 3)=true:=beq_iff_eq.mpr c19
     have c19b1:(t238 != 3)=false:=bne_eq_false_iff_eq.mpr c19
     clear c19
     (first | rw [c19b0] | (simp only [i64_w,i32_w];rw [c19b0]) | skip)
     have H':=Aside0.mk H
     clear H
     go_wp2
     go_meet
     case rel=>exact ⟨_,(false),(by first | rfl | (simp;done) | (simp [*];done)),H',⟨by first | omega | exact Nat.le_refl _⟩,⟨by (with_reducible repeat (first | refine blk_drewN ?_ _ | refine blk_drew ?_ | refine blk_alloc ?_ _));refine blk_put (cs:=#[.string t239,.int .i64 t236]) ?_ 1 _ rfl;(with_reducible repeat (first | refine blk_drewN ?_ _ | refine blk_drew ?_ | refine blk_alloc ?_ _));refine blk_put (cs:=#[.string t235,.int .i64 t236]) ?_ 0 _ rfl;(with_reducible repeat (first | refine blk_drewN ?_ _ | refine blk_drew ?_ | refine blk_alloc ?_ _));exact BK231.out⟩,⟨by (with_reducible repeat (first | refine blk_drewN ?_ _ | refine blk_drew ?_ | refine blk_alloc ?_ _));refine blk_far ?_ NB232_231.out _;(with_reducible repeat (first | refine blk_drewN ?_ _ | refine blk_drew ?_ | refine blk_alloc ?_ _));refine blk_far ?_ NB232_231.out _;(with_reducible repeat (first | refine blk_drewN ?_ _ | refine blk_drew ?_ | refine blk_alloc ?_ _));exact BK232.out⟩,⟨by (with_reducible repeat (first | refine blk_drewN ?_ _ | refine blk_drew ?_ | refine blk_alloc ?_ _));refine blk_far ?_ NB233_231.out _;(with_reducible repeat (first | refine blk_drewN ?_ _ | refine blk_drew ?_ | refine blk_alloc ?_ _));refine blk_far ?_ NB233_231.out _;(with_reducible repeat (first | refine blk_drewN ?_ _ | refine blk_drew ?_ | refine blk_alloc ?_ _));exact BK233.out⟩,⟨hn HB⟩⟩
    ·rw [if_neg c19] at H
     have c19b0:(t238 == 3)=false:=beq_eq_false_iff_ne.mpr c19
     have c19b1:(t238 != 3)=true:=bne_iff_ne.mpr c19
     (first | rw [c19b0] | (simp only [i64_w,i32_w];rw [c19b0]) | skip)
     have H':=Aside0.mk H
     clear H
     go_wp2
     go_meet
     case rel=>exact ⟨_,((t238 != 5)),(by first | rfl | (simp;done) | (simp [*];done)),H',⟨by first | omega | exact Nat.le_refl _⟩,⟨by (with_reducible repeat (first | refine blk_drewN ?_ _ | refine blk_drew ?_ | refine blk_alloc ?_ _));refine blk_put (cs:=#[.string t239,.int .i64 t236]) ?_ 1 _ rfl;(with_reducible repeat (first | refine blk_drewN ?_ _ | refine blk_drew ?_ | refine blk_alloc ?_ _));refine blk_put (cs:=#[.string t235,.int .i64 t236]) ?_ 0 _ rfl;(with_reducible repeat (first | refine blk_drewN ?_ _ | refine blk_drew ?_ | refine blk_alloc ?_ _));exact BK231.out⟩,⟨by (with_reducible repeat (first | refine blk_drewN ?_ _ | refine blk_drew ?_ | refine blk_alloc ?_ _));refine blk_far ?_ NB232_231.out _;(with_reducible repeat (first | refine blk_drewN ?_ _ | refine blk_drew ?_ | refine blk_alloc ?_ _));refine blk_far ?_ NB232_231.out _;(with_reducible repeat (first | refine blk_drewN ?_ _ | refine blk_drew ?_ | refine blk_alloc ?_ _));exact BK232.out⟩,⟨by (with_reducible repeat (first | refine blk_drewN ?_ _ | refine blk_drew ?_ | refine blk_alloc ?_ _));refine blk_far ?_ NB233_231.out _;(with_reducible repeat (first | refine blk_drewN ?_ _ | refine blk_drew ?_ | refine blk_alloc ?_ _));refine blk_far ?_ NB233_231.out _;(with_reducible repeat (first | refine blk_drewN ?_ _ | refine blk_drew ?_ | refine blk_alloc ?_ _));exact BK233.out⟩,⟨hn HB⟩⟩
   case rest =>
    clear HC6
    try clear c1
    try clear p2
    try clear c3
    try clear c3b0
    try clear c3b1
    try clear c5
    try clear c5b0
    try clear c5b1
    try clear c8
    try clear c10
    try clear c11
    try clear c14
    try clear c19
    try clear c19b0
    try clear c19b1
    try clear hcz12_0
    try clear hcz12_1
    try clear hcz15_0
    try clear hcz15_1
    try clear hcz15_2
    try clear hcz15_3
    try clear hcz16_0
    try clear hcz16_1
    try clear hcz18_0
    try clear hcz18_1
    try clear hfz12_0
    try clear hfz12_1
    try clear hfz15_0
    try clear hfz15_1
    try clear hfz15_2
    try clear hfz15_3
    try clear hfz16_0
    try clear hfz16_1
    try clear hfz18_0
    try clear hfz18_1
    obtain ⟨kq,x36_5,rfl,HA,HJ5,BK231,BK232,BK233,HB⟩:=hcut
    cases kq with
    |zero=>exact absurd HA.out (by simp [pixel_head.j0])
    |succ kj5 =>
     have H:=HA.out
     clear HA
     simp only [pixel_head.j0] at H
     by_cases c20:x36_5=true
     ·subst c20
      have H1:(some (t234,0,0,([]:List (S89)),0,(⟨#[]⟩:ByteArray),3))=some (r1,r2,r3,r4,r5,r6,r7):=by rw [if_pos rfl] at H;exact H
      clear H
      have H:=H1
      clear H1
      simp only [Option.some.injEq,Prod.mk.injEq] at H
      obtain ⟨rfl,rfl,rfl,rfl,rfl,rfl,rfl⟩:=H
      have hnb21:=NB233_231.out
      have hnc21:=NB231_233.out
      have hnb22:=NB233_232.out
      have hnc22:=NB232_233.out
      obtain ⟨hcz23_0,hcz23_1,hcz23_2,hcz23_3⟩:=cc4 BK233
      obtain ⟨hfz23_0,hfz23_1,hfz23_2,hfz23_3⟩:=ff4 BK233
      have hnb24:=NB232_231.out
      have hnc24:=NB231_232.out
      obtain ⟨hcz25_0,hcz25_1,hcz25_2,hcz25_3⟩:=cc4 BK232
      obtain ⟨hfz25_0,hfz25_1,hfz25_2,hfz25_3⟩:=ff4 BK232
      go_wp2
      refine bodyPost_ret (results_list (rs:=[.cell 2 76,.tmp 3,.tmp 4,.tmp 5]) rfl (by simp) (.cell gb232 76 #[.int .i64 t234,.int .i64 0,.int .i64 0,.slice none 0 0] (0,0) _ rfl (bq BK232) Try.underlying76 rfl (by kernel_rfl) (.tmp (.tmp (.tmp .nil))))) rfl ?_
      exact ⟨_,by first | rfl | (simp [errW_none,errW_some] <;> rfl) | (simp [*,errW_none,errW_some] <;> rfl),by first | exact Kd.R_nil _ _ _ _ _ | exact Kd.N_nil _ _ _ _ _ | exact Kd.V_nil _ _ _ _ _ | exact Kd.Q_nil _ _ _ _ _ | exact Kd.S_nil _ _ _ _ _,hn HB⟩
     ·replace c20:=Bool.eq_false_iff.mpr c20
      subst c20
      have H1:((bits_Little.f kj5 t239 t240 2).bind fun bt242=>(if bt242.2.2.2=0 then ((bits_Little.f kj5 bt242.2.1 bt242.2.2.1 2).bind fun bt246=>(if bt246.2.2.2=0 then (if t238=3 then ((bits_Little.f kj5 bt246.2.1 bt246.2.2.1 1).bind fun bt250=>(if bt250.2.2.2=0 then (if (mn bt242.1 bt246.1) < 1 then (some (t234,bt242.1,bt246.1,([]:List (S89)),0,(⟨#[]⟩:ByteArray),7)) else (if (mx bt242.1 bt246.1) > 64 then (some (t234,bt242.1,bt246.1,([]:List (S89)),0,(⟨#[]⟩:ByteArray),7)) else (if 0≤(wrap64 (Int.tdiv bt250.2.2.1 8)) then (if (wrap64 (Int.tdiv bt250.2.2.1 8))≤(bt250.2.1.size:Int) then (some (t234,bt242.1,bt246.1,([]:List (S89)),wrap64 (bt250.1+1),bt250.2.1.extract ((wrap64 (Int.tdiv bt250.2.2.1 8)):Int).toNat bt250.2.1.size,0)) else (none)) else (none)))) else (some (t234,bt242.1,bt246.1,([]:List (S89)),0,(⟨#[]⟩:ByteArray),bt250.2.2.2)))) else (if (mn bt242.1 bt246.1) < 1 then (some (t234,bt242.1,bt246.1,([]:List (S89)),0,(⟨#[]⟩:ByteArray),7)) else (if (mx bt242.1 bt246.1) > 64 then (some (t234,bt242.1,bt246.1,([]:List (S89)),0,(⟨#[]⟩:ByteArray),7)) else (if 0≤(wrap64 (Int.tdiv bt246.2.2.1 8)) then (if (wrap64 (Int.tdiv bt246.2.2.1 8))≤(bt246.2.1.size:Int) then (some (t234,bt242.1,bt246.1,([]:List (S89)),0,bt246.2.1.extract ((wrap64 (Int.tdiv bt246.2.2.1 8)):Int).toNat bt246.2.1.size,0)) else (none)) else (none))))) else (some (t234,bt242.1,bt246.1,([]:List (S89)),0,(⟨#[]⟩:ByteArray),bt246.2.2.2)))) else (some (t234,bt242.1,0,([]:List (S89)),0,(⟨#[]⟩:ByteArray),bt242.2.2.2))))=some (r1,r2,r3,r4,r5,r6,r7):=by rw [if_neg (show ¬ (false=true) by decide)] at H;exact H
      clear H
      have H:=H1
      clear H1
      replace H:=Option.bind_eq_some_iff.mp H
      obtain ⟨⟨t242,t243,t244,t245⟩,A260,H⟩:=H
      replace H:(if t245=0 then ((bits_Little.f kj5 t243 t244 2).bind fun bt246=>(if bt246.2.2.2=0 then (if t238=3 then ((bits_Little.f kj5 bt246.2.1 bt246.2.2.1 1).bind fun bt250=>(if bt250.2.2.2=0 then (if (mn t242 bt246.1) < 1 then (some (t234,t242,bt246.1,([]:List (S89)),0,(⟨#[]⟩:ByteArray),7)) else (if (mx t242 bt246.1) > 64 then (some (t234,t242,bt246.1,([]:List (S89)),0,(⟨#[]⟩:ByteArray),7)) else (if 0≤(wrap64 (Int.tdiv bt250.2.2.1 8)) then (if (wrap64 (Int.tdiv bt250.2.2.1 8))≤(bt250.2.1.size:Int) then (some (t234,t242,bt246.1,([]:List (S89)),wrap64 (bt250.1+1),bt250.2.1.extract ((wrap64 (Int.tdiv bt250.2.2.1 8)):Int).toNat bt250.2.1.size,0)) else (none)) else (none)))) else (some (t234,t242,bt246.1,([]:List (S89)),0,(⟨#[]⟩:ByteArray),bt250.2.2.2)))) else (if (mn t242 bt246.1) < 1 then (some (t234,t242,bt246.1,([]:List (S89)),0,(⟨#[]⟩:ByteArray),7)) else (if (mx t242 bt246.1) > 64 then (some (t234,t242,bt246.1,([]:List (S89)),0,(⟨#[]⟩:ByteArray),7)) else (if 0≤(wrap64 (Int.tdiv bt246.2.2.1 8)) then (if (wrap64 (Int.tdiv bt246.2.2.1 8))≤(bt246.2.1.size:Int) then (some (t234,t242,bt246.1,([]:List (S89)),0,bt246.2.1.extract ((wrap64 (Int.tdiv bt246.2.2.1 8)):Int).toNat bt246.2.1.size,0)) else (none)) else (none))))) else (some (t234,t242,bt246.1,([]:List (S89)),0,(⟨#[]⟩:ByteArray),bt246.2.2.2)))) else (some (t234,t242,0,([]:List (S89)),0,(⟨#[]⟩:ByteArray),t245)))=some (r1,r2,r3,r4,r5,r6,r7):=H
      have A26:=Aside0.mk A260
      clear A260
      by_cases c27:t245=0
      ·rw [if_pos c27] at H
       have c27b0:(t245 == 0)=true:=beq_iff_eq.mpr c27
       have c27b1:(t245 != 0)=false:=bne_eq_false_iff_eq.mpr c27
       clear c27
       replace H:=Option.bind_eq_some_iff.mp H
       obtain ⟨⟨t246,t247,t248,t249⟩,A280,H⟩:=H
       replace H:(if t249=0 then (if t238=3 then ((bits_Little.f kj5 t247 t248 1).bind fun bt250=>(if bt250.2.2.2=0 then (if (mn t242 t246) < 1 then (some (t234,t242,t246,([]:List (S89)),0,(⟨#[]⟩:ByteArray),7)) else (if (mx t242 t246) > 64 then (some (t234,t242,t246,([]:List (S89)),0,(⟨#[]⟩:ByteArray),7)) else (if 0≤(wrap64 (Int.tdiv bt250.2.2.1 8)) then (if (wrap64 (Int.tdiv bt250.2.2.1 8))≤(bt250.2.1.size:Int) then (some (t234,t242,t246,([]:List (S89)),wrap64 (bt250.1+1),bt250.2.1.extract ((wrap64 (Int.tdiv bt250.2.2.1 8)):Int).toNat bt250.2.1.size,0)) else (none)) else (none)))) else (some (t234,t242,t246,([]:List (S89)),0,(⟨#[]⟩:ByteArray),bt250.2.2.2)))) else (if (mn t242 t246) < 1 then (some (t234,t242,t246,([]:List (S89)),0,(⟨#[]⟩:ByteArray),7)) else (if (mx t242 t246) > 64 then (some (t234,t242,t246,([]:List (S89)),0,(⟨#[]⟩:ByteArray),7)) else (if 0≤(wrap64 (Int.tdiv t248 8)) then (if (wrap64 (Int.tdiv t248 8))≤(t247.size:Int) then (some (t234,t242,t246,([]:List (S89)),0,t247.extract ((wrap64 (Int.tdiv t248 8)):Int).toNat t247.size,0)) else (none)) else (none))))) else (some (t234,t242,t246,([]:List (S89)),0,(⟨#[]⟩:ByteArray),t249)))=some (r1,r2,r3,r4,r5,r6,r7):=H
       have A28:=Aside0.mk A280
       clear A280
       by_cases c29:t249=0
       ·rw [if_pos c29] at H
        have c29b0:(t249 == 0)=true:=beq_iff_eq.mpr c29
        have c29b1:(t249 != 0)=false:=bne_eq_false_iff_eq.mpr c29
        clear c29
        by_cases c30:t238=3
        ·rw [if_pos c30] at H
         have c30b0:(t238 == 3)=true:=beq_iff_eq.mpr c30
         have c30b1:(t238 != 3)=false:=bne_eq_false_iff_eq.mpr c30
         clear c30
         replace H:=Option.bind_eq_some_iff.mp H
         obtain ⟨⟨t250,t251,t252,t253⟩,A310,H⟩:=H
         replace H:(if t253=0 then (if (mn t242 t246) < 1 then (some (t234,t242,t246,([]:List (S89)),0,(⟨#[]⟩:ByteArray),7)) else (if (mx t242 t246) > 64 then (some (t234,t242,t246,([]:List (S89)),0,(⟨#[]⟩:ByteArray),7)) else (if 0≤(wrap64 (Int.tdiv t252 8)) then (if (wrap64 (Int.tdiv t252 8))≤(t251.size:Int) then (some (t234,t242,t246,([]:List (S89)),wrap64 (t250+1),t251.extract ((wrap64 (Int.tdiv t252 8)):Int).toNat t251.size,0)) else (none)) else (none)))) else (some (t234,t242,t246,([]:List (S89)),0,(⟨#[]⟩:ByteArray),t253)))=some (r1,r2,r3,r4,r5,r6,r7):=H
         have A31:=Aside0.mk A310
         clear A310
         by_cases c32:t253=0
         ·rw [if_pos c32] at H
          have c32b0:(t253 == 0)=true:=beq_iff_eq.mpr c32
          have c32b1:(t253 != 0)=false:=bne_eq_false_iff_eq.mpr c32
          clear c32
          obtain ⟨ji33,hji33⟩:∃ j_:Int,(mn t242 t246)=j_:=⟨_,rfl⟩
          replace H:(if (ji33) < 1 then (some (t234,t242,t246,([]:List (S89)),0,(⟨#[]⟩:ByteArray),7)) else (if (mx t242 t246) > 64 then (some (t234,t242,t246,([]:List (S89)),0,(⟨#[]⟩:ByteArray),7)) else (if 0≤(wrap64 (Int.tdiv t252 8)) then (if (wrap64 (Int.tdiv t252 8))≤(t251.size:Int) then (some (t234,t242,t246,([]:List (S89)),wrap64 (t250+1),t251.extract ((wrap64 (Int.tdiv t252 8)):Int).toNat t251.size,0)) else (none)) else (none))))=some (r1,r2,r3,r4,r5,r6,r7):=by first | (rw [hji33] at H;exact H) | (simp only [hji33] at H ⊢;exact H)
          (try rw [hji33] at A26)
          (try rw [hji33] at A28)
          (try rw [hji33] at A31)
          have hji33_:(if t246 < t242 then t246 else t242)=ji33:=hji33
          by_cases c34:(ji33) < 1
          ·rw [if_pos c34] at H
           have c34b0:decide ((ji33) < 1)=true:=decide_eq_true c34
           clear c34
           simp only [Option.some.injEq,Prod.mk.injEq] at H
           obtain ⟨rfl,rfl,rfl,rfl,rfl,rfl,rfl⟩:=H
           have hnb35:=NB231_232.out
           have hnc35:=NB232_231.out
           have hnb36:=NB231_233.out
           have hnc36:=NB233_231.out
           obtain ⟨hcz37_0,hcz37_1⟩:=cc2 BK231
           obtain ⟨hfz37_0,hfz37_1⟩:=ff2 BK231
           go_wp2_with (first | ((with_reducible refine gate_callee (f:=105) rfl ?_);refine goesQ (some 40) Try.func105 #[.agg #[.string t239,.int .i64 t240],.int .i64 2] ?_;(with_reducible refine (bits_Little.calls kj5 t239 t240 2 t242 t243 t244 t245 _ A26.out).mono ?_);rintro e w38 ⟨rfl,hb⟩;refine ⟨_,rfl,?_⟩;have n0_:=bb BK231 hb;have n1_:=bb BK232 hb;have n2_:=bb BK233 hb;have n3_:=hs HB hb;clear BK231;clear BK232;clear BK233;clear HB;have BK231:=n0_;have BK232:=n1_;have BK233:=n2_;have HB:=n3_;clear n0_ n1_ n2_ n3_;(try clear hb);have hnb39:=NB233_232.out;have hnc39:=NB232_233.out;obtain ⟨hcz40_0,hcz40_1,hcz40_2,hcz40_3⟩:=cc4 BK233;obtain ⟨hfz40_0,hfz40_1,hfz40_2,hfz40_3⟩:=ff4 BK233;obtain ⟨hcz41_0,hcz41_1⟩:=cc2 BK231;obtain ⟨hfz41_0,hfz41_1⟩:=ff2 BK231) | ((with_reducible refine gate_callee (f:=105) rfl ?_);refine goesQ (some 51) Try.func105 #[.agg #[.string t243,.int .i64 t244],.int .i64 2] ?_;(with_reducible refine (bits_Little.calls kj5 t243 t244 2 t246 t247 t248 t249 _ A28.out).mono ?_);rintro e w42 ⟨rfl,hb⟩;refine ⟨_,rfl,?_⟩;have n0_:=bp #[.string t243,.int .i64 t244] BK231 hb;have n1_:=bb BK232 hb;have n2_:=bp #[.int .i64 t234,.int .i64 t242,.int .i64 0,.slice none 0 0] BK233 hb;have n3_:=hs HB hb;clear BK231;clear BK232;clear BK233;clear HB;have BK231:=n0_;have BK232:=n1_;have BK233:=n2_;have HB:=n3_;clear n0_ n1_ n2_ n3_;(try clear hb);obtain ⟨hcz43_0,hcz43_1,hcz43_2,hcz43_3⟩:=cc4 BK233;obtain ⟨hfz43_0,hfz43_1,hfz43_2,hfz43_3⟩:=ff4 BK233;obtain ⟨hcz44_0,hcz44_1⟩:=cc2 BK231;obtain ⟨hfz44_0,hfz44_1⟩:=ff2 BK231) | ((with_reducible refine gate_callee (f:=105) rfl ?_);refine goesQ (some 64) Try.func105 #[.agg #[.string t247,.int .i64 t248],.int .i64 1] ?_;(with_reducible refine (bits_Little.calls kj5 t247 t248 1 t250 t251 t252 t253 _ A31.out).mono ?_);rintro e w45 ⟨rfl,hb⟩;refine ⟨_,rfl,?_⟩;have n0_:=bp #[.string t247,.int .i64 t248] BK231 hb;have n1_:=bb BK232 hb;have n2_:=bp #[.int .i64 t234,.int .i64 t242,.int .i64 t246,.slice none 0 0] BK233 hb;have n3_:=hs HB hb;clear BK231;clear BK232;clear BK233;clear HB;have BK231:=n0_;have BK232:=n1_;have BK233:=n2_;have HB:=n3_;clear n0_ n1_ n2_ n3_;(try clear hb);obtain ⟨hcz46_0,hcz46_1⟩:=cc2 BK231;obtain ⟨hfz46_0,hfz46_1⟩:=ff2 BK231;obtain ⟨hcz47_0,hcz47_1,hcz47_2,hcz47_3⟩:=cc4 BK233;obtain ⟨hfz47_0,hfz47_1,hfz47_2,hfz47_3⟩:=ff4 BK233;obtain ⟨hcz48_0,hcz48_1,hcz48_2,hcz48_3⟩:=cc4 BK232;obtain ⟨hfz48_0,hfz48_1,hfz48_2,hfz48_3⟩:=ff4 BK232))
           refine bodyPost_ret (results_list (rs:=[.cell 2 76,.tmp 3,.tmp 4,.tmp 5]) rfl (by simp) (.cell gb232 76 #[.int .i64 t234,.int .i64 t242,.int .i64 t246,.slice none 0 0] (0,0) _ rfl (bq BK232) Try.underlying76 rfl (by kernel_rfl) (.tmp (.tmp (.tmp .nil))))) rfl ?_
           exact ⟨_,by first | rfl | (simp [errW_none,errW_some] <;> rfl) | (simp only [← hji33];first | rfl | (simp [errW_none,errW_some] <;> rfl)) | (simp [*,errW_none,errW_some] <;> rfl),by first | exact Kd.R_nil _ _ _ _ _ | exact Kd.N_nil _ _ _ _ _ | exact Kd.V_nil _ _ _ _ _ | exact Kd.Q_nil _ _ _ _ _ | exact Kd.S_nil _ _ _ _ _,hn HB⟩
          ·rw [if_neg c34] at H
           have c34b0:decide ((ji33) < 1)=false:=decide_eq_false c34
           clear c34
           obtain ⟨ji49,hji49⟩:∃ j_:Int,(mx t242 t246)=j_:=⟨_,rfl⟩
           replace H:(if (ji49) > 64 then (some (t234,t242,t246,([]:List (S89)),0,(⟨#[]⟩:ByteArray),7)) else (if 0≤(wrap64 (Int.tdiv t252 8)) then (if (wrap64 (Int.tdiv t252 8))≤(t251.size:Int) then (some (t234,t242,t246,([]:List (S89)),wrap64 (t250+1),t251.extract ((wrap64 (Int.tdiv t252 8)):Int).toNat t251.size,0)) else (none)) else (none)))=some (r1,r2,r3,r4,r5,r6,r7):=by first | (rw [hji49] at H;exact H) | (simp only [hji49] at H ⊢;exact H)
           (try rw [hji49] at A26)
           (try rw [hji49] at A28)
           (try rw [hji49] at A31)
           have hji49_:(if t242 < t246 then t246 else t242)=ji49:=hji49
           by_cases c50:(ji49) > 64
           ·rw [if_pos c50] at H
            have c50b0:decide (64 < (ji49))=true:=decide_eq_true c50
            clear c50
            simp only [Option.some.injEq,Prod.mk.injEq] at H
            obtain ⟨rfl,rfl,rfl,rfl,rfl,rfl,rfl⟩:=H
            have hnb51:=NB231_232.out
            have hnc51:=NB232_231.out
            have hnb52:=NB231_233.out
            have hnc52:=NB233_231.out
            obtain ⟨hcz53_0,hcz53_1⟩:=cc2 BK231
            obtain ⟨hfz53_0,hfz53_1⟩:=ff2 BK231
            go_wp2_with (first | ((with_reducible refine gate_callee (f:=105) rfl ?_);refine goesQ (some 40) Try.func105 #[.agg #[.string t239,.int .i64 t240],.int .i64 2] ?_;(with_reducible refine (bits_Little.calls kj5 t239 t240 2 t242 t243 t244 t245 _ A26.out).mono ?_);rintro e w54 ⟨rfl,hb⟩;refine ⟨_,rfl,?_⟩;have n0_:=bb BK231 hb;have n1_:=bb BK232 hb;have n2_:=bb BK233 hb;have n3_:=hs HB hb;clear BK231;clear BK232;clear BK233;clear HB;have BK231:=n0_;have BK232:=n1_;have BK233:=n2_;have HB:=n3_;clear n0_ n1_ n2_ n3_;(try clear hb);have hnb55:=NB233_232.out;have hnc55:=NB232_233.out;obtain ⟨hcz56_0,hcz56_1,hcz56_2,hcz56_3⟩:=cc4 BK233;obtain ⟨hfz56_0,hfz56_1,hfz56_2,hfz56_3⟩:=ff4 BK233;obtain ⟨hcz57_0,hcz57_1⟩:=cc2 BK231;obtain ⟨hfz57_0,hfz57_1⟩:=ff2 BK231) | ((with_reducible refine gate_callee (f:=105) rfl ?_);refine goesQ (some 51) Try.func105 #[.agg #[.string t243,.int .i64 t244],.int .i64 2] ?_;(with_reducible refine (bits_Little.calls kj5 t243 t244 2 t246 t247 t248 t249 _ A28.out).mono ?_);rintro e w58 ⟨rfl,hb⟩;refine ⟨_,rfl,?_⟩;have n0_:=bp #[.string t243,.int .i64 t244] BK231 hb;have n1_:=bb BK232 hb;have n2_:=bp #[.int .i64 t234,.int .i64 t242,.int .i64 0,.slice none 0 0] BK233 hb;have n3_:=hs HB hb;clear BK231;clear BK232;clear BK233;clear HB;have BK231:=n0_;have BK232:=n1_;have BK233:=n2_;have HB:=n3_;clear n0_ n1_ n2_ n3_;(try clear hb);obtain ⟨hcz59_0,hcz59_1,hcz59_2,hcz59_3⟩:=cc4 BK233;obtain ⟨hfz59_0,hfz59_1,hfz59_2,hfz59_3⟩:=ff4 BK233;obtain ⟨hcz60_0,hcz60_1⟩:=cc2 BK231;obtain ⟨hfz60_0,hfz60_1⟩:=ff2 BK231) | ((with_reducible refine gate_callee (f:=105) rfl ?_);refine goesQ (some 64) Try.func105 #[.agg #[.string t247,.int .i64 t248],.int .i64 1] ?_;(with_reducible refine (bits_Little.calls kj5 t247 t248 1 t250 t251 t252 t253 _ A31.out).mono ?_);rintro e w61 ⟨rfl,hb⟩;refine ⟨_,rfl,?_⟩;have n0_:=bp #[.string t247,.int .i64 t248] BK231 hb;have n1_:=bb BK232 hb;have n2_:=bp #[.int .i64 t234,.int .i64 t242,.int .i64 t246,.slice none 0 0] BK233 hb;have n3_:=hs HB hb;clear BK231;clear BK232;clear BK233;clear HB;have BK231:=n0_;have BK232:=n1_;have BK233:=n2_;have HB:=n3_;clear n0_ n1_ n2_ n3_;(try clear hb);obtain ⟨hcz62_0,hcz62_1⟩:=cc2 BK231;obtain ⟨hfz62_0,hfz62_1⟩:=ff2 BK231;obtain ⟨hcz63_0,hcz63_1,hcz63_2,hcz63_3⟩:=cc4 BK233;obtain ⟨hfz63_0,hfz63_1,hfz63_2,hfz63_3⟩:=ff4 BK233;obtain ⟨hcz64_0,hcz64_1,hcz64_2,hcz64_3⟩:=cc4 BK232;obtain ⟨hfz64_0,hfz64_1,hfz64_2,hfz64_3⟩:=ff4 BK232))
            refine bodyPost_ret (results_list (rs:=[.cell 2 76,.tmp 3,.tmp 4,.tmp 5]) rfl (by simp) (.cell gb232 76 #[.int .i64 t234,.int .i64 t242,.int .i64 t246,.slice none 0 0] (0,0) _ rfl (bq BK232) Try.underlying76 rfl (by kernel_rfl) (.tmp (.tmp (.tmp .nil))))) rfl ?_
            exact ⟨_,by first | rfl | (simp [errW_none,errW_some] <;> rfl) | (simp only [← hji33,← hji49];first | rfl | (simp [errW_none,errW_some] <;> rfl)) | (simp [*,errW_none,errW_some] <;> rfl),by first | exact Kd.R_nil _ _ _ _ _ | exact Kd.N_nil _ _ _ _ _ | exact Kd.V_nil _ _ _ _ _ | exact Kd.Q_nil _ _ _ _ _ | exact Kd.S_nil _ _ _ _ _,hn HB⟩
           ·rw [if_neg c50] at H
            have c50b0:decide (64 < (ji49))=false:=decide_eq_false c50
            clear c50
            obtain ⟨ji65,hji65⟩:∃ j_:Int,(wrap64 (Int.tdiv t252 8))=j_:=⟨_,rfl⟩
            replace H:(if 0≤(ji65) then (if (ji65)≤(t251.size:Int) then (some (t234,t242,t246,([]:List (S89)),wrap64 (t250+1),t251.extract ((ji65):Int).toNat t251.size,0)) else (none)) else (none))=some (r1,r2,r3,r4,r5,r6,r7):=by first | (rw [hji65] at H;exact H) | (simp only [hji65] at H ⊢;exact H)
            (try rw [hji65] at A26)
            (try rw [hji65] at A28)
            (try rw [hji65] at A31)
            have hji65w:(IntKind.i64.wrap (Int.tdiv t252 8))=ji65:=(i64_w _).trans hji65
            by_cases c66:0≤(ji65)
            ·rw [if_pos c66] at H
             have c66b0:=eq_true c66
             have c66b1:decide (0≤(ji65))=true:=decide_eq_true c66
             clear c66
             by_cases c67:(ji65)≤(t251.size:Int)
             ·rw [if_pos c67] at H
              have c67b0:=eq_true c67
              have c67b1:decide ((ji65)≤(t251.size:Int))=true:=decide_eq_true c67
              clear c67
              simp only [Option.some.injEq,Prod.mk.injEq] at H
              obtain ⟨rfl,rfl,rfl,rfl,rfl,rfl,rfl⟩:=H
              have hnb68:=NB231_232.out
              have hnc68:=NB232_231.out
              have hnb69:=NB231_233.out
              have hnc69:=NB233_231.out
              obtain ⟨hcz70_0,hcz70_1⟩:=cc2 BK231
              obtain ⟨hfz70_0,hfz70_1⟩:=ff2 BK231
              try go_wp2_with (first | ((with_reducible refine gate_callee (f:=105) rfl ?_);refine goesQ (some 40) Try.func105 #[.agg #[.string t239,.int .i64 t240],.int .i64 2] ?_;(with_reducible refine (bits_Little.calls kj5 t239 t240 2 t242 t243 t244 t245 _ A26.out).mono ?_);rintro e w71 ⟨rfl,hb⟩;refine ⟨_,rfl,?_⟩;have n0_:=bb BK231 hb;have n1_:=bb BK232 hb;have n2_:=bb BK233 hb;have n3_:=hs HB hb;clear BK231;clear BK232;clear BK233;clear HB;have BK231:=n0_;have BK232:=n1_;have BK233:=n2_;have HB:=n3_;clear n0_ n1_ n2_ n3_;(try clear hb);have hnb72:=NB233_232.out;have hnc72:=NB232_233.out;obtain ⟨hcz73_0,hcz73_1,hcz73_2,hcz73_3⟩:=cc4 BK233;obtain ⟨hfz73_0,hfz73_1,hfz73_2,hfz73_3⟩:=ff4 BK233;obtain ⟨hcz74_0,hcz74_1⟩:=cc2 BK231;obtain ⟨hfz74_0,hfz74_1⟩:=ff2 BK231) | ((with_reducible refine gate_callee (f:=105) rfl ?_);refine goesQ (some 51) Try.func105 #[.agg #[.string t243,.int .i64 t244],.int .i64 2] ?_;(with_reducible refine (bits_Little.calls kj5 t243 t244 2 t246 t247 t248 t249 _ A28.out).mono ?_);rintro e w75 ⟨rfl,hb⟩;refine ⟨_,rfl,?_⟩;have n0_:=bp #[.string t243,.int .i64 t244] BK231 hb;have n1_:=bb BK232 hb;have n2_:=bp #[.int .i64 t234,.int .i64 t242,.int .i64 0,.slice none 0 0] BK233 hb;have n3_:=hs HB hb;clear BK231;clear BK232;clear BK233;clear HB;have BK231:=n0_;have BK232:=n1_;have BK233:=n2_;have HB:=n3_;clear n0_ n1_ n2_ n3_;(try clear hb);obtain ⟨hcz76_0,hcz76_1,hcz76_2,hcz76_3⟩:=cc4 BK233;obtain ⟨hfz76_0,hfz76_1,hfz76_2,hfz76_3⟩:=ff4 BK233;obtain ⟨hcz77_0,hcz77_1⟩:=cc2 BK231;obtain ⟨hfz77_0,hfz77_1⟩:=ff2 BK231) | ((with_reducible refine gate_callee (f:=105) rfl ?_);refine goesQ (some 64) Try.func105 #[.agg #[.string t247,.int .i64 t248],.int .i64 1] ?_;(with_reducible refine (bits_Little.calls kj5 t247 t248 1 t250 t251 t252 t253 _ A31.out).mono ?_);rintro e w78 ⟨rfl,hb⟩;refine ⟨_,rfl,?_⟩;have n0_:=bp #[.string t247,.int .i64 t248] BK231 hb;have n1_:=bb BK232 hb;have n2_:=bp #[.int .i64 t234,.int .i64 t242,.int .i64 t246,.slice none 0 0] BK233 hb;have n3_:=hs HB hb;clear BK231;clear BK232;clear BK233;clear HB;have BK231:=n0_;have BK232:=n1_;have BK233:=n2_;have HB:=n3_;clear n0_ n1_ n2_ n3_;(try clear hb);obtain ⟨hcz79_0,hcz79_1⟩:=cc2 BK231;obtain ⟨hfz79_0,hfz79_1⟩:=ff2 BK231;obtain ⟨hcz80_0,hcz80_1,hcz80_2,hcz80_3⟩:=cc4 BK233;obtain ⟨hfz80_0,hfz80_1,hfz80_2,hfz80_3⟩:=ff4 BK233))
              have n0_:Aside0 (((w78.setCell ⟨gb231,0,none⟩ (.string t251)).setCell ⟨gb231,1,none⟩ (.int .i64 t252)).heap[gb231]?=some (.cells #[.string t251,.int .i64 t252] 133 (0,0))):=⟨by (with_reducible repeat (first | refine blk_drewN ?_ _ | refine blk_drew ?_ | refine blk_alloc ?_ _));refine blk_put (cs:=#[.string t251,.int .i64 t248]) ?_ 1 _ rfl;(with_reducible repeat (first | refine blk_drewN ?_ _ | refine blk_drew ?_ | refine blk_alloc ?_ _));refine blk_put (cs:=#[.string t247,.int .i64 t248]) ?_ 0 _ rfl;(with_reducible repeat (first | refine blk_drewN ?_ _ | refine blk_drew ?_ | refine blk_alloc ?_ _));exact BK231.out⟩
              have n1_:Aside0 (((w78.setCell ⟨gb231,0,none⟩ (.string t251)).setCell ⟨gb231,1,none⟩ (.int .i64 t252)).heap[gb232]?=some (.cells #[.int .i64 0,.int .i64 0,.int .i64 0,.slice none 0 0] 76 (0,0))):=⟨by (with_reducible repeat (first | refine blk_drewN ?_ _ | refine blk_drew ?_ | refine blk_alloc ?_ _));refine blk_far ?_ NB232_231.out _;(with_reducible repeat (first | refine blk_drewN ?_ _ | refine blk_drew ?_ | refine blk_alloc ?_ _));refine blk_far ?_ NB232_231.out _;(with_reducible repeat (first | refine blk_drewN ?_ _ | refine blk_drew ?_ | refine blk_alloc ?_ _));exact BK232.out⟩
              have n2_:Aside0 (((w78.setCell ⟨gb231,0,none⟩ (.string t251)).setCell ⟨gb231,1,none⟩ (.int .i64 t252)).heap[gb233]?=some (.cells #[.int .i64 t234,.int .i64 t242,.int .i64 t246,.slice none 0 0] 76 (0,0))):=⟨by (with_reducible repeat (first | refine blk_drewN ?_ _ | refine blk_drew ?_ | refine blk_alloc ?_ _));refine blk_far ?_ NB233_231.out _;(with_reducible repeat (first | refine blk_drewN ?_ _ | refine blk_drew ?_ | refine blk_alloc ?_ _));refine blk_far ?_ NB233_231.out _;(with_reducible repeat (first | refine blk_drewN ?_ _ | refine blk_drew ?_ | refine blk_alloc ?_ _));exact BK233.out⟩
              have n3_:Aside0 (Below w.heap.size w ((w78.setCell ⟨gb231,0,none⟩ (.string t251)).setCell ⟨gb231,1,none⟩ (.int .i64 t252))):=⟨hn HB⟩
              (try clear BK231)
              (try clear BK232)
              (try clear BK233)
              (try clear HB)
              generalize ((w78.setCell ⟨gb231,0,none⟩ (.string t251)).setCell ⟨gb231,1,none⟩ (.int .i64 t252))=w81 at n0_ n1_ n2_ n3_ ⊢
              have BK231:=n0_
              have BK232:=n1_
              have BK233:=n2_
              have HB:=n3_
              clear n0_ n1_ n2_ n3_
              have n0_:=Aside0.mk (blk_drew BK231.out)
              have n1_:=Aside0.mk (blk_drew BK232.out)
              have n2_:=Aside0.mk (blk_drew BK233.out)
              have n3_:=Aside0.mk (below_drew1 HB.out)
              clear BK231
              clear BK232
              clear BK233
              clear HB
              have BK231:=n0_
              have BK232:=n1_
              have BK233:=n2_
              have HB:=n3_
              clear n0_ n1_ n2_ n3_
              refine start_ (n:=12) (S:=fun w'=>w'.cell? ⟨gb233,0,none⟩=some (.int .i64 t234)∧w'.cell? ⟨gb233,1,none⟩=some (.int .i64 t242)∧w'.cell? ⟨gb233,2,none⟩=some (.int .i64 t246)∧w'.cell? ⟨gb233,3,none⟩=some (.slice none 0 0)∧w'.cell? ⟨gb231,0,none⟩=some (.string t251)∧w'.cell? ⟨gb231,1,none⟩=some (.int .i64 t252)) (ds:=[]) #[false,false,false,false,false,false,false,false,false,false,false,false] (by kernel_rfl) rfl rfl ⟨(blk_cell BK233.out 0).trans rfl,(blk_cell BK233.out 1).trans rfl,(blk_cell BK233.out 2).trans rfl,(blk_cell BK233.out 3).trans rfl,(blk_cell BK231.out 0).trans rfl,(blk_cell BK231.out 1).trans rfl⟩ (fun hHeld=>?_);refine with_tabW pixel_head.tab25 pixel_head.bits25 (fun HT_ HW_=>?_)
              generalize w81.drew=w82 at BK231 BK232 BK233 HB hHeld ⊢
              refine pureQ 1 (some 90) #[false,true,false,false,false,false,false,false,false,false,false,false] (any_of HT_.out (by kernel_rfl)) ?_
              refine pureQ 2 (some 91) #[false,true,true,false,false,false,false,false,false,false,false,false] (any_of HT_.out (by kernel_rfl)) ?_
              refine pureQ 4 (some 93) #[false,true,true,false,true,false,false,false,false,false,false,false] (any_of HT_.out (by kernel_rfl)) ?_
              refine take_ (i:=0) (N:=some 89) (v:=?_) (a':=?_) #[true,true,true,false,true,false,false,false,false,false,false,false] rfl rfl (take_ofW HT_.out HW_.out (by kernel_rfl)) (fun _ _ _ h=>h) (Or.inl ⟨by rfl,?_⟩) hHeld ?_ ?_
              rotate_left
              ·rintro w' ⟨s0,s1,s2,s3,s4,s5⟩
               go_simp
               with_reducible rfl
              rotate_left
              ·simp only [Act.put,List.setIfInBounds_toArray,List.set_cons_zero,List.set_cons_succ,i64_w,i32_w]
               rfl
              refine take_ (i:=3) (N:=some 92) (v:=?_) (a':=?_) (tk 5 7) rfl rfl (take_ofW HT_.out HW_.out (by kernel_rfl)) (fun _ _ _ h=>h) (Or.inl ⟨by rfl,?_⟩) hHeld ?_ ?_
              rotate_left
              ·rintro w' ⟨s0,s1,s2,s3,s4,s5⟩
               go_simp
               with_reducible rfl
              rotate_left
              ·simp only [Act.put,List.setIfInBounds_toArray,List.set_cons_zero,List.set_cons_succ,i64_w,i32_w]
               rfl
              refine take_ (i:=5) (N:=some 94) (v:=?_) (a':=?_) (tk 6 6) rfl rfl (take_ofW HT_.out HW_.out (by kernel_rfl)) (fun _ _ _ h=>h) (Or.inl ⟨by rfl,?_⟩) hHeld ?_ ?_
              rotate_left
              ·rintro w' ⟨s0,s1,s2,s3,s4,s5⟩
               go_simp
               with_reducible rfl
              rotate_left
              ·simp only [Act.put,List.setIfInBounds_toArray,List.set_cons_zero,List.set_cons_succ,i64_w,i32_w]
               rfl
              refine pureQ 6 (some 95) (tk 7 5) (any_of HT_.out (by kernel_rfl)) ?_
              refine pureQ 7 (some 96) (tk 8 4) (any_of HT_.out (by kernel_rfl)) ?_
              refine one_ (i:=8) (N:=none) (tk 9 3) rfl rfl (one_of HT_.out (by kernel_rfl)) (by decide) (fun K hK=>?_)
              have hs83:w82.cell? ⟨gb232,0,none⟩=some (.int .i64 0):=(blk_cell BK232.out 0).trans rfl
              have hfs83:=blk_frozen BK232.out 0
              have hns83_0:=NB231_232.out
              have hns83_2:=NB233_232.out
              have hms83_0:=NB232_231.out
              have hms83_2:=NB232_233.out
              have hs84:w82.cell? ⟨gb232,1,none⟩=some (.int .i64 0):=(blk_cell BK232.out 1).trans rfl
              have hfs84:=blk_frozen BK232.out 1
              have hns84_0:=NB231_232.out
              have hns84_2:=NB233_232.out
              have hms84_0:=NB232_231.out
              have hms84_2:=NB232_233.out
              have hs85:w82.cell? ⟨gb232,2,none⟩=some (.int .i64 0):=(blk_cell BK232.out 2).trans rfl
              have hfs85:=blk_frozen BK232.out 2
              have hns85_0:=NB231_232.out
              have hns85_2:=NB233_232.out
              have hms85_0:=NB232_231.out
              have hms85_2:=NB232_233.out
              have hs86:w82.cell? ⟨gb232,3,none⟩=some (.slice none 0 0):=(blk_cell BK232.out 3).trans rfl
              have hfs86:=blk_frozen BK232.out 3
              have hns86_0:=NB231_232.out
              have hns86_2:=NB233_232.out
              have hms86_0:=NB232_231.out
              have hms86_2:=NB232_233.out
              refine skip_ (w1:=?_) (by rfl) rfl ?_ ?_
              rotate_left
              ·go_simp
               rfl
              refine hK.out _ _ ⟨((cell_far (p:=⟨gb232,_,none⟩) NB233_232.out _).trans (((cell_far (p:=⟨gb232,_,none⟩) NB233_232.out _).trans (((cell_far (p:=⟨gb232,_,none⟩) NB233_232.out _).trans (((cell_far (p:=⟨gb232,_,none⟩) NB233_232.out _).trans (hHeld.1)))))))),((cell_far (p:=⟨gb232,_,none⟩) NB233_232.out _).trans (((cell_far (p:=⟨gb232,_,none⟩) NB233_232.out _).trans (((cell_far (p:=⟨gb232,_,none⟩) NB233_232.out _).trans (((cell_far (p:=⟨gb232,_,none⟩) NB233_232.out _).trans (hHeld.2.1)))))))),((cell_far (p:=⟨gb232,_,none⟩) NB233_232.out _).trans (((cell_far (p:=⟨gb232,_,none⟩) NB233_232.out _).trans (((cell_far (p:=⟨gb232,_,none⟩) NB233_232.out _).trans (((cell_far (p:=⟨gb232,_,none⟩) NB233_232.out _).trans (hHeld.2.2.1)))))))),((cell_far (p:=⟨gb232,_,none⟩) NB233_232.out _).trans (((cell_far (p:=⟨gb232,_,none⟩) NB233_232.out _).trans (((cell_far (p:=⟨gb232,_,none⟩) NB233_232.out _).trans (((cell_far (p:=⟨gb232,_,none⟩) NB233_232.out _).trans (hHeld.2.2.2.1)))))))),((cell_far (p:=⟨gb232,_,none⟩) NB231_232.out _).trans (((cell_far (p:=⟨gb232,_,none⟩) NB231_232.out _).trans (((cell_far (p:=⟨gb232,_,none⟩) NB231_232.out _).trans (((cell_far (p:=⟨gb232,_,none⟩) NB231_232.out _).trans (hHeld.2.2.2.2.1)))))))),((cell_far (p:=⟨gb232,_,none⟩) NB231_232.out _).trans (((cell_far (p:=⟨gb232,_,none⟩) NB231_232.out _).trans (((cell_far (p:=⟨gb232,_,none⟩) NB231_232.out _).trans (((cell_far (p:=⟨gb232,_,none⟩) NB231_232.out _).trans (hHeld.2.2.2.2.2))))))))⟩ (fun hHeld=>?_)
              clear hK K
              refine pureQ 9 (some 3) (tk 10 2) (any_of HT_.out (by kernel_rfl)) ?_
              refine pureQ 10 (some 4) (tk 11 1) (any_of HT_.out (by kernel_rfl)) ?_
              refine pureQ 11 (some 5) (tk 12 0) (any_of HT_.out (by kernel_rfl)) ?_
              refine done_ (done_of HT_.out (by kernel_rfl)) ?_
              try go_wp2
              refine bodyPost_ret (results_list (rs:=[.cell 2 76,.tmp 3,.tmp 4,.tmp 5]) rfl (by simp) (.cell gb232 76 #[.int .i64 t234,.int .i64 t242,.int .i64 t246,.slice none 0 0] (0,0) _ rfl (bq BK232) Try.underlying76 rfl (by kernel_rfl) (.tmp (.tmp (.tmp .nil))))) rfl ?_
              exact ⟨_,by first | rfl | (simp [errW_none,errW_some] <;> rfl) | (simp only [← hji33,← hji49,← hji65];first | rfl | (simp [errW_none,errW_some] <;> rfl)) | (simp [*,errW_none,errW_some] <;> rfl),by first | exact Kd.R_nil _ _ _ _ _ | exact Kd.N_nil _ _ _ _ _ | exact Kd.V_nil _ _ _ _ _ | exact Kd.Q_nil _ _ _ _ _ | exact Kd.S_nil _ _ _ _ _,hn HB⟩
             ·rw [if_neg c67] at H
              exact absurd H (by simp)
            ·rw [if_neg c66] at H
             exact absurd H (by simp)
         ·rw [if_neg c32] at H
          have c32b0:(t253 == 0)=false:=beq_eq_false_iff_ne.mpr c32
          have c32b1:(t253 != 0)=true:=bne_iff_ne.mpr c32
          simp only [Option.some.injEq,Prod.mk.injEq] at H
          obtain ⟨rfl,rfl,rfl,rfl,rfl,rfl,rfl⟩:=H
          have hnb87:=NB231_232.out
          have hnc87:=NB232_231.out
          have hnb88:=NB231_233.out
          have hnc88:=NB233_231.out
          obtain ⟨hcz89_0,hcz89_1⟩:=cc2 BK231
          obtain ⟨hfz89_0,hfz89_1⟩:=ff2 BK231
          go_wp2_with (first | ((with_reducible refine gate_callee (f:=105) rfl ?_);refine goesQ (some 40) Try.func105 #[.agg #[.string t239,.int .i64 t240],.int .i64 2] ?_;(with_reducible refine (bits_Little.calls kj5 t239 t240 2 t242 t243 t244 t245 _ A26.out).mono ?_);rintro e w90 ⟨rfl,hb⟩;refine ⟨_,rfl,?_⟩;have n0_:=bb BK231 hb;have n1_:=bb BK232 hb;have n2_:=bb BK233 hb;have n3_:=hs HB hb;clear BK231;clear BK232;clear BK233;clear HB;have BK231:=n0_;have BK232:=n1_;have BK233:=n2_;have HB:=n3_;clear n0_ n1_ n2_ n3_;(try clear hb);have hnb91:=NB233_232.out;have hnc91:=NB232_233.out;obtain ⟨hcz92_0,hcz92_1,hcz92_2,hcz92_3⟩:=cc4 BK233;obtain ⟨hfz92_0,hfz92_1,hfz92_2,hfz92_3⟩:=ff4 BK233;obtain ⟨hcz93_0,hcz93_1⟩:=cc2 BK231;obtain ⟨hfz93_0,hfz93_1⟩:=ff2 BK231) | ((with_reducible refine gate_callee (f:=105) rfl ?_);refine goesQ (some 51) Try.func105 #[.agg #[.string t243,.int .i64 t244],.int .i64 2] ?_;(with_reducible refine (bits_Little.calls kj5 t243 t244 2 t246 t247 t248 t249 _ A28.out).mono ?_);rintro e w94 ⟨rfl,hb⟩;refine ⟨_,rfl,?_⟩;have n0_:=bp #[.string t243,.int .i64 t244] BK231 hb;have n1_:=bb BK232 hb;have n2_:=bp #[.int .i64 t234,.int .i64 t242,.int .i64 0,.slice none 0 0] BK233 hb;have n3_:=hs HB hb;clear BK231;clear BK232;clear BK233;clear HB;have BK231:=n0_;have BK232:=n1_;have BK233:=n2_;have HB:=n3_;clear n0_ n1_ n2_ n3_;(try clear hb);obtain ⟨hcz95_0,hcz95_1,hcz95_2,hcz95_3⟩:=cc4 BK233;obtain ⟨hfz95_0,hfz95_1,hfz95_2,hfz95_3⟩:=ff4 BK233;obtain ⟨hcz96_0,hcz96_1⟩:=cc2 BK231;obtain ⟨hfz96_0,hfz96_1⟩:=ff2 BK231) | ((with_reducible refine gate_callee (f:=105) rfl ?_);refine goesQ (some 64) Try.func105 #[.agg #[.string t247,.int .i64 t248],.int .i64 1] ?_;(with_reducible refine (bits_Little.calls kj5 t247 t248 1 t250 t251 t252 t253 _ A31.out).mono ?_);rintro e w97 ⟨rfl,hb⟩;refine ⟨_,rfl,?_⟩;have n0_:=bp #[.string t247,.int .i64 t248] BK231 hb;have n1_:=bb BK232 hb;have n2_:=bp #[.int .i64 t234,.int .i64 t242,.int .i64 t246,.slice none 0 0] BK233 hb;have n3_:=hs HB hb;clear BK231;clear BK232;clear BK233;clear HB;have BK231:=n0_;have BK232:=n1_;have BK233:=n2_;have HB:=n3_;clear n0_ n1_ n2_ n3_;(try clear hb);obtain ⟨hcz98_0,hcz98_1⟩:=cc2 BK231;obtain ⟨hfz98_0,hfz98_1⟩:=ff2 BK231;obtain ⟨hcz99_0,hcz99_1,hcz99_2,hcz99_3⟩:=cc4 BK233;obtain ⟨hfz99_0,hfz99_1,hfz99_2,hfz99_3⟩:=ff4 BK233;obtain ⟨hcz100_0,hcz100_1,hcz100_2,hcz100_3⟩:=cc4 BK232;obtain ⟨hfz100_0,hfz100_1,hfz100_2,hfz100_3⟩:=ff4 BK232))
          refine bodyPost_ret (results_list (rs:=[.cell 2 76,.tmp 3,.tmp 4,.tmp 5]) rfl (by simp) (.cell gb232 76 #[.int .i64 t234,.int .i64 t242,.int .i64 t246,.slice none 0 0] (0,0) _ rfl (bq BK232) Try.underlying76 rfl (by kernel_rfl) (.tmp (.tmp (.tmp .nil))))) rfl ?_
          exact ⟨_,by first | rfl | (simp [errW_none,errW_some] <;> rfl) | (simp [*,errW_none,errW_some] <;> rfl),by first | exact Kd.R_nil _ _ _ _ _ | exact Kd.N_nil _ _ _ _ _ | exact Kd.V_nil _ _ _ _ _ | exact Kd.Q_nil _ _ _ _ _ | exact Kd.S_nil _ _ _ _ _,hn HB⟩
        ·rw [if_neg c30] at H
         have c30b0:(t238 == 3)=false:=beq_eq_false_iff_ne.mpr c30
         have c30b1:(t238 != 3)=true:=bne_iff_ne.mpr c30
         obtain ⟨ji101,hji101⟩:∃ j_:Int,(mn t242 t246)=j_:=⟨_,rfl⟩
         replace H:(if (ji101) < 1 then (some (t234,t242,t246,([]:List (S89)),0,(⟨#[]⟩:ByteArray),7)) else (if (mx t242 t246) > 64 then (some (t234,t242,t246,([]:List (S89)),0,(⟨#[]⟩:ByteArray),7)) else (if 0≤(wrap64 (Int.tdiv t248 8)) then (if (wrap64 (Int.tdiv t248 8))≤(t247.size:Int) then (some (t234,t242,t246,([]:List (S89)),0,t247.extract ((wrap64 (Int.tdiv t248 8)):Int).toNat t247.size,0)) else (none)) else (none))))=some (r1,r2,r3,r4,r5,r6,r7):=by first | (rw [hji101] at H;exact H) | (simp only [hji101] at H ⊢;exact H)
         (try rw [hji101] at A26)
         (try rw [hji101] at A28)
         have hji101_:(if t246 < t242 then t246 else t242)=ji101:=hji101
         by_cases c102:(ji101) < 1
         ·rw [if_pos c102] at H
          have c102b0:decide ((ji101) < 1)=true:=decide_eq_true c102
          clear c102
          simp only [Option.some.injEq,Prod.mk.injEq] at H
          obtain ⟨rfl,rfl,rfl,rfl,rfl,rfl,rfl⟩:=H
          have hnb103:=NB231_232.out
          have hnc103:=NB232_231.out
          have hnb104:=NB231_233.out
          have hnc104:=NB233_231.out
          obtain ⟨hcz105_0,hcz105_1⟩:=cc2 BK231
          obtain ⟨hfz105_0,hfz105_1⟩:=ff2 BK231
          go_wp2_with (first | ((with_reducible refine gate_callee (f:=105) rfl ?_);refine goesQ (some 40) Try.func105 #[.agg #[.string t239,.int .i64 t240],.int .i64 2] ?_;(with_reducible refine (bits_Little.calls kj5 t239 t240 2 t242 t243 t244 t245 _ A26.out).mono ?_);rintro e w106 ⟨rfl,hb⟩;refine ⟨_,rfl,?_⟩;have n0_:=bb BK231 hb;have n1_:=bb BK232 hb;have n2_:=bb BK233 hb;have n3_:=hs HB hb;clear BK231;clear BK232;clear BK233;clear HB;have BK231:=n0_;have BK232:=n1_;have BK233:=n2_;have HB:=n3_;clear n0_ n1_ n2_ n3_;(try clear hb);have hnb107:=NB233_232.out;have hnc107:=NB232_233.out;obtain ⟨hcz108_0,hcz108_1,hcz108_2,hcz108_3⟩:=cc4 BK233;obtain ⟨hfz108_0,hfz108_1,hfz108_2,hfz108_3⟩:=ff4 BK233;obtain ⟨hcz109_0,hcz109_1⟩:=cc2 BK231;obtain ⟨hfz109_0,hfz109_1⟩:=ff2 BK231) | ((with_reducible refine gate_callee (f:=105) rfl ?_);refine goesQ (some 51) Try.func105 #[.agg #[.string t243,.int .i64 t244],.int .i64 2] ?_;(with_reducible refine (bits_Little.calls kj5 t243 t244 2 t246 t247 t248 t249 _ A28.out).mono ?_);rintro e w110 ⟨rfl,hb⟩;refine ⟨_,rfl,?_⟩;have n0_:=bp #[.string t243,.int .i64 t244] BK231 hb;have n1_:=bb BK232 hb;have n2_:=bp #[.int .i64 t234,.int .i64 t242,.int .i64 0,.slice none 0 0] BK233 hb;have n3_:=hs HB hb;clear BK231;clear BK232;clear BK233;clear HB;have BK231:=n0_;have BK232:=n1_;have BK233:=n2_;have HB:=n3_;clear n0_ n1_ n2_ n3_;(try clear hb);obtain ⟨hcz111_0,hcz111_1,hcz111_2,hcz111_3⟩:=cc4 BK233;obtain ⟨hfz111_0,hfz111_1,hfz111_2,hfz111_3⟩:=ff4 BK233;obtain ⟨hcz112_0,hcz112_1⟩:=cc2 BK231;obtain ⟨hfz112_0,hfz112_1⟩:=ff2 BK231;obtain ⟨hcz113_0,hcz113_1,hcz113_2,hcz113_3⟩:=cc4 BK232;obtain ⟨hfz113_0,hfz113_1,hfz113_2,hfz113_3⟩:=ff4 BK232))
          refine bodyPost_ret (results_list (rs:=[.cell 2 76,.tmp 3,.tmp 4,.tmp 5]) rfl (by simp) (.cell gb232 76 #[.int .i64 t234,.int .i64 t242,.int .i64 t246,.slice none 0 0] (0,0) _ rfl (bq BK232) Try.underlying76 rfl (by kernel_rfl) (.tmp (.tmp (.tmp .nil))))) rfl ?_
          exact ⟨_,by first | rfl | (simp [errW_none,errW_some] <;> rfl) | (simp only [← hji101];first | rfl | (simp [errW_none,errW_some] <;> rfl)) | (simp [*,errW_none,errW_some] <;> rfl),by first | exact Kd.R_nil _ _ _ _ _ | exact Kd.N_nil _ _ _ _ _ | exact Kd.V_nil _ _ _ _ _ | exact Kd.Q_nil _ _ _ _ _ | exact Kd.S_nil _ _ _ _ _,hn HB⟩
         ·rw [if_neg c102] at H
          have c102b0:decide ((ji101) < 1)=false:=decide_eq_false c102
          clear c102
          obtain ⟨ji114,hji114⟩:∃ j_:Int,(mx t242 t246)=j_:=⟨_,rfl⟩
          replace H:(if (ji114) > 64 then (some (t234,t242,t246,([]:List (S89)),0,(⟨#[]⟩:ByteArray),7)) else (if 0≤(wrap64 (Int.tdiv t248 8)) then (if (wrap64 (Int.tdiv t248 8))≤(t247.size:Int) then (some (t234,t242,t246,([]:List (S89)),0,t247.extract ((wrap64 (Int.tdiv t248 8)):Int).toNat t247.size,0)) else (none)) else (none)))=some (r1,r2,r3,r4,r5,r6,r7):=by first | (rw [hji114] at H;exact H) | (simp only [hji114] at H ⊢;exact H)
          (try rw [hji114] at A26)
          (try rw [hji114] at A28)
          have hji114_:(if t242 < t246 then t246 else t242)=ji114:=hji114
          by_cases c115:(ji114) > 64
          ·rw [if_pos c115] at H
           have c115b0:decide (64 < (ji114))=true:=decide_eq_true c115
           clear c115
           simp only [Option.some.injEq,Prod.mk.injEq] at H
           obtain ⟨rfl,rfl,rfl,rfl,rfl,rfl,rfl⟩:=H
           have hnb116:=NB231_232.out
           have hnc116:=NB232_231.out
           have hnb117:=NB231_233.out
           have hnc117:=NB233_231.out
           obtain ⟨hcz118_0,hcz118_1⟩:=cc2 BK231
           obtain ⟨hfz118_0,hfz118_1⟩:=ff2 BK231
           go_wp2_with (first | ((with_reducible refine gate_callee (f:=105) rfl ?_);refine goesQ (some 40) Try.func105 #[.agg #[.string t239,.int .i64 t240],.int .i64 2] ?_;(with_reducible refine (bits_Little.calls kj5 t239 t240 2 t242 t243 t244 t245 _ A26.out).mono ?_);rintro e w119 ⟨rfl,hb⟩;refine ⟨_,rfl,?_⟩;have n0_:=bb BK231 hb;have n1_:=bb BK232 hb;have n2_:=bb BK233 hb;have n3_:=hs HB hb;clear BK231;clear BK232;clear BK233;clear HB;have BK231:=n0_;have BK232:=n1_;have BK233:=n2_;have HB:=n3_;clear n0_ n1_ n2_ n3_;(try clear hb);have hnb120:=NB233_232.out;have hnc120:=NB232_233.out;obtain ⟨hcz121_0,hcz121_1,hcz121_2,hcz121_3⟩:=cc4 BK233;obtain ⟨hfz121_0,hfz121_1,hfz121_2,hfz121_3⟩:=ff4 BK233;obtain ⟨hcz122_0,hcz122_1⟩:=cc2 BK231;obtain ⟨hfz122_0,hfz122_1⟩:=ff2 BK231) | ((with_reducible refine gate_callee (f:=105) rfl ?_);refine goesQ (some 51) Try.func105 #[.agg #[.string t243,.int .i64 t244],.int .i64 2] ?_;(with_reducible refine (bits_Little.calls kj5 t243 t244 2 t246 t247 t248 t249 _ A28.out).mono ?_);rintro e w123 ⟨rfl,hb⟩;refine ⟨_,rfl,?_⟩;have n0_:=bp #[.string t243,.int .i64 t244] BK231 hb;have n1_:=bb BK232 hb;have n2_:=bp #[.int .i64 t234,.int .i64 t242,.int .i64 0,.slice none 0 0] BK233 hb;have n3_:=hs HB hb;clear BK231;clear BK232;clear BK233;clear HB;have BK231:=n0_;have BK232:=n1_;have BK233:=n2_;have HB:=n3_;clear n0_ n1_ n2_ n3_;(try clear hb);obtain ⟨hcz124_0,hcz124_1,hcz124_2,hcz124_3⟩:=cc4 BK233;obtain ⟨hfz124_0,hfz124_1,hfz124_2,hfz124_3⟩:=ff4 BK233;obtain ⟨hcz125_0,hcz125_1⟩:=cc2 BK231;obtain ⟨hfz125_0,hfz125_1⟩:=ff2 BK231;obtain ⟨hcz126_0,hcz126_1,hcz126_2,hcz126_3⟩:=cc4 BK232;obtain ⟨hfz126_0,hfz126_1,hfz126_2,hfz126_3⟩:=ff4 BK232))
           refine bodyPost_ret (results_list (rs:=[.cell 2 76,.tmp 3,.tmp 4,.tmp 5]) rfl (by simp) (.cell gb232 76 #[.int .i64 t234,.int .i64 t242,.int .i64 t246,.slice none 0 0] (0,0) _ rfl (bq BK232) Try.underlying76 rfl (by kernel_rfl) (.tmp (.tmp (.tmp .nil))))) rfl ?_
           exact ⟨_,by first | rfl | (simp [errW_none,errW_some] <;> rfl) | (simp only [← hji101,← hji114];first | rfl | (simp [errW_none,errW_some] <;> rfl)) | (simp [*,errW_none,errW_some] <;> rfl),by first | exact Kd.R_nil _ _ _ _ _ | exact Kd.N_nil _ _ _ _ _ | exact Kd.V_nil _ _ _ _ _ | exact Kd.Q_nil _ _ _ _ _ | exact Kd.S_nil _ _ _ _ _,hn HB⟩
          ·rw [if_neg c115] at H
           have c115b0:decide (64 < (ji114))=false:=decide_eq_false c115
           clear c115
           obtain ⟨ji127,hji127⟩:∃ j_:Int,(wrap64 (Int.tdiv t248 8))=j_:=⟨_,rfl⟩
           replace H:(if 0≤(ji127) then (if (ji127)≤(t247.size:Int) then (some (t234,t242,t246,([]:List (S89)),0,t247.extract ((ji127):Int).toNat t247.size,0)) else (none)) else (none))=some (r1,r2,r3,r4,r5,r6,r7):=by first | (rw [hji127] at H;exact H) | (simp only [hji127] at H ⊢;exact H)
           (try rw [hji127] at A26)
           (try rw [hji127] at A28)
           have hji127w:(IntKind.i64.wrap (Int.tdiv t248 8))=ji127:=(i64_w _).trans hji127
           by_cases c128:0≤(ji127)
           ·rw [if_pos c128] at H
            have c128b0:=eq_true c128
            have c128b1:decide (0≤(ji127))=true:=decide_eq_true c128
            clear c128
            by_cases c129:(ji127)≤(t247.size:Int)
            ·rw [if_pos c129] at H
             have c129b0:=eq_true c129
             have c129b1:decide ((ji127)≤(t247.size:Int))=true:=decide_eq_true c129
             clear c129
             simp only [Option.some.injEq,Prod.mk.injEq] at H
             obtain ⟨rfl,rfl,rfl,rfl,rfl,rfl,rfl⟩:=H
             have hnb130:=NB231_232.out
             have hnc130:=NB232_231.out
             have hnb131:=NB231_233.out
             have hnc131:=NB233_231.out
             obtain ⟨hcz132_0,hcz132_1⟩:=cc2 BK231
             obtain ⟨hfz132_0,hfz132_1⟩:=ff2 BK231
             try go_wp2_with (first | ((with_reducible refine gate_callee (f:=105) rfl ?_);refine goesQ (some 40) Try.func105 #[.agg #[.string t239,.int .i64 t240],.int .i64 2] ?_;(with_reducible refine (bits_Little.calls kj5 t239 t240 2 t242 t243 t244 t245 _ A26.out).mono ?_);rintro e w133 ⟨rfl,hb⟩;refine ⟨_,rfl,?_⟩;have n0_:=bb BK231 hb;have n1_:=bb BK232 hb;have n2_:=bb BK233 hb;have n3_:=hs HB hb;clear BK231;clear BK232;clear BK233;clear HB;have BK231:=n0_;have BK232:=n1_;have BK233:=n2_;have HB:=n3_;clear n0_ n1_ n2_ n3_;(try clear hb);have hnb134:=NB233_232.out;have hnc134:=NB232_233.out;obtain ⟨hcz135_0,hcz135_1,hcz135_2,hcz135_3⟩:=cc4 BK233;obtain ⟨hfz135_0,hfz135_1,hfz135_2,hfz135_3⟩:=ff4 BK233;obtain ⟨hcz136_0,hcz136_1⟩:=cc2 BK231;obtain ⟨hfz136_0,hfz136_1⟩:=ff2 BK231) | ((with_reducible refine gate_callee (f:=105) rfl ?_);refine goesQ (some 51) Try.func105 #[.agg #[.string t243,.int .i64 t244],.int .i64 2] ?_;(with_reducible refine (bits_Little.calls kj5 t243 t244 2 t246 t247 t248 t249 _ A28.out).mono ?_);rintro e w137 ⟨rfl,hb⟩;refine ⟨_,rfl,?_⟩;have n0_:=bp #[.string t243,.int .i64 t244] BK231 hb;have n1_:=bb BK232 hb;have n2_:=bp #[.int .i64 t234,.int .i64 t242,.int .i64 0,.slice none 0 0] BK233 hb;have n3_:=hs HB hb;clear BK231;clear BK232;clear BK233;clear HB;have BK231:=n0_;have BK232:=n1_;have BK233:=n2_;have HB:=n3_;clear n0_ n1_ n2_ n3_;(try clear hb);obtain ⟨hcz138_0,hcz138_1,hcz138_2,hcz138_3⟩:=cc4 BK233;obtain ⟨hfz138_0,hfz138_1,hfz138_2,hfz138_3⟩:=ff4 BK233;obtain ⟨hcz139_0,hcz139_1⟩:=cc2 BK231;obtain ⟨hfz139_0,hfz139_1⟩:=ff2 BK231))
             have n0_:Aside0 ((((w137.setCell ⟨gb233,2,none⟩ (.int .i64 t246)).setCell ⟨gb231,0,none⟩ (.string t247)).setCell ⟨gb231,1,none⟩ (.int .i64 t248)).heap[gb231]?=some (.cells #[.string t247,.int .i64 t248] 133 (0,0))):=⟨by (with_reducible repeat (first | refine blk_drewN ?_ _ | refine blk_drew ?_ | refine blk_alloc ?_ _));refine blk_put (cs:=#[.string t247,.int .i64 t244]) ?_ 1 _ rfl;(with_reducible repeat (first | refine blk_drewN ?_ _ | refine blk_drew ?_ | refine blk_alloc ?_ _));refine blk_put (cs:=#[.string t243,.int .i64 t244]) ?_ 0 _ rfl;(with_reducible repeat (first | refine blk_drewN ?_ _ | refine blk_drew ?_ | refine blk_alloc ?_ _));refine blk_far ?_ NB231_233.out _;(with_reducible repeat (first | refine blk_drewN ?_ _ | refine blk_drew ?_ | refine blk_alloc ?_ _));exact BK231.out⟩
             have n1_:Aside0 ((((w137.setCell ⟨gb233,2,none⟩ (.int .i64 t246)).setCell ⟨gb231,0,none⟩ (.string t247)).setCell ⟨gb231,1,none⟩ (.int .i64 t248)).heap[gb232]?=some (.cells #[.int .i64 0,.int .i64 0,.int .i64 0,.slice none 0 0] 76 (0,0))):=⟨by (with_reducible repeat (first | refine blk_drewN ?_ _ | refine blk_drew ?_ | refine blk_alloc ?_ _));refine blk_far ?_ NB232_231.out _;(with_reducible repeat (first | refine blk_drewN ?_ _ | refine blk_drew ?_ | refine blk_alloc ?_ _));refine blk_far ?_ NB232_231.out _;(with_reducible repeat (first | refine blk_drewN ?_ _ | refine blk_drew ?_ | refine blk_alloc ?_ _));refine blk_far ?_ NB232_233.out _;(with_reducible repeat (first | refine blk_drewN ?_ _ | refine blk_drew ?_ | refine blk_alloc ?_ _));exact BK232.out⟩
             have n2_:Aside0 ((((w137.setCell ⟨gb233,2,none⟩ (.int .i64 t246)).setCell ⟨gb231,0,none⟩ (.string t247)).setCell ⟨gb231,1,none⟩ (.int .i64 t248)).heap[gb233]?=some (.cells #[.int .i64 t234,.int .i64 t242,.int .i64 t246,.slice none 0 0] 76 (0,0))):=⟨by (with_reducible repeat (first | refine blk_drewN ?_ _ | refine blk_drew ?_ | refine blk_alloc ?_ _));refine blk_far ?_ NB233_231.out _;(with_reducible repeat (first | refine blk_drewN ?_ _ | refine blk_drew ?_ | refine blk_alloc ?_ _));refine blk_far ?_ NB233_231.out _;(with_reducible repeat (first | refine blk_drewN ?_ _ | refine blk_drew ?_ | refine blk_alloc ?_ _));refine blk_put (cs:=#[.int .i64 t234,.int .i64 t242,.int .i64 0,.slice none 0 0]) ?_ 2 _ rfl;(with_reducible repeat (first | refine blk_drewN ?_ _ | refine blk_drew ?_ | refine blk_alloc ?_ _));exact BK233.out⟩
             have n3_:Aside0 (Below w.heap.size w (((w137.setCell ⟨gb233,2,none⟩ (.int .i64 t246)).setCell ⟨gb231,0,none⟩ (.string t247)).setCell ⟨gb231,1,none⟩ (.int .i64 t248))):=⟨hn HB⟩
             (try clear BK231)
             (try clear BK232)
             (try clear BK233)
             (try clear HB)
             generalize (((w137.setCell ⟨gb233,2,none⟩ (.int .i64 t246)).setCell ⟨gb231,0,none⟩ (.string t247)).setCell ⟨gb231,1,none⟩ (.int .i64 t248))=w140 at n0_ n1_ n2_ n3_ ⊢
             have BK231:=n0_
             have BK232:=n1_
             have BK233:=n2_
             have HB:=n3_
             clear n0_ n1_ n2_ n3_
             have n0_:=Aside0.mk (blk_drew BK231.out)
             have n1_:=Aside0.mk (blk_drew BK232.out)
             have n2_:=Aside0.mk (blk_drew BK233.out)
             have n3_:=Aside0.mk (below_drew1 HB.out)
             clear BK231
             clear BK232
             clear BK233
             clear HB
             have BK231:=n0_
             have BK232:=n1_
             have BK233:=n2_
             have HB:=n3_
             clear n0_ n1_ n2_ n3_
             refine start_ (n:=12) (S:=fun w'=>w'.cell? ⟨gb233,0,none⟩=some (.int .i64 t234)∧w'.cell? ⟨gb233,1,none⟩=some (.int .i64 t242)∧w'.cell? ⟨gb233,2,none⟩=some (.int .i64 t246)∧w'.cell? ⟨gb233,3,none⟩=some (.slice none 0 0)∧w'.cell? ⟨gb231,0,none⟩=some (.string t247)∧w'.cell? ⟨gb231,1,none⟩=some (.int .i64 t248)) (ds:=[]) #[false,false,false,false,false,false,false,false,false,false,false,false] (by kernel_rfl) rfl rfl ⟨(blk_cell BK233.out 0).trans rfl,(blk_cell BK233.out 1).trans rfl,(blk_cell BK233.out 2).trans rfl,(blk_cell BK233.out 3).trans rfl,(blk_cell BK231.out 0).trans rfl,(blk_cell BK231.out 1).trans rfl⟩ (fun hHeld=>?_);refine with_tabW pixel_head.tab25 pixel_head.bits25 (fun HT_ HW_=>?_)
             generalize w140.drew=w141 at BK231 BK232 BK233 HB hHeld ⊢
             refine pureQ 1 (some 90) #[false,true,false,false,false,false,false,false,false,false,false,false] (any_of HT_.out (by kernel_rfl)) ?_
             refine pureQ 2 (some 91) #[false,true,true,false,false,false,false,false,false,false,false,false] (any_of HT_.out (by kernel_rfl)) ?_
             refine pureQ 4 (some 93) #[false,true,true,false,true,false,false,false,false,false,false,false] (any_of HT_.out (by kernel_rfl)) ?_
             refine take_ (i:=0) (N:=some 89) (v:=?_) (a':=?_) #[true,true,true,false,true,false,false,false,false,false,false,false] rfl rfl (take_ofW HT_.out HW_.out (by kernel_rfl)) (fun _ _ _ h=>h) (Or.inl ⟨by rfl,?_⟩) hHeld ?_ ?_
             rotate_left
             ·rintro w' ⟨s0,s1,s2,s3,s4,s5⟩
              go_simp
              with_reducible rfl
             rotate_left
             ·simp only [Act.put,List.setIfInBounds_toArray,List.set_cons_zero,List.set_cons_succ,i64_w,i32_w]
              rfl
             refine take_ (i:=3) (N:=some 92) (v:=?_) (a':=?_) (tk 5 7) rfl rfl (take_ofW HT_.out HW_.out (by kernel_rfl)) (fun _ _ _ h=>h) (Or.inl ⟨by rfl,?_⟩) hHeld ?_ ?_
             rotate_left
             ·rintro w' ⟨s0,s1,s2,s3,s4,s5⟩
              go_simp
              with_reducible rfl
             rotate_left
             ·simp only [Act.put,List.setIfInBounds_toArray,List.set_cons_zero,List.set_cons_succ,i64_w,i32_w]
              rfl
             refine take_ (i:=5) (N:=some 94) (v:=?_) (a':=?_) (tk 6 6) rfl rfl (take_ofW HT_.out HW_.out (by kernel_rfl)) (fun _ _ _ h=>h) (Or.inl ⟨by rfl,?_⟩) hHeld ?_ ?_
             rotate_left
             ·rintro w' ⟨s0,s1,s2,s3,s4,s5⟩
              go_simp
              with_reducible rfl
             rotate_left
             ·simp only [Act.put,List.setIfInBounds_toArray,List.set_cons_zero,List.set_cons_succ,i64_w,i32_w]
              rfl
             refine pureQ 6 (some 95) (tk 7 5) (any_of HT_.out (by kernel_rfl)) ?_
             refine pureQ 7 (some 96) (tk 8 4) (any_of HT_.out (by kernel_rfl)) ?_
             refine one_ (i:=8) (N:=none) (tk 9 3) rfl rfl (one_of HT_.out (by kernel_rfl)) (by decide) (fun K hK=>?_)
             have hs142:w141.cell? ⟨gb232,0,none⟩=some (.int .i64 0):=(blk_cell BK232.out 0).trans rfl
             have hfs142:=blk_frozen BK232.out 0
             have hns142_0:=NB231_232.out
             have hns142_2:=NB233_232.out
             have hms142_0:=NB232_231.out
             have hms142_2:=NB232_233.out
             have hs143:w141.cell? ⟨gb232,1,none⟩=some (.int .i64 0):=(blk_cell BK232.out 1).trans rfl
             have hfs143:=blk_frozen BK232.out 1
             have hns143_0:=NB231_232.out
             have hns143_2:=NB233_232.out
             have hms143_0:=NB232_231.out
             have hms143_2:=NB232_233.out
             have hs144:w141.cell? ⟨gb232,2,none⟩=some (.int .i64 0):=(blk_cell BK232.out 2).trans rfl
             have hfs144:=blk_frozen BK232.out 2
             have hns144_0:=NB231_232.out
             have hns144_2:=NB233_232.out
             have hms144_0:=NB232_231.out
             have hms144_2:=NB232_233.out
             have hs145:w141.cell? ⟨gb232,3,none⟩=some (.slice none 0 0):=(blk_cell BK232.out 3).trans rfl
             have hfs145:=blk_frozen BK232.out 3
             have hns145_0:=NB231_232.out
             have hns145_2:=NB233_232.out
             have hms145_0:=NB232_231.out
             have hms145_2:=NB232_233.out
             refine skip_ (w1:=?_) (by rfl) rfl ?_ ?_
             rotate_left
             ·go_simp
              rfl
             refine hK.out _ _ ⟨((cell_far (p:=⟨gb232,_,none⟩) NB233_232.out _).trans (((cell_far (p:=⟨gb232,_,none⟩) NB233_232.out _).trans (((cell_far (p:=⟨gb232,_,none⟩) NB233_232.out _).trans (((cell_far (p:=⟨gb232,_,none⟩) NB233_232.out _).trans (hHeld.1)))))))),((cell_far (p:=⟨gb232,_,none⟩) NB233_232.out _).trans (((cell_far (p:=⟨gb232,_,none⟩) NB233_232.out _).trans (((cell_far (p:=⟨gb232,_,none⟩) NB233_232.out _).trans (((cell_far (p:=⟨gb232,_,none⟩) NB233_232.out _).trans (hHeld.2.1)))))))),((cell_far (p:=⟨gb232,_,none⟩) NB233_232.out _).trans (((cell_far (p:=⟨gb232,_,none⟩) NB233_232.out _).trans (((cell_far (p:=⟨gb232,_,none⟩) NB233_232.out _).trans (((cell_far (p:=⟨gb232,_,none⟩) NB233_232.out _).trans (hHeld.2.2.1)))))))),((cell_far (p:=⟨gb232,_,none⟩) NB233_232.out _).trans (((cell_far (p:=⟨gb232,_,none⟩) NB233_232.out _).trans (((cell_far (p:=⟨gb232,_,none⟩) NB233_232.out _).trans (((cell_far (p:=⟨gb232,_,none⟩) NB233_232.out _).trans (hHeld.2.2.2.1)))))))),((cell_far (p:=⟨gb232,_,none⟩) NB231_232.out _).trans (((cell_far (p:=⟨gb232,_,none⟩) NB231_232.out _).trans (((cell_far (p:=⟨gb232,_,none⟩) NB231_232.out _).trans (((cell_far (p:=⟨gb232,_,none⟩) NB231_232.out _).trans (hHeld.2.2.2.2.1)))))))),((cell_far (p:=⟨gb232,_,none⟩) NB231_232.out _).trans (((cell_far (p:=⟨gb232,_,none⟩) NB231_232.out _).trans (((cell_far (p:=⟨gb232,_,none⟩) NB231_232.out _).trans (((cell_far (p:=⟨gb232,_,none⟩) NB231_232.out _).trans (hHeld.2.2.2.2.2))))))))⟩ (fun hHeld=>?_)
             clear hK K
             refine pureQ 9 (some 3) (tk 10 2) (any_of HT_.out (by kernel_rfl)) ?_
             refine pureQ 10 (some 4) (tk 11 1) (any_of HT_.out (by kernel_rfl)) ?_
             refine pureQ 11 (some 5) (tk 12 0) (any_of HT_.out (by kernel_rfl)) ?_
             refine done_ (done_of HT_.out (by kernel_rfl)) ?_
             try go_wp2
             refine bodyPost_ret (results_list (rs:=[.cell 2 76,.tmp 3,.tmp 4,.tmp 5]) rfl (by simp) (.cell gb232 76 #[.int .i64 t234,.int .i64 t242,.int .i64 t246,.slice none 0 0] (0,0) _ rfl (bq BK232) Try.underlying76 rfl (by kernel_rfl) (.tmp (.tmp (.tmp .nil))))) rfl ?_
             exact ⟨_,by first | rfl | (simp [errW_none,errW_some] <;> rfl) | (simp only [← hji101,← hji114,← hji127];first | rfl | (simp [errW_none,errW_some] <;> rfl)) | (simp [*,errW_none,errW_some] <;> rfl),by first | exact Kd.R_nil _ _ _ _ _ | exact Kd.N_nil _ _ _ _ _ | exact Kd.V_nil _ _ _ _ _ | exact Kd.Q_nil _ _ _ _ _ | exact Kd.S_nil _ _ _ _ _,hn HB⟩
            ·rw [if_neg c129] at H
             exact absurd H (by simp)
           ·rw [if_neg c128] at H
            exact absurd H (by simp)
       ·rw [if_neg c29] at H
        have c29b0:(t249 == 0)=false:=beq_eq_false_iff_ne.mpr c29
        have c29b1:(t249 != 0)=true:=bne_iff_ne.mpr c29
        simp only [Option.some.injEq,Prod.mk.injEq] at H
        obtain ⟨rfl,rfl,rfl,rfl,rfl,rfl,rfl⟩:=H
        have hnb146:=NB231_232.out
        have hnc146:=NB232_231.out
        have hnb147:=NB231_233.out
        have hnc147:=NB233_231.out
        obtain ⟨hcz148_0,hcz148_1⟩:=cc2 BK231
        obtain ⟨hfz148_0,hfz148_1⟩:=ff2 BK231
        go_wp2_with (first | ((with_reducible refine gate_callee (f:=105) rfl ?_);refine goesQ (some 40) Try.func105 #[.agg #[.string t239,.int .i64 t240],.int .i64 2] ?_;(with_reducible refine (bits_Little.calls kj5 t239 t240 2 t242 t243 t244 t245 _ A26.out).mono ?_);rintro e w149 ⟨rfl,hb⟩;refine ⟨_,rfl,?_⟩;have n0_:=bb BK231 hb;have n1_:=bb BK232 hb;have n2_:=bb BK233 hb;have n3_:=hs HB hb;clear BK231;clear BK232;clear BK233;clear HB;have BK231:=n0_;have BK232:=n1_;have BK233:=n2_;have HB:=n3_;clear n0_ n1_ n2_ n3_;(try clear hb);have hnb150:=NB233_232.out;have hnc150:=NB232_233.out;obtain ⟨hcz151_0,hcz151_1,hcz151_2,hcz151_3⟩:=cc4 BK233;obtain ⟨hfz151_0,hfz151_1,hfz151_2,hfz151_3⟩:=ff4 BK233;obtain ⟨hcz152_0,hcz152_1⟩:=cc2 BK231;obtain ⟨hfz152_0,hfz152_1⟩:=ff2 BK231) | ((with_reducible refine gate_callee (f:=105) rfl ?_);refine goesQ (some 51) Try.func105 #[.agg #[.string t243,.int .i64 t244],.int .i64 2] ?_;(with_reducible refine (bits_Little.calls kj5 t243 t244 2 t246 t247 t248 t249 _ A28.out).mono ?_);rintro e w153 ⟨rfl,hb⟩;refine ⟨_,rfl,?_⟩;have n0_:=bp #[.string t243,.int .i64 t244] BK231 hb;have n1_:=bb BK232 hb;have n2_:=bp #[.int .i64 t234,.int .i64 t242,.int .i64 0,.slice none 0 0] BK233 hb;have n3_:=hs HB hb;clear BK231;clear BK232;clear BK233;clear HB;have BK231:=n0_;have BK232:=n1_;have BK233:=n2_;have HB:=n3_;clear n0_ n1_ n2_ n3_;(try clear hb);obtain ⟨hcz154_0,hcz154_1,hcz154_2,hcz154_3⟩:=cc4 BK233;obtain ⟨hfz154_0,hfz154_1,hfz154_2,hfz154_3⟩:=ff4 BK233;obtain ⟨hcz155_0,hcz155_1⟩:=cc2 BK231;obtain ⟨hfz155_0,hfz155_1⟩:=ff2 BK231;obtain ⟨hcz156_0,hcz156_1,hcz156_2,hcz156_3⟩:=cc4 BK232;obtain ⟨hfz156_0,hfz156_1,hfz156_2,hfz156_3⟩:=ff4 BK232))
        refine bodyPost_ret (results_list (rs:=[.cell 2 76,.tmp 3,.tmp 4,.tmp 5]) rfl (by simp) (.cell gb232 76 #[.int .i64 t234,.int .i64 t242,.int .i64 t246,.slice none 0 0] (0,0) _ rfl (bq BK232) Try.underlying76 rfl (by kernel_rfl) (.tmp (.tmp (.tmp .nil))))) rfl ?_
        exact ⟨_,by first | rfl | (simp [errW_none,errW_some] <;> rfl) | (simp [*,errW_none,errW_some] <;> rfl),by first | exact Kd.R_nil _ _ _ _ _ | exact Kd.N_nil _ _ _ _ _ | exact Kd.V_nil _ _ _ _ _ | exact Kd.Q_nil _ _ _ _ _ | exact Kd.S_nil _ _ _ _ _,hn HB⟩
      ·rw [if_neg c27] at H
       have c27b0:(t245 == 0)=false:=beq_eq_false_iff_ne.mpr c27
       have c27b1:(t245 != 0)=true:=bne_iff_ne.mpr c27
       simp only [Option.some.injEq,Prod.mk.injEq] at H
       obtain ⟨rfl,rfl,rfl,rfl,rfl,rfl,rfl⟩:=H
       have hnb157:=NB231_232.out
       have hnc157:=NB232_231.out
       have hnb158:=NB231_233.out
       have hnc158:=NB233_231.out
       obtain ⟨hcz159_0,hcz159_1⟩:=cc2 BK231
       obtain ⟨hfz159_0,hfz159_1⟩:=ff2 BK231
       go_wp2_with (first | ((with_reducible refine gate_callee (f:=105) rfl ?_);refine goesQ (some 40) Try.func105 #[.agg #[.string t239,.int .i64 t240],.int .i64 2] ?_;(with_reducible refine (bits_Little.calls kj5 t239 t240 2 t242 t243 t244 t245 _ A26.out).mono ?_);rintro e w160 ⟨rfl,hb⟩;refine ⟨_,rfl,?_⟩;have n0_:=bb BK231 hb;have n1_:=bb BK232 hb;have n2_:=bb BK233 hb;have n3_:=hs HB hb;clear BK231;clear BK232;clear BK233;clear HB;have BK231:=n0_;have BK232:=n1_;have BK233:=n2_;have HB:=n3_;clear n0_ n1_ n2_ n3_;(try clear hb);have hnb161:=NB233_232.out;have hnc161:=NB232_233.out;obtain ⟨hcz162_0,hcz162_1,hcz162_2,hcz162_3⟩:=cc4 BK233;obtain ⟨hfz162_0,hfz162_1,hfz162_2,hfz162_3⟩:=ff4 BK233;obtain ⟨hcz163_0,hcz163_1⟩:=cc2 BK231;obtain ⟨hfz163_0,hfz163_1⟩:=ff2 BK231;obtain ⟨hcz164_0,hcz164_1,hcz164_2,hcz164_3⟩:=cc4 BK232;obtain ⟨hfz164_0,hfz164_1,hfz164_2,hfz164_3⟩:=ff4 BK232))
       refine bodyPost_ret (results_list (rs:=[.cell 2 76,.tmp 3,.tmp 4,.tmp 5]) rfl (by simp) (.cell gb232 76 #[.int .i64 t234,.int .i64 t242,.int .i64 0,.slice none 0 0] (0,0) _ rfl (bq BK232) Try.underlying76 rfl (by kernel_rfl) (.tmp (.tmp (.tmp .nil))))) rfl ?_
       exact ⟨_,by first | rfl | (simp [errW_none,errW_some] <;> rfl) | (simp [*,errW_none,errW_some] <;> rfl),by first | exact Kd.R_nil _ _ _ _ _ | exact Kd.N_nil _ _ _ _ _ | exact Kd.V_nil _ _ _ _ _ | exact Kd.Q_nil _ _ _ _ _ | exact Kd.S_nil _ _ _ _ _,hn HB⟩
  ·rw [if_neg c5] at H
   have c5b0:(t241 == 0)=false:=beq_eq_false_iff_ne.mpr c5
   have c5b1:(t241 != 0)=true:=bne_iff_ne.mpr c5
   simp only [Option.some.injEq,Prod.mk.injEq] at H
   obtain ⟨rfl,rfl,rfl,rfl,rfl,rfl,rfl⟩:=H
   go_enter Try.func83,Try.ntmps83
   go_wp2_with (first | ((with_reducible refine gate_dst (N:=1) rfl ?_);(try (refine gate_guard (by rfl) ?_;dsimp only));refine boxQ 1 #[.string a0_0,.int .i64 a0_1] 133 ?_;intro gb231 hg w165 hbox hb;have n0_:=hs HB hb;have n1_:=Aside0.mk (hbox);have n2_:=gs HB hg;have n3_:=gs HB hg;clear HB;have HB:=n0_;have BK231:=n1_;have GW231:=n2_;have GE231:=n3_;clear n0_ n1_ n2_ n3_;clear hb hbox hg) | ((with_reducible refine gate_dst (N:=2) rfl ?_);(try (refine gate_guard (by rfl) ?_;dsimp only));refine boxQ 2 #[.int .i64 0,.int .i64 0,.int .i64 0,.slice none 0 0] 76 ?_;intro gb232 hg w166 hbox hb;have n0_:=bb BK231 hb;have n1_:=hs HB hb;have n2_:=Aside0.mk (hbox);have n3_:=gs HB hg;have n4_:=gs HB hg;have n5_:=nl BK231 hg;have n6_:=ng BK231 hg;clear BK231;clear HB;have BK231:=n0_;have HB:=n1_;have BK232:=n2_;have GW232:=n3_;have GE232:=n4_;have NB231_232:=n5_;have NB232_231:=n6_;clear n0_ n1_ n2_ n3_ n4_ n5_ n6_;clear hb hbox hg) | ((with_reducible refine gate_dst (N:=6) rfl ?_);(try (refine gate_guard (by rfl) ?_;dsimp only));refine boxQ 6 #[.int .i64 0,.int .i64 0,.int .i64 0,.slice none 0 0] 76 ?_;intro gb233 hg w167 hbox hb;have n0_:=bb BK231 hb;have n1_:=bb BK232 hb;have n2_:=hs HB hb;have n3_:=Aside0.mk (hbox);have n4_:=gs HB hg;have n5_:=gs HB hg;have n6_:=nl BK231 hg;have n7_:=ng BK231 hg;have n8_:=nl BK232 hg;have n9_:=ng BK232 hg;clear BK231;clear BK232;clear HB;have BK231:=n0_;have BK232:=n1_;have HB:=n2_;have BK233:=n3_;have GW233:=n4_;have GE233:=n5_;have NB231_233:=n6_;have NB233_231:=n7_;have NB232_233:=n8_;have NB233_232:=n9_;clear n0_ n1_ n2_ n3_ n4_ n5_ n6_ n7_ n8_ n9_;clear hb hbox hg;have hnb168:=NB231_232.out;have hnc168:=NB232_231.out;have hnb169:=NB231_233.out;have hnc169:=NB233_231.out;obtain ⟨hcz170_0,hcz170_1⟩:=cc2 BK231;obtain ⟨hfz170_0,hfz170_1⟩:=ff2 BK231) | ((with_reducible refine gate_callee (f:=105) rfl ?_);refine goesQ (some 12) Try.func105 #[.agg #[.string a0_0,.int .i64 a0_1],.int .i64 2] ?_;(with_reducible refine (bits_Little.calls k a0_0 a0_1 2 t234 t235 t236 t237 _ A2.out).mono ?_);rintro e w171 ⟨rfl,hb⟩;refine ⟨_,rfl,?_⟩;have n0_:=bb BK231 hb;have n1_:=bb BK232 hb;have n2_:=bb BK233 hb;have n3_:=hs HB hb;clear BK231;clear BK232;clear BK233;clear HB;have BK231:=n0_;have BK232:=n1_;have BK233:=n2_;have HB:=n3_;clear n0_ n1_ n2_ n3_;(try clear hb);have hnb172:=NB233_232.out;have hnc172:=NB232_233.out;obtain ⟨hcz173_0,hcz173_1,hcz173_2,hcz173_3⟩:=cc4 BK233;obtain ⟨hfz173_0,hfz173_1,hfz173_2,hfz173_3⟩:=ff4 BK233;obtain ⟨hcz174_0,hcz174_1⟩:=cc2 BK231;obtain ⟨hfz174_0,hfz174_1⟩:=ff2 BK231) | ((with_reducible refine gate_callee (f:=105) rfl ?_);refine goesQ (some 23) Try.func105 #[.agg #[.string t235,.int .i64 t236],.int .i64 1] ?_;(with_reducible refine (bits_Little.calls k t235 t236 1 t238 t239 t240 t241 _ A4.out).mono ?_);rintro e w175 ⟨rfl,hb⟩;refine ⟨_,rfl,?_⟩;have n0_:=bp #[.string t235,.int .i64 t236] BK231 hb;have n1_:=bb BK232 hb;have n2_:=bp #[.int .i64 t234,.int .i64 0,.int .i64 0,.slice none 0 0] BK233 hb;have n3_:=hs HB hb;clear BK231;clear BK232;clear BK233;clear HB;have BK231:=n0_;have BK232:=n1_;have BK233:=n2_;have HB:=n3_;clear n0_ n1_ n2_ n3_;(try clear hb);obtain ⟨hcz176_0,hcz176_1⟩:=cc2 BK231;obtain ⟨hfz176_0,hfz176_1⟩:=ff2 BK231;obtain ⟨hcz177_0,hcz177_1,hcz177_2,hcz177_3⟩:=cc4 BK233;obtain ⟨hfz177_0,hfz177_1,hfz177_2,hfz177_3⟩:=ff4 BK233;obtain ⟨hcz178_0,hcz178_1,hcz178_2,hcz178_3⟩:=cc4 BK232;obtain ⟨hfz178_0,hfz178_1,hfz178_2,hfz178_3⟩:=ff4 BK232))
   refine bodyPost_ret (results_list (rs:=[.cell 2 76,.tmp 3,.tmp 4,.tmp 5]) rfl (by simp) (.cell gb232 76 #[.int .i64 t234,.int .i64 0,.int .i64 0,.slice none 0 0] (0,0) _ rfl (bq BK232) Try.underlying76 rfl (by kernel_rfl) (.tmp (.tmp (.tmp .nil))))) rfl ?_
   exact ⟨_,by first | rfl | (simp [errW_none,errW_some] <;> rfl) | (simp [*,errW_none,errW_some] <;> rfl),by first | exact Kd.R_nil _ _ _ _ _ | exact Kd.N_nil _ _ _ _ _ | exact Kd.V_nil _ _ _ _ _ | exact Kd.Q_nil _ _ _ _ _ | exact Kd.S_nil _ _ _ _ _,hn HB⟩
 ·rw [if_neg c3] at H
  have c3b0:(t237 == 0)=false:=beq_eq_false_iff_ne.mpr c3
  have c3b1:(t237 != 0)=true:=bne_iff_ne.mpr c3
  simp only [Option.some.injEq,Prod.mk.injEq] at H
  obtain ⟨rfl,rfl,rfl,rfl,rfl,rfl,rfl⟩:=H
  go_enter Try.func83,Try.ntmps83
  go_wp2_with (first | ((with_reducible refine gate_dst (N:=1) rfl ?_);(try (refine gate_guard (by rfl) ?_;dsimp only));refine boxQ 1 #[.string a0_0,.int .i64 a0_1] 133 ?_;intro gb231 hg w179 hbox hb;have n0_:=hs HB hb;have n1_:=Aside0.mk (hbox);have n2_:=gs HB hg;have n3_:=gs HB hg;clear HB;have HB:=n0_;have BK231:=n1_;have GW231:=n2_;have GE231:=n3_;clear n0_ n1_ n2_ n3_;clear hb hbox hg) | ((with_reducible refine gate_dst (N:=2) rfl ?_);(try (refine gate_guard (by rfl) ?_;dsimp only));refine boxQ 2 #[.int .i64 0,.int .i64 0,.int .i64 0,.slice none 0 0] 76 ?_;intro gb232 hg w180 hbox hb;have n0_:=bb BK231 hb;have n1_:=hs HB hb;have n2_:=Aside0.mk (hbox);have n3_:=gs HB hg;have n4_:=gs HB hg;have n5_:=nl BK231 hg;have n6_:=ng BK231 hg;clear BK231;clear HB;have BK231:=n0_;have HB:=n1_;have BK232:=n2_;have GW232:=n3_;have GE232:=n4_;have NB231_232:=n5_;have NB232_231:=n6_;clear n0_ n1_ n2_ n3_ n4_ n5_ n6_;clear hb hbox hg) | ((with_reducible refine gate_dst (N:=6) rfl ?_);(try (refine gate_guard (by rfl) ?_;dsimp only));refine boxQ 6 #[.int .i64 0,.int .i64 0,.int .i64 0,.slice none 0 0] 76 ?_;intro gb233 hg w181 hbox hb;have n0_:=bb BK231 hb;have n1_:=bb BK232 hb;have n2_:=hs HB hb;have n3_:=Aside0.mk (hbox);have n4_:=gs HB hg;have n5_:=gs HB hg;have n6_:=nl BK231 hg;have n7_:=ng BK231 hg;have n8_:=nl BK232 hg;have n9_:=ng BK232 hg;clear BK231;clear BK232;clear HB;have BK231:=n0_;have BK232:=n1_;have HB:=n2_;have BK233:=n3_;have GW233:=n4_;have GE233:=n5_;have NB231_233:=n6_;have NB233_231:=n7_;have NB232_233:=n8_;have NB233_232:=n9_;clear n0_ n1_ n2_ n3_ n4_ n5_ n6_ n7_ n8_ n9_;clear hb hbox hg;have hnb182:=NB231_232.out;have hnc182:=NB232_231.out;have hnb183:=NB231_233.out;have hnc183:=NB233_231.out;obtain ⟨hcz184_0,hcz184_1⟩:=cc2 BK231;obtain ⟨hfz184_0,hfz184_1⟩:=ff2 BK231) | ((with_reducible refine gate_callee (f:=105) rfl ?_);refine goesQ (some 12) Try.func105 #[.agg #[.string a0_0,.int .i64 a0_1],.int .i64 2] ?_;(with_reducible refine (bits_Little.calls k a0_0 a0_1 2 t234 t235 t236 t237 _ A2.out).mono ?_);rintro e w185 ⟨rfl,hb⟩;refine ⟨_,rfl,?_⟩;have n0_:=bb BK231 hb;have n1_:=bb BK232 hb;have n2_:=bb BK233 hb;have n3_:=hs HB hb;clear BK231;clear BK232;clear BK233;clear HB;have BK231:=n0_;have BK232:=n1_;have BK233:=n2_;have HB:=n3_;clear n0_ n1_ n2_ n3_;(try clear hb);have hnb186:=NB233_232.out;have hnc186:=NB232_233.out;obtain ⟨hcz187_0,hcz187_1,hcz187_2,hcz187_3⟩:=cc4 BK233;obtain ⟨hfz187_0,hfz187_1,hfz187_2,hfz187_3⟩:=ff4 BK233;obtain ⟨hcz188_0,hcz188_1⟩:=cc2 BK231;obtain ⟨hfz188_0,hfz188_1⟩:=ff2 BK231;obtain ⟨hcz189_0,hcz189_1,hcz189_2,hcz189_3⟩:=cc4 BK232;obtain ⟨hfz189_0,hfz189_1,hfz189_2,hfz189_3⟩:=ff4 BK232))
  refine bodyPost_ret (results_list (rs:=[.cell 2 76,.tmp 3,.tmp 4,.tmp 5]) rfl (by simp) (.cell gb232 76 #[.int .i64 t234,.int .i64 0,.int .i64 0,.slice none 0 0] (0,0) _ rfl (bq BK232) Try.underlying76 rfl (by kernel_rfl) (.tmp (.tmp (.tmp .nil))))) rfl ?_
  exact ⟨_,by first | rfl | (simp [errW_none,errW_some] <;> rfl) | (simp [*,errW_none,errW_some] <;> rfl),by first | exact Kd.R_nil _ _ _ _ _ | exact Kd.N_nil _ _ _ _ _ | exact Kd.V_nil _ _ _ _ _ | exact Kd.Q_nil _ _ _ _ _ | exact Kd.S_nil _ _ _ _ _,hn HB⟩
end Go.Proofs.Ytpbhkdamkbopkaa.GPix
namespace Go.Proofs.Ytpbhkdamkbopkaa.GPix
open Go.Proofs.Ytpbhkdamkbopkaa.Sq
open Go.RowKit Go.Proofs.YtpbhkdamkbopkaaW.PrintWords Go.Proofs.YtpbhkdamkbopkaaW.PrintLast Go.Proofs.YtpbhkdamkbopkaaW.PrintMore Go.Proofs.Ytpbhkdamkbopkaa.Wr2 Go.Proofs.Ytpbhkdamkbopkaa.Wr1 Go.Proofs.Ytpbhkdamkbopkaa.GRuns Go.Proofs.Ytpbhkdamkbopkaa.GBack2
attribute [local go_sem] max2_int min2_int max_two min_two max_three min_three max_four min_four
set_option linter.unusedVariables false
set_option linter.unusedSimpArgs false
def pixel_four.f (a0:ByteArray):Option (Int × Int × Int × Int):=if 0 < (a0.size:Int) then (if 1 < (a0.size:Int) then (if 2 < (a0.size:Int) then (if 3 < (a0.size:Int) then (some (wrap64 (bt a0 0),wrap64 (bt a0 1),wrap64 (bt a0 2),wrap64 (bt a0 3))) else (none)) else (none)) else (none)) else (none)
def pixel_four.T1:Bool × List (List Nat × List Nat):=(true,[([],[]),([0],[0]),([1],[1]),([],[]),([3],[3]),([4],[4]),([],[]),([6],[6]),([7],[7]),([],[]),([9],[9]),([10],[10]),([2,5,8,11],[2,5,8,11]),([12,0,1,2,3,4,5,6,7,8,9,10,11,12],[12])])
def pixel_four.B1:List Nat:=[0,1,3,0,8,24,0,64,192,0,512,1536,4095,8191]
theorem pixel_four.tab1:rtab .any (opsOf Try.f106 1)=pixel_four.T1:=by kernel_rfl
theorem pixel_four.bits1:waitsOk pixel_four.T1.2 pixel_four.B1=true:=by kernel_rfl
set_option maxHeartbeats 8000000 in
set_option maxRecDepth 100000 in
theorem pixel_four.calls (a0 : ByteArray) (r1 : Int) (r2 : Int) (r3 : Int) (r4 : Int) (w : World) (h : pixel_four.f a0 = some (r1, r2, r3, r4)) :
  Calls Try.prog 106 #[.string a0] w fun e w'=>e=.returned (.agg #[.int .i64 r1,.int .i64 r2,.int .i64 r3,.int .i64 r4])∧Below w.heap.size w w':=by
 have hu89:=Try.underlying89
 have HB:=Aside0.mk (Below.refl w.heap.size w)
 have H:(if 0 < (a0.size:Int) then (if 1 < (a0.size:Int) then (if 2 < (a0.size:Int) then (if 3 < (a0.size:Int) then (some (wrap64 (bt a0 0),wrap64 (bt a0 1),wrap64 (bt a0 2),wrap64 (bt a0 3))) else (none)) else (none)) else (none)) else (none))=some (r1,r2,r3,r4):=h
 clear h
 by_cases c2:0 < (a0.size:Int)
 ·rw [if_pos c2] at H
  have c2b0:decide (0 < (a0.size:Int))=true:=decide_eq_true c2
  have c2b1:decide (0 < a0.size)=true:=decide_eq_true (by omega)
  clear c2
  by_cases c4:1 < (a0.size:Int)
  ·rw [if_pos c4] at H
   have c4b0:decide (1 < (a0.size:Int))=true:=decide_eq_true c4
   have c4b1:decide (1 < a0.size)=true:=decide_eq_true (by omega)
   clear c4
   by_cases c6:2 < (a0.size:Int)
   ·rw [if_pos c6] at H
    have c6b0:decide (2 < (a0.size:Int))=true:=decide_eq_true c6
    have c6b1:decide (2 < a0.size)=true:=decide_eq_true (by omega)
    clear c6
    by_cases c8:3 < (a0.size:Int)
    ·rw [if_pos c8] at H
     have c8b0:decide (3 < (a0.size:Int))=true:=decide_eq_true c8
     have c8b1:decide (3 < a0.size)=true:=decide_eq_true (by omega)
     clear c8
     simp only [Option.some.injEq,Prod.mk.injEq] at H
     obtain ⟨rfl,rfl,rfl,rfl⟩:=H
     go_enter Try.func106,Try.ntmps106
     try go_wp2_with (first | ((with_reducible refine gate_dst (N:=2) rfl ?_);refine boxQ 2 #[.int .i64 0,.int .i64 0,.int .i64 0,.int .i64 0] 89 ?_;intro gb254 hg w10 hbox hb;have n0_:=hs HB hb;have n1_:=Aside0.mk (hbox);have n2_:=gs HB hg;have n3_:=gs HB hg;clear HB;have HB:=n0_;have BK254:=n1_;have GW254:=n2_;have GE254:=n3_;clear n0_ n1_ n2_ n3_;clear hb hbox hg))
     have n0_:=Aside0.mk (blk_drew BK254.out)
     have n1_:=Aside0.mk (below_drew1 HB.out)
     clear BK254
     clear HB
     have BK254:=n0_
     have HB:=n1_
     clear n0_ n1_
     have p3:0≤(0:Int):=(by omega)
     have q3:0 < a0.size:=(by have:(0:Int) < (a0.size:Int):=of_decide_eq_true (by first | (with_reducible assumption) | assumption);omega)
     have hx3:∀ h:0 < a0.size,((a0[0]'h).toNat:Int)=bt a0 0:=bt_at a0 0
     clear p3
     have qi3:(0 < (a0.size:Int))=True:=eq_true (of_decide_eq_true (by first | (with_reducible assumption) | assumption))
     replace q3:=eq_true q3
     have p5:0≤(1:Int):=(by omega)
     have q5:1 < a0.size:=(by have:(1:Int) < (a0.size:Int):=of_decide_eq_true (by first | (with_reducible assumption) | assumption);omega)
     have hx5:∀ h:1 < a0.size,((a0[1]'h).toNat:Int)=bt a0 1:=bt_at a0 1
     clear p5
     have qi5:(1 < (a0.size:Int))=True:=eq_true (of_decide_eq_true (by first | (with_reducible assumption) | assumption))
     replace q5:=eq_true q5
     have p7:0≤(2:Int):=(by omega)
     have q7:2 < a0.size:=(by have:(2:Int) < (a0.size:Int):=of_decide_eq_true (by first | (with_reducible assumption) | assumption);omega)
     have hx7:∀ h:2 < a0.size,((a0[2]'h).toNat:Int)=bt a0 2:=bt_at a0 2
     clear p7
     have qi7:(2 < (a0.size:Int))=True:=eq_true (of_decide_eq_true (by first | (with_reducible assumption) | assumption))
     replace q7:=eq_true q7
     have p9:0≤(3:Int):=(by omega)
     have q9:3 < a0.size:=(by have:(3:Int) < (a0.size:Int):=of_decide_eq_true (by first | (with_reducible assumption) | assumption);omega)
     have hx9:∀ h:3 < a0.size,((a0[3]'h).toNat:Int)=bt a0 3:=bt_at a0 3
     clear p9
     have qi9:(3 < (a0.size:Int))=True:=eq_true (of_decide_eq_true (by first | (with_reducible assumption) | assumption))
     replace q9:=eq_true q9
     refine start_ (n:=14) (S:=fun w'=>True) (ds:=[]) #[false,false,false,false,false,false,false,false,false,false,false,false,false,false] (by kernel_rfl) rfl rfl trivial (fun hHeld=>?_);refine with_tabW pixel_four.tab1 pixel_four.bits1 (fun HT_ HW_=>?_)
     generalize w10.drew=w11 at BK254 HB hHeld ⊢
     refine pureQ 0 (some 3) (tk 1 13) (any_of HT_.out (by kernel_rfl)) ?_
     refine pureQ 3 (some 6) #[true,false,false,true,false,false,false,false,false,false,false,false,false,false] (any_of HT_.out (by kernel_rfl)) ?_
     refine pureQ 6 (some 9) #[true,false,false,true,false,false,true,false,false,false,false,false,false,false] (any_of HT_.out (by kernel_rfl)) ?_
     refine pureQ 9 (some 12) #[true,false,false,true,false,false,true,false,false,true,false,false,false,false] (any_of HT_.out (by kernel_rfl)) ?_
     refine take_ (i:=1) (N:=some 4) (v:=?_) (a':=?_) #[true,true,false,true,false,false,true,false,false,true,false,false,false,false] rfl rfl (take_ofW HT_.out HW_.out (by kernel_rfl)) (fun _ _ _ h=>h) (Or.inl ⟨by rfl,?_⟩) hHeld ?_ ?_
     rotate_left
     ·intro w' _
      go_simp
      with_reducible rfl
     rotate_left
     ·simp only [Act.put,List.setIfInBounds_toArray,List.set_cons_zero,List.set_cons_succ,i64_w,i32_w]
      rfl
     refine pureQ 2 (some 5) #[true,true,true,true,false,false,true,false,false,true,false,false,false,false] (any_of HT_.out (by kernel_rfl)) ?_
     refine take_ (i:=4) (N:=some 7) (v:=?_) (a':=?_) #[true,true,true,true,true,false,true,false,false,true,false,false,false,false] rfl rfl (take_ofW HT_.out HW_.out (by kernel_rfl)) (fun _ _ _ h=>h) (Or.inl ⟨by rfl,?_⟩) hHeld ?_ ?_
     rotate_left
     ·intro w' _
      go_simp
      with_reducible rfl
     rotate_left
     ·simp only [Act.put,List.setIfInBounds_toArray,List.set_cons_zero,List.set_cons_succ,i64_w,i32_w]
      rfl
     refine pureQ 5 (some 8) #[true,true,true,true,true,true,true,false,false,true,false,false,false,false] (any_of HT_.out (by kernel_rfl)) ?_
     refine take_ (i:=7) (N:=some 10) (v:=?_) (a':=?_) #[true,true,true,true,true,true,true,true,false,true,false,false,false,false] rfl rfl (take_ofW HT_.out HW_.out (by kernel_rfl)) (fun _ _ _ h=>h) (Or.inl ⟨by rfl,?_⟩) hHeld ?_ ?_
     rotate_left
     ·intro w' _
      go_simp
      with_reducible rfl
     rotate_left
     ·simp only [Act.put,List.setIfInBounds_toArray,List.set_cons_zero,List.set_cons_succ,i64_w,i32_w]
      rfl
     refine pureQ 8 (some 11) (tk 10 4) (any_of HT_.out (by kernel_rfl)) ?_
     refine take_ (i:=10) (N:=some 13) (v:=?_) (a':=?_) (tk 11 3) rfl rfl (take_ofW HT_.out HW_.out (by kernel_rfl)) (fun _ _ _ h=>h) (Or.inl ⟨by rfl,?_⟩) hHeld ?_ ?_
     rotate_left
     ·intro w' _
      go_simp
      with_reducible rfl
     rotate_left
     ·simp only [Act.put,List.setIfInBounds_toArray,List.set_cons_zero,List.set_cons_succ,i64_w,i32_w]
      rfl
     refine pureQ 11 (some 14) (tk 12 2) (any_of HT_.out (by kernel_rfl)) ?_
     refine pureQ 12 (some 15) (tk 13 1) (any_of HT_.out (by kernel_rfl)) ?_
     refine one_ (i:=13) (N:=none) (tk 14 0) rfl rfl (one_of HT_.out (by kernel_rfl)) (by decide) (fun K hK=>?_)
     have hs12:w11.cell? ⟨gb254,0,none⟩=some (.int .i64 0):=(blk_cell BK254.out 0).trans rfl
     have hfs12:=blk_frozen BK254.out 0
     have hs13:w11.cell? ⟨gb254,1,none⟩=some (.int .i64 0):=(blk_cell BK254.out 1).trans rfl
     have hfs13:=blk_frozen BK254.out 1
     have hs14:w11.cell? ⟨gb254,2,none⟩=some (.int .i64 0):=(blk_cell BK254.out 2).trans rfl
     have hfs14:=blk_frozen BK254.out 2
     have hs15:w11.cell? ⟨gb254,3,none⟩=some (.int .i64 0):=(blk_cell BK254.out 3).trans rfl
     have hfs15:=blk_frozen BK254.out 3
     refine skip_ (w1:=?_) (by rfl) rfl ?_ ?_
     rotate_left
     ·go_simp
      rfl
     refine hK.out _ _ trivial (fun hHeld=>?_)
     clear hK K
     refine done_ (done_of HT_.out (by kernel_rfl)) ?_
     try go_wp2
     refine bodyPost_ret (results_cell_row rfl _ _ gb254 89 #[.int .i64 (wrap64 (bt a0 0)),.int .i64 (wrap64 (bt a0 1)),.int .i64 (wrap64 (bt a0 2)),.int .i64 (wrap64 (bt a0 3))] (0,0) _ rfl (bq BK254) Try.underlying89 rfl (by kernel_rfl)) rfl ?_
     exact ⟨by first | rfl | (simp [errW_none,errW_some] <;> rfl) | (simp [*,errW_none,errW_some] <;> rfl),hn HB⟩
    ·rw [if_neg c8] at H
     exact absurd H (by simp)
   ·rw [if_neg c6] at H
    exact absurd H (by simp)
  ·rw [if_neg c4] at H
   exact absurd H (by simp)
 ·rw [if_neg c2] at H
  exact absurd H (by simp)
mutual
def pixel_numbered.l0:Nat → ByteArray → Int → Int → Int → List (S89) → Int → Int → Option ((List (S89)) × Bool)
 |0,_,_,_,_,_,_,_=>none
 |k+1,x0,x1,x2,x10,x11,x28,x29=>if x29 < x28 then (pixel_numbered.l1 k x0 x1 x2 x10 x11 x29 x28 x29 x2 0) else (some (x11,true))
def pixel_numbered.l1:Nat → ByteArray → Int → Int → Int → List (S89) → Int → Int → Int → Int → Int → Option ((List (S89)) × Bool)
 |0,_,_,_,_,_,_,_,_,_,_=>none
 |k+1,x0,x1,x2,x10,x11,x12,x28,x29,x32,x33=>if x33 < x32 then (if 0≤(wrap64 ((wrap64 ((wrap64 (4*x1))+(wrap64 (x12*x10))))+x33)) then (if (wrap64 ((wrap64 ((wrap64 (4*x1))+(wrap64 (x12*x10))))+x33)) < (x0.size:Int) then (if (wrap64 (bt x0 (wrap64 ((wrap64 ((wrap64 (4*x1))+(wrap64 (x12*x10))))+x33)))) ≥ x1 then (some (([]:List (S89)),false)) else (if 0≤(wrap64 (4*(wrap64 (bt x0 (wrap64 ((wrap64 ((wrap64 (4*x1))+(wrap64 (x12*x10))))+x33)))))) then (if (wrap64 (4*(wrap64 (bt x0 (wrap64 ((wrap64 ((wrap64 (4*x1))+(wrap64 (x12*x10))))+x33))))))≤(wrap64 ((wrap64 (4*(wrap64 (bt x0 (wrap64 ((wrap64 ((wrap64 (4*x1))+(wrap64 (x12*x10))))+x33))))))+4)) then (if (wrap64 ((wrap64 (4*(wrap64 (bt x0 (wrap64 ((wrap64 ((wrap64 (4*x1))+(wrap64 (x12*x10))))+x33))))))+4))≤(x0.size:Int) then ((pixel_four.f (x0.extract ((wrap64 (4*(wrap64 (bt x0 (wrap64 ((wrap64 ((wrap64 (4*x1))+(wrap64 (x12*x10))))+x33)))))):Int).toNat ((wrap64 ((wrap64 (4*(wrap64 (bt x0 (wrap64 ((wrap64 ((wrap64 (4*x1))+(wrap64 (x12*x10))))+x33))))))+4)):Int).toNat)).bind fun bt255=>(if x11.length < 4398046511104 then (pixel_numbered.l1 k x0 x1 x2 x10 (x11 ++ [(⟨bt255.1,bt255.2.1,bt255.2.2.1,bt255.2.2.2⟩:S89)]) x12 x28 x29 x32 (wrap64 (x33+1))) else (none))) else (none)) else (none)) else (none))) else (none)) else (none)) else (pixel_numbered.l0 k x0 x1 x2 x10 x11 x28 (wrap64 (x29+1)))
end
def pixel_numbered.f (k:Nat) (a0:ByteArray) (a1:Int) (a2:Int) (a3:Int):Option ((List (S89)) × Bool):=if (a0.size:Int)=(wrap64 ((wrap64 (4*a1))+(wrap64 ((wrap64 ((wrap64 (Int.tdiv (wrap64 (a2+3)) 4))*4))*a3)))) then (pixel_numbered.l0 k a0 a1 a2 (wrap64 ((wrap64 (Int.tdiv (wrap64 (a2+3)) 4))*4)) ([]:List (S89)) a3 0) else (some (([]:List (S89)),false))
theorem pixel_numbered.mono_l:∀ k,(∀ y0 y1 y2 y3 y4 y5 y6,LeO (pixel_numbered.l0 k y0 y1 y2 y3 y4 y5 y6) (pixel_numbered.l0 (k+1) y0 y1 y2 y3 y4 y5 y6))∧(∀ y0 y1 y2 y3 y4 y5 y6 y7 y8 y9,LeO (pixel_numbered.l1 k y0 y1 y2 y3 y4 y5 y6 y7 y8 y9) (pixel_numbered.l1 (k+1) y0 y1 y2 y3 y4 y5 y6 y7 y8 y9))
 |0=>⟨fun _ _ _ _ _ _ _ r h=>by simp [pixel_numbered.l0] at h,fun _ _ _ _ _ _ _ _ _ _ r h=>by simp [pixel_numbered.l1] at h⟩
 |k+1=>by
  obtain ⟨ih0,ih1⟩:=pixel_numbered.mono_l k
  refine ⟨?_,?_⟩
  ·intro y0 y1 y2 y3 y4 y5 y6
   unfold pixel_numbered.l0
   repeat' first
   |(with_reducible exact ih0 _ _ _ _ _ _ _)
   |(with_reducible exact ih1 _ _ _ _ _ _ _ _ _ _)
   |(with_reducible exact LeO.refl _)
   |(with_reducible exact LeO.none _)
   |(with_reducible refine LeO.ite ?_ ?_)
   |(with_reducible refine LeO.bind ?_ (fun _=>?_))
   |exact ih0 _ _ _ _ _ _ _
   |exact ih1 _ _ _ _ _ _ _ _ _ _
   |exact LeO.none _
   |refine LeO.ite ?_ ?_
   |refine LeO.bind ?_ (fun _=>?_)
  ·intro y0 y1 y2 y3 y4 y5 y6 y7 y8 y9
   unfold pixel_numbered.l1
   repeat' first
   |(with_reducible exact ih0 _ _ _ _ _ _ _)
   |(with_reducible exact ih1 _ _ _ _ _ _ _ _ _ _)
   |(with_reducible exact LeO.refl _)
   |(with_reducible exact LeO.none _)
   |(with_reducible refine LeO.ite ?_ ?_)
   |(with_reducible refine LeO.bind ?_ (fun _=>?_))
   |exact ih0 _ _ _ _ _ _ _
   |exact ih1 _ _ _ _ _ _ _ _ _ _
   |exact LeO.none _
   |refine LeO.ite ?_ ?_
   |refine LeO.bind ?_ (fun _=>?_)
theorem pixel_numbered.mono:∀ a0 a1 a2 a3 k,LeO (pixel_numbered.f k a0 a1 a2 a3) (pixel_numbered.f (k+1) a0 a1 a2 a3):=by
 intro a0 a1 a2 a3 k
 obtain ⟨ih0,ih1⟩:=pixel_numbered.mono_l k
 unfold pixel_numbered.f
 repeat' first
   |(with_reducible exact ih0 _ _ _ _ _ _ _)
   |(with_reducible exact ih1 _ _ _ _ _ _ _ _ _ _)
   |(with_reducible exact LeO.refl _)
   |(with_reducible exact LeO.none _)
   |(with_reducible refine LeO.ite ?_ ?_)
   |(with_reducible refine LeO.bind ?_ (fun _=>?_))
   |exact ih0 _ _ _ _ _ _ _
   |exact ih1 _ _ _ _ _ _ _ _ _ _
   |exact LeO.none _
   |refine LeO.ite ?_ ?_
   |refine LeO.bind ?_ (fun _=>?_)
set_option maxHeartbeats 8000000 in
set_option maxRecDepth 100000 in
theorem pixel_numbered.calls (k : Nat) (a0 : ByteArray) (a1 : Int) (a2 : Int) (a3 : Int) (r1 : List (S89)) (r2 : Bool) (w : World) (h : pixel_numbered.f k a0 a1 a2 a3 = some (r1, r2)) :
  Calls Try.prog 84 #[.string a0,.int .i64 a1,.int .i64 a2,.int .i64 a3] w fun e w'=>∃ v0_:Value,e=.returned (.tuple #[v0_,.bool r2])∧Kd.R k89 89 w' w.heap.size (fun _=>True) v0_ r1∧Below w.heap.size w w':=by
 have HB:=Aside0.mk (Below.refl w.heap.size w)
 have H:(if (a0.size:Int)=(wrap64 ((wrap64 (4*a1))+(wrap64 ((wrap64 ((wrap64 (Int.tdiv (wrap64 (a2+3)) 4))*4))*a3)))) then (pixel_numbered.l0 k a0 a1 a2 (wrap64 ((wrap64 (Int.tdiv (wrap64 (a2+3)) 4))*4)) ([]:List (S89)) a3 0) else (some (([]:List (S89)),false)))=some (r1,r2):=h
 clear h
 by_cases c5:(a0.size:Int)=(wrap64 ((wrap64 (4*a1))+(wrap64 ((wrap64 ((wrap64 (Int.tdiv (wrap64 (a2+3)) 4))*4))*a3))))
 ·rw [if_pos c5] at H
  have c5b0:((a0.size:Int) == (wrap64 ((wrap64 (4*a1))+(wrap64 ((wrap64 ((wrap64 (Int.tdiv (wrap64 (a2+3)) 4))*4))*a3)))))=true:=beq_iff_eq.mpr c5
  have c5b1:((a0.size:Int) != (wrap64 ((wrap64 (4*a1))+(wrap64 ((wrap64 ((wrap64 (Int.tdiv (wrap64 (a2+3)) 4))*4))*a3)))))=false:=bne_eq_false_iff_eq.mpr c5
  clear c5
  have H':=Aside0.mk H
  clear H
  go_enter Try.func84,Try.ntmps84
  go_wp2
  go_loopg [11,29] k (fun kq v11 v29 w'=>∃ (x11_1:List (S89)) (x29_1:Int),v29=.int .i64 x29_1∧Aside0 (pixel_numbered.l0 kq a0 a1 a2 (wrap64 ((wrap64 (Int.tdiv (wrap64 (a2+3)) 4))*4)) x11_1 a3 x29_1=some (r1,r2))∧Aside0 (kq≤k)∧Aside0 (Kd.R k89 89 w' w.heap.size (fun _=>True) v11 x11_1)∧Aside0 (Below w.heap.size w w'))
  case atStart=>exact ⟨(([]:List (S89))),(0),(by first | rfl | (simp;done) | (simp [*];done)),H',⟨Nat.le_refl _⟩,⟨by first | exact Kd.R_nil _ _ _ _ _ | exact Kd.N_nil _ _ _ _ _ | exact Kd.V_nil _ _ _ _ _ | exact Kd.Q_nil _ _ _ _ _ | exact Kd.S_nil _ _ _ _ _⟩,⟨hn HB⟩⟩
  case round =>
   clear H'
   try clear p2
   try clear c5
   try clear c5b0
   try clear c5b1
   obtain ⟨x11_1,x29_1,rfl,HA,HK1,HO_11,HB⟩:=hrel
   cases gk with
   |zero=>exact absurd HA.out (by simp [pixel_numbered.l0])
   |succ k1 =>
    have H:=HA.out
    clear HA
    simp only [pixel_numbered.l0] at H
    by_cases c6:x29_1 < a3
    ·rw [if_pos c6] at H
     have c6b0:decide (x29_1 < a3)=true:=decide_eq_true c6
     clear c6
     have H':=Aside0.mk H
     clear H
     go_wp2
     go_loopg [11,33] k1 (fun kq v11 v33 w'=>∃ (x11_2:List (S89)) (x33_2:Int),v33=.int .i64 x33_2∧Aside0 (pixel_numbered.l1 kq a0 a1 a2 (wrap64 ((wrap64 (Int.tdiv (wrap64 (a2+3)) 4))*4)) x11_2 x29_1 a3 x29_1 a2 x33_2=some (r1,r2))∧Aside0 (kq≤k1)∧Aside0 (Kd.R k89 89 w' w.heap.size (fun _=>True) v11 x11_2)∧Aside0 (Below w.heap.size w w'))
     case atStart=>exact ⟨(x11_1),(0),(by first | rfl | (simp;done) | (simp [*];done)),H',⟨Nat.le_refl _⟩,⟨by (with_reducible repeat (first | apply Kd.R_alloc | apply Kd.R_drewN | apply Kd.R_drew));exact HO_11.out⟩,⟨hn HB⟩⟩
     case round =>
      clear H'
      try clear p2
      try clear c5
      try clear c5b0
      try clear c5b1
      try clear c6
      try clear c6b0
      try clear p6
      try clear p2
      obtain ⟨x11_2,x33_2,rfl,HA,HK2,HO_11,HB⟩:=hrel
      cases gk with
      |zero=>exact absurd HA.out (by simp [pixel_numbered.l1])
      |succ k2 =>
       have H:=HA.out
       clear HA
       simp only [pixel_numbered.l1] at H
       by_cases c7:x33_2 < a2
       ·rw [if_pos c7] at H
        have c7b0:decide (x33_2 < a2)=true:=decide_eq_true c7
        clear c7
        obtain ⟨ji8,hji8⟩:∃ j_:Int,(wrap64 ((wrap64 ((wrap64 (4*a1))+(wrap64 (x29_1*(wrap64 ((wrap64 (Int.tdiv (wrap64 (a2+3)) 4))*4))))))+x33_2))=j_:=⟨_,rfl⟩
        replace H:(if 0≤(ji8) then (if (ji8) < (a0.size:Int) then (if (wrap64 (bt a0 (ji8))) ≥ a1 then (some (([]:List (S89)),false)) else (if 0≤(wrap64 (4*(wrap64 (bt a0 (ji8))))) then (if (wrap64 (4*(wrap64 (bt a0 (ji8)))))≤(wrap64 ((wrap64 (4*(wrap64 (bt a0 (ji8)))))+4)) then (if (wrap64 ((wrap64 (4*(wrap64 (bt a0 (ji8)))))+4))≤(a0.size:Int) then ((pixel_four.f (a0.extract ((wrap64 (4*(wrap64 (bt a0 (ji8))))):Int).toNat ((wrap64 ((wrap64 (4*(wrap64 (bt a0 (ji8)))))+4)):Int).toNat)).bind fun bt255=>(if x11_2.length < 4398046511104 then (pixel_numbered.l1 k2 a0 a1 a2 (wrap64 ((wrap64 (Int.tdiv (wrap64 (a2+3)) 4))*4)) (x11_2 ++ [(⟨bt255.1,bt255.2.1,bt255.2.2.1,bt255.2.2.2⟩:S89)]) x29_1 a3 x29_1 a2 (wrap64 (x33_2+1))) else (none))) else (none)) else (none)) else (none))) else (none)) else (none))=some (r1,r2):=by first | (rw [hji8] at H;exact H) | (simp only [hji8] at H ⊢;exact H)
        have hji8w:(IntKind.i64.wrap ((wrap64 ((wrap64 (4*a1))+(wrap64 (x29_1*(wrap64 ((wrap64 (Int.tdiv (wrap64 (a2+3)) 4))*4))))))+x33_2))=ji8:=(i64_w _).trans hji8
        by_cases c9:0≤(ji8)
        ·rw [if_pos c9] at H
         have c9b0:decide (0≤(ji8))=true:=decide_eq_true c9
         clear c9
         by_cases c10:(ji8) < (a0.size:Int)
         ·rw [if_pos c10] at H
          have c10b0:decide ((ji8) < (a0.size:Int))=true:=decide_eq_true c10
          clear c10
          by_cases c12:(wrap64 (bt a0 (ji8))) ≥ a1
          ·rw [if_pos c12] at H
           have c12b0:decide (a1≤(wrap64 (bt a0 (ji8))))=true:=decide_eq_true c12
           clear c12
           simp only [Option.some.injEq,Prod.mk.injEq] at H
           obtain ⟨rfl,rfl⟩:=H
           have p11:0≤((ji8):Int):=of_decide_eq_true (by first | (with_reducible assumption) | assumption)
           have q11:(ji8) < (a0.size:Int):=of_decide_eq_true (by first | (with_reducible assumption) | assumption)
           have hx11:=bt_at a0 (ji8)
           replace p11:=eq_true p11
           replace q11:=eq_true q11
           go_wp2
           go_ret2
           exact ⟨_,by first | rfl | (simp [errW_none,errW_some] <;> rfl) | (simp only [← hji8];first | rfl | (simp [errW_none,errW_some] <;> rfl)) | (simp [*,errW_none,errW_some] <;> rfl),by first | exact Kd.R_nil _ _ _ _ _ | exact Kd.N_nil _ _ _ _ _ | exact Kd.V_nil _ _ _ _ _ | exact Kd.Q_nil _ _ _ _ _ | exact Kd.S_nil _ _ _ _ _,hn HB⟩
          ·rw [if_neg c12] at H
           have c12b0:decide (a1≤(wrap64 (bt a0 (ji8))))=false:=decide_eq_false c12
           clear c12
           obtain ⟨ji13,hji13⟩:∃ j_:Int,(wrap64 (4*(wrap64 (bt a0 (ji8)))))=j_:=⟨_,rfl⟩
           replace H:(if 0≤(ji13) then (if (ji13)≤(wrap64 ((ji13)+4)) then (if (wrap64 ((ji13)+4))≤(a0.size:Int) then ((pixel_four.f (a0.extract ((ji13):Int).toNat ((wrap64 ((ji13)+4)):Int).toNat)).bind fun bt255=>(if x11_2.length < 4398046511104 then (pixel_numbered.l1 k2 a0 a1 a2 (wrap64 ((wrap64 (Int.tdiv (wrap64 (a2+3)) 4))*4)) (x11_2 ++ [(⟨bt255.1,bt255.2.1,bt255.2.2.1,bt255.2.2.2⟩:S89)]) x29_1 a3 x29_1 a2 (wrap64 (x33_2+1))) else (none))) else (none)) else (none)) else (none))=some (r1,r2):=by first | (rw [hji13] at H;exact H) | (simp only [hji13] at H ⊢;exact H)
           have hji13w:(IntKind.i64.wrap (4*(wrap64 (bt a0 (ji8)))))=ji13:=(i64_w _).trans hji13
           by_cases c14:0≤(ji13)
           ·rw [if_pos c14] at H
            have c14b0:=eq_true c14
            have c14b1:decide (0≤(ji13))=true:=decide_eq_true c14
            clear c14
            by_cases c15:(ji13)≤(wrap64 ((ji13)+4))
            ·rw [if_pos c15] at H
             have c15b0:=eq_true c15
             have c15b1:decide ((ji13)≤(wrap64 ((ji13)+4)))=true:=decide_eq_true c15
             by_cases c16:(wrap64 ((ji13)+4))≤(a0.size:Int)
             ·rw [if_pos c16] at H
              have c16b0:=eq_true c16
              have c16b1:decide ((wrap64 ((ji13)+4))≤(a0.size:Int))=true:=decide_eq_true c16
              replace H:=Option.bind_eq_some_iff.mp H
              obtain ⟨⟨t255,t256,t257,t258⟩,A170,H⟩:=H
              replace H:(if x11_2.length < 4398046511104 then (pixel_numbered.l1 k2 a0 a1 a2 (wrap64 ((wrap64 (Int.tdiv (wrap64 (a2+3)) 4))*4)) (x11_2 ++ [(⟨t255,t256,t257,t258⟩:S89)]) x29_1 a3 x29_1 a2 (wrap64 (x33_2+1))) else (none))=some (r1,r2):=H
              have A17:=Aside0.mk A170
              clear A170
              by_cases c18:x11_2.length < 4398046511104
              ·rw [if_pos c18] at H
               have LMc18:=Aside0.mk c18
               clear c18
               obtain ⟨y259,hy259⟩:∃ y_:List (S89),y_=(x11_2 ++ [(⟨t255,t256,t257,t258⟩:S89)]):=⟨_,rfl⟩
               replace H:(pixel_numbered.l1 k2 a0 a1 a2 (wrap64 ((wrap64 (Int.tdiv (wrap64 (a2+3)) 4))*4)) y259 x29_1 a3 x29_1 a2 (wrap64 (x33_2+1)))=some (r1,r2):=by first | (rw [hy259];with_reducible exact H) | (have H2_:=(Option.bind_some _ _).symm.trans H;rw [hy259];with_reducible exact H2_) | (have H2_:=(Option.bind_some _ _).symm.trans H;with_reducible exact H2_) | with_reducible exact H | (rw [hy259];exact H) | exact H
               have Ny259:=Aside0.mk hy259
               clear hy259
               have H':=Aside0.mk H
               clear H
               have p11:0≤((ji8):Int):=of_decide_eq_true (by first | (with_reducible assumption) | assumption)
               have q11:(ji8) < (a0.size:Int):=of_decide_eq_true (by first | (with_reducible assumption) | assumption)
               have hx11:=bt_at a0 (ji8)
               replace p11:=eq_true p11
               replace q11:=eq_true q11
               go_wp2_with (first | ((with_reducible refine gate_callee (f:=106) rfl ?_);refine goesL_ (some 58) rfl rfl Try.func106 (by kernel_rfl) rfl #[.string (a0.extract ((ji13):Int).toNat ((wrap64 ((ji13)+4)):Int).toNat)] rfl (by (try simp only [List.map_toArray,List.map_cons,List.map_nil]);first | done | (simp only [hji13];rfl) | rfl | (simp only [List.length_drop,List.length_take];rfl)) ?_;(with_reducible refine (pixel_four.calls (a0.extract ((ji13):Int).toNat ((wrap64 ((ji13)+4)):Int).toNat) t255 t256 t257 t258 _ A17.out).mono ?_);rintro e w19 ⟨rfl,hb⟩;refine ⟨_,rfl,?_⟩;have n0_:=rk HO_11 hb;have n1_:=hs HB hb;clear HO_11;clear HB;have HO_11:=n0_;have HB:=n1_;clear n0_ n1_;(try clear hb)) | ((with_reducible refine gate_builtin (b:=.append) (xs:=#[.tmp 50,.tmp 59]) rfl ?_);at_builtin;refine Kd.R_append k89 (w0:=w) w.heap.size rfl (.tmp 50) (.tmp 59) 74 89 (.agg #[(.int .i64 0),(.int .i64 0),(.int .i64 0),(.int .i64 0)]) 32 rfl Try.underlying74 info89 rfl (by decide) (by omega) u11 x11_2 (⟨t255,t256,t257,t258⟩:S89) [.int .i64 t255,.int .i64 t256,.int .i64 t257,.int .i64 t258] (fun _=>True) (fun _=>False) rfl rfl ?aP (fun _ hk=>hk.elim) ?aF ?aO ?aB ?aS ?aL ?_;(case aP=>exact k89_mkM _ _ _ (⟨t255,t256,t257,t258⟩:S89));(case aB=>exact (hn HB));(case aF=>exact (fun _ _=>trivial));(case aO=>exact (by (with_reducible repeat (first | apply Kd.R_alloc | apply Kd.R_drewN | apply Kd.R_drew));exact HO_11.out));(case aS=>exact (below_size (hn HB)));(case aL=>have:=LMc18.out;omega);intro v260 w20 ho hb hg hat;rw [← Ny259.out] at ho;have n0_:=Aside0.mk (hb);have n1_:=Aside0.mk (ho);clear HB;clear HO_11;have HB:=n0_;have HO261:=n1_;clear n0_ n1_;clear ho hb hg hat))
               go_roundg k2
               case measure=>have:=HK1.out;have:=HK2.out;omega
               case rel=>exact ⟨(y259),(wrap64 (x33_2+1)),(by first | rfl | (simp;done) | (simp [*];done)),H',⟨by have:=HK1.out;have:=HK2.out;omega⟩,⟨by (with_reducible repeat (first | apply Kd.R_alloc | apply Kd.R_drewN | apply Kd.R_drew));exact HO261.out⟩,⟨hn HB⟩⟩
              ·rw [if_neg c18] at H
               exact absurd H (by simp)
             ·rw [if_neg c16] at H
              exact absurd H (by simp)
            ·rw [if_neg c15] at H
             exact absurd H (by simp)
           ·rw [if_neg c14] at H
            exact absurd H (by simp)
         ·rw [if_neg c10] at H
          exact absurd H (by simp)
        ·rw [if_neg c9] at H
         exact absurd H (by simp)
       ·rw [if_neg c7] at H
        have c7b0:decide (x33_2 < a2)=false:=decide_eq_false c7
        clear c7
        have H':=Aside0.mk H
        clear H
        go_wp2
        go_roundg k2
        case measure=>have:=HK1.out;have:=HK2.out;omega
        case rel=>exact ⟨(x11_2),(wrap64 (x29_1+1)),(by first | rfl | (simp;done) | (simp [*];done)),H',⟨by have:=HK1.out;have:=HK2.out;omega⟩,⟨by (with_reducible repeat (first | apply Kd.R_alloc | apply Kd.R_drewN | apply Kd.R_drew));exact HO_11.out⟩,⟨hn HB⟩⟩
    ·rw [if_neg c6] at H
     have c6b0:decide (x29_1 < a3)=false:=decide_eq_false c6
     clear c6
     simp only [Option.some.injEq,Prod.mk.injEq] at H
     obtain ⟨rfl,rfl⟩:=H
     go_wp2
     go_ret2
     exact ⟨_,by first | rfl | (simp [errW_none,errW_some] <;> rfl) | (simp [*,errW_none,errW_some] <;> rfl),by (with_reducible repeat (first | apply Kd.R_alloc | apply Kd.R_drewN | apply Kd.R_drew));exact HO_11.out,hn HB⟩
 ·rw [if_neg c5] at H
  have c5b0:((a0.size:Int) == (wrap64 ((wrap64 (4*a1))+(wrap64 ((wrap64 ((wrap64 (Int.tdiv (wrap64 (a2+3)) 4))*4))*a3)))))=false:=beq_eq_false_iff_ne.mpr c5
  have c5b1:((a0.size:Int) != (wrap64 ((wrap64 (4*a1))+(wrap64 ((wrap64 ((wrap64 (Int.tdiv (wrap64 (a2+3)) 4))*4))*a3)))))=true:=bne_iff_ne.mpr c5
  simp only [Option.some.injEq,Prod.mk.injEq] at H
  obtain ⟨rfl,rfl⟩:=H
  go_enter Try.func84,Try.ntmps84
  go_wp2
  go_ret2
  exact ⟨_,by first | rfl | (simp [errW_none,errW_some] <;> rfl) | (simp [*,errW_none,errW_some] <;> rfl),by first | exact Kd.R_nil _ _ _ _ _ | exact Kd.N_nil _ _ _ _ _ | exact Kd.V_nil _ _ _ _ _ | exact Kd.Q_nil _ _ _ _ _ | exact Kd.S_nil _ _ _ _ _,hn HB⟩
def pixel_plain.l0:Nat → ByteArray → List (S89) → Int → Int → Option ((List (S89)) × Bool)
 |0,_,_,_,_=>none
 |k+1,x0,x6,x14,x15=>if x15 < x14 then (if 0≤(wrap64 (4*x15)) then (if (wrap64 (4*x15))≤(wrap64 ((wrap64 (4*x15))+4)) then (if (wrap64 ((wrap64 (4*x15))+4))≤(x0.size:Int) then (if 1≤((x0.extract ((wrap64 (4*x15)):Int).toNat ((wrap64 ((wrap64 (4*x15))+4)):Int).toNat).size:Int) then (if 0≤1 then (if ((x0.extract ((wrap64 (4*x15)):Int).toNat ((wrap64 ((wrap64 (4*x15))+4)):Int).toNat).extract 1 (x0.extract ((wrap64 (4*x15)):Int).toNat ((wrap64 ((wrap64 (4*x15))+4)):Int).toNat).size).size+((x0.extract ((wrap64 (4*x15)):Int).toNat ((wrap64 ((wrap64 (4*x15))+4)):Int).toNat).extract 0 1).size≤9223372036854775807 then ((pixel_four.f (((x0.extract ((wrap64 (4*x15)):Int).toNat ((wrap64 ((wrap64 (4*x15))+4)):Int).toNat).extract 1 (x0.extract ((wrap64 (4*x15)):Int).toNat ((wrap64 ((wrap64 (4*x15))+4)):Int).toNat).size) ++ ((x0.extract ((wrap64 (4*x15)):Int).toNat ((wrap64 ((wrap64 (4*x15))+4)):Int).toNat).extract 0 1))).bind fun bt262=>(if x6.length < 4398046511104 then (pixel_plain.l0 k x0 (x6 ++ [(⟨bt262.1,bt262.2.1,bt262.2.2.1,bt262.2.2.2⟩:S89)]) x14 (wrap64 (x15+1))) else (none))) else (none)) else (none)) else (none)) else (none)) else (none)) else (none)) else (some (x6,true))
def pixel_plain.f (k:Nat) (a0:ByteArray) (a1:Int):Option ((List (S89)) × Bool):=if (a0.size:Int)=(wrap64 (4*a1)) then (pixel_plain.l0 k a0 ([]:List (S89)) a1 0) else (some (([]:List (S89)),false))
theorem pixel_plain.mono_l:∀ k,(∀ y0 y1 y2 y3,LeO (pixel_plain.l0 k y0 y1 y2 y3) (pixel_plain.l0 (k+1) y0 y1 y2 y3))
 |0=>fun _ _ _ _ r h=>by simp [pixel_plain.l0] at h
 |k+1=>by
  have ih0:=pixel_plain.mono_l k
  ·intro y0 y1 y2 y3
   unfold pixel_plain.l0
   repeat' first
   |(with_reducible exact ih0 _ _ _ _)
   |(with_reducible exact LeO.refl _)
   |(with_reducible exact LeO.none _)
   |(with_reducible refine LeO.ite ?_ ?_)
   |(with_reducible refine LeO.bind ?_ (fun _=>?_))
   |exact ih0 _ _ _ _
   |exact LeO.none _
   |refine LeO.ite ?_ ?_
   |refine LeO.bind ?_ (fun _=>?_)
theorem pixel_plain.mono:∀ a0 a1 k,LeO (pixel_plain.f k a0 a1) (pixel_plain.f (k+1) a0 a1):=by
 intro a0 a1 k
 have ih0:=pixel_plain.mono_l k
 unfold pixel_plain.f
 repeat' first
   |(with_reducible exact ih0 _ _ _ _)
   |(with_reducible exact LeO.refl _)
   |(with_reducible exact LeO.none _)
   |(with_reducible refine LeO.ite ?_ ?_)
   |(with_reducible refine LeO.bind ?_ (fun _=>?_))
   |exact ih0 _ _ _ _
   |exact LeO.none _
   |refine LeO.ite ?_ ?_
   |refine LeO.bind ?_ (fun _=>?_)
def pixel_plain.T8:Bool × List (List Nat × List Nat):=(true,[([],[]),([],[]),([1],[1]),([],[]),([3],[3]),([2,4],[2,4]),([5],[5]),([6],[6]),([0,7,6],[0,7]),([8,8,0,1,2,3,4,5,6,7,8],[0,8])])
def pixel_plain.B8:List Nat:=[0,0,2,0,8,30,62,126,255,511]
theorem pixel_plain.tab8:rtab .any (opsOf Try.f85 8)=pixel_plain.T8:=by kernel_rfl
theorem pixel_plain.bits8:waitsOk pixel_plain.T8.2 pixel_plain.B8=true:=by kernel_rfl
set_option maxHeartbeats 8000000 in
set_option maxRecDepth 100000 in
theorem pixel_plain.calls (k : Nat) (a0 : ByteArray) (a1 : Int) (r1 : List (S89)) (r2 : Bool) (w : World) (h : pixel_plain.f k a0 a1 = some (r1, r2)) :
  Calls Try.prog 85 #[.string a0,.int .i64 a1] w fun e w'=>∃ v0_:Value,e=.returned (.tuple #[v0_,.bool r2])∧Kd.R k89 89 w' w.heap.size (fun _=>True) v0_ r1∧Below w.heap.size w w':=by
 have HB:=Aside0.mk (Below.refl w.heap.size w)
 have H:(if (a0.size:Int)=(wrap64 (4*a1)) then (pixel_plain.l0 k a0 ([]:List (S89)) a1 0) else (some (([]:List (S89)),false)))=some (r1,r2):=h
 clear h
 by_cases c3:(a0.size:Int)=(wrap64 (4*a1))
 ·rw [if_pos c3] at H
  have c3b0:((a0.size:Int) == (wrap64 (4*a1)))=true:=beq_iff_eq.mpr c3
  have c3b1:((a0.size:Int) != (wrap64 (4*a1)))=false:=bne_eq_false_iff_eq.mpr c3
  clear c3
  have H':=Aside0.mk H
  clear H
  go_enter Try.func85,Try.ntmps85
  go_wp2
  go_loopg [6,15] k (fun kq v6 v15 w'=>∃ (x6_1:List (S89)) (x15_1:Int),v15=.int .i64 x15_1∧Aside0 (pixel_plain.l0 kq a0 x6_1 a1 x15_1=some (r1,r2))∧Aside0 (kq≤k)∧Aside0 (Kd.R k89 89 w' w.heap.size (fun _=>True) v6 x6_1)∧Aside0 (Below w.heap.size w w'))
  case atStart=>exact ⟨(([]:List (S89))),(0),(by first | rfl | (simp;done) | (simp [*];done)),H',⟨Nat.le_refl _⟩,⟨by first | exact Kd.R_nil _ _ _ _ _ | exact Kd.N_nil _ _ _ _ _ | exact Kd.V_nil _ _ _ _ _ | exact Kd.Q_nil _ _ _ _ _ | exact Kd.S_nil _ _ _ _ _⟩,⟨hn HB⟩⟩
  case round =>
   clear H'
   try clear p2
   try clear c3
   try clear c3b0
   try clear c3b1
   obtain ⟨x6_1,x15_1,rfl,HA,HK1,HO_6,HB⟩:=hrel
   cases gk with
   |zero=>exact absurd HA.out (by simp [pixel_plain.l0])
   |succ k1 =>
    have H:=HA.out
    clear HA
    simp only [pixel_plain.l0] at H
    by_cases c4:x15_1 < a1
    ·rw [if_pos c4] at H
     have c4b0:decide (x15_1 < a1)=true:=decide_eq_true c4
     clear c4
     obtain ⟨ji5,hji5⟩:∃ j_:Int,(wrap64 (4*x15_1))=j_:=⟨_,rfl⟩
     replace H:(if 0≤(ji5) then (if (ji5)≤(wrap64 ((ji5)+4)) then (if (wrap64 ((ji5)+4))≤(a0.size:Int) then (if 1≤((a0.extract ((ji5):Int).toNat ((wrap64 ((ji5)+4)):Int).toNat).size:Int) then (if 0≤1 then (if ((a0.extract ((ji5):Int).toNat ((wrap64 ((ji5)+4)):Int).toNat).extract 1 (a0.extract ((ji5):Int).toNat ((wrap64 ((ji5)+4)):Int).toNat).size).size+((a0.extract ((ji5):Int).toNat ((wrap64 ((ji5)+4)):Int).toNat).extract 0 1).size≤9223372036854775807 then ((pixel_four.f (((a0.extract ((ji5):Int).toNat ((wrap64 ((ji5)+4)):Int).toNat).extract 1 (a0.extract ((ji5):Int).toNat ((wrap64 ((ji5)+4)):Int).toNat).size) ++ ((a0.extract ((ji5):Int).toNat ((wrap64 ((ji5)+4)):Int).toNat).extract 0 1))).bind fun bt262=>(if x6_1.length < 4398046511104 then (pixel_plain.l0 k1 a0 (x6_1 ++ [(⟨bt262.1,bt262.2.1,bt262.2.2.1,bt262.2.2.2⟩:S89)]) a1 (wrap64 (x15_1+1))) else (none))) else (none)) else (none)) else (none)) else (none)) else (none)) else (none))=some (r1,r2):=by first | (rw [hji5] at H;exact H) | (simp only [hji5] at H ⊢;exact H)
     have hji5w:(IntKind.i64.wrap (4*x15_1))=ji5:=(i64_w _).trans hji5
     by_cases c6:0≤(ji5)
     ·rw [if_pos c6] at H
      have c6b0:=eq_true c6
      have c6b1:decide (0≤(ji5))=true:=decide_eq_true c6
      clear c6
      by_cases c7:(ji5)≤(wrap64 ((ji5)+4))
      ·rw [if_pos c7] at H
       have c7b0:=eq_true c7
       have c7b1:decide ((ji5)≤(wrap64 ((ji5)+4)))=true:=decide_eq_true c7
       by_cases c8:(wrap64 ((ji5)+4))≤(a0.size:Int)
       ·rw [if_pos c8] at H
        have c8b0:=eq_true c8
        have c8b1:decide ((wrap64 ((ji5)+4))≤(a0.size:Int))=true:=decide_eq_true c8
        obtain ⟨rs_,hrs_⟩:∃ y:ByteArray,(a0.extract ((ji5):Int).toNat ((wrap64 ((ji5)+4)):Int).toNat)=y:=⟨_,rfl⟩
        simp only [hrs_] at H
        by_cases c9:1≤(rs_.size:Int)
        ·rw [if_pos c9] at H
         have c9b0:=eq_true c9
         have c9b1:decide (1≤(rs_.size:Int))=true:=decide_eq_true c9
         by_cases c10:0≤1
         ·rw [if_pos c10] at H
          have c10b0:=eq_true c10
          have c10b1:decide (0≤1)=true:=decide_eq_true c10
          clear c10
          have c11b0:=eq_true (of_decide_eq_true (by first | (with_reducible assumption) | assumption):1≤(rs_.size:Int))
          by_cases c12:(rs_.extract 1 rs_.size).size+(rs_.extract 0 1).size≤9223372036854775807
          ·rw [if_pos c12] at H
           have c12b0:=eq_true c12
           have c12b1:decide ((rs_.extract 1 rs_.size).size+(rs_.extract 0 1).size≤9223372036854775807)=true:=decide_eq_true c12
           try have c12b2:(9223372036854775807 < (rs_.extract 1 rs_.size).size+(rs_.extract 0 1).size)=False:=eq_false (Nat.not_lt.2 c12)
           have c12b3:(9223372036854775807 < rs_.size - 1+min 1 rs_.size)=False:=eq_false (Nat.not_lt.2 (by have h_:=c12;simp only [ByteArray.size_extract] at h_;omega))
           replace H:=Option.bind_eq_some_iff.mp H
           obtain ⟨⟨t262,t263,t264,t265⟩,A130,H⟩:=H
           replace H:(if x6_1.length < 4398046511104 then (pixel_plain.l0 k1 a0 (x6_1 ++ [(⟨t262,t263,t264,t265⟩:S89)]) a1 (wrap64 (x15_1+1))) else (none))=some (r1,r2):=H
           have A13:=Aside0.mk A130
           clear A130
           by_cases c14:x6_1.length < 4398046511104
           ·rw [if_pos c14] at H
            have LMc14:=Aside0.mk c14
            clear c14
            obtain ⟨y266,hy266⟩:∃ y_:List (S89),y_=(x6_1 ++ [(⟨t262,t263,t264,t265⟩:S89)]):=⟨_,rfl⟩
            replace H:(pixel_plain.l0 k1 a0 y266 a1 (wrap64 (x15_1+1)))=some (r1,r2):=by first | (rw [hy266];with_reducible exact H) | (have H2_:=(Option.bind_some _ _).symm.trans H;rw [hy266];with_reducible exact H2_) | (have H2_:=(Option.bind_some _ _).symm.trans H;with_reducible exact H2_) | with_reducible exact H | (rw [hy266];exact H) | exact H
            have Ny266:=Aside0.mk hy266
            clear hy266
            have H':=Aside0.mk H
            clear H
            try go_wp2
            have n0_:=Aside0.mk (Kd.R_drew HO_6.out)
            have n1_:=Aside0.mk (below_drew1 HB.out)
            clear HO_6
            clear HB
            have HO_6:=n0_
            have HB:=n1_
            clear n0_ n1_
            refine start_ (n:=10) (S:=fun w'=>True) (ds:=[]) #[false,false,false,false,false,false,false,false,false,false] (by kernel_rfl) rfl rfl trivial (fun hHeld=>?_);refine with_tabW pixel_plain.tab8 pixel_plain.bits8 (fun HT_ HW_=>?_)
            generalize wr.drew=w15 at HO_6 HB hHeld ⊢
            refine pureQ 0 (some 25) (tk 1 9) (any_of HT_.out (by kernel_rfl)) ?_
            refine pureQ 1 (some 26) (tk 2 8) (any_of HT_.out (by kernel_rfl)) ?_
            refine pureQ 2 (some 27) (tk 3 7) (any_of HT_.out (by kernel_rfl)) ?_
            refine pureQ 3 (some 28) (tk 4 6) (any_of HT_.out (by kernel_rfl)) ?_
            refine pureQ 4 (some 29) (tk 5 5) (any_of HT_.out (by kernel_rfl)) ?_
            refine pureQ 5 (some 30) (tk 6 4) (any_of HT_.out (by kernel_rfl)) ?_
            refine one_ (i:=6) (N:=some 31) (tk 7 3) rfl rfl (one_of HT_.out (by kernel_rfl)) (by decide) (fun K hK=>?_)
            refine goes_ Try.func106 (by kernel_rfl) rfl #[.string ((rs_.extract 1 rs_.size) ++ (rs_.extract 0 1))] (by rfl) rfl rfl (by (try simp only [List.map_toArray,List.map_cons,List.map_nil]);first | done | (simp only [hji5];rfl) | rfl | (simp only [List.length_drop,List.length_take];rfl)) ?_
            with_reducible refine (pixel_four.calls ((rs_.extract 1 rs_.size) ++ (rs_.extract 0 1)) t262 t263 t264 t265 _ A13.out).mono ?_
            rintro e w16 ⟨rfl,hb⟩
            refine ⟨_,rfl,?_⟩
            have n0_:=rk HO_6 hb
            have n1_:=hs HB hb
            clear HO_6
            clear HB
            have HO_6:=n0_
            have HB:=n1_
            clear n0_ n1_
            (try clear hb)
            (try clear hb2)
            (try clear hk)
            (try clear hi)
            refine hK.out _ _ trivial (fun hHeld=>?_)
            clear hK K
            refine norm_ (a':=?_) ?_ ?_
            rotate_left
            ·show Act.put _ (some 31) _=_
             simp only [Act.put,List.setIfInBounds_toArray,List.set_cons_zero,List.set_cons_succ,i64_w,i32_w]
             rfl
            refine one_ (i:=7) (N:=some 32) (tk 8 2) rfl rfl (one_of HT_.out (by kernel_rfl)) (by decide) (fun K hK=>?_)
            refine value_ (w1:=?_) (v:=?_) (by rfl) rfl ?_ ?_
            rotate_left 2
            ·go_simp
             constructor
             ·rfl
             ·rfl
            refine hK.out _ _ trivial (fun hHeld=>?_)
            clear hK K
            refine norm_ (a':=?_) ?_ ?_
            rotate_left
            ·show Act.put _ (some 32) _=_
             simp only [Act.put,List.setIfInBounds_toArray,List.set_cons_zero,List.set_cons_succ,i64_w,i32_w]
             rfl
            refine one_ (i:=8) (N:=some 33) (tk 9 1) rfl rfl (one_of HT_.out (by kernel_rfl)) (by decide) (fun K hK=>?_)
            refine Kd.R_append_step k89 (w0:=w) w.heap.size (by rfl) (.tmp 25) (.tmp 32) 74 89 (.agg #[(.int .i64 0),(.int .i64 0),(.int .i64 0),(.int .i64 0)]) 32 rfl Try.underlying74 info89 rfl (by decide) (by omega) u6 x6_1 (⟨t262,t263,t264,t265⟩:S89) [.int .i64 t262,.int .i64 t263,.int .i64 t264,.int .i64 t265] (fun _=>True) (fun _=>False) rfl rfl ?aP (fun _ hk=>hk.elim) ?aF ?aO ?aB ?aS ?aL ?_
            (case aP=>exact k89_mkM _ _ _ (⟨t262,t263,t264,t265⟩:S89))
            (case aB=>exact (hn HB))
            (case aF=>exact (fun _ _=>trivial))
            (case aO=>exact (by (with_reducible repeat (first | apply Kd.R_alloc | apply Kd.R_drewN | apply Kd.R_drew));exact HO_6.out))
            (case aS=>exact (below_size (hn HB)))
            (case aL=>have:=LMc14.out;omega)
            intro v267 w17 ho hb hg hat
            rw [← Ny266.out] at ho
            have n0_:=Aside0.mk (hb)
            have n1_:=Aside0.mk (ho)
            clear HB
            clear HO_6
            have HB:=n0_
            have HO268:=n1_
            clear n0_ n1_
            clear ho hb hg hat
            refine hK.out _ _ trivial (fun hHeld=>?_)
            clear hK K
            refine norm_ (a':=?_) ?_ ?_
            rotate_left
            ·show Act.put _ (some 33) _=_
             simp only [Act.put,List.setIfInBounds_toArray,List.set_cons_zero,List.set_cons_succ,i64_w,i32_w]
             rfl
            refine pureQ 9 (some 6) (tk 10 0) (any_of HT_.out (by kernel_rfl)) ?_
            refine done_ (done_of HT_.out (by kernel_rfl)) ?_
            try go_wp2
            go_roundg k1
            case measure=>have:=HK1.out;omega
            case rel=>exact ⟨(y266),(wrap64 (x15_1+1)),(by first | rfl | (simp;done) | (simp [*];done)),H',⟨by have:=HK1.out;omega⟩,⟨by (with_reducible repeat (first | apply Kd.R_alloc | apply Kd.R_drewN | apply Kd.R_drew));exact HO268.out⟩,⟨hn HB⟩⟩
           ·rw [if_neg c14] at H
            exact absurd H (by simp)
          ·rw [if_neg c12] at H
           exact absurd H (by simp)
         ·rw [if_neg c10] at H
          exact absurd H (by simp)
        ·rw [if_neg c9] at H
         exact absurd H (by simp)
       ·rw [if_neg c8] at H
        exact absurd H (by simp)
      ·rw [if_neg c7] at H
       exact absurd H (by simp)
     ·rw [if_neg c6] at H
      exact absurd H (by simp)
    ·rw [if_neg c4] at H
     have c4b0:decide (x15_1 < a1)=false:=decide_eq_false c4
     clear c4
     simp only [Option.some.injEq,Prod.mk.injEq] at H
     obtain ⟨rfl,rfl⟩:=H
     go_wp2
     go_ret2
     exact ⟨_,by first | rfl | (simp [errW_none,errW_some] <;> rfl) | (simp [*,errW_none,errW_some] <;> rfl),by (with_reducible repeat (first | apply Kd.R_alloc | apply Kd.R_drewN | apply Kd.R_drew));exact HO_6.out,hn HB⟩
 ·rw [if_neg c3] at H
  have c3b0:((a0.size:Int) == (wrap64 (4*a1)))=false:=beq_eq_false_iff_ne.mpr c3
  have c3b1:((a0.size:Int) != (wrap64 (4*a1)))=true:=bne_iff_ne.mpr c3
  simp only [Option.some.injEq,Prod.mk.injEq] at H
  obtain ⟨rfl,rfl⟩:=H
  go_enter Try.func85,Try.ntmps85
  go_wp2
  go_ret2
  exact ⟨_,by first | rfl | (simp [errW_none,errW_some] <;> rfl) | (simp [*,errW_none,errW_some] <;> rfl),by first | exact Kd.R_nil _ _ _ _ _ | exact Kd.N_nil _ _ _ _ _ | exact Kd.V_nil _ _ _ _ _ | exact Kd.Q_nil _ _ _ _ _ | exact Kd.S_nil _ _ _ _ _,hn HB⟩
def celluloidlaw11_ref.f (a0_0:Int) (a0_1:Int) (a0_2:Int) (l0_3:List (S89)):Option (Int × Int × Int × (List (S89))):=some (a0_0,a0_1,a0_2,l0_3)
set_option maxHeartbeats 8000000 in
set_option maxRecDepth 100000 in
theorem celluloidlaw11_ref.calls (a0_0 : Int) (a0_1 : Int) (a0_2 : Int) (P0_3_ : Nat → Prop) (u9000_ : Value) (l0_3 : List (S89)) (r1 : Int) (r2 : Int) (r3 : Int) (r4 : List (S89)) (w0 w : World) (hB : Below w0.heap.size w0 w) (ho0_3 : Kd.R k89 89 w w0.heap.size P0_3_ u9000_ l0_3) (h : celluloidlaw11_ref.f a0_0 a0_1 a0_2 l0_3 = some (r1, r2, r3, r4)) :
  Calls Try.prog 52 #[.agg #[.int .i64 a0_0,.int .i64 a0_1,.int .i64 a0_2,u9000_]] w fun e w'=>∃ v3_:Value,e=.returned (.agg #[.int .i64 r1,.int .i64 r2,.int .i64 r3,v3_])∧Kd.R k89 89 w' w0.heap.size (fun k_=>(P0_3_ k_ ∨ w.heap.size≤k_)) v3_ r4∧Below w0.heap.size w0 w'∧Kept w w' (fun k_=>P0_3_ k_):=by
 have hu76:=Try.underlying76
 have hu79:=Try.underlying79
 have HO0_3:=Aside0.mk (show Kd.R k89 89 w w0.heap.size (fun k_=>(P0_3_ k_ ∨ w.heap.size≤k_)) u9000_ l0_3 from Kd.R_mono ho0_3 (fun k_ hk=>(.inl hk)))
 have HK:=Aside0.mk (Kept.refl w (fun k_=>P0_3_ k_))
 have HW0:=Aside0.mk hB.size
 have HB:=Aside0.mk hB
 clear hB
 have H:(some (a0_0,a0_1,a0_2,l0_3))=some (r1,r2,r3,r4):=h
 clear h
 simp only [Option.some.injEq,Prod.mk.injEq] at H
 obtain ⟨rfl,rfl,rfl,rfl⟩:=H
 obtain ⟨Ao2,co2,eo2⟩:=Kd.R_slice HO0_3.out
 subst eo2
 go_enter Try.func52,Try.ntmps52
 go_wp2_with (first | ((with_reducible refine gate_dst (N:=1) rfl ?_);refine boxQ 1 #[.int .i64 a0_0,.int .i64 a0_1,.int .i64 a0_2,.slice Ao2 l0_3.length co2] 76 ?_;intro gb292 hg w3 hbox hb;have n0_:=rk HO0_3 hb;have n1_:=Aside0.mk (Kept.below (S:=(fun k_=>P0_3_ k_)) (by repeat (first | (with_reducible first | exact HK.out | apply Kept.alloc | apply Kept.drewN | apply Kept.drew) | exact HK.out)) hb);have n2_:=hs HB hb;have n3_:=Aside0.mk (hbox);have n4_:=Aside0.mk ((by rw [hg];exact (by first | exact HK.out.1 | exact (show Kept w _ (fun k_=>P0_3_ k_) from by repeat (first | (with_reducible first | exact HK.out | apply Kept.alloc | apply Kept.drewN | apply Kept.drew) | exact HK.out)).1):w.heap.size≤gb292));have n5_:=gs HB hg;clear HO0_3;clear HK;clear HB;have HO0_3:=n0_;have HK:=n1_;have HB:=n2_;have BK292:=n3_;have GW292:=n4_;have GE292:=n5_;clear n0_ n1_ n2_ n3_ n4_ n5_;clear hb hbox hg) | ((with_reducible refine gate_dst (N:=2) rfl ?_);refine boxQ 2 #[.int .i64 0,.int .i64 0,.int .i64 0,.slice none 0 0] 79 ?_;intro gb293 hg w4 hbox hb;have n0_:=rk HO0_3 hb;have n1_:=bb BK292 hb;have n2_:=Aside0.mk (Kept.below (S:=(fun k_=>P0_3_ k_)) (by repeat (first | (with_reducible first | exact HK.out | apply Kept.alloc | apply Kept.drewN | apply Kept.drew | refine Kept.setCell ?_ (.inr GW292.out) _) | exact HK.out)) hb);have n3_:=hs HB hb;have n4_:=Aside0.mk (hbox);have n5_:=Aside0.mk ((by rw [hg];exact (by first | exact HK.out.1 | exact (show Kept w _ (fun k_=>P0_3_ k_) from by repeat (first | (with_reducible first | exact HK.out | apply Kept.alloc | apply Kept.drewN | apply Kept.drew | refine Kept.setCell ?_ (.inr GW292.out) _) | exact HK.out)).1):w.heap.size≤gb293));have n6_:=gs HB hg;have n7_:=nl BK292 hg;have n8_:=ng BK292 hg;clear HO0_3;clear BK292;clear HK;clear HB;have HO0_3:=n0_;have BK292:=n1_;have HK:=n2_;have HB:=n3_;have BK293:=n4_;have GW293:=n5_;have GE293:=n6_;have NB292_293:=n7_;have NB293_292:=n8_;clear n0_ n1_ n2_ n3_ n4_ n5_ n6_ n7_ n8_;clear hb hbox hg;have hnb5:=NB292_293.out;have hnc5:=NB293_292.out;obtain ⟨hcz6_0,hcz6_1,hcz6_2,hcz6_3⟩:=cc4 BK292;obtain ⟨hfz6_0,hfz6_1,hfz6_2,hfz6_3⟩:=ff4 BK292;obtain ⟨hcz7_0,hcz7_1,hcz7_2,hcz7_3⟩:=cc4 BK293;obtain ⟨hfz7_0,hfz7_1,hfz7_2,hfz7_3⟩:=ff4 BK293))
 refine bodyPost_ret (results_cell_row rfl _ _ gb293 79 #[.int .i64 a0_0,.int .i64 a0_1,.int .i64 a0_2,.slice Ao2 l0_3.length co2] (0,0) _ rfl (bq BK293) Try.underlying79 rfl (by kernel_rfl)) rfl ?_
 exact ⟨_,by first | rfl | (simp [errW_none,errW_some] <;> rfl) | (simp [*,errW_none,errW_some] <;> rfl),by (with_reducible repeat (first | apply Kd.R_alloc | apply Kd.R_drewN | apply Kd.R_drew));exact Kd.R_mono (Kd.R_far (p:=⟨gb293,3,none⟩) (Kd.R_far (p:=⟨gb293,2,none⟩) (Kd.R_far (p:=⟨gb293,1,none⟩) (Kd.R_far (p:=⟨gb293,0,none⟩) (Kd.R_types HO0_3.out BK293.out (by decide)) (fun _ hk=>hk.2) (.int .i64 a0_0)) (fun _ hk=>hk.2) (.int .i64 a0_1)) (fun _ hk=>hk.2) (.int .i64 a0_2)) (fun _ hk=>hk.2) (.slice Ao2 l0_3.length co2)) (fun _ hk=>hk.1),hn HB,by repeat (first | (with_reducible first | exact HK.out | apply Kept.alloc | apply Kept.drewN | apply Kept.drew | refine Kept.setCell ?_ (.inr GW292.out) _ | refine Kept.setCell ?_ (.inr GW293.out) _) | exact HK.out)⟩
end Go.Proofs.Ytpbhkdamkbopkaa.GPix
namespace Go.Proofs.Ytpbhkdamkbopkaa.GPix
open Go.RowKit Go.Proofs.YtpbhkdamkbopkaaW.PrintWords Go.Proofs.YtpbhkdamkbopkaaW.PrintLast Go.Proofs.YtpbhkdamkbopkaaW.PrintMore Go.Proofs.Ytpbhkdamkbopkaa.Wr2 Go.Proofs.Ytpbhkdamkbopkaa.Wr1 Go.Proofs.Ytpbhkdamkbopkaa.GRuns Go.Proofs.Ytpbhkdamkbopkaa.GBack2
attribute [local go_sem] max2_int min2_int max_two min_two max_three min_three max_four min_four
set_option linter.unusedVariables false
set_option linter.unusedSimpArgs false
theorem eqA89 (d : Nat) (w : World) (x0 y0 : Int) (x1 y1 : Int) (x2 y2 : Int) (x3 y3 : Int) :
  (Op.equalIn (d+2) 89 (.agg #[.int .i64 x0,.int .i64 x1,.int .i64 x2,.int .i64 x3]) (.agg #[.int .i64 y0,.int .i64 y1,.int .i64 y2,.int .i64 y3])).run Try.prog w=.ok (x0 == y0 && (x1 == y1 && (x2 == y2 && (x3 == y3)))) w:=by
 refine eqA_of Try.underlying89 (by kernel_rfl) ?_
 refine eqf_cons (by rfl) (by go_simp;rfl) (by go_simp;rfl) (by go_simp) ?_
 refine eqf_cons (by rfl) (by go_simp;rfl) (by go_simp;rfl) (by go_simp) ?_
 refine eqf_cons (by rfl) (by go_simp;rfl) (by go_simp;rfl) (by go_simp) ?_
 exact eqf_last (by rfl) (by go_simp;rfl) (by go_simp;rfl) (by go_simp)
end Go.Proofs.Ytpbhkdamkbopkaa.GPix
namespace Go.Proofs.Ytpbhkdamkbopkaa.GPix
open Go.Proofs.Ytpbhkdamkbopkaa.Sq
open Go.RowKit Go.Proofs.YtpbhkdamkbopkaaW.PrintWords Go.Proofs.YtpbhkdamkbopkaaW.PrintLast Go.Proofs.YtpbhkdamkbopkaaW.PrintMore Go.Proofs.Ytpbhkdamkbopkaa.Wr2 Go.Proofs.Ytpbhkdamkbopkaa.Wr1 Go.Proofs.Ytpbhkdamkbopkaa.GRuns Go.Proofs.Ytpbhkdamkbopkaa.GBack2
attribute [local go_sem] max2_int min2_int max_two min_two max_three min_three max_four min_four
set_option linter.unusedVariables false
set_option linter.unusedSimpArgs false
attribute [local go_sem high] eqA89
mutual
def celluloidref11_Equal.j0:Nat → Bool → Int → Int → Int → List (S89) → Int → Int → Int → List (S89) → Option (Bool)
 |0,_,_,_,_,_,_,_,_,_=>none
 |k+1,x33,x295000,x295001,x295002,x295003,x296000,x296001,x296002,x296003=>if x33=true then (some false) else (celluloidref11_Equal.l0 k 0 x295000 x295001 x295002 x295003 x296000 x296001 x296002 x296003)
def celluloidref11_Equal.l0:Nat → Int → Int → Int → Int → List (S89) → Int → Int → Int → List (S89) → Option (Bool)
 |0,_,_,_,_,_,_,_,_,_=>none
 |k+1,x5,x295000,x295001,x295002,x295003,x296000,x296001,x296002,x296003=>if x5 < (x295003.length:Int) then (if 0≤x5 then (if x5 < (x296003.length:Int) then (if (!(((rd_T89 x295003 x5).f0) == ((rd_T89 x296003 x5).f0)) || (!(((rd_T89 x295003 x5).f1) == ((rd_T89 x296003 x5).f1)) || (!(((rd_T89 x295003 x5).f2) == ((rd_T89 x296003 x5).f2)) || (!(((rd_T89 x295003 x5).f3) == ((rd_T89 x296003 x5).f3))))))=true then (some false) else (celluloidref11_Equal.l0 k (wrap64 (x5+1)) x295000 x295001 x295002 x295003 x296000 x296001 x296002 x296003)) else (none)) else (none)) else (some true)
end
def celluloidref11_Equal.f (k:Nat) (a0_0:Int) (a0_1:Int) (a0_2:Int) (l0_3:List (S89)) (a1_0:Int) (a1_1:Int) (a1_2:Int) (l1_3:List (S89)):Option (Bool):=if a0_0=a1_0 then (if a0_1=a1_1 then (if a0_2=a1_2 then (celluloidref11_Equal.j0 k ((l0_3.length:Int) != (l1_3.length:Int)) a0_0 a0_1 a0_2 l0_3 a1_0 a1_1 a1_2 l1_3) else (celluloidref11_Equal.j0 k true a0_0 a0_1 a0_2 l0_3 a1_0 a1_1 a1_2 l1_3)) else (celluloidref11_Equal.j0 k true a0_0 a0_1 a0_2 l0_3 a1_0 a1_1 a1_2 l1_3)) else (celluloidref11_Equal.j0 k true a0_0 a0_1 a0_2 l0_3 a1_0 a1_1 a1_2 l1_3)
set_option maxHeartbeats 8000000 in
set_option maxRecDepth 100000 in
theorem celluloidref11_Equal.calls (k : Nat) (a0_0 : Int) (a0_1 : Int) (a0_2 : Int) (A0_3 : Option Addr) (c0_3 : Nat) (l0_3 : List (S89)) (a1_0 : Int) (a1_1 : Int) (a1_2 : Int) (A1_3 : Option Addr) (c1_3 : Nat) (l1_3 : List (S89)) (r : Bool) (w : World) (hr0_3 : Kd.C k89 w A0_3 l0_3.length l0_3) (hc0_3 : l0_3.length ≤ c0_3) (hr1_3 : Kd.C k89 w A1_3 l1_3.length l1_3) (hc1_3 : l1_3.length ≤ c1_3) (h : celluloidref11_Equal.f k a0_0 a0_1 a0_2 l0_3 a1_0 a1_1 a1_2 l1_3 = some r) :
  Calls Try.prog 56 #[.agg #[.int .i64 a0_0,.int .i64 a0_1,.int .i64 a0_2,.slice A0_3 l0_3.length c0_3],.agg #[.int .i64 a1_0,.int .i64 a1_1,.int .i64 a1_2,.slice A1_3 l1_3.length c1_3]] w fun e w'=>e=.returned (.bool r)∧Below w.heap.size w w':=by
 have hu79:=Try.underlying79
 have hu89:=Try.underlying89
 have HR0_3:=Aside0.mk hr0_3
 have HC0_3:=Aside0.mk hc0_3
 clear hr0_3 hc0_3
 have HR1_3:=Aside0.mk hr1_3
 have HC1_3:=Aside0.mk hc1_3
 clear hr1_3 hc1_3
 have HB:=Aside0.mk (Below.refl w.heap.size w)
 have H:(if a0_0=a1_0 then (if a0_1=a1_1 then (if a0_2=a1_2 then (celluloidref11_Equal.j0 k ((l0_3.length:Int) != (l1_3.length:Int)) a0_0 a0_1 a0_2 l0_3 a1_0 a1_1 a1_2 l1_3) else (celluloidref11_Equal.j0 k true a0_0 a0_1 a0_2 l0_3 a1_0 a1_1 a1_2 l1_3)) else (celluloidref11_Equal.j0 k true a0_0 a0_1 a0_2 l0_3 a1_0 a1_1 a1_2 l1_3)) else (celluloidref11_Equal.j0 k true a0_0 a0_1 a0_2 l0_3 a1_0 a1_1 a1_2 l1_3))=some r:=h
 clear h
 have HC3:=Aside0.mk H
 clear H
 go_enter Try.func56,Try.ntmps56
 go_upto_region 1 with (first | ((with_reducible refine gate_dst (N:=2) rfl ?_);(try (refine gate_guard (by rfl) ?_;dsimp only));refine boxQ 2 #[.int .i64 a0_0,.int .i64 a0_1,.int .i64 a0_2,.slice A0_3 l0_3.length c0_3] 79 ?_;intro gb294 hg w4 hbox hb;have n0_:=hs HB hb;have n1_:=Aside0.mk (hbox);have n2_:=gs HB hg;have n3_:=gs HB hg;clear HB;have HB:=n0_;have BK294:=n1_;have GW294:=n2_;have GE294:=n3_;clear n0_ n1_ n2_ n3_;clear hb hbox hg) | ((with_reducible refine gate_dst (N:=3) rfl ?_);(try (refine gate_guard (by rfl) ?_;dsimp only));refine boxQ 3 #[.int .i64 a1_0,.int .i64 a1_1,.int .i64 a1_2,.slice A1_3 l1_3.length c1_3] 79 ?_;intro gb295 hg w5 hbox hb;have n0_:=bb BK294 hb;have n1_:=hs HB hb;have n2_:=Aside0.mk (hbox);have n3_:=gs HB hg;have n4_:=gs HB hg;have n5_:=nl BK294 hg;have n6_:=ng BK294 hg;clear BK294;clear HB;have BK294:=n0_;have HB:=n1_;have BK295:=n2_;have GW295:=n3_;have GE295:=n4_;have NB294_295:=n5_;have NB295_294:=n6_;clear n0_ n1_ n2_ n3_ n4_ n5_ n6_;clear hb hbox hg))
 repeat (go_quiet (first | ((with_reducible refine gate_dst (N:=2) rfl ?_);(try (refine gate_guard (by rfl) ?_;dsimp only));refine boxQ 2 #[.int .i64 a0_0,.int .i64 a0_1,.int .i64 a0_2,.slice A0_3 l0_3.length c0_3] 79 ?_;intro gb294 hg w4 hbox hb;have n0_:=hs HB hb;have n1_:=Aside0.mk (hbox);have n2_:=gs HB hg;have n3_:=gs HB hg;clear HB;have HB:=n0_;have BK294:=n1_;have GW294:=n2_;have GE294:=n3_;clear n0_ n1_ n2_ n3_;clear hb hbox hg) | ((with_reducible refine gate_dst (N:=3) rfl ?_);(try (refine gate_guard (by rfl) ?_;dsimp only));refine boxQ 3 #[.int .i64 a1_0,.int .i64 a1_1,.int .i64 a1_2,.slice A1_3 l1_3.length c1_3] 79 ?_;intro gb295 hg w5 hbox hb;have n0_:=bb BK294 hb;have n1_:=hs HB hb;have n2_:=Aside0.mk (hbox);have n3_:=gs HB hg;have n4_:=gs HB hg;have n5_:=nl BK294 hg;have n6_:=ng BK294 hg;clear BK294;clear HB;have BK294:=n0_;have HB:=n1_;have BK295:=n2_;have GW295:=n3_;have GE295:=n4_;have NB294_295:=n5_;have NB295_294:=n6_;clear n0_ n1_ n2_ n3_ n4_ n5_ n6_;clear hb hbox hg));go_upto_region 1 with (first | ((with_reducible refine gate_dst (N:=2) rfl ?_);(try (refine gate_guard (by rfl) ?_;dsimp only));refine boxQ 2 #[.int .i64 a0_0,.int .i64 a0_1,.int .i64 a0_2,.slice A0_3 l0_3.length c0_3] 79 ?_;intro gb294 hg w4 hbox hb;have n0_:=hs HB hb;have n1_:=Aside0.mk (hbox);have n2_:=gs HB hg;have n3_:=gs HB hg;clear HB;have HB:=n0_;have BK294:=n1_;have GW294:=n2_;have GE294:=n3_;clear n0_ n1_ n2_ n3_;clear hb hbox hg) | ((with_reducible refine gate_dst (N:=3) rfl ?_);(try (refine gate_guard (by rfl) ?_;dsimp only));refine boxQ 3 #[.int .i64 a1_0,.int .i64 a1_1,.int .i64 a1_2,.slice A1_3 l1_3.length c1_3] 79 ?_;intro gb295 hg w5 hbox hb;have n0_:=bb BK294 hb;have n1_:=hs HB hb;have n2_:=Aside0.mk (hbox);have n3_:=gs HB hg;have n4_:=gs HB hg;have n5_:=nl BK294 hg;have n6_:=ng BK294 hg;clear BK294;clear HB;have BK294:=n0_;have HB:=n1_;have BK295:=n2_;have GW295:=n3_;have GE295:=n4_;have NB294_295:=n5_;have NB295_294:=n6_;clear n0_ n1_ n2_ n3_ n4_ n5_ n6_;clear hb hbox hg)))
 (try simp only [Act.put,List.setIfInBounds_toArray,List.set_cons_zero,List.set_cons_succ])
 go_cut [33] (fun v33 wc=>∃ (kq:Nat) (x33_2:Bool),v33=.bool x33_2∧Aside0 (celluloidref11_Equal.j0 kq x33_2 a0_0 a0_1 a0_2 l0_3 a1_0 a1_1 a1_2 l1_3=some r)∧Aside0 (kq≤k)∧Aside0 (wc.heap[gb294]?=some (.cells #[.int .i64 a0_0,.int .i64 a0_1,.int .i64 a0_2,(.slice A0_3 l0_3.length c0_3)] 79 (0,0)))∧Aside0 (wc.heap[gb295]?=some (.cells #[.int .i64 a1_0,.int .i64 a1_1,.int .i64 a1_2,(.slice A1_3 l1_3.length c1_3)] 79 (0,0)))∧Aside0 (Below w.heap.size w wc))
 case first =>
  have H:=HC3.out
  clear HC3
  by_cases c6:a0_0=a1_0
  ·rw [if_pos c6] at H
   have c6b0:(a0_0 == a1_0)=true:=beq_iff_eq.mpr c6
   have c6b1:(a0_0 != a1_0)=false:=bne_eq_false_iff_eq.mpr c6
   clear c6
   (first | rw [c6b0] | (simp only [i64_w,i32_w];rw [c6b0]) | skip)
   by_cases c7:a0_1=a1_1
   ·rw [if_pos c7] at H
    have c7b0:(a0_1 == a1_1)=true:=beq_iff_eq.mpr c7
    have c7b1:(a0_1 != a1_1)=false:=bne_eq_false_iff_eq.mpr c7
    clear c7
    by_cases c8:a0_2=a1_2
    ·rw [if_pos c8] at H
     have c8b0:(a0_2 == a1_2)=true:=beq_iff_eq.mpr c8
     have c8b1:(a0_2 != a1_2)=false:=bne_eq_false_iff_eq.mpr c8
     clear c8
     have H':=Aside0.mk H
     clear H
     have hnb9:=NB294_295.out
     have hnc9:=NB295_294.out
     obtain ⟨hcz10_0,hcz10_1,hcz10_2,hcz10_3⟩:=cc4 BK294
     obtain ⟨hfz10_0,hfz10_1,hfz10_2,hfz10_3⟩:=ff4 BK294
     obtain ⟨hcz11_0,hcz11_1,hcz11_2,hcz11_3⟩:=cc4 BK295
     obtain ⟨hfz11_0,hfz11_1,hfz11_2,hfz11_3⟩:=ff4 BK295
     go_wp2
     repeat (go_quiet (fail);try go_wp2)
     go_meet
     case rel=>exact ⟨_,(((l0_3.length:Int) != (l1_3.length:Int))),(by first | rfl | (simp;done) | (simp [*];done)),H',⟨by first | omega | exact Nat.le_refl _⟩,⟨by (with_reducible repeat (first | refine blk_drewN ?_ _ | refine blk_drew ?_ | refine blk_alloc ?_ _));exact BK294.out⟩,⟨by (with_reducible repeat (first | refine blk_drewN ?_ _ | refine blk_drew ?_ | refine blk_alloc ?_ _));exact BK295.out⟩,⟨hn HB⟩⟩
    ·rw [if_neg c8] at H
     have c8b0:(a0_2 == a1_2)=false:=beq_eq_false_iff_ne.mpr c8
     have c8b1:(a0_2 != a1_2)=true:=bne_iff_ne.mpr c8
     have H':=Aside0.mk H
     clear H
     have hnb12:=NB294_295.out
     have hnc12:=NB295_294.out
     obtain ⟨hcz13_0,hcz13_1,hcz13_2,hcz13_3⟩:=cc4 BK294
     obtain ⟨hfz13_0,hfz13_1,hfz13_2,hfz13_3⟩:=ff4 BK294
     obtain ⟨hcz14_0,hcz14_1,hcz14_2,hcz14_3⟩:=cc4 BK295
     obtain ⟨hfz14_0,hfz14_1,hfz14_2,hfz14_3⟩:=ff4 BK295
     go_wp2
     repeat (go_quiet (fail);try go_wp2)
     go_meet
     case rel=>exact ⟨_,(true),(by first | rfl | (simp;done) | (simp [*];done)),H',⟨by first | omega | exact Nat.le_refl _⟩,⟨by (with_reducible repeat (first | refine blk_drewN ?_ _ | refine blk_drew ?_ | refine blk_alloc ?_ _));exact BK294.out⟩,⟨by (with_reducible repeat (first | refine blk_drewN ?_ _ | refine blk_drew ?_ | refine blk_alloc ?_ _));exact BK295.out⟩,⟨hn HB⟩⟩
   ·rw [if_neg c7] at H
    have c7b0:(a0_1 == a1_1)=false:=beq_eq_false_iff_ne.mpr c7
    have c7b1:(a0_1 != a1_1)=true:=bne_iff_ne.mpr c7
    have H':=Aside0.mk H
    clear H
    have hnb15:=NB294_295.out
    have hnc15:=NB295_294.out
    obtain ⟨hcz16_0,hcz16_1,hcz16_2,hcz16_3⟩:=cc4 BK294
    obtain ⟨hfz16_0,hfz16_1,hfz16_2,hfz16_3⟩:=ff4 BK294
    obtain ⟨hcz17_0,hcz17_1,hcz17_2,hcz17_3⟩:=cc4 BK295
    obtain ⟨hfz17_0,hfz17_1,hfz17_2,hfz17_3⟩:=ff4 BK295
    go_wp2
    repeat (go_quiet (fail);try go_wp2)
    go_meet
    case rel=>exact ⟨_,(true),(by first | rfl | (simp;done) | (simp [*];done)),H',⟨by first | omega | exact Nat.le_refl _⟩,⟨by (with_reducible repeat (first | refine blk_drewN ?_ _ | refine blk_drew ?_ | refine blk_alloc ?_ _));exact BK294.out⟩,⟨by (with_reducible repeat (first | refine blk_drewN ?_ _ | refine blk_drew ?_ | refine blk_alloc ?_ _));exact BK295.out⟩,⟨hn HB⟩⟩
  ·rw [if_neg c6] at H
   have c6b0:(a0_0 == a1_0)=false:=beq_eq_false_iff_ne.mpr c6
   have c6b1:(a0_0 != a1_0)=true:=bne_iff_ne.mpr c6
   (first | rw [c6b0] | (simp only [i64_w,i32_w];rw [c6b0]) | skip)
   have H':=Aside0.mk H
   clear H
   have hnb18:=NB294_295.out
   have hnc18:=NB295_294.out
   obtain ⟨hcz19_0,hcz19_1,hcz19_2,hcz19_3⟩:=cc4 BK294
   obtain ⟨hfz19_0,hfz19_1,hfz19_2,hfz19_3⟩:=ff4 BK294
   obtain ⟨hcz20_0,hcz20_1,hcz20_2,hcz20_3⟩:=cc4 BK295
   obtain ⟨hfz20_0,hfz20_1,hfz20_2,hfz20_3⟩:=ff4 BK295
   go_wp2
   repeat (go_quiet (fail);try go_wp2)
   go_meet
   case rel=>exact ⟨_,(true),(by first | rfl | (simp;done) | (simp [*];done)),H',⟨by first | omega | exact Nat.le_refl _⟩,⟨by (with_reducible repeat (first | refine blk_drewN ?_ _ | refine blk_drew ?_ | refine blk_alloc ?_ _));exact BK294.out⟩,⟨by (with_reducible repeat (first | refine blk_drewN ?_ _ | refine blk_drew ?_ | refine blk_alloc ?_ _));exact BK295.out⟩,⟨hn HB⟩⟩
 case rest =>
  clear HC3
  try clear c1
  try clear p2
  try clear c5
  try clear c6
  try clear c6b0
  try clear c6b1
  try clear c7
  try clear c7b0
  try clear c7b1
  try clear c8
  try clear c8b0
  try clear c8b1
  try clear c9
  try clear c12
  try clear c15
  try clear c18
  try clear hcz10_0
  try clear hcz10_1
  try clear hcz10_2
  try clear hcz10_3
  try clear hcz11_0
  try clear hcz11_1
  try clear hcz11_2
  try clear hcz11_3
  try clear hcz13_0
  try clear hcz13_1
  try clear hcz13_2
  try clear hcz13_3
  try clear hcz14_0
  try clear hcz14_1
  try clear hcz14_2
  try clear hcz14_3
  try clear hcz16_0
  try clear hcz16_1
  try clear hcz16_2
  try clear hcz16_3
  try clear hcz17_0
  try clear hcz17_1
  try clear hcz17_2
  try clear hcz17_3
  try clear hcz19_0
  try clear hcz19_1
  try clear hcz19_2
  try clear hcz19_3
  try clear hcz20_0
  try clear hcz20_1
  try clear hcz20_2
  try clear hcz20_3
  try clear hfz10_0
  try clear hfz10_1
  try clear hfz10_2
  try clear hfz10_3
  try clear hfz11_0
  try clear hfz11_1
  try clear hfz11_2
  try clear hfz11_3
  try clear hfz13_0
  try clear hfz13_1
  try clear hfz13_2
  try clear hfz13_3
  try clear hfz14_0
  try clear hfz14_1
  try clear hfz14_2
  try clear hfz14_3
  try clear hfz16_0
  try clear hfz16_1
  try clear hfz16_2
  try clear hfz16_3
  try clear hfz17_0
  try clear hfz17_1
  try clear hfz17_2
  try clear hfz17_3
  try clear hfz19_0
  try clear hfz19_1
  try clear hfz19_2
  try clear hfz19_3
  try clear hfz20_0
  try clear hfz20_1
  try clear hfz20_2
  try clear hfz20_3
  obtain ⟨kq,x33_2,rfl,HA,HJ2,BK294,BK295,HB⟩:=hcut
  cases kq with
  |zero=>exact absurd HA.out (by simp [celluloidref11_Equal.j0])
  |succ kj2 =>
   have H:=HA.out
   clear HA
   simp only [celluloidref11_Equal.j0] at H
   by_cases c21:x33_2=true
   ·subst c21
    have H1:(some false)=some r:=by rw [if_pos rfl] at H;exact H
    clear H
    have H:=H1
    clear H1
    obtain rfl:=Option.some.inj H
    go_wp2
    repeat (go_quiet (fail);try go_wp2)
    go_ret
    exact ⟨by first | rfl | (simp [errW_none,errW_some] <;> rfl) | (simp [*,errW_none,errW_some] <;> rfl),hn HB⟩
   ·replace c21:=Bool.eq_false_iff.mpr c21
    subst c21
    have H1:(celluloidref11_Equal.l0 kj2 0 a0_0 a0_1 a0_2 l0_3 a1_0 a1_1 a1_2 l1_3)=some r:=by rw [if_neg (show ¬ (false=true) by decide)] at H;exact H
    clear H
    have H:=H1
    clear H1
    have H':=Aside0.mk H
    clear H
    go_wp2
    repeat (go_quiet (fail);try go_wp2)
    go_loopg [5] kj2 (fun kq v5 w'=>∃ (x5_2:Int),v5=.int .i64 x5_2∧Aside0 (celluloidref11_Equal.l0 kq x5_2 a0_0 a0_1 a0_2 l0_3 a1_0 a1_1 a1_2 l1_3=some r)∧Aside0 (kq≤kj2)∧Aside0 (w'.heap[gb294]?=some (.cells #[.int .i64 a0_0,.int .i64 a0_1,.int .i64 a0_2,(.slice A0_3 l0_3.length c0_3)] 79 (0,0)))∧Aside0 (w'.heap[gb295]?=some (.cells #[.int .i64 a1_0,.int .i64 a1_1,.int .i64 a1_2,(.slice A1_3 l1_3.length c1_3)] 79 (0,0)))∧Aside0 (Below w.heap.size w w'))
    case atStart=>exact ⟨(0),(by first | rfl | (simp;done) | (simp [*];done)),H',⟨Nat.le_refl _⟩,⟨by (with_reducible repeat (first | refine blk_drewN ?_ _ | refine blk_drew ?_ | refine blk_alloc ?_ _));exact BK294.out⟩,⟨by (with_reducible repeat (first | refine blk_drewN ?_ _ | refine blk_drew ?_ | refine blk_alloc ?_ _));exact BK295.out⟩,⟨hn HB⟩⟩
    case round =>
     clear H'
     try clear c1
     try clear c2
     try clear p2
     try clear c5
     try clear c6
     try clear c6b0
     try clear c6b1
     try clear c7
     try clear c7b0
     try clear c7b1
     try clear c8
     try clear c8b0
     try clear c8b1
     try clear c9
     try clear c12
     try clear c15
     try clear c18
     try clear c21
     try clear hcz10_0
     try clear hcz10_1
     try clear hcz10_2
     try clear hcz10_3
     try clear hcz11_0
     try clear hcz11_1
     try clear hcz11_2
     try clear hcz11_3
     try clear hcz13_0
     try clear hcz13_1
     try clear hcz13_2
     try clear hcz13_3
     try clear hcz14_0
     try clear hcz14_1
     try clear hcz14_2
     try clear hcz14_3
     try clear hcz16_0
     try clear hcz16_1
     try clear hcz16_2
     try clear hcz16_3
     try clear hcz17_0
     try clear hcz17_1
     try clear hcz17_2
     try clear hcz17_3
     try clear hcz19_0
     try clear hcz19_1
     try clear hcz19_2
     try clear hcz19_3
     try clear hcz20_0
     try clear hcz20_1
     try clear hcz20_2
     try clear hcz20_3
     try clear hfz10_0
     try clear hfz10_1
     try clear hfz10_2
     try clear hfz10_3
     try clear hfz11_0
     try clear hfz11_1
     try clear hfz11_2
     try clear hfz11_3
     try clear hfz13_0
     try clear hfz13_1
     try clear hfz13_2
     try clear hfz13_3
     try clear hfz14_0
     try clear hfz14_1
     try clear hfz14_2
     try clear hfz14_3
     try clear hfz16_0
     try clear hfz16_1
     try clear hfz16_2
     try clear hfz16_3
     try clear hfz17_0
     try clear hfz17_1
     try clear hfz17_2
     try clear hfz17_3
     try clear hfz19_0
     try clear hfz19_1
     try clear hfz19_2
     try clear hfz19_3
     try clear hfz20_0
     try clear hfz20_1
     try clear hfz20_2
     try clear hfz20_3
     try clear p2
     obtain ⟨x5_2,rfl,HA,HK2,BK294,BK295,HB⟩:=hrel
     cases gk with
     |zero=>exact absurd HA.out (by simp [celluloidref11_Equal.l0])
     |succ k2 =>
      have H:=HA.out
      clear HA
      simp only [celluloidref11_Equal.l0] at H
      by_cases c22:x5_2 < (l0_3.length:Int)
      ·rw [if_pos c22] at H
       have c22b0:decide (x5_2 < (l0_3.length:Int))=true:=decide_eq_true c22
       clear c22
       by_cases c23:0≤x5_2
       ·rw [if_pos c23] at H
        have c23b0:decide (0≤x5_2)=true:=decide_eq_true c23
        clear c23
        by_cases c24:x5_2 < (l1_3.length:Int)
        ·rw [if_pos c24] at H
         have c24b0:decide (x5_2 < (l1_3.length:Int))=true:=decide_eq_true c24
         clear c24
         by_cases c25:(!(((rd_T89 l0_3 x5_2).f0) == ((rd_T89 l1_3 x5_2).f0)) || (!(((rd_T89 l0_3 x5_2).f1) == ((rd_T89 l1_3 x5_2).f1)) || (!(((rd_T89 l0_3 x5_2).f2) == ((rd_T89 l1_3 x5_2).f2)) || (!(((rd_T89 l0_3 x5_2).f3) == ((rd_T89 l1_3 x5_2).f3))))))=true
         ·rw [if_pos c25] at H
          have c25b0:(!(((rd_T89 l0_3 x5_2).f0) == ((rd_T89 l1_3 x5_2).f0)) || (!(((rd_T89 l0_3 x5_2).f1) == ((rd_T89 l1_3 x5_2).f1)) || (!(((rd_T89 l0_3 x5_2).f2) == ((rd_T89 l1_3 x5_2).f2)) || (!(((rd_T89 l0_3 x5_2).f3) == ((rd_T89 l1_3 x5_2).f3))))))=true:=c25
          clear c25
          obtain rfl:=Option.some.inj H
          have hnb26:=NB294_295.out
          have hnc26:=NB295_294.out
          obtain ⟨hcz27_0,hcz27_1,hcz27_2,hcz27_3⟩:=cc4 BK294
          obtain ⟨hfz27_0,hfz27_1,hfz27_2,hfz27_3⟩:=ff4 BK294
          have p296:0≤(x5_2:Int):=of_decide_eq_true (by first | (with_reducible assumption) | assumption)
          have q296:x5_2 < (l0_3.length:Int):=of_decide_eq_true (by first | (with_reducible assumption) | assumption)
          obtain ⟨ad296,e296,hx296_0,hx296_1,hx296_2,hx296_3⟩:=at_T89 HR0_3.out x5_2 p296 q296
          cases e296
          replace hx296_0:=(HB.out.cell (World.block_lt_of_cell? w _ hx296_0)).trans hx296_0
          replace hx296_1:=(HB.out.cell (World.block_lt_of_cell? w _ hx296_1)).trans hx296_1
          replace hx296_2:=(HB.out.cell (World.block_lt_of_cell? w _ hx296_2)).trans hx296_2
          replace hx296_3:=(HB.out.cell (World.block_lt_of_cell? w _ hx296_3)).trans hx296_3
          replace p296:=eq_true p296
          replace q296:=eq_true q296
          obtain ⟨hcz28_0,hcz28_1,hcz28_2,hcz28_3⟩:=cc4 BK295
          obtain ⟨hfz28_0,hfz28_1,hfz28_2,hfz28_3⟩:=ff4 BK295
          have p297:0≤(x5_2:Int):=of_decide_eq_true (by first | (with_reducible assumption) | assumption)
          have q297:x5_2 < (l1_3.length:Int):=of_decide_eq_true (by first | (with_reducible assumption) | assumption)
          obtain ⟨ad297,e297,hx297_0,hx297_1,hx297_2,hx297_3⟩:=at_T89 HR1_3.out x5_2 p297 q297
          cases e297
          replace hx297_0:=(HB.out.cell (World.block_lt_of_cell? w _ hx297_0)).trans hx297_0
          replace hx297_1:=(HB.out.cell (World.block_lt_of_cell? w _ hx297_1)).trans hx297_1
          replace hx297_2:=(HB.out.cell (World.block_lt_of_cell? w _ hx297_2)).trans hx297_2
          replace hx297_3:=(HB.out.cell (World.block_lt_of_cell? w _ hx297_3)).trans hx297_3
          replace p297:=eq_true p297
          replace q297:=eq_true q297
          go_wp2
          repeat (go_quiet (fail);try go_wp2)
          go_ret
          exact ⟨by first | rfl | (simp [errW_none,errW_some] <;> rfl) | (simp [*,errW_none,errW_some] <;> rfl),hn HB⟩
         ·rw [if_neg c25] at H
          have c25b0:(!(((rd_T89 l0_3 x5_2).f0) == ((rd_T89 l1_3 x5_2).f0)) || (!(((rd_T89 l0_3 x5_2).f1) == ((rd_T89 l1_3 x5_2).f1)) || (!(((rd_T89 l0_3 x5_2).f2) == ((rd_T89 l1_3 x5_2).f2)) || (!(((rd_T89 l0_3 x5_2).f3) == ((rd_T89 l1_3 x5_2).f3))))))=false:=by simpa using c25
          clear c25
          have H':=Aside0.mk H
          clear H
          have hnb29:=NB294_295.out
          have hnc29:=NB295_294.out
          obtain ⟨hcz30_0,hcz30_1,hcz30_2,hcz30_3⟩:=cc4 BK294
          obtain ⟨hfz30_0,hfz30_1,hfz30_2,hfz30_3⟩:=ff4 BK294
          have p296:0≤(x5_2:Int):=of_decide_eq_true (by first | (with_reducible assumption) | assumption)
          have q296:x5_2 < (l0_3.length:Int):=of_decide_eq_true (by first | (with_reducible assumption) | assumption)
          obtain ⟨ad296,e296,hx296_0,hx296_1,hx296_2,hx296_3⟩:=at_T89 HR0_3.out x5_2 p296 q296
          cases e296
          replace hx296_0:=(HB.out.cell (World.block_lt_of_cell? w _ hx296_0)).trans hx296_0
          replace hx296_1:=(HB.out.cell (World.block_lt_of_cell? w _ hx296_1)).trans hx296_1
          replace hx296_2:=(HB.out.cell (World.block_lt_of_cell? w _ hx296_2)).trans hx296_2
          replace hx296_3:=(HB.out.cell (World.block_lt_of_cell? w _ hx296_3)).trans hx296_3
          replace p296:=eq_true p296
          replace q296:=eq_true q296
          obtain ⟨hcz31_0,hcz31_1,hcz31_2,hcz31_3⟩:=cc4 BK295
          obtain ⟨hfz31_0,hfz31_1,hfz31_2,hfz31_3⟩:=ff4 BK295
          have p297:0≤(x5_2:Int):=of_decide_eq_true (by first | (with_reducible assumption) | assumption)
          have q297:x5_2 < (l1_3.length:Int):=of_decide_eq_true (by first | (with_reducible assumption) | assumption)
          obtain ⟨ad297,e297,hx297_0,hx297_1,hx297_2,hx297_3⟩:=at_T89 HR1_3.out x5_2 p297 q297
          cases e297
          replace hx297_0:=(HB.out.cell (World.block_lt_of_cell? w _ hx297_0)).trans hx297_0
          replace hx297_1:=(HB.out.cell (World.block_lt_of_cell? w _ hx297_1)).trans hx297_1
          replace hx297_2:=(HB.out.cell (World.block_lt_of_cell? w _ hx297_2)).trans hx297_2
          replace hx297_3:=(HB.out.cell (World.block_lt_of_cell? w _ hx297_3)).trans hx297_3
          replace p297:=eq_true p297
          replace q297:=eq_true q297
          go_wp2
          repeat (go_quiet (fail);try go_wp2)
          go_roundg k2
          case measure=>have:=HJ2.out;have:=HK2.out;omega
          case rel=>exact ⟨(wrap64 (x5_2+1)),(by first | rfl | (simp;done) | (simp [*];done)),H',⟨by have:=HJ2.out;have:=HK2.out;omega⟩,⟨by (with_reducible repeat (first | refine blk_drewN ?_ _ | refine blk_drew ?_ | refine blk_alloc ?_ _));exact BK294.out⟩,⟨by (with_reducible repeat (first | refine blk_drewN ?_ _ | refine blk_drew ?_ | refine blk_alloc ?_ _));exact BK295.out⟩,⟨hn HB⟩⟩
        ·rw [if_neg c24] at H
         exact absurd H (by simp)
       ·rw [if_neg c23] at H
        exact absurd H (by simp)
      ·rw [if_neg c22] at H
       have c22b0:decide (x5_2 < (l0_3.length:Int))=false:=decide_eq_false c22
       clear c22
       obtain rfl:=Option.some.inj H
       have hnb32:=NB294_295.out
       have hnc32:=NB295_294.out
       obtain ⟨hcz33_0,hcz33_1,hcz33_2,hcz33_3⟩:=cc4 BK294
       obtain ⟨hfz33_0,hfz33_1,hfz33_2,hfz33_3⟩:=ff4 BK294
       go_wp2
       repeat (go_quiet (fail);try go_wp2)
       go_ret
       exact ⟨by first | rfl | (simp [errW_none,errW_some] <;> rfl) | (simp [*,errW_none,errW_some] <;> rfl),hn HB⟩
end Go.Proofs.Ytpbhkdamkbopkaa.GPix
