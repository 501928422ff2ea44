/- Parts of the proof, glued by a program of this session (wip/tools/claimfit.py). -/
import Derived.Test.YtpbhkdamkbopkaaMPTG
namespace Go.Proofs.Ytpbhkdamkbopkaa.GPixb
open Go.Proofs.Ytpbhkdamkbopkaa.Sq
open Go.RowKit Go.Proofs.YtpbhkdamkbopkaaW.PrintWords Go.Proofs.YtpbhkdamkbopkaaW.PrintLast Go.Proofs.YtpbhkdamkbopkaaW.PrintMore Go.Proofs.Ytpbhkdamkbopkaa.Wr2 Go.Proofs.Ytpbhkdamkbopkaa.Wr1 Go.Proofs.Ytpbhkdamkbopkaa.GRuns Go.Proofs.Ytpbhkdamkbopkaa.GBack2 Go.Proofs.Ytpbhkdamkbopkaa.GPix Go.Proofs.Ytpbhkdamkbopkaa.PR
attribute [local go_sem] max2_int min2_int max_two min_two max_three min_three max_four min_four
set_option linter.unusedVariables false
set_option linter.unusedSimpArgs false
set_option maxHeartbeats 8000000 in
set_option maxRecDepth 100000 in
theorem celluloidlaw11_PixelTable.calls (k:Nat) (a0:Int) (a1:Int) (a2:Int) (A3:Option Addr) (c3:Nat) (l3:List (S89)) (A4:Option Addr) (c4:Nat) (l4:List Int) (r:Bool) (w:World) (hr3:Kd.C k89 w A3 l3.length l3) (hc3:l3.length≤c3) (hr4:Kd.C (Kd.int .u8) w A4 l4.length l4) (hc4:l4.length≤c4) (h:celluloidlaw11_PixelTable.f k a0 a1 a2 l3 l4=some r) (hr_:Aside0 (r=true)) :
  Calls Try.prog 23 #[.int .u16 a0,.int .u8 a1,.int .u8 a2,.slice A3 l3.length c3,.slice A4 l4.length c4] w fun e w'=>e=.returned (.bool r)∧Below w.heap.size w w':=by
 have hu89:=Try.underlying89
 have hu76:=Try.underlying76
 have HR3:=Aside0.mk hr3
 have HC3:=Aside0.mk hc3
 clear hr3 hc3
 have HR4:=Aside0.mk hr4
 have HC4:=Aside0.mk hc4
 clear hr4 hc4
 have HB:=Aside0.mk (Below.refl w.heap.size w)
 have H:(if (l3.length:Int)=0 then (celluloidlaw11_PixelTable.j0 k a0 l3 l4 (wrap64 (1+(wrap64 (Int.tmod a1 20)))) (wrap64 (1+(wrap64 (Int.tmod a2 20)))) true) else (if (l3.length:Int) > 16 then (celluloidlaw11_PixelTable.j0 k a0 l3 l4 (wrap64 (1+(wrap64 (Int.tmod a1 20)))) (wrap64 (1+(wrap64 (Int.tmod a2 20)))) true) else (if (l4.length:Int)=0 then (celluloidlaw11_PixelTable.j0 k a0 l3 l4 (wrap64 (1+(wrap64 (Int.tmod a1 20)))) (wrap64 (1+(wrap64 (Int.tmod a2 20)))) true) else (celluloidlaw11_PixelTable.j0 k a0 l3 l4 (wrap64 (1+(wrap64 (Int.tmod a1 20)))) (wrap64 (1+(wrap64 (Int.tmod a2 20)))) (decide ((l4.length:Int) > 1000))))))=some r:=h
 clear h
 have HC6:=Aside0.mk H
 clear H
 go_enter Try.func23,Try.ntmps23
 go_upto_region 2 with (fail)
 go_cut [49] (fun v49 wc=>∃ (kq:Nat) (x49_5:Bool),v49=.bool x49_5∧Aside0 (celluloidlaw11_PixelTable.j0 kq a0 l3 l4 (wrap64 (1+(wrap64 (Int.tmod a1 20)))) (wrap64 (1+(wrap64 (Int.tmod a2 20)))) x49_5=some r)∧Aside0 (kq≤k)∧Aside0 (Below w.heap.size w wc))
 case first =>
  have H:=HC6.out
  clear HC6
  by_cases c7:(l3.length:Int)=0
  ·rw [if_pos c7] at H
   have c7b0:((l3.length:Int) == 0)=true:=beq_iff_eq.mpr c7
   have c7b1:((l3.length:Int) != 0)=false:=bne_eq_false_iff_eq.mpr c7
   clear c7
   (first | rw [c7b0] | (simp only [i64_w,i32_w];rw [c7b0]) | skip)
   have H':=Aside0.mk H
   clear H
   go_wp2
   go_meet
   case rel=>exact ⟨_,(true),(by first | rfl | (simp;done) | (simp [*];done)),H',⟨by first | omega | exact Nat.le_refl _⟩,⟨hn HB⟩⟩
  ·rw [if_neg c7] at H
   have c7b0:((l3.length:Int) == 0)=false:=beq_eq_false_iff_ne.mpr c7
   have c7b1:((l3.length:Int) != 0)=true:=bne_iff_ne.mpr c7
   have c7b2:¬ (l3=[]):=fun h_=>c7 (by rw [h_];rfl)
   (first | rw [c7b0] | (simp only [i64_w,i32_w];rw [c7b0]) | skip)
   by_cases c8:(l3.length:Int) > 16
   ·rw [if_pos c8] at H
    have c8b0:decide (16 < (l3.length:Int))=true:=decide_eq_true c8
    have c8b1:decide (16 < l3.length)=true:=decide_eq_true (by omega)
    clear c8
    have H':=Aside0.mk H
    clear H
    go_wp2
    go_meet
    case rel=>exact ⟨_,(true),(by first | rfl | (simp;done) | (simp [*];done)),H',⟨by first | omega | exact Nat.le_refl _⟩,⟨hn HB⟩⟩
   ·rw [if_neg c8] at H
    have c8b0:decide (16 < (l3.length:Int))=false:=decide_eq_false c8
    have c8b1:decide (16 < l3.length)=false:=decide_eq_false (by omega)
    clear c8
    by_cases c9:(l4.length:Int)=0
    ·rw [if_pos c9] at H
     have c9b0:((l4.length:Int) == 0)=true:=beq_iff_eq.mpr c9
     have c9b1:((l4.length:Int) != 0)=false:=bne_eq_false_iff_eq.mpr c9
     clear c9
     have H':=Aside0.mk H
     clear H
     go_wp2
     go_meet
     case rel=>exact ⟨_,(true),(by first | rfl | (simp;done) | (simp [*];done)),H',⟨by first | omega | exact Nat.le_refl _⟩,⟨hn HB⟩⟩
    ·rw [if_neg c9] at H
     have c9b0:((l4.length:Int) == 0)=false:=beq_eq_false_iff_ne.mpr c9
     have c9b1:((l4.length:Int) != 0)=true:=bne_iff_ne.mpr c9
     have c9b2:¬ (l4=[]):=fun h_=>c9 (by rw [h_];rfl)
     have H':=Aside0.mk H
     clear H
     go_wp2
     go_meet
     case rel=>exact ⟨_,(decide ((l4.length:Int) > 1000)),(by first | rfl | (simp;done) | (simp [*];done)),H',⟨by first | omega | exact Nat.le_refl _⟩,⟨hn HB⟩⟩
 case rest =>
  clear HC6
  try clear c2
  try clear p2
  try clear c3
  try clear c4
  try clear p6
  try clear c7
  try clear c7b0
  try clear c7b1
  try clear c7b2
  try clear c8
  try clear c8b0
  try clear c8b1
  try clear c9
  try clear c9b0
  try clear c9b1
  try clear c9b2
  obtain ⟨kq,x49_5,rfl,HA,HJ5,HB⟩:=hcut
  cases kq with
  |zero=>exact absurd HA.out (by simp [celluloidlaw11_PixelTable.j0])
  |succ kj5 =>
   have H:=HA.out
   clear HA
   simp only [celluloidlaw11_PixelTable.j0] at H
   by_cases c10:x49_5=true
   ·subst c10
    have H1:((celluloidlaw11_awake.f kj5).bind fun t327=>(some t327))=some r:=by rw [if_pos rfl] at H;exact H
    clear H
    have H:=H1
    clear H1
    replace H:=Option.bind_eq_some_iff.mp H
    obtain ⟨t327,A110,H⟩:=H
    replace H:(some t327)=some r:=H
    have A11:=Aside0.mk A110
    clear A110
    first
    |exact absurd (Option.some.inj H) (by rw [hr_.out];decide)
    |obtain rfl:=Option.some.inj H
     go_wp2_with (first | ((with_reducible refine gate_callee (f:=49) rfl ?_);refine goesQ (some 50) Try.func49 #[] ?_;(with_reducible refine (celluloidlaw11_awake.calls kj5  t327 _ A11.out).mono ?_);rintro e w12 ⟨rfl,hb⟩;refine ⟨_,rfl,?_⟩;have n0_:=hs HB hb;clear HB;have HB:=n0_;clear n0_;(try clear hb)))
     go_ret
     exact ⟨by first | rfl | (simp [errW_none,errW_some] <;> rfl) | (simp [*,errW_none,errW_some] <;> rfl),hn HB⟩
   ·replace c10:=Bool.eq_false_iff.mpr c10
    subst c10
    have H1:(celluloidlaw11_PixelTable.l0 kj5 a0 l3 l4 (wrap64 (1+(wrap64 (Int.tmod a1 20)))) (wrap64 (1+(wrap64 (Int.tmod a2 20)))) (⟨#[]⟩:ByteArray) l3 (l3.length:Int) 0)=some r:=by rw [if_neg (show ¬ (false=true) by decide)] at H;exact H
    clear H
    have H:=H1
    clear H1
    have H':=Aside0.mk H
    clear H
    go_wp2
    go_loopg [13,53] kj5 (fun kq v13 v53 w'=>∃ (x13_2:ByteArray) (x53_2:Int),v13=.string x13_2∧v53=.int .i64 x53_2∧Aside0 (celluloidlaw11_PixelTable.l0 kq a0 l3 l4 (wrap64 (1+(wrap64 (Int.tmod a1 20)))) (wrap64 (1+(wrap64 (Int.tmod a2 20)))) x13_2 l3 (l3.length:Int) x53_2=some r)∧Aside0 (kq≤kj5)∧Aside0 (Below w.heap.size w w'))
    case atStart=>exact ⟨((⟨#[]⟩:ByteArray)),(0),(by first | rfl | (simp;done) | (simp [*];done)),(by first | rfl | (simp;done) | (simp [*];done)),H',⟨Nat.le_refl _⟩,⟨hn HB⟩⟩
    case round =>
     clear H'
     try clear c1
     try clear c2
     try clear p2
     try clear c3
     try clear c4
     try clear p6
     try clear c7
     try clear c7b0
     try clear c7b1
     try clear c7b2
     try clear c8
     try clear c8b0
     try clear c8b1
     try clear c9
     try clear c9b0
     try clear c9b1
     try clear c9b2
     try clear c10
     try clear p2
     try clear p6
     obtain ⟨x13_2,x53_2,rfl,rfl,HA,HK2,HB⟩:=hrel
     cases gk with
     |zero=>exact absurd HA.out (by simp [celluloidlaw11_PixelTable.l0])
     |succ k2 =>
      have H:=HA.out
      clear HA
      simp only [celluloidlaw11_PixelTable.l0] at H
      by_cases c13:x53_2 < (l3.length:Int)
      ·rw [if_pos c13] at H
       have c13b0:decide (x53_2 < (l3.length:Int))=true:=decide_eq_true c13
       clear c13
       by_cases c14:0≤x53_2
       ·rw [if_pos c14] at H
        have c14b0:decide (0≤x53_2)=true:=decide_eq_true c14
        clear c14
        by_cases c15:x53_2 < (l3.length:Int)
        ·rw [if_pos c15] at H
         have c15b0:decide (x53_2 < (l3.length:Int))=true:=decide_eq_true c15
         clear c15
         by_cases c16:((rd_T89 l3 x53_2).f0) < 0
         ·rw [if_pos c16] at H
          have c16b0:decide (((rd_T89 l3 x53_2).f0) < 0)=true:=decide_eq_true c16
          clear c16
          replace H:=Option.bind_eq_some_iff.mp H
          obtain ⟨t330,A170,H⟩:=H
          replace H:(some t330)=some r:=H
          have A17:=Aside0.mk A170
          clear A170
          first
          |exact absurd (Option.some.inj H) (by rw [hr_.out];decide)
          |obtain rfl:=Option.some.inj H
           have p328:0≤(x53_2:Int):=of_decide_eq_true (by first | (with_reducible assumption) | assumption)
           have q328:x53_2 < (l3.length:Int):=of_decide_eq_true (by first | (with_reducible assumption) | assumption)
           obtain ⟨ad328,e328,hx328_0,hx328_1,hx328_2,hx328_3⟩:=at_T89 HR3.out x53_2 p328 q328
           cases e328
           replace hx328_0:=(HB.out.cell (World.block_lt_of_cell? w _ hx328_0)).trans hx328_0
           replace hx328_1:=(HB.out.cell (World.block_lt_of_cell? w _ hx328_1)).trans hx328_1
           replace hx328_2:=(HB.out.cell (World.block_lt_of_cell? w _ hx328_2)).trans hx328_2
           replace hx328_3:=(HB.out.cell (World.block_lt_of_cell? w _ hx328_3)).trans hx328_3
           replace p328:=eq_true p328
           replace q328:=eq_true q328
           go_wp2_with (first | ((with_reducible refine gate_dst (N:=15) rfl ?_);(try (refine gate_guard (by rfl) ?_;dsimp only));refine boxQ 15 #[.int .i64 0,.int .i64 0,.int .i64 0,.int .i64 0] 89 ?_;intro gb329 hg w18 hbox hb;have n0_:=hs HB hb;have n1_:=Aside0.mk (hbox);have n2_:=gs HB hg;have n3_:=gs HB hg;clear HB;have HB:=n0_;have BK329:=n1_;have GW329:=n2_;have GE329:=n3_;clear n0_ n1_ n2_ n3_;clear hb hbox hg;obtain ⟨hcz19_0,hcz19_1,hcz19_2,hcz19_3⟩:=cc4 BK329;obtain ⟨hfz19_0,hfz19_1,hfz19_2,hfz19_3⟩:=ff4 BK329) | ((with_reducible refine gate_callee (f:=49) rfl ?_);refine goesQ (some 96) Try.func49 #[] ?_;(with_reducible refine (celluloidlaw11_awake.calls k2  t330 _ A17.out).mono ?_);rintro e w20 ⟨rfl,hb⟩;refine ⟨_,rfl,?_⟩;have n0_:=bp #[.int .i64 ((rd_T89 l3 x53_2).f0),.int .i64 ((rd_T89 l3 x53_2).f1),.int .i64 ((rd_T89 l3 x53_2).f2),.int .i64 ((rd_T89 l3 x53_2).f3)] BK329 hb;have n1_:=hs HB hb;clear BK329;clear HB;have BK329:=n0_;have HB:=n1_;clear n0_ n1_;(try clear hb)))
           go_ret
           exact ⟨by first | rfl | (simp [errW_none,errW_some] <;> rfl) | (simp [*,errW_none,errW_some] <;> rfl),hn HB⟩
         ·rw [if_neg c16] at H
          have c16b0:decide (((rd_T89 l3 x53_2).f0) < 0)=false:=decide_eq_false c16
          clear c16
          by_cases c21:((rd_T89 l3 x53_2).f1) < 0
          ·rw [if_pos c21] at H
           have c21b0:decide (((rd_T89 l3 x53_2).f1) < 0)=true:=decide_eq_true c21
           clear c21
           replace H:=Option.bind_eq_some_iff.mp H
           obtain ⟨t331,A220,H⟩:=H
           replace H:(some t331)=some r:=H
           have A22:=Aside0.mk A220
           clear A220
           first
           |exact absurd (Option.some.inj H) (by rw [hr_.out];decide)
           |obtain rfl:=Option.some.inj H
            have p328:0≤(x53_2:Int):=of_decide_eq_true (by first | (with_reducible assumption) | assumption)
            have q328:x53_2 < (l3.length:Int):=of_decide_eq_true (by first | (with_reducible assumption) | assumption)
            obtain ⟨ad328,e328,hx328_0,hx328_1,hx328_2,hx328_3⟩:=at_T89 HR3.out x53_2 p328 q328
            cases e328
            replace hx328_0:=(HB.out.cell (World.block_lt_of_cell? w _ hx328_0)).trans hx328_0
            replace hx328_1:=(HB.out.cell (World.block_lt_of_cell? w _ hx328_1)).trans hx328_1
            replace hx328_2:=(HB.out.cell (World.block_lt_of_cell? w _ hx328_2)).trans hx328_2
            replace hx328_3:=(HB.out.cell (World.block_lt_of_cell? w _ hx328_3)).trans hx328_3
            replace p328:=eq_true p328
            replace q328:=eq_true q328
            go_wp2_with (first | ((with_reducible refine gate_dst (N:=15) rfl ?_);(try (refine gate_guard (by rfl) ?_;dsimp only));refine boxQ 15 #[.int .i64 0,.int .i64 0,.int .i64 0,.int .i64 0] 89 ?_;intro gb329 hg w23 hbox hb;have n0_:=hs HB hb;have n1_:=Aside0.mk (hbox);have n2_:=gs HB hg;have n3_:=gs HB hg;clear HB;have HB:=n0_;have BK329:=n1_;have GW329:=n2_;have GE329:=n3_;clear n0_ n1_ n2_ n3_;clear hb hbox hg;obtain ⟨hcz24_0,hcz24_1,hcz24_2,hcz24_3⟩:=cc4 BK329;obtain ⟨hfz24_0,hfz24_1,hfz24_2,hfz24_3⟩:=ff4 BK329) | ((with_reducible refine gate_callee (f:=49) rfl ?_);refine goesQ (some 96) Try.func49 #[] ?_;(with_reducible refine (celluloidlaw11_awake.calls k2  t331 _ A22.out).mono ?_);rintro e w25 ⟨rfl,hb⟩;refine ⟨_,rfl,?_⟩;have n0_:=bp #[.int .i64 ((rd_T89 l3 x53_2).f0),.int .i64 ((rd_T89 l3 x53_2).f1),.int .i64 ((rd_T89 l3 x53_2).f2),.int .i64 ((rd_T89 l3 x53_2).f3)] BK329 hb;have n1_:=hs HB hb;clear BK329;clear HB;have BK329:=n0_;have HB:=n1_;clear n0_ n1_;(try clear hb)))
            go_ret
            exact ⟨by first | rfl | (simp [errW_none,errW_some] <;> rfl) | (simp [*,errW_none,errW_some] <;> rfl),hn HB⟩
          ·rw [if_neg c21] at H
           have c21b0:decide (((rd_T89 l3 x53_2).f1) < 0)=false:=decide_eq_false c21
           clear c21
           by_cases c26:((rd_T89 l3 x53_2).f2) < 0
           ·rw [if_pos c26] at H
            have c26b0:decide (((rd_T89 l3 x53_2).f2) < 0)=true:=decide_eq_true c26
            clear c26
            replace H:=Option.bind_eq_some_iff.mp H
            obtain ⟨t332,A270,H⟩:=H
            replace H:(some t332)=some r:=H
            have A27:=Aside0.mk A270
            clear A270
            first
            |exact absurd (Option.some.inj H) (by rw [hr_.out];decide)
            |obtain rfl:=Option.some.inj H
             have p328:0≤(x53_2:Int):=of_decide_eq_true (by first | (with_reducible assumption) | assumption)
             have q328:x53_2 < (l3.length:Int):=of_decide_eq_true (by first | (with_reducible assumption) | assumption)
             obtain ⟨ad328,e328,hx328_0,hx328_1,hx328_2,hx328_3⟩:=at_T89 HR3.out x53_2 p328 q328
             cases e328
             replace hx328_0:=(HB.out.cell (World.block_lt_of_cell? w _ hx328_0)).trans hx328_0
             replace hx328_1:=(HB.out.cell (World.block_lt_of_cell? w _ hx328_1)).trans hx328_1
             replace hx328_2:=(HB.out.cell (World.block_lt_of_cell? w _ hx328_2)).trans hx328_2
             replace hx328_3:=(HB.out.cell (World.block_lt_of_cell? w _ hx328_3)).trans hx328_3
             replace p328:=eq_true p328
             replace q328:=eq_true q328
             go_wp2_with (first | ((with_reducible refine gate_dst (N:=15) rfl ?_);(try (refine gate_guard (by rfl) ?_;dsimp only));refine boxQ 15 #[.int .i64 0,.int .i64 0,.int .i64 0,.int .i64 0] 89 ?_;intro gb329 hg w28 hbox hb;have n0_:=hs HB hb;have n1_:=Aside0.mk (hbox);have n2_:=gs HB hg;have n3_:=gs HB hg;clear HB;have HB:=n0_;have BK329:=n1_;have GW329:=n2_;have GE329:=n3_;clear n0_ n1_ n2_ n3_;clear hb hbox hg;obtain ⟨hcz29_0,hcz29_1,hcz29_2,hcz29_3⟩:=cc4 BK329;obtain ⟨hfz29_0,hfz29_1,hfz29_2,hfz29_3⟩:=ff4 BK329) | ((with_reducible refine gate_callee (f:=49) rfl ?_);refine goesQ (some 96) Try.func49 #[] ?_;(with_reducible refine (celluloidlaw11_awake.calls k2  t332 _ A27.out).mono ?_);rintro e w30 ⟨rfl,hb⟩;refine ⟨_,rfl,?_⟩;have n0_:=bp #[.int .i64 ((rd_T89 l3 x53_2).f0),.int .i64 ((rd_T89 l3 x53_2).f1),.int .i64 ((rd_T89 l3 x53_2).f2),.int .i64 ((rd_T89 l3 x53_2).f3)] BK329 hb;have n1_:=hs HB hb;clear BK329;clear HB;have BK329:=n0_;have HB:=n1_;clear n0_ n1_;(try clear hb)))
             go_ret
             exact ⟨by first | rfl | (simp [errW_none,errW_some] <;> rfl) | (simp [*,errW_none,errW_some] <;> rfl),hn HB⟩
           ·rw [if_neg c26] at H
            have c26b0:decide (((rd_T89 l3 x53_2).f2) < 0)=false:=decide_eq_false c26
            clear c26
            by_cases c31:((rd_T89 l3 x53_2).f3) > 255
            ·rw [if_pos c31] at H
             have c31b0:decide (255 < ((rd_T89 l3 x53_2).f3))=true:=decide_eq_true c31
             clear c31
             replace H:=Option.bind_eq_some_iff.mp H
             obtain ⟨t333,A320,H⟩:=H
             replace H:(some t333)=some r:=H
             have A32:=Aside0.mk A320
             clear A320
             first
             |exact absurd (Option.some.inj H) (by rw [hr_.out];decide)
             |obtain rfl:=Option.some.inj H
              have p328:0≤(x53_2:Int):=of_decide_eq_true (by first | (with_reducible assumption) | assumption)
              have q328:x53_2 < (l3.length:Int):=of_decide_eq_true (by first | (with_reducible assumption) | assumption)
              obtain ⟨ad328,e328,hx328_0,hx328_1,hx328_2,hx328_3⟩:=at_T89 HR3.out x53_2 p328 q328
              cases e328
              replace hx328_0:=(HB.out.cell (World.block_lt_of_cell? w _ hx328_0)).trans hx328_0
              replace hx328_1:=(HB.out.cell (World.block_lt_of_cell? w _ hx328_1)).trans hx328_1
              replace hx328_2:=(HB.out.cell (World.block_lt_of_cell? w _ hx328_2)).trans hx328_2
              replace hx328_3:=(HB.out.cell (World.block_lt_of_cell? w _ hx328_3)).trans hx328_3
              replace p328:=eq_true p328
              replace q328:=eq_true q328
              go_wp2_with (first | ((with_reducible refine gate_dst (N:=15) rfl ?_);(try (refine gate_guard (by rfl) ?_;dsimp only));refine boxQ 15 #[.int .i64 0,.int .i64 0,.int .i64 0,.int .i64 0] 89 ?_;intro gb329 hg w33 hbox hb;have n0_:=hs HB hb;have n1_:=Aside0.mk (hbox);have n2_:=gs HB hg;have n3_:=gs HB hg;clear HB;have HB:=n0_;have BK329:=n1_;have GW329:=n2_;have GE329:=n3_;clear n0_ n1_ n2_ n3_;clear hb hbox hg;obtain ⟨hcz34_0,hcz34_1,hcz34_2,hcz34_3⟩:=cc4 BK329;obtain ⟨hfz34_0,hfz34_1,hfz34_2,hfz34_3⟩:=ff4 BK329) | ((with_reducible refine gate_callee (f:=49) rfl ?_);refine goesQ (some 96) Try.func49 #[] ?_;(with_reducible refine (celluloidlaw11_awake.calls k2  t333 _ A32.out).mono ?_);rintro e w35 ⟨rfl,hb⟩;refine ⟨_,rfl,?_⟩;have n0_:=bp #[.int .i64 ((rd_T89 l3 x53_2).f0),.int .i64 ((rd_T89 l3 x53_2).f1),.int .i64 ((rd_T89 l3 x53_2).f2),.int .i64 ((rd_T89 l3 x53_2).f3)] BK329 hb;have n1_:=hs HB hb;clear BK329;clear HB;have BK329:=n0_;have HB:=n1_;clear n0_ n1_;(try clear hb)))
              go_ret
              exact ⟨by first | rfl | (simp [errW_none,errW_some] <;> rfl) | (simp [*,errW_none,errW_some] <;> rfl),hn HB⟩
            ·rw [if_neg c31] at H
             have c31b0:decide (255 < ((rd_T89 l3 x53_2).f3))=false:=decide_eq_false c31
             clear c31
             by_cases c36:((rd_T89 l3 x53_2).f0) > ((rd_T89 l3 x53_2).f3)
             ·rw [if_pos c36] at H
              have c36b0:decide (((rd_T89 l3 x53_2).f3) < ((rd_T89 l3 x53_2).f0))=true:=decide_eq_true c36
              clear c36
              replace H:=Option.bind_eq_some_iff.mp H
              obtain ⟨t334,A370,H⟩:=H
              replace H:(some t334)=some r:=H
              have A37:=Aside0.mk A370
              clear A370
              first
              |exact absurd (Option.some.inj H) (by rw [hr_.out];decide)
              |obtain rfl:=Option.some.inj H
               have p328:0≤(x53_2:Int):=of_decide_eq_true (by first | (with_reducible assumption) | assumption)
               have q328:x53_2 < (l3.length:Int):=of_decide_eq_true (by first | (with_reducible assumption) | assumption)
               obtain ⟨ad328,e328,hx328_0,hx328_1,hx328_2,hx328_3⟩:=at_T89 HR3.out x53_2 p328 q328
               cases e328
               replace hx328_0:=(HB.out.cell (World.block_lt_of_cell? w _ hx328_0)).trans hx328_0
               replace hx328_1:=(HB.out.cell (World.block_lt_of_cell? w _ hx328_1)).trans hx328_1
               replace hx328_2:=(HB.out.cell (World.block_lt_of_cell? w _ hx328_2)).trans hx328_2
               replace hx328_3:=(HB.out.cell (World.block_lt_of_cell? w _ hx328_3)).trans hx328_3
               replace p328:=eq_true p328
               replace q328:=eq_true q328
               go_wp2_with (first | ((with_reducible refine gate_dst (N:=15) rfl ?_);(try (refine gate_guard (by rfl) ?_;dsimp only));refine boxQ 15 #[.int .i64 0,.int .i64 0,.int .i64 0,.int .i64 0] 89 ?_;intro gb329 hg w38 hbox hb;have n0_:=hs HB hb;have n1_:=Aside0.mk (hbox);have n2_:=gs HB hg;have n3_:=gs HB hg;clear HB;have HB:=n0_;have BK329:=n1_;have GW329:=n2_;have GE329:=n3_;clear n0_ n1_ n2_ n3_;clear hb hbox hg;obtain ⟨hcz39_0,hcz39_1,hcz39_2,hcz39_3⟩:=cc4 BK329;obtain ⟨hfz39_0,hfz39_1,hfz39_2,hfz39_3⟩:=ff4 BK329) | ((with_reducible refine gate_callee (f:=49) rfl ?_);refine goesQ (some 96) Try.func49 #[] ?_;(with_reducible refine (celluloidlaw11_awake.calls k2  t334 _ A37.out).mono ?_);rintro e w40 ⟨rfl,hb⟩;refine ⟨_,rfl,?_⟩;have n0_:=bp #[.int .i64 ((rd_T89 l3 x53_2).f0),.int .i64 ((rd_T89 l3 x53_2).f1),.int .i64 ((rd_T89 l3 x53_2).f2),.int .i64 ((rd_T89 l3 x53_2).f3)] BK329 hb;have n1_:=hs HB hb;clear BK329;clear HB;have BK329:=n0_;have HB:=n1_;clear n0_ n1_;(try clear hb)))
               go_ret
               exact ⟨by first | rfl | (simp [errW_none,errW_some] <;> rfl) | (simp [*,errW_none,errW_some] <;> rfl),hn HB⟩
             ·rw [if_neg c36] at H
              have c36b0:decide (((rd_T89 l3 x53_2).f3) < ((rd_T89 l3 x53_2).f0))=false:=decide_eq_false c36
              clear c36
              by_cases c41:((rd_T89 l3 x53_2).f1) > ((rd_T89 l3 x53_2).f3)
              ·rw [if_pos c41] at H
               have c41b0:decide (((rd_T89 l3 x53_2).f3) < ((rd_T89 l3 x53_2).f1))=true:=decide_eq_true c41
               clear c41
               replace H:=Option.bind_eq_some_iff.mp H
               obtain ⟨t335,A420,H⟩:=H
               replace H:(some t335)=some r:=H
               have A42:=Aside0.mk A420
               clear A420
               first
               |exact absurd (Option.some.inj H) (by rw [hr_.out];decide)
               |obtain rfl:=Option.some.inj H
                have p328:0≤(x53_2:Int):=of_decide_eq_true (by first | (with_reducible assumption) | assumption)
                have q328:x53_2 < (l3.length:Int):=of_decide_eq_true (by first | (with_reducible assumption) | assumption)
                obtain ⟨ad328,e328,hx328_0,hx328_1,hx328_2,hx328_3⟩:=at_T89 HR3.out x53_2 p328 q328
                cases e328
                replace hx328_0:=(HB.out.cell (World.block_lt_of_cell? w _ hx328_0)).trans hx328_0
                replace hx328_1:=(HB.out.cell (World.block_lt_of_cell? w _ hx328_1)).trans hx328_1
                replace hx328_2:=(HB.out.cell (World.block_lt_of_cell? w _ hx328_2)).trans hx328_2
                replace hx328_3:=(HB.out.cell (World.block_lt_of_cell? w _ hx328_3)).trans hx328_3
                replace p328:=eq_true p328
                replace q328:=eq_true q328
                go_wp2_with (first | ((with_reducible refine gate_dst (N:=15) rfl ?_);(try (refine gate_guard (by rfl) ?_;dsimp only));refine boxQ 15 #[.int .i64 0,.int .i64 0,.int .i64 0,.int .i64 0] 89 ?_;intro gb329 hg w43 hbox hb;have n0_:=hs HB hb;have n1_:=Aside0.mk (hbox);have n2_:=gs HB hg;have n3_:=gs HB hg;clear HB;have HB:=n0_;have BK329:=n1_;have GW329:=n2_;have GE329:=n3_;clear n0_ n1_ n2_ n3_;clear hb hbox hg;obtain ⟨hcz44_0,hcz44_1,hcz44_2,hcz44_3⟩:=cc4 BK329;obtain ⟨hfz44_0,hfz44_1,hfz44_2,hfz44_3⟩:=ff4 BK329) | ((with_reducible refine gate_callee (f:=49) rfl ?_);refine goesQ (some 96) Try.func49 #[] ?_;(with_reducible refine (celluloidlaw11_awake.calls k2  t335 _ A42.out).mono ?_);rintro e w45 ⟨rfl,hb⟩;refine ⟨_,rfl,?_⟩;have n0_:=bp #[.int .i64 ((rd_T89 l3 x53_2).f0),.int .i64 ((rd_T89 l3 x53_2).f1),.int .i64 ((rd_T89 l3 x53_2).f2),.int .i64 ((rd_T89 l3 x53_2).f3)] BK329 hb;have n1_:=hs HB hb;clear BK329;clear HB;have BK329:=n0_;have HB:=n1_;clear n0_ n1_;(try clear hb)))
                go_ret
                exact ⟨by first | rfl | (simp [errW_none,errW_some] <;> rfl) | (simp [*,errW_none,errW_some] <;> rfl),hn HB⟩
              ·rw [if_neg c41] at H
               have c41b0:decide (((rd_T89 l3 x53_2).f3) < ((rd_T89 l3 x53_2).f1))=false:=decide_eq_false c41
               clear c41
               by_cases c46:((rd_T89 l3 x53_2).f2) > ((rd_T89 l3 x53_2).f3)
               ·rw [if_pos c46] at H
                have c46b0:decide (((rd_T89 l3 x53_2).f3) < ((rd_T89 l3 x53_2).f2))=true:=decide_eq_true c46
                clear c46
                replace H:=Option.bind_eq_some_iff.mp H
                obtain ⟨t336,A470,H⟩:=H
                replace H:(some t336)=some r:=H
                have A47:=Aside0.mk A470
                clear A470
                first
                |exact absurd (Option.some.inj H) (by rw [hr_.out];decide)
                |obtain rfl:=Option.some.inj H
                 have p328:0≤(x53_2:Int):=of_decide_eq_true (by first | (with_reducible assumption) | assumption)
                 have q328:x53_2 < (l3.length:Int):=of_decide_eq_true (by first | (with_reducible assumption) | assumption)
                 obtain ⟨ad328,e328,hx328_0,hx328_1,hx328_2,hx328_3⟩:=at_T89 HR3.out x53_2 p328 q328
                 cases e328
                 replace hx328_0:=(HB.out.cell (World.block_lt_of_cell? w _ hx328_0)).trans hx328_0
                 replace hx328_1:=(HB.out.cell (World.block_lt_of_cell? w _ hx328_1)).trans hx328_1
                 replace hx328_2:=(HB.out.cell (World.block_lt_of_cell? w _ hx328_2)).trans hx328_2
                 replace hx328_3:=(HB.out.cell (World.block_lt_of_cell? w _ hx328_3)).trans hx328_3
                 replace p328:=eq_true p328
                 replace q328:=eq_true q328
                 go_wp2_with (first | ((with_reducible refine gate_dst (N:=15) rfl ?_);(try (refine gate_guard (by rfl) ?_;dsimp only));refine boxQ 15 #[.int .i64 0,.int .i64 0,.int .i64 0,.int .i64 0] 89 ?_;intro gb329 hg w48 hbox hb;have n0_:=hs HB hb;have n1_:=Aside0.mk (hbox);have n2_:=gs HB hg;have n3_:=gs HB hg;clear HB;have HB:=n0_;have BK329:=n1_;have GW329:=n2_;have GE329:=n3_;clear n0_ n1_ n2_ n3_;clear hb hbox hg;obtain ⟨hcz49_0,hcz49_1,hcz49_2,hcz49_3⟩:=cc4 BK329;obtain ⟨hfz49_0,hfz49_1,hfz49_2,hfz49_3⟩:=ff4 BK329) | ((with_reducible refine gate_callee (f:=49) rfl ?_);refine goesQ (some 96) Try.func49 #[] ?_;(with_reducible refine (celluloidlaw11_awake.calls k2  t336 _ A47.out).mono ?_);rintro e w50 ⟨rfl,hb⟩;refine ⟨_,rfl,?_⟩;have n0_:=bp #[.int .i64 ((rd_T89 l3 x53_2).f0),.int .i64 ((rd_T89 l3 x53_2).f1),.int .i64 ((rd_T89 l3 x53_2).f2),.int .i64 ((rd_T89 l3 x53_2).f3)] BK329 hb;have n1_:=hs HB hb;clear BK329;clear HB;have BK329:=n0_;have HB:=n1_;clear n0_ n1_;(try clear hb)))
                 go_ret
                 exact ⟨by first | rfl | (simp [errW_none,errW_some] <;> rfl) | (simp [*,errW_none,errW_some] <;> rfl),hn HB⟩
               ·rw [if_neg c46] at H
                have c46b0:decide (((rd_T89 l3 x53_2).f3) < ((rd_T89 l3 x53_2).f2))=false:=decide_eq_false c46
                clear c46
                obtain ⟨y337,hy337⟩:∃ y_:List Int,y_=(([((rd_T89 l3 x53_2).f0) % 256,((rd_T89 l3 x53_2).f1) % 256,((rd_T89 l3 x53_2).f2) % 256,((rd_T89 l3 x53_2).f3) % 256]:List Int)):=⟨_,rfl⟩
                replace H:(if x13_2.size+(strOfNums y337).size≤9223372036854775807 then (celluloidlaw11_PixelTable.l0 k2 a0 l3 l4 (wrap64 (1+(wrap64 (Int.tmod a1 20)))) (wrap64 (1+(wrap64 (Int.tmod a2 20)))) (x13_2 ++ (strOfNums y337)) l3 (l3.length:Int) (wrap64 (x53_2+1))) else (none))=some r:=by first | (rw [hy337];with_reducible exact H) | (have H2_:=(Option.bind_some _ _).symm.trans H;rw [hy337];with_reducible exact H2_) | (have H2_:=(Option.bind_some _ _).symm.trans H;with_reducible exact H2_) | with_reducible exact H | (rw [hy337];exact H) | exact H
                have Ny337:=Aside0.mk hy337
                clear hy337
                by_cases c51:x13_2.size+(strOfNums y337).size≤9223372036854775807
                ·rw [if_pos c51] at H
                 have c51b0:=eq_true c51
                 have c51b1:decide (x13_2.size+(strOfNums y337).size≤9223372036854775807)=true:=decide_eq_true c51
                 try have c51b2:(9223372036854775807 < x13_2.size+(strOfNums y337).size)=False:=eq_false (Nat.not_lt.2 c51)
                 have H':=Aside0.mk H
                 clear H
                 have p328:0≤(x53_2:Int):=of_decide_eq_true (by first | (with_reducible assumption) | assumption)
                 have q328:x53_2 < (l3.length:Int):=of_decide_eq_true (by first | (with_reducible assumption) | assumption)
                 obtain ⟨ad328,e328,hx328_0,hx328_1,hx328_2,hx328_3⟩:=at_T89 HR3.out x53_2 p328 q328
                 cases e328
                 replace hx328_0:=(HB.out.cell (World.block_lt_of_cell? w _ hx328_0)).trans hx328_0
                 replace hx328_1:=(HB.out.cell (World.block_lt_of_cell? w _ hx328_1)).trans hx328_1
                 replace hx328_2:=(HB.out.cell (World.block_lt_of_cell? w _ hx328_2)).trans hx328_2
                 replace hx328_3:=(HB.out.cell (World.block_lt_of_cell? w _ hx328_3)).trans hx328_3
                 replace p328:=eq_true p328
                 replace q328:=eq_true q328
                 go_wp2_with (first | ((with_reducible refine gate_dst (N:=15) rfl ?_);(try (refine gate_guard (by rfl) ?_;dsimp only));refine boxQ 15 #[.int .i64 0,.int .i64 0,.int .i64 0,.int .i64 0] 89 ?_;intro gb329 hg w52 hbox hb;have n0_:=hs HB hb;have n1_:=Aside0.mk (hbox);have n2_:=gs HB hg;have n3_:=gs HB hg;clear HB;have HB:=n0_;have BK329:=n1_;have GW329:=n2_;have GE329:=n3_;clear n0_ n1_ n2_ n3_;clear hb hbox hg;obtain ⟨hcz53_0,hcz53_1,hcz53_2,hcz53_3⟩:=cc4 BK329;obtain ⟨hfz53_0,hfz53_1,hfz53_2,hfz53_3⟩:=ff4 BK329) | ((with_reducible refine gate_dst (N:=110) rfl ?_);(try (refine gate_guard (by rfl) ?_;dsimp only));refine Kd.R_lit (Kd.int .u8) _ 5 ?hg (N:=110) ?hd (xs:=([((rd_T89 l3 x53_2).f0) % 256,((rd_T89 l3 x53_2).f1) % 256,((rd_T89 l3 x53_2).f2) % 256,((rd_T89 l3 x53_2).f3) % 256]:List Int)) (inner:=[.int .u8 (((rd_T89 l3 x53_2).f0) % 256),.int .u8 (((rd_T89 l3 x53_2).f1) % 256),.int .u8 (((rd_T89 l3 x53_2).f2) % 256),.int .u8 (((rd_T89 l3 x53_2).f3) % 256)]) (ok:=fun _=>True) (okp:=fun _=>True) ?hr ?hp (fun _ hk=>hk) trivial (Below.refl _ _) (Nat.le_refl _) (by simp) ?_;(case hd=>rfl);(case hg=>rfl);(case hr=>first | (go_simp;done) | (go_simp;rfl));(case hp=>exact (Reps.one (show Kd.M (Kd.int .u8) _ _ _ (((rd_T89 l3 x53_2).f0) % 256) [.int .u8 (((rd_T89 l3 x53_2).f0) % 256)] from rfl) (Reps.one (show Kd.M (Kd.int .u8) _ _ _ (((rd_T89 l3 x53_2).f1) % 256) [.int .u8 (((rd_T89 l3 x53_2).f1) % 256)] from rfl) (Reps.one (show Kd.M (Kd.int .u8) _ _ _ (((rd_T89 l3 x53_2).f2) % 256) [.int .u8 (((rd_T89 l3 x53_2).f2) % 256)] from rfl) (Reps.one (show Kd.M (Kd.int .u8) _ _ _ (((rd_T89 l3 x53_2).f3) % 256) [.int .u8 (((rd_T89 l3 x53_2).f3) % 256)] from rfl) (Reps.none _ _))))));intro v338 w54 ho55 hb hg_ hnew_;clear hg_ hnew_;(first | rw [← Ny337.out] at ho55 | (simp only [Int.reduceToNat] at ho55;rw [← Ny337.out] at ho55));have n0_:=Aside0.mk (Kd.R_lower ho55 (below_size (hn HB)));have n1_:=bp #[.int .i64 ((rd_T89 l3 x53_2).f0),.int .i64 ((rd_T89 l3 x53_2).f1),.int .i64 ((rd_T89 l3 x53_2).f2),.int .i64 ((rd_T89 l3 x53_2).f3)] BK329 hb;have n2_:=hs HB hb;clear BK329;clear HB;have HO339:=n0_;have BK329:=n1_;have HB:=n2_;clear n0_ n1_ n2_;clear hb ho55;have hcv56:=own_string (P:=Try.prog) Try.underlying40 Try.underlying5 Try.underlying9 (Kd.own_of_R HO339.out)))
                 go_roundg k2
                 case measure=>have:=HJ5.out;have:=HK2.out;omega
                 case rel=>exact ⟨(x13_2 ++ (strOfNums y337)),(wrap64 (x53_2+1)),(by first | rfl | (simp;done) | (simp [*];done)),(by first | rfl | (simp;done) | (simp [*];done)),H',⟨by have:=HJ5.out;have:=HK2.out;omega⟩,⟨hn HB⟩⟩
                ·rw [if_neg c51] at H
                 exact absurd H (by simp)
        ·rw [if_neg c15] at H
         exact absurd H (by simp)
       ·rw [if_neg c14] at H
        exact absurd H (by simp)
      ·rw [if_neg c13] at H
       have c13b0:decide (x53_2 < (l3.length:Int))=false:=decide_eq_false c13
       clear c13
       have H':=Aside0.mk H
       clear H
       go_wp2_with (first | ((with_reducible refine gate_dst (N:=16) rfl ?_);(try (refine gate_guard (by rfl) ?_;dsimp only));refine boxQ 16 #[.int .i64 0,.int .i64 0,.int .i64 0,.slice none 0 0] 76 ?_;intro gb340 hg w57 hbox hb;have n0_:=hs HB hb;have n1_:=Aside0.mk (hbox);have n2_:=gs HB hg;have n3_:=gs HB hg;clear HB;have HB:=n0_;have BK340:=n1_;have GW340:=n2_;have GE340:=n3_;clear n0_ n1_ n2_ n3_;clear hb hbox hg;obtain ⟨hcz58_0,hcz58_1,hcz58_2,hcz58_3⟩:=cc4 BK340;obtain ⟨hfz58_0,hfz58_1,hfz58_2,hfz58_3⟩:=ff4 BK340))
       go_loopg [13,17] k2 (fun kq v13 v17 w'=>∃ (x13_3:ByteArray) (x17_3:Int) (x341003_3:List (S89)) (u341003:Value),v13=.string x13_3∧v17=.int .i64 x17_3∧Aside0 (celluloidlaw11_PixelTable.l1 kq a0 l3 l4 (wrap64 (1+(wrap64 (Int.tmod a1 20)))) (wrap64 (1+(wrap64 (Int.tmod a2 20)))) x13_3 x17_3 (wrap64 (a0)) (wrap64 (1+(wrap64 (Int.tmod a1 20)))) (wrap64 (1+(wrap64 (Int.tmod a2 20)))) x341003_3=some r)∧Aside0 (kq≤k2)∧Aside0 (Kd.R k89 89 w' w.heap.size (fun _=>True) u341003 x341003_3)∧Aside0 (w'.heap[gb340]?=some (.cells #[.int .i64 (wrap64 (a0)),.int .i64 (wrap64 (1+(wrap64 (Int.tmod a1 20)))),.int .i64 (wrap64 (1+(wrap64 (Int.tmod a2 20)))),u341003] 76 (0,0)))∧Aside0 (Below w.heap.size w w'))
       case atStart=>exact ⟨(x13_2),(0),(([]:List (S89))),(.slice none 0 0),(by first | rfl | (simp;done) | (simp [*];done)),(by first | rfl | (simp;done) | (simp [*];done)),H',⟨Nat.le_refl _⟩,⟨by first | exact Kd.R_nil _ _ _ _ _ | exact Kd.N_nil _ _ _ _ _ | exact Kd.V_nil _ _ _ _ _ | exact Kd.Q_nil _ _ _ _ _ | exact Kd.S_nil _ _ _ _ _⟩,⟨by (with_reducible repeat (first | refine blk_drewN ?_ _ | refine blk_drew ?_ | refine blk_alloc ?_ _));refine blk_put (cs:=#[.int .i64 (wrap64 (a0)),.int .i64 (wrap64 (1+(wrap64 (Int.tmod a1 20)))),.int .i64 (wrap64 (1+(wrap64 (Int.tmod a2 20)))),.slice none 0 0]) ?_ 3 _ rfl;(with_reducible repeat (first | refine blk_drewN ?_ _ | refine blk_drew ?_ | refine blk_alloc ?_ _));refine blk_put (cs:=#[.int .i64 (wrap64 (a0)),.int .i64 (wrap64 (1+(wrap64 (Int.tmod a1 20)))),.int .i64 0,.slice none 0 0]) ?_ 2 _ rfl;(with_reducible repeat (first | refine blk_drewN ?_ _ | refine blk_drew ?_ | refine blk_alloc ?_ _));refine blk_put (cs:=#[.int .i64 (wrap64 (a0)),.int .i64 0,.int .i64 0,.slice none 0 0]) ?_ 1 _ rfl;(with_reducible repeat (first | refine blk_drewN ?_ _ | refine blk_drew ?_ | refine blk_alloc ?_ _));refine blk_put (cs:=#[.int .i64 0,.int .i64 0,.int .i64 0,.slice none 0 0]) ?_ 0 _ rfl;(with_reducible repeat (first | refine blk_drewN ?_ _ | refine blk_drew ?_ | refine blk_alloc ?_ _));exact BK340.out⟩,⟨hn HB⟩⟩
       case round =>
        clear H'
        try clear c1
        try clear c2
        try clear p2
        try clear c3
        try clear p3
        try clear q3
        try clear hx3
        try clear c4
        try clear c5
        try clear hcv5
        try clear p6
        try clear c7
        try clear c7b0
        try clear c7b1
        try clear c7b2
        try clear c8
        try clear c8b0
        try clear c8b1
        try clear c9
        try clear c9b0
        try clear c9b1
        try clear c9b2
        try clear c10
        try clear c13
        try clear c13b0
        try clear c14
        try clear c14b0
        try clear c15
        try clear c15b0
        try clear c16
        try clear c16b0
        try clear c21
        try clear c21b0
        try clear c23
        try clear c26
        try clear c26b0
        try clear c31
        try clear c31b0
        try clear p32
        try clear q32
        try clear hx32
        try clear c36
        try clear c36b0
        try clear c41
        try clear c41b0
        try clear c46
        try clear c46b0
        try clear c49
        try clear c51
        try clear c51b0
        try clear c51b1
        try clear c51b2
        try clear hcv56
        try clear hcz19_0
        try clear hcz19_1
        try clear hcz19_2
        try clear hcz19_3
        try clear hcz24_0
        try clear hcz24_1
        try clear hcz24_2
        try clear hcz24_3
        try clear hcz29_0
        try clear hcz29_1
        try clear hcz29_2
        try clear hcz29_3
        try clear hcz34_0
        try clear hcz34_1
        try clear hcz34_2
        try clear hcz34_3
        try clear hcz39_0
        try clear hcz39_1
        try clear hcz39_2
        try clear hcz39_3
        try clear hcz44_0
        try clear hcz44_1
        try clear hcz44_2
        try clear hcz44_3
        try clear hcz49_0
        try clear hcz49_1
        try clear hcz49_2
        try clear hcz49_3
        try clear hcz53_0
        try clear hcz53_1
        try clear hcz53_2
        try clear hcz53_3
        try clear hcz58_0
        try clear hcz58_1
        try clear hcz58_2
        try clear hcz58_3
        try clear hfz19_0
        try clear hfz19_1
        try clear hfz19_2
        try clear hfz19_3
        try clear hfz24_0
        try clear hfz24_1
        try clear hfz24_2
        try clear hfz24_3
        try clear hfz29_0
        try clear hfz29_1
        try clear hfz29_2
        try clear hfz29_3
        try clear hfz34_0
        try clear hfz34_1
        try clear hfz34_2
        try clear hfz34_3
        try clear hfz39_0
        try clear hfz39_1
        try clear hfz39_2
        try clear hfz39_3
        try clear hfz44_0
        try clear hfz44_1
        try clear hfz44_2
        try clear hfz44_3
        try clear hfz49_0
        try clear hfz49_1
        try clear hfz49_2
        try clear hfz49_3
        try clear hfz53_0
        try clear hfz53_1
        try clear hfz53_2
        try clear hfz53_3
        try clear hfz58_0
        try clear hfz58_1
        try clear hfz58_2
        try clear hfz58_3
        try clear hx328_0
        try clear hx328_1
        try clear hx328_2
        try clear hx328_3
        try clear p2
        try clear p328
        try clear p6
        try clear q328
        obtain ⟨x13_3,x17_3,x341003_3,u341003,rfl,rfl,HA,HK3,HO_341003,BK340,HB⟩:=hrel
        cases gk with
        |zero=>exact absurd HA.out (by simp [celluloidlaw11_PixelTable.l1])
        |succ k3 =>
         have H:=HA.out
         clear HA
         simp only [celluloidlaw11_PixelTable.l1] at H
         by_cases c59:x17_3 < (wrap64 (1+(wrap64 (Int.tmod a2 20))))
         ·rw [if_pos c59] at H
          have c59b0:decide (x17_3 < (wrap64 (1+(wrap64 (Int.tmod a2 20)))))=true:=decide_eq_true c59
          clear c59
          have H':=Aside0.mk H
          clear H
          go_wp2
          go_loopg [13,18] k3 (fun kq v13 v18 w'=>∃ (x13_4:ByteArray) (x18_4:Int) (x341003_4:List (S89)) (u341003:Value),v13=.string x13_4∧v18=.int .i64 x18_4∧Aside0 (celluloidlaw11_PixelTable.l2 kq a0 l3 l4 (wrap64 (1+(wrap64 (Int.tmod a1 20)))) (wrap64 (1+(wrap64 (Int.tmod a2 20)))) x13_4 x17_3 x18_4 (wrap64 (a0)) (wrap64 (1+(wrap64 (Int.tmod a1 20)))) (wrap64 (1+(wrap64 (Int.tmod a2 20)))) x341003_4=some r)∧Aside0 (kq≤k3)∧Aside0 (Kd.R k89 89 w' w.heap.size (fun _=>True) u341003 x341003_4)∧Aside0 (w'.heap[gb340]?=some (.cells #[.int .i64 (wrap64 (a0)),.int .i64 (wrap64 (1+(wrap64 (Int.tmod a1 20)))),.int .i64 (wrap64 (1+(wrap64 (Int.tmod a2 20)))),u341003] 76 (0,0)))∧Aside0 (Below w.heap.size w w'))
          case atStart=>exact ⟨(x13_3),(0),(x341003_3),(u341003),(by first | rfl | (simp;done) | (simp [*];done)),(by first | rfl | (simp;done) | (simp [*];done)),H',⟨Nat.le_refl _⟩,⟨by (with_reducible repeat (first | apply Kd.R_alloc | apply Kd.R_drewN | apply Kd.R_drew));exact HO_341003.out⟩,⟨by (with_reducible repeat (first | refine blk_drewN ?_ _ | refine blk_drew ?_ | refine blk_alloc ?_ _));exact BK340.out⟩,⟨hn HB⟩⟩
          case round =>
           clear H'
           try clear c1
           try clear c2
           try clear p2
           try clear c3
           try clear p3
           try clear q3
           try clear hx3
           try clear c4
           try clear c5
           try clear hcv5
           try clear p6
           try clear c7
           try clear c7b0
           try clear c7b1
           try clear c7b2
           try clear c8
           try clear c8b0
           try clear c8b1
           try clear c9
           try clear c9b0
           try clear c9b1
           try clear c9b2
           try clear c10
           try clear c13
           try clear c13b0
           try clear c14
           try clear c14b0
           try clear c15
           try clear c15b0
           try clear c16
           try clear c16b0
           try clear c21
           try clear c21b0
           try clear c23
           try clear c26
           try clear c26b0
           try clear c31
           try clear c31b0
           try clear p32
           try clear q32
           try clear hx32
           try clear c36
           try clear c36b0
           try clear c41
           try clear c41b0
           try clear c46
           try clear c46b0
           try clear c49
           try clear c51
           try clear c51b0
           try clear c51b1
           try clear c51b2
           try clear hcv56
           try clear c59
           try clear c59b0
           try clear hcz19_0
           try clear hcz19_1
           try clear hcz19_2
           try clear hcz19_3
           try clear hcz24_0
           try clear hcz24_1
           try clear hcz24_2
           try clear hcz24_3
           try clear hcz29_0
           try clear hcz29_1
           try clear hcz29_2
           try clear hcz29_3
           try clear hcz34_0
           try clear hcz34_1
           try clear hcz34_2
           try clear hcz34_3
           try clear hcz39_0
           try clear hcz39_1
           try clear hcz39_2
           try clear hcz39_3
           try clear hcz44_0
           try clear hcz44_1
           try clear hcz44_2
           try clear hcz44_3
           try clear hcz49_0
           try clear hcz49_1
           try clear hcz49_2
           try clear hcz49_3
           try clear hcz53_0
           try clear hcz53_1
           try clear hcz53_2
           try clear hcz53_3
           try clear hcz58_0
           try clear hcz58_1
           try clear hcz58_2
           try clear hcz58_3
           try clear hfz19_0
           try clear hfz19_1
           try clear hfz19_2
           try clear hfz19_3
           try clear hfz24_0
           try clear hfz24_1
           try clear hfz24_2
           try clear hfz24_3
           try clear hfz29_0
           try clear hfz29_1
           try clear hfz29_2
           try clear hfz29_3
           try clear hfz34_0
           try clear hfz34_1
           try clear hfz34_2
           try clear hfz34_3
           try clear hfz39_0
           try clear hfz39_1
           try clear hfz39_2
           try clear hfz39_3
           try clear hfz44_0
           try clear hfz44_1
           try clear hfz44_2
           try clear hfz44_3
           try clear hfz49_0
           try clear hfz49_1
           try clear hfz49_2
           try clear hfz49_3
           try clear hfz53_0
           try clear hfz53_1
           try clear hfz53_2
           try clear hfz53_3
           try clear hfz58_0
           try clear hfz58_1
           try clear hfz58_2
           try clear hfz58_3
           try clear hx328_0
           try clear hx328_1
           try clear hx328_2
           try clear hx328_3
           try clear p2
           try clear p3
           try clear p32
           try clear p328
           try clear p6
           try clear q3
           try clear q32
           try clear q328
           obtain ⟨x13_4,x18_4,x341003_4,u341003,rfl,rfl,HA,HK4,HO_341003,BK340,HB⟩:=hrel
           cases gk with
           |zero=>exact absurd HA.out (by simp [celluloidlaw11_PixelTable.l2])
           |succ k4 =>
            have H:=HA.out
            clear HA
            simp only [celluloidlaw11_PixelTable.l2] at H
            by_cases c60:x18_4 < (wrap64 ((wrap64 (Int.tdiv (wrap64 ((wrap64 (1+(wrap64 (Int.tmod a1 20))))+3)) 4))*4))
            ·rw [if_pos c60] at H
             have c60b0:decide (x18_4 < (wrap64 ((wrap64 (Int.tdiv (wrap64 ((wrap64 (1+(wrap64 (Int.tmod a1 20))))+3)) 4))*4)))=true:=decide_eq_true c60
             clear c60
             by_cases c61:(l4.length:Int)=0
             ·rw [if_pos c61] at H
              exact absurd H (by simp)
             ·rw [if_neg c61] at H
              have c61b0:((l4.length:Int) == 0)=false:=beq_eq_false_iff_ne.mpr c61
              have c61b1:((l4.length:Int) != 0)=true:=bne_iff_ne.mpr c61
              have c61b2:¬ (l4=[]):=fun h_=>c61 (by rw [h_];rfl)
              obtain ⟨ji62,hji62⟩:∃ j_:Int,(Int.tmod (wrap64 ((wrap64 (x17_3*(wrap64 (1+(wrap64 (Int.tmod a1 20))))))+x18_4)) (l4.length:Int))=j_:=⟨_,rfl⟩
              replace H:(if 0≤(ji62) then (if (ji62) < (l4.length:Int) then (if (l3.length:Int)=0 then (none) else ((some (([(Int.tmod (wrap64 (rd l4 (ji62))) (l3.length:Int)) % 256]:List Int):List Int)).bind fun y342=>(if x13_4.size+(strOfNums y342).size≤9223372036854775807 then (if x18_4 < (wrap64 (1+(wrap64 (Int.tmod a1 20)))) then (if 0≤(Int.tmod (wrap64 (rd l4 (ji62))) (l3.length:Int)) then (if (Int.tmod (wrap64 (rd l4 (ji62))) (l3.length:Int)) < (l3.length:Int) then (if x341003_4.length < 4398046511104 then (celluloidlaw11_PixelTable.l2 k4 a0 l3 l4 (wrap64 (1+(wrap64 (Int.tmod a1 20)))) (wrap64 (1+(wrap64 (Int.tmod a2 20)))) (x13_4 ++ (strOfNums y342)) x17_3 (wrap64 (x18_4+1)) (wrap64 (a0)) (wrap64 (1+(wrap64 (Int.tmod a1 20)))) (wrap64 (1+(wrap64 (Int.tmod a2 20)))) (x341003_4 ++ [(⟨(rd_T89 l3 (Int.tmod (wrap64 (rd l4 (ji62))) (l3.length:Int))).f0,(rd_T89 l3 (Int.tmod (wrap64 (rd l4 (ji62))) (l3.length:Int))).f1,(rd_T89 l3 (Int.tmod (wrap64 (rd l4 (ji62))) (l3.length:Int))).f2,(rd_T89 l3 (Int.tmod (wrap64 (rd l4 (ji62))) (l3.length:Int))).f3⟩:S89)])) else (none)) else (none)) else (none)) else (celluloidlaw11_PixelTable.l2 k4 a0 l3 l4 (wrap64 (1+(wrap64 (Int.tmod a1 20)))) (wrap64 (1+(wrap64 (Int.tmod a2 20)))) (x13_4 ++ (strOfNums y342)) x17_3 (wrap64 (x18_4+1)) (wrap64 (a0)) (wrap64 (1+(wrap64 (Int.tmod a1 20)))) (wrap64 (1+(wrap64 (Int.tmod a2 20)))) x341003_4)) else (none)))) else (none)) else (none))=some r:=by first | (rw [hji62] at H;exact H) | (simp only [hji62] at H ⊢;exact H)
              by_cases c63:0≤(ji62)
              ·rw [if_pos c63] at H
               have c63b0:decide (0≤(ji62))=true:=decide_eq_true c63
               clear c63
               by_cases c64:(ji62) < (l4.length:Int)
               ·rw [if_pos c64] at H
                have c64b0:decide ((ji62) < (l4.length:Int))=true:=decide_eq_true c64
                clear c64
                by_cases c65:(l3.length:Int)=0
                ·rw [if_pos c65] at H
                 exact absurd H (by simp)
                ·rw [if_neg c65] at H
                 have c65b0:((l3.length:Int) == 0)=false:=beq_eq_false_iff_ne.mpr c65
                 have c65b1:((l3.length:Int) != 0)=true:=bne_iff_ne.mpr c65
                 have c65b2:¬ (l3=[]):=fun h_=>c65 (by rw [h_];rfl)
                 obtain ⟨y342,hy342⟩:∃ y_:List Int,y_=(([(Int.tmod (wrap64 (rd l4 (ji62))) (l3.length:Int)) % 256]:List Int)):=⟨_,rfl⟩
                 replace H:(if x13_4.size+(strOfNums y342).size≤9223372036854775807 then (if x18_4 < (wrap64 (1+(wrap64 (Int.tmod a1 20)))) then (if 0≤(Int.tmod (wrap64 (rd l4 (ji62))) (l3.length:Int)) then (if (Int.tmod (wrap64 (rd l4 (ji62))) (l3.length:Int)) < (l3.length:Int) then (if x341003_4.length < 4398046511104 then (celluloidlaw11_PixelTable.l2 k4 a0 l3 l4 (wrap64 (1+(wrap64 (Int.tmod a1 20)))) (wrap64 (1+(wrap64 (Int.tmod a2 20)))) (x13_4 ++ (strOfNums y342)) x17_3 (wrap64 (x18_4+1)) (wrap64 (a0)) (wrap64 (1+(wrap64 (Int.tmod a1 20)))) (wrap64 (1+(wrap64 (Int.tmod a2 20)))) (x341003_4 ++ [(⟨(rd_T89 l3 (Int.tmod (wrap64 (rd l4 (ji62))) (l3.length:Int))).f0,(rd_T89 l3 (Int.tmod (wrap64 (rd l4 (ji62))) (l3.length:Int))).f1,(rd_T89 l3 (Int.tmod (wrap64 (rd l4 (ji62))) (l3.length:Int))).f2,(rd_T89 l3 (Int.tmod (wrap64 (rd l4 (ji62))) (l3.length:Int))).f3⟩:S89)])) else (none)) else (none)) else (none)) else (celluloidlaw11_PixelTable.l2 k4 a0 l3 l4 (wrap64 (1+(wrap64 (Int.tmod a1 20)))) (wrap64 (1+(wrap64 (Int.tmod a2 20)))) (x13_4 ++ (strOfNums y342)) x17_3 (wrap64 (x18_4+1)) (wrap64 (a0)) (wrap64 (1+(wrap64 (Int.tmod a1 20)))) (wrap64 (1+(wrap64 (Int.tmod a2 20)))) x341003_4)) else (none))=some r:=by first | (rw [hy342];with_reducible exact H) | (have H2_:=(Option.bind_some _ _).symm.trans H;rw [hy342];with_reducible exact H2_) | (have H2_:=(Option.bind_some _ _).symm.trans H;with_reducible exact H2_) | with_reducible exact H | (rw [hy342];exact H) | exact H
                 have Ny342:=Aside0.mk hy342
                 clear hy342
                 by_cases c66:x13_4.size+(strOfNums y342).size≤9223372036854775807
                 ·rw [if_pos c66] at H
                  have c66b0:=eq_true c66
                  have c66b1:decide (x13_4.size+(strOfNums y342).size≤9223372036854775807)=true:=decide_eq_true c66
                  try have c66b2:(9223372036854775807 < x13_4.size+(strOfNums y342).size)=False:=eq_false (Nat.not_lt.2 c66)
                  by_cases c67:x18_4 < (wrap64 (1+(wrap64 (Int.tmod a1 20))))
                  ·rw [if_pos c67] at H
                   have c67b0:decide (x18_4 < (wrap64 (1+(wrap64 (Int.tmod a1 20)))))=true:=decide_eq_true c67
                   clear c67
                   obtain ⟨ji68,hji68⟩:∃ j_:Int,(Int.tmod (wrap64 (rd l4 (ji62))) (l3.length:Int))=j_:=⟨_,rfl⟩
                   replace H:(if 0≤(ji68) then (if (ji68) < (l3.length:Int) then (if x341003_4.length < 4398046511104 then (celluloidlaw11_PixelTable.l2 k4 a0 l3 l4 (wrap64 (1+(wrap64 (Int.tmod a1 20)))) (wrap64 (1+(wrap64 (Int.tmod a2 20)))) (x13_4 ++ (strOfNums y342)) x17_3 (wrap64 (x18_4+1)) (wrap64 (a0)) (wrap64 (1+(wrap64 (Int.tmod a1 20)))) (wrap64 (1+(wrap64 (Int.tmod a2 20)))) (x341003_4 ++ [(⟨(rd_T89 l3 (ji68)).f0,(rd_T89 l3 (ji68)).f1,(rd_T89 l3 (ji68)).f2,(rd_T89 l3 (ji68)).f3⟩:S89)])) else (none)) else (none)) else (none))=some r:=by first | (rw [hji68] at H;exact H) | (simp only [hji68] at H ⊢;exact H)
                   (try rw [hji68] at Ny342)
                   (try rw [hji68] at Ny342)
                   by_cases c69:0≤(ji68)
                   ·rw [if_pos c69] at H
                    have c69b0:decide (0≤(ji68))=true:=decide_eq_true c69
                    clear c69
                    by_cases c70:(ji68) < (l3.length:Int)
                    ·rw [if_pos c70] at H
                     have c70b0:decide ((ji68) < (l3.length:Int))=true:=decide_eq_true c70
                     clear c70
                     by_cases c71:x341003_4.length < 4398046511104
                     ·rw [if_pos c71] at H
                      have LMc71:=Aside0.mk c71
                      clear c71
                      obtain ⟨y346,hy346⟩:∃ y_:List (S89),y_=(x341003_4 ++ [(⟨(rd_T89 l3 (ji68)).f0,(rd_T89 l3 (ji68)).f1,(rd_T89 l3 (ji68)).f2,(rd_T89 l3 (ji68)).f3⟩:S89)]):=⟨_,rfl⟩
                      replace H:(celluloidlaw11_PixelTable.l2 k4 a0 l3 l4 (wrap64 (1+(wrap64 (Int.tmod a1 20)))) (wrap64 (1+(wrap64 (Int.tmod a2 20)))) (x13_4 ++ (strOfNums y342)) x17_3 (wrap64 (x18_4+1)) (wrap64 (a0)) (wrap64 (1+(wrap64 (Int.tmod a1 20)))) (wrap64 (1+(wrap64 (Int.tmod a2 20)))) y346)=some r:=by first | (rw [hy346];with_reducible exact H) | (have H2_:=(Option.bind_some _ _).symm.trans H;rw [hy346];with_reducible exact H2_) | (have H2_:=(Option.bind_some _ _).symm.trans H;with_reducible exact H2_) | with_reducible exact H | (rw [hy346];exact H) | exact H
                      have Ny346:=Aside0.mk hy346
                      clear hy346
                      have H':=Aside0.mk H
                      clear H
                      have p341:0≤((ji62):Int):=of_decide_eq_true (by first | (with_reducible assumption) | assumption)
                      have q341:(ji62) < (l4.length:Int):=of_decide_eq_true (by first | (with_reducible assumption) | assumption)
                      obtain ⟨ad341,e341,hx341_0⟩:=Kd.at_int HR4.out (ji62) p341 q341
                      cases e341
                      replace hx341_0:=(HB.out.cell (World.block_lt_of_cell? w _ hx341_0)).trans hx341_0
                      replace p341:=eq_true p341
                      replace q341:=eq_true q341
                      try go_wp2_with (first | ((with_reducible refine gate_dst (N:=150) rfl ?_);(try (refine gate_guard (by rfl) ?_;dsimp only));refine Kd.R_lit (Kd.int .u8) _ 5 ?hg (N:=150) ?hd (xs:=([(ji68) % 256]:List Int)) (inner:=[.int .u8 ((ji68) % 256)]) (ok:=fun _=>True) (okp:=fun _=>True) ?hr ?hp (fun _ hk=>hk) trivial (Below.refl _ _) (Nat.le_refl _) (by simp) ?_;(case hd=>rfl);(case hg=>rfl);(case hr=>first | (go_simp;done) | (go_simp;rfl));(case hp=>exact (Reps.one (show Kd.M (Kd.int .u8) _ _ _ ((ji68) % 256) [.int .u8 ((ji68) % 256)] from rfl) (Reps.none _ _)));intro v343 w72 ho73 hb hg_ hnew_;clear hg_ hnew_;(first | rw [← Ny342.out] at ho73 | (simp only [Int.reduceToNat] at ho73;rw [← Ny342.out] at ho73));have n0_:=rk HO_341003 hb;have n1_:=Aside0.mk (Kd.R_lower ho73 (below_size (hn HB)));have n2_:=bb BK340 hb;have n3_:=hs HB hb;clear HO_341003;clear BK340;clear HB;have HO_341003:=n0_;have HO344:=n1_;have BK340:=n2_;have HB:=n3_;clear n0_ n1_ n2_ n3_;clear hb ho73;have hcv74:=own_string (P:=Try.prog) Try.underlying40 Try.underlying5 Try.underlying9 (Kd.own_of_R HO344.out)))
                      have n0_:=Aside0.mk (Kd.R_drew HO_341003.out)
                      have n1_:=Aside0.mk (Kd.R_drew HO344.out)
                      have n2_:=Aside0.mk (blk_drew BK340.out)
                      have n3_:=Aside0.mk (below_drew1 HB.out)
                      clear HO_341003
                      clear HO344
                      clear BK340
                      clear HB
                      have HO_341003:=n0_
                      have HO344:=n1_
                      have BK340:=n2_
                      have HB:=n3_
                      clear n0_ n1_ n2_ n3_
                      have p345:0≤((ji68):Int):=of_decide_eq_true (by first | (with_reducible assumption) | assumption)
                      have q345:(ji68) < (l3.length:Int):=of_decide_eq_true (by first | (with_reducible assumption) | assumption)
                      obtain ⟨ad345,e345,hx345_0,hx345_1,hx345_2,hx345_3⟩:=at_T89 HR3.out (ji68) p345 q345
                      have hw345_3:=hx345_3
                      have hw345_2:=hx345_2
                      have hw345_1:=hx345_1
                      have hw345_0:=hx345_0
                      cases e345
                      replace hx345_0:=(HB.out.cell (World.block_lt_of_cell? w _ hx345_0)).trans hx345_0
                      replace hx345_1:=(HB.out.cell (World.block_lt_of_cell? w _ hx345_1)).trans hx345_1
                      replace hx345_2:=(HB.out.cell (World.block_lt_of_cell? w _ hx345_2)).trans hx345_2
                      replace hx345_3:=(HB.out.cell (World.block_lt_of_cell? w _ hx345_3)).trans hx345_3
                      replace p345:=eq_true p345
                      replace q345:=eq_true q345
                      refine start_ (n:=10) (S:=fun w'=>w'.cell? ⟨gb340,0,none⟩=some (.int .i64 (wrap64 (a0)))∧w'.cell? ⟨gb340,1,none⟩=some (.int .i64 (wrap64 (1+(wrap64 (Int.tmod a1 20)))))∧w'.cell? ⟨gb340,2,none⟩=some (.int .i64 (wrap64 (1+(wrap64 (Int.tmod a2 20)))))∧w'.cell? ⟨gb340,3,none⟩=some (u341003)∧w'.cell? (ad345.add (((ji68)).toNat*4))=some (.int .i64 ((rd_T89 l3 (ji68)).f0))∧w'.cell? ⟨(ad345.add (((ji68)).toNat*4)).block,(ad345.add (((ji68)).toNat*4)).off+1,none⟩=some (.int .i64 ((rd_T89 l3 (ji68)).f1))∧w'.cell? ⟨(ad345.add (((ji68)).toNat*4)).block,(ad345.add (((ji68)).toNat*4)).off+2,none⟩=some (.int .i64 ((rd_T89 l3 (ji68)).f2))∧w'.cell? ⟨(ad345.add (((ji68)).toNat*4)).block,(ad345.add (((ji68)).toNat*4)).off+3,none⟩=some (.int .i64 ((rd_T89 l3 (ji68)).f3))) (ds:=[9]) #[false,false,false,false,false,false,false,false,false,false] (by kernel_rfl) rfl rfl ⟨(blk_cell BK340.out 0).trans rfl,(blk_cell BK340.out 1).trans rfl,(blk_cell BK340.out 2).trans rfl,(blk_cell BK340.out 3).trans rfl,((HB.out.cell (World.block_lt_of_cell? w _ hw345_0)).trans hw345_0),((HB.out.cell (World.block_lt_of_cell? w _ hw345_1)).trans hw345_1),((HB.out.cell (World.block_lt_of_cell? w _ hw345_2)).trans hw345_2),((HB.out.cell (World.block_lt_of_cell? w _ hw345_3)).trans hw345_3)⟩ (fun hHeld=>?_);refine with_tabW celluloidlaw11_PixelTable.tab22 celluloidlaw11_PixelTable.bits22 (fun HT_ HW_=>?_)
                      generalize w72.drew=w75 at HO_341003 HO344 BK340 HB hx345_0 hx345_1 hx345_2 hx345_3 hHeld ⊢
                      refine pureQ 0 (some 156) (tk 1 9) (any_of HT_.out (by kernel_rfl)) ?_
                      refine pureQ 2 (some 158) #[true,false,true,false,false,false,false,false,false,false] (any_of HT_.out (by kernel_rfl)) ?_
                      refine pureQ 3 (some 159) #[true,false,true,true,false,false,false,false,false,false] (any_of HT_.out (by kernel_rfl)) ?_
                      refine pureQ 4 (some 160) #[true,false,true,true,true,false,false,false,false,false] (any_of HT_.out (by kernel_rfl)) ?_
                      refine take_ (i:=1) (N:=some 157) (v:=?_) (a':=?_) (tk 5 5) rfl rfl (take_ofW HT_.out HW_.out (by kernel_rfl)) (fun _ _ _ h=>h) (Or.inl ⟨by rfl,?_⟩) hHeld ?_ ?_
                      rotate_left
                      ·rintro w' ⟨s0,s1,s2,s3,s4,s5,s6,s7⟩
                       go_simp
                       with_reducible rfl
                      rotate_left
                      ·simp only [Act.put,List.setIfInBounds_toArray,List.set_cons_zero,List.set_cons_succ,i64_w,i32_w]
                       rfl
                      refine take_ (i:=5) (N:=some 161) (v:=?_) (a':=?_) (tk 6 4) rfl rfl (take_ofW HT_.out HW_.out (by kernel_rfl)) (fun _ _ _ h=>h) (Or.inl ⟨by rfl,?_⟩) hHeld ?_ ?_
                      rotate_left
                      ·rintro w' ⟨s0,s1,s2,s3,s4,s5,s6,s7⟩
                       go_simp
                       with_reducible rfl
                      rotate_left
                      ·simp only [Act.put,List.setIfInBounds_toArray,List.set_cons_zero,List.set_cons_succ,i64_w,i32_w]
                       rfl
                      refine one_ (i:=6) (N:=some 162) (tk 7 3) rfl rfl (one_of HT_.out (by kernel_rfl)) (by decide) (fun K hK=>?_)
                      refine value_ (w1:=?_) (v:=?_) (by rfl) rfl ?_ ?_
                      rotate_left 2
                      ·go_simp
                       constructor
                       ·rfl
                       ·rfl
                      refine hK.out _ _ ⟨(blk_cell (blk_alloc BK340.out _) 0).trans rfl,(blk_cell (blk_alloc BK340.out _) 1).trans rfl,(blk_cell (blk_alloc BK340.out _) 2).trans rfl,(blk_cell (blk_alloc BK340.out _) 3).trans rfl,(World.cell?_alloc_lt _ _ _ (World.block_lt_of_cell? _ _ (((HB.out.cell (World.block_lt_of_cell? w _ hw345_0)).trans hw345_0)))).trans (((HB.out.cell (World.block_lt_of_cell? w _ hw345_0)).trans hw345_0)),(World.cell?_alloc_lt _ _ _ (World.block_lt_of_cell? _ _ (((HB.out.cell (World.block_lt_of_cell? w _ hw345_1)).trans hw345_1)))).trans (((HB.out.cell (World.block_lt_of_cell? w _ hw345_1)).trans hw345_1)),(World.cell?_alloc_lt _ _ _ (World.block_lt_of_cell? _ _ (((HB.out.cell (World.block_lt_of_cell? w _ hw345_2)).trans hw345_2)))).trans (((HB.out.cell (World.block_lt_of_cell? w _ hw345_2)).trans hw345_2)),(World.cell?_alloc_lt _ _ _ (World.block_lt_of_cell? _ _ (((HB.out.cell (World.block_lt_of_cell? w _ hw345_3)).trans hw345_3)))).trans (((HB.out.cell (World.block_lt_of_cell? w _ hw345_3)).trans hw345_3))⟩ (fun hHeld=>?_)
                      clear hK K
                      refine norm_ (a':=?_) ?_ ?_
                      rotate_left
                      ·show Act.put _ (some 162) _=_
                       simp only [Act.put,List.setIfInBounds_toArray,List.set_cons_zero,List.set_cons_succ,i64_w,i32_w]
                       rfl
                      refine one_ (i:=7) (N:=some 163) (tk 8 2) rfl rfl (one_of HT_.out (by kernel_rfl)) (by decide) (fun K hK=>?_)
                      refine Kd.R_append_step k89 (w0:=w) w.heap.size (by rfl) (.tmp 157) (.tmp 162) 74 89 (.agg #[(.int .i64 0),(.int .i64 0),(.int .i64 0),(.int .i64 0)]) 32 rfl Try.underlying74 GPix.info89 rfl (by decide) (by omega) u341003 x341003_4 (⟨(rd_T89 l3 (ji68)).f0,(rd_T89 l3 (ji68)).f1,(rd_T89 l3 (ji68)).f2,(rd_T89 l3 (ji68)).f3⟩:S89) [.int .i64 ((rd_T89 l3 (ji68)).f0),.int .i64 ((rd_T89 l3 (ji68)).f1),.int .i64 ((rd_T89 l3 (ji68)).f2),.int .i64 ((rd_T89 l3 (ji68)).f3)] (fun _=>True) (fun _=>False) rfl rfl ?aP (fun _ hk=>hk.elim) ?aF ?aO ?aB ?aS ?aL ?_
                      (case aP=>exact k89_mkM _ _ _ (⟨(rd_T89 l3 (ji68)).f0,(rd_T89 l3 (ji68)).f1,(rd_T89 l3 (ji68)).f2,(rd_T89 l3 (ji68)).f3⟩:S89))
                      (case aB=>exact (hn HB))
                      (case aF=>exact (fun _ _=>trivial))
                      (case aO=>exact (by (with_reducible repeat (first | apply Kd.R_alloc | apply Kd.R_drewN | apply Kd.R_drew));exact HO_341003.out))
                      (case aS=>exact (below_size (hn HB)))
                      (case aL=>have:=LMc71.out;omega)
                      intro v347 w76 ho hb hg hat
                      rw [← Ny346.out] at ho
                      have n0_:=Aside0.mk (blk_grown (g:=gb340) (o:=.cells #[.int .i64 (wrap64 (a0)),.int .i64 (wrap64 (1+(wrap64 (Int.tmod a1 20)))),.int .i64 (wrap64 (1+(wrap64 (Int.tmod a2 20)))),u341003] 76 (0,0)) (by (with_reducible repeat (first | refine blk_drewN ?_ _ | refine blk_drew ?_ | refine blk_alloc ?_ _));exact BK340.out) hg (Kd.R_ne HO_341003.out BK340.out (by decide)))
                      have n1_:=Aside0.mk (Kd.R_over' (by (with_reducible repeat (first | apply Kd.R_alloc | apply Kd.R_drewN | apply Kd.R_drew));exact HO344.out) (Kd.R_typed (by (with_reducible repeat (first | apply Kd.R_alloc | apply Kd.R_drewN | apply Kd.R_drew));exact HO_341003.out)) (by decide) hg)
                      have n2_:=Aside0.mk (hb)
                      have n3_:=Aside0.mk (ho)
                      clear BK340
                      clear HO344
                      clear HB
                      clear HO_341003
                      have BK340:=n0_
                      have HO344:=n1_
                      have HB:=n2_
                      have HO348:=n3_
                      clear n0_ n1_ n2_ n3_
                      clear ho hb hg hat
                      obtain ⟨Ao77,co77,eo77⟩:=Kd.R_slice HO348.out
                      (first | subst eo77 | (injection eo77 with f1_ f2_ f3_;have f4_:=f1_.symm;have f5_:=f3_.symm;clear f1_ f2_ f3_;subst f4_;subst f5_))
                      refine hK.out _ _ ⟨(blk_cell BK340.out 0).trans rfl,(blk_cell BK340.out 1).trans rfl,(blk_cell BK340.out 2).trans rfl,(blk_cell BK340.out 3).trans rfl,((HB.out.cell (World.block_lt_of_cell? w _ hw345_0)).trans hw345_0),((HB.out.cell (World.block_lt_of_cell? w _ hw345_1)).trans hw345_1),((HB.out.cell (World.block_lt_of_cell? w _ hw345_2)).trans hw345_2),((HB.out.cell (World.block_lt_of_cell? w _ hw345_3)).trans hw345_3)⟩ (fun hHeld=>?_)
                      clear hK K
                      refine norm_ (a':=?_) ?_ ?_
                      rotate_left
                      ·show Act.put _ (some 163) _=_
                       simp only [Act.put,List.setIfInBounds_toArray,List.set_cons_zero,List.set_cons_succ,i64_w,i32_w]
                       rfl
                      refine pureQ 8 (some 164) (tk 9 1) (any_of HT_.out (by kernel_rfl)) ?_
                      refine last_ (i:=9) (N:=none) #[true,true,true,true,true,true,true,true,true,true] rfl rfl (one_of HT_.out (by kernel_rfl)) (by decide) (fun K hK=>?_)
                      have hs78:w76.cell? ⟨gb340,3,none⟩=some (u341003):=(blk_cell BK340.out 3).trans rfl
                      have hfs78:=blk_frozen BK340.out 3
                      refine skip_ (w1:=?_) (by rfl) rfl ?_ ?_
                      rotate_left
                      ·go_simp
                       rfl
                      refine hK.out _ _ ?_
                      clear hK K
                      refine done_ (done_of HT_.out (by kernel_rfl)) ?_
                      try go_wp2
                      go_roundg k4
                      case measure=>have:=HJ5.out;have:=HK2.out;have:=HK3.out;have:=HK4.out;omega
                      case rel=>exact ⟨(x13_4 ++ (strOfNums y342)),(wrap64 (x18_4+1)),(y346),(.slice Ao77 y346.length co77),(by first | rfl | (simp;done) | (simp [*];done)),(by first | rfl | (simp;done) | (simp [*];done)),H',⟨by have:=HJ5.out;have:=HK2.out;have:=HK3.out;have:=HK4.out;omega⟩,⟨by (with_reducible repeat (first | apply Kd.R_alloc | apply Kd.R_drewN | apply Kd.R_drew));exact Kd.R_mono (Kd.R_far (p:=⟨gb340,3,none⟩) (Kd.R_types HO348.out BK340.out (by decide)) (fun _ hk=>hk.2) (.slice Ao77 y346.length co77)) (fun _ hk=>trivial)⟩,⟨by (with_reducible repeat (first | refine blk_drewN ?_ _ | refine blk_drew ?_ | refine blk_alloc ?_ _));refine blk_put (cs:=#[.int .i64 (wrap64 (a0)),.int .i64 (wrap64 (1+(wrap64 (Int.tmod a1 20)))),.int .i64 (wrap64 (1+(wrap64 (Int.tmod a2 20)))),u341003]) ?_ 3 _ rfl;(with_reducible repeat (first | refine blk_drewN ?_ _ | refine blk_drew ?_ | refine blk_alloc ?_ _));exact BK340.out⟩,⟨hn HB⟩⟩
                     ·rw [if_neg c71] at H
                      exact absurd H (by simp)
                    ·rw [if_neg c70] at H
                     exact absurd H (by simp)
                   ·rw [if_neg c69] at H
                    exact absurd H (by simp)
                  ·rw [if_neg c67] at H
                   have c67b0:decide (x18_4 < (wrap64 (1+(wrap64 (Int.tmod a1 20)))))=false:=decide_eq_false c67
                   clear c67
                   have H':=Aside0.mk H
                   clear H
                   have p341:0≤((ji62):Int):=of_decide_eq_true (by first | (with_reducible assumption) | assumption)
                   have q341:(ji62) < (l4.length:Int):=of_decide_eq_true (by first | (with_reducible assumption) | assumption)
                   obtain ⟨ad341,e341,hx341_0⟩:=Kd.at_int HR4.out (ji62) p341 q341
                   cases e341
                   replace hx341_0:=(HB.out.cell (World.block_lt_of_cell? w _ hx341_0)).trans hx341_0
                   replace p341:=eq_true p341
                   replace q341:=eq_true q341
                   go_wp2_with (first | ((with_reducible refine gate_dst (N:=150) rfl ?_);(try (refine gate_guard (by rfl) ?_;dsimp only));refine Kd.R_lit (Kd.int .u8) _ 5 ?hg (N:=150) ?hd (xs:=([(Int.tmod (wrap64 (rd l4 (ji62))) (l3.length:Int)) % 256]:List Int)) (inner:=[.int .u8 ((Int.tmod (wrap64 (rd l4 (ji62))) (l3.length:Int)) % 256)]) (ok:=fun _=>True) (okp:=fun _=>True) ?hr ?hp (fun _ hk=>hk) trivial (Below.refl _ _) (Nat.le_refl _) (by simp) ?_;(case hd=>rfl);(case hg=>rfl);(case hr=>first | (go_simp;done) | (go_simp;rfl));(case hp=>exact (Reps.one (show Kd.M (Kd.int .u8) _ _ _ ((Int.tmod (wrap64 (rd l4 (ji62))) (l3.length:Int)) % 256) [.int .u8 ((Int.tmod (wrap64 (rd l4 (ji62))) (l3.length:Int)) % 256)] from rfl) (Reps.none _ _)));intro v343 w79 ho80 hb hg_ hnew_;clear hg_ hnew_;(first | rw [← Ny342.out] at ho80 | (simp only [Int.reduceToNat] at ho80;rw [← Ny342.out] at ho80));have n0_:=rk HO_341003 hb;have n1_:=Aside0.mk (Kd.R_lower ho80 (below_size (hn HB)));have n2_:=bb BK340 hb;have n3_:=hs HB hb;clear HO_341003;clear BK340;clear HB;have HO_341003:=n0_;have HO344:=n1_;have BK340:=n2_;have HB:=n3_;clear n0_ n1_ n2_ n3_;clear hb ho80;have hcv81:=own_string (P:=Try.prog) Try.underlying40 Try.underlying5 Try.underlying9 (Kd.own_of_R HO344.out)))
                   go_roundg k4
                   case measure=>have:=HJ5.out;have:=HK2.out;have:=HK3.out;have:=HK4.out;omega
                   case rel=>exact ⟨(x13_4 ++ (strOfNums y342)),(wrap64 (x18_4+1)),(x341003_4),(u341003),(by first | rfl | (simp;done) | (simp [*];done)),(by first | rfl | (simp;done) | (simp [*];done)),H',⟨by have:=HJ5.out;have:=HK2.out;have:=HK3.out;have:=HK4.out;omega⟩,⟨by (with_reducible repeat (first | apply Kd.R_alloc | apply Kd.R_drewN | apply Kd.R_drew));exact HO_341003.out⟩,⟨by (with_reducible repeat (first | refine blk_drewN ?_ _ | refine blk_drew ?_ | refine blk_alloc ?_ _));exact BK340.out⟩,⟨hn HB⟩⟩
                 ·rw [if_neg c66] at H
                  exact absurd H (by simp)
               ·rw [if_neg c64] at H
                exact absurd H (by simp)
              ·rw [if_neg c63] at H
               exact absurd H (by simp)
            ·rw [if_neg c60] at H
             have c60b0:decide (x18_4 < (wrap64 ((wrap64 (Int.tdiv (wrap64 ((wrap64 (1+(wrap64 (Int.tmod a1 20))))+3)) 4))*4)))=false:=decide_eq_false c60
             clear c60
             have H':=Aside0.mk H
             clear H
             go_wp2
             go_roundg k4
             case measure=>have:=HJ5.out;have:=HK2.out;have:=HK3.out;have:=HK4.out;omega
             case rel=>exact ⟨(x13_4),(wrap64 (x17_3+1)),(x341003_4),(u341003),(by first | rfl | (simp;done) | (simp [*];done)),(by first | rfl | (simp;done) | (simp [*];done)),H',⟨by have:=HJ5.out;have:=HK2.out;have:=HK3.out;have:=HK4.out;omega⟩,⟨by (with_reducible repeat (first | apply Kd.R_alloc | apply Kd.R_drewN | apply Kd.R_drew));exact HO_341003.out⟩,⟨by (with_reducible repeat (first | refine blk_drewN ?_ _ | refine blk_drew ?_ | refine blk_alloc ?_ _));exact BK340.out⟩,⟨hn HB⟩⟩
         ·rw [if_neg c59] at H
          have c59b0:decide (x17_3 < (wrap64 (1+(wrap64 (Int.tmod a2 20)))))=false:=decide_eq_false c59
          clear c59
          replace H:=Option.bind_eq_some_iff.mp H
          obtain ⟨⟨t349,t350⟩,A820,H⟩:=H
          replace H:((some (([(a0) % 256,(a0 / 256) % 256,3,((wrap64 (1+(wrap64 (Int.tmod a1 20))))) % 256,0,((wrap64 (1+(wrap64 (Int.tmod a2 20))))) % 256,0,(wrap64 ((l3.length:Int) - 1)) % 256]:List Int):List Int)).bind fun y351=>(if (strOfNums y351).size+t349.size≤9223372036854775807 then ((pixel_Take.f k3 ((strOfNums y351) ++ t349)).bind fun bt354=>(if t350=0 then (if bt354.2.2.2.2=0 then ((celluloidlaw11_ref.f bt354.1 bt354.2.1 bt354.2.2.1 bt354.2.2.2.1).bind fun bt362=>((celluloidlaw11_ref.f (wrap64 (a0)) (wrap64 (1+(wrap64 (Int.tmod a1 20)))) (wrap64 (1+(wrap64 (Int.tmod a2 20)))) x341003_3).bind fun bt368=>((celluloidref11_Equal.f k3 bt362.1 bt362.2.1 bt362.2.2.1 bt362.2.2.2 bt368.1 bt368.2.1 bt368.2.2.1 bt368.2.2.2).bind fun t374=>(if t374=true then ((celluloidlaw11_awake.f k3).bind fun t375=>(some t375)) else (some false))))) else (some false)) else (some false))) else (none)))=some r:=H
          have A82:=Aside0.mk A820
          clear A820
          obtain ⟨y351,hy351⟩:∃ y_:List Int,y_=(([(a0) % 256,(a0 / 256) % 256,3,((wrap64 (1+(wrap64 (Int.tmod a1 20))))) % 256,0,((wrap64 (1+(wrap64 (Int.tmod a2 20))))) % 256,0,(wrap64 ((l3.length:Int) - 1)) % 256]:List Int)):=⟨_,rfl⟩
          replace H:(if (strOfNums y351).size+t349.size≤9223372036854775807 then ((pixel_Take.f k3 ((strOfNums y351) ++ t349)).bind fun bt354=>(if t350=0 then (if bt354.2.2.2.2=0 then ((celluloidlaw11_ref.f bt354.1 bt354.2.1 bt354.2.2.1 bt354.2.2.2.1).bind fun bt362=>((celluloidlaw11_ref.f (wrap64 (a0)) (wrap64 (1+(wrap64 (Int.tmod a1 20)))) (wrap64 (1+(wrap64 (Int.tmod a2 20)))) x341003_3).bind fun bt368=>((celluloidref11_Equal.f k3 bt362.1 bt362.2.1 bt362.2.2.1 bt362.2.2.2 bt368.1 bt368.2.1 bt368.2.2.1 bt368.2.2.2).bind fun t374=>(if t374=true then ((celluloidlaw11_awake.f k3).bind fun t375=>(some t375)) else (some false))))) else (some false)) else (some false))) else (none))=some r:=by first | (rw [hy351];with_reducible exact H) | (have H2_:=(Option.bind_some _ _).symm.trans H;rw [hy351];with_reducible exact H2_) | (have H2_:=(Option.bind_some _ _).symm.trans H;with_reducible exact H2_) | with_reducible exact H | (rw [hy351];exact H) | exact H
          have Ny351:=Aside0.mk hy351
          clear hy351
          by_cases c83:(strOfNums y351).size+t349.size≤9223372036854775807
          ·rw [if_pos c83] at H
           have c83b0:=eq_true c83
           have c83b1:decide ((strOfNums y351).size+t349.size≤9223372036854775807)=true:=decide_eq_true c83
           try have c83b2:(9223372036854775807 < (strOfNums y351).size+t349.size)=False:=eq_false (Nat.not_lt.2 c83)
           replace H:=Option.bind_eq_some_iff.mp H
           obtain ⟨⟨t354,t355,t356,t357,t360⟩,A840,H⟩:=H
           replace H:(if t350=0 then (if t360=0 then ((celluloidlaw11_ref.f t354 t355 t356 t357).bind fun bt362=>((celluloidlaw11_ref.f (wrap64 (a0)) (wrap64 (1+(wrap64 (Int.tmod a1 20)))) (wrap64 (1+(wrap64 (Int.tmod a2 20)))) x341003_3).bind fun bt368=>((celluloidref11_Equal.f k3 bt362.1 bt362.2.1 bt362.2.2.1 bt362.2.2.2 bt368.1 bt368.2.1 bt368.2.2.1 bt368.2.2.2).bind fun t374=>(if t374=true then ((celluloidlaw11_awake.f k3).bind fun t375=>(some t375)) else (some false))))) else (some false)) else (some false))=some r:=H
           have A84:=Aside0.mk A840
           clear A840
           by_cases c85:t350=0
           ·rw [if_pos c85] at H
            have c85b0:(t350 == 0)=true:=beq_iff_eq.mpr c85
            have c85b1:(t350 != 0)=false:=bne_eq_false_iff_eq.mpr c85
            clear c85
            by_cases c86:t360=0
            ·rw [if_pos c86] at H
             have c86b0:(t360 == 0)=true:=beq_iff_eq.mpr c86
             have c86b1:(t360 != 0)=false:=bne_eq_false_iff_eq.mpr c86
             clear c86
             replace H:=Option.bind_eq_some_iff.mp H
             obtain ⟨⟨t362,t363,t364,t365⟩,A870,H⟩:=H
             replace H:((celluloidlaw11_ref.f (wrap64 (a0)) (wrap64 (1+(wrap64 (Int.tmod a1 20)))) (wrap64 (1+(wrap64 (Int.tmod a2 20)))) x341003_3).bind fun bt368=>((celluloidref11_Equal.f k3 t362 t363 t364 t365 bt368.1 bt368.2.1 bt368.2.2.1 bt368.2.2.2).bind fun t374=>(if t374=true then ((celluloidlaw11_awake.f k3).bind fun t375=>(some t375)) else (some false))))=some r:=H
             have A87:=Aside0.mk A870
             clear A870
             replace H:=Option.bind_eq_some_iff.mp H
             obtain ⟨⟨t368,t369,t370,t371⟩,A880,H⟩:=H
             replace H:((celluloidref11_Equal.f k3 t362 t363 t364 t365 t368 t369 t370 t371).bind fun t374=>(if t374=true then ((celluloidlaw11_awake.f k3).bind fun t375=>(some t375)) else (some false)))=some r:=H
             have A88:=Aside0.mk A880
             clear A880
             replace H:=Option.bind_eq_some_iff.mp H
             obtain ⟨t374,A890,H⟩:=H
             replace H:(if t374=true then ((celluloidlaw11_awake.f k3).bind fun t375=>(some t375)) else (some false))=some r:=H
             have A89:=Aside0.mk A890
             clear A890
             by_cases c90:t374=true
             ·subst c90
              have H1:((celluloidlaw11_awake.f k3).bind fun t375=>(some t375))=some r:=by rw [if_pos rfl] at H;exact H
              clear H
              have H:=H1
              clear H1
              replace H:=Option.bind_eq_some_iff.mp H
              obtain ⟨t375,A910,H⟩:=H
              replace H:(some t375)=some r:=H
              have A91:=Aside0.mk A910
              clear A910
              first
              |exact absurd (Option.some.inj H) (by rw [hr_.out];decide)
              |obtain rfl:=Option.some.inj H
               try go_wp2_with (first | ((with_reducible refine gate_callee (f:=40) rfl ?_);refine goesQ (some 167) Try.func40 #[.string x13_3] ?_;(with_reducible refine (deflate_Close.calls k3 x13_3 t349 t350 _ A82.out).mono ?_);rintro e w92 ⟨rfl,hb⟩;refine ⟨_,rfl,?_⟩;have n0_:=rk HO_341003 hb;have n1_:=bb BK340 hb;have n2_:=hs HB hb;clear HO_341003;clear BK340;clear HB;have HO_341003:=n0_;have BK340:=n1_;have HB:=n2_;clear n0_ n1_ n2_;(try clear hb)) | ((with_reducible refine gate_dst (N:=184) rfl ?_);(try (refine gate_guard (by rfl) ?_;dsimp only));refine Kd.R_lit (Kd.int .u8) _ 5 ?hg (N:=184) ?hd (xs:=([(a0) % 256,(a0 / 256) % 256,3,((wrap64 (1+(wrap64 (Int.tmod a1 20))))) % 256,0,((wrap64 (1+(wrap64 (Int.tmod a2 20))))) % 256,0,(wrap64 ((l3.length:Int) - 1)) % 256]:List Int)) (inner:=[.int .u8 ((a0) % 256),.int .u8 ((a0 / 256) % 256),.int .u8 3,.int .u8 (((wrap64 (1+(wrap64 (Int.tmod a1 20))))) % 256),.int .u8 0,.int .u8 (((wrap64 (1+(wrap64 (Int.tmod a2 20))))) % 256),.int .u8 0,.int .u8 ((wrap64 ((l3.length:Int) - 1)) % 256)]) (ok:=fun _=>True) (okp:=fun _=>True) ?hr ?hp (fun _ hk=>hk) trivial (Below.refl _ _) (Nat.le_refl _) (by simp) ?_;(case hd=>rfl);(case hg=>rfl);(case hr=>first | (go_simp;done) | (go_simp;rfl));(case hp=>exact (Reps.one (show Kd.M (Kd.int .u8) _ _ _ ((a0) % 256) [.int .u8 ((a0) % 256)] from rfl) (Reps.one (show Kd.M (Kd.int .u8) _ _ _ ((a0 / 256) % 256) [.int .u8 ((a0 / 256) % 256)] from rfl) (Reps.one (show Kd.M (Kd.int .u8) _ _ _ 3 [.int .u8 3] from rfl) (Reps.one (show Kd.M (Kd.int .u8) _ _ _ (((wrap64 (1+(wrap64 (Int.tmod a1 20))))) % 256) [.int .u8 (((wrap64 (1+(wrap64 (Int.tmod a1 20))))) % 256)] from rfl) (Reps.one (show Kd.M (Kd.int .u8) _ _ _ 0 [.int .u8 0] from rfl) (Reps.one (show Kd.M (Kd.int .u8) _ _ _ (((wrap64 (1+(wrap64 (Int.tmod a2 20))))) % 256) [.int .u8 (((wrap64 (1+(wrap64 (Int.tmod a2 20))))) % 256)] from rfl) (Reps.one (show Kd.M (Kd.int .u8) _ _ _ 0 [.int .u8 0] from rfl) (Reps.one (show Kd.M (Kd.int .u8) _ _ _ ((wrap64 ((l3.length:Int) - 1)) % 256) [.int .u8 ((wrap64 ((l3.length:Int) - 1)) % 256)] from rfl) (Reps.none _ _))))))))));intro v352 w93 ho94 hb hg_ hnew_;clear hg_ hnew_;(first | rw [← Ny351.out] at ho94 | (simp only [Int.reduceToNat] at ho94;rw [← Ny351.out] at ho94));have n0_:=rk HO_341003 hb;have n1_:=Aside0.mk (Kd.R_lower ho94 (below_size (hn HB)));have n2_:=bb BK340 hb;have n3_:=hs HB hb;clear HO_341003;clear BK340;clear HB;have HO_341003:=n0_;have HO353:=n1_;have BK340:=n2_;have HB:=n3_;clear n0_ n1_ n2_ n3_;clear hb ho94;have hcv95:=own_string (P:=Try.prog) Try.underlying40 Try.underlying5 Try.underlying9 (Kd.own_of_R HO353.out)) | ((with_reducible refine gate_callee (f:=54) rfl ?_);refine goesQ (some 188) Try.func54 #[.string ((strOfNums y351) ++ t349)] ?_;(with_reducible refine (pixel_Take.calls k3 ((strOfNums y351) ++ t349) t354 t355 t356 t357 t360 _ A84.out).mono ?_);rintro e w96 ⟨v358,rfl,ho0,hb⟩;refine ⟨_,rfl,?_⟩;have n0_:=Aside0.mk (Kd.R_elder' (by (with_reducible repeat (first | apply Kd.R_alloc | apply Kd.R_drewN | apply Kd.R_drew));exact HO_341003.out) (Kd.R_base ho0) hb);have n1_:=rk HO353 hb;have n2_:=Aside0.mk (Kd.R_lower (Kd.R_new' ho0 (Kd.R_lt (by (with_reducible repeat (first | apply Kd.R_alloc | apply Kd.R_drewN | apply Kd.R_drew));exact HO_341003.out))) (below_size (hn HB)));have n3_:=bb BK340 hb;have n4_:=hs HB hb;clear HO_341003;clear HO353;clear BK340;clear HB;have HO_341003:=n0_;have HO353:=n1_;have HO359:=n2_;have BK340:=n3_;have HB:=n4_;clear n0_ n1_ n2_ n3_ n4_;(try clear hb);(try clear ho0)) | ((with_reducible refine gate_dst (N:=22) rfl ?_);(try (refine gate_guard (by rfl) ?_;dsimp only));refine boxQ 22 #[.int .i64 0,.int .i64 0,.int .i64 0,.slice none 0 0] 76 ?_;intro gb361 hg w97 hbox hb;have n0_:=rk HO_341003 hb;have n1_:=rk HO353 hb;have n2_:=rk HO359 hb;have n3_:=bb BK340 hb;have n4_:=hs HB hb;have n5_:=Aside0.mk (hbox);have n6_:=gs HB hg;have n7_:=gs HB hg;have n8_:=nl BK340 hg;have n9_:=ng BK340 hg;clear HO_341003;clear HO353;clear HO359;clear BK340;clear HB;have HO_341003:=n0_;have HO353:=n1_;have HO359:=n2_;have BK340:=n3_;have HB:=n4_;have BK361:=n5_;have GW361:=n6_;have GE361:=n7_;have NB340_361:=n8_;have NB361_340:=n9_;clear n0_ n1_ n2_ n3_ n4_ n5_ n6_ n7_ n8_ n9_;clear hb hbox hg;have hnb98:=NB361_340.out;have hnc98:=NB340_361.out;obtain ⟨hcz99_0,hcz99_1,hcz99_2,hcz99_3⟩:=cc4 BK361;obtain ⟨hfz99_0,hfz99_1,hfz99_2,hfz99_3⟩:=ff4 BK361;obtain ⟨Ao100,co100,eo100⟩:=Kd.R_slice HO359.out;subst eo100))
               have n0_:Aside0 (Kd.R k89 89 ((((w97.setCell ⟨gb361,0,none⟩ (.int .i64 t354)).setCell ⟨gb361,1,none⟩ (.int .i64 t355)).setCell ⟨gb361,2,none⟩ (.int .i64 t356)).setCell ⟨gb361,3,none⟩ (.slice Ao100 t357.length co100)) w.heap.size (fun k_=>some k_ ≠ (.slice Ao100 t357.length co100:Value).ownBlock) u341003 x341003_3):=⟨by (with_reducible repeat (first | apply Kd.R_alloc | apply Kd.R_drewN | apply Kd.R_drew));exact Kd.R_mono (Kd.R_far (p:=⟨gb361,3,none⟩) (Kd.R_far (p:=⟨gb361,2,none⟩) (Kd.R_far (p:=⟨gb361,1,none⟩) (Kd.R_far (p:=⟨gb361,0,none⟩) (Kd.R_types HO_341003.out BK361.out (by decide)) (fun _ hk=>hk.2) (.int .i64 t354)) (fun _ hk=>hk.2) (.int .i64 t355)) (fun _ hk=>hk.2) (.int .i64 t356)) (fun _ hk=>hk.2) (.slice Ao100 t357.length co100)) (fun _ hk=>hk.1.2)⟩
               have n1_:Aside0 (Kd.R (Kd.int .u8) 5 ((((w97.setCell ⟨gb361,0,none⟩ (.int .i64 t354)).setCell ⟨gb361,1,none⟩ (.int .i64 t355)).setCell ⟨gb361,2,none⟩ (.int .i64 t356)).setCell ⟨gb361,3,none⟩ (.slice Ao100 t357.length co100)) w.heap.size (fun _=>True) v352 y351):=⟨by (with_reducible repeat (first | apply Kd.R_alloc | apply Kd.R_drewN | apply Kd.R_drew));exact Kd.R_mono (Kd.R_far (p:=⟨gb361,3,none⟩) (Kd.R_far (p:=⟨gb361,2,none⟩) (Kd.R_far (p:=⟨gb361,1,none⟩) (Kd.R_far (p:=⟨gb361,0,none⟩) (Kd.R_types HO353.out BK361.out (by decide)) (fun _ hk=>hk.2) (.int .i64 t354)) (fun _ hk=>hk.2) (.int .i64 t355)) (fun _ hk=>hk.2) (.int .i64 t356)) (fun _ hk=>hk.2) (.slice Ao100 t357.length co100)) (fun _ hk=>trivial)⟩
               have n2_:Aside0 (Kd.R k89 89 ((((w97.setCell ⟨gb361,0,none⟩ (.int .i64 t354)).setCell ⟨gb361,1,none⟩ (.int .i64 t355)).setCell ⟨gb361,2,none⟩ (.int .i64 t356)).setCell ⟨gb361,3,none⟩ (.slice Ao100 t357.length co100)) w.heap.size (fun k_=>some k_ ≠ (u341003:Value).ownBlock) (.slice Ao100 t357.length co100) t357):=⟨by (with_reducible repeat (first | apply Kd.R_alloc | apply Kd.R_drewN | apply Kd.R_drew));exact Kd.R_mono (Kd.R_far (p:=⟨gb361,3,none⟩) (Kd.R_far (p:=⟨gb361,2,none⟩) (Kd.R_far (p:=⟨gb361,1,none⟩) (Kd.R_far (p:=⟨gb361,0,none⟩) (Kd.R_types HO359.out BK361.out (by decide)) (fun _ hk=>hk.2) (.int .i64 t354)) (fun _ hk=>hk.2) (.int .i64 t355)) (fun _ hk=>hk.2) (.int .i64 t356)) (fun _ hk=>hk.2) (.slice Ao100 t357.length co100)) (fun _ hk=>hk.1.2)⟩
               have n3_:Aside0 (((((w97.setCell ⟨gb361,0,none⟩ (.int .i64 t354)).setCell ⟨gb361,1,none⟩ (.int .i64 t355)).setCell ⟨gb361,2,none⟩ (.int .i64 t356)).setCell ⟨gb361,3,none⟩ (.slice Ao100 t357.length co100)).heap[gb340]?=some (.cells #[.int .i64 (wrap64 (a0)),.int .i64 (wrap64 (1+(wrap64 (Int.tmod a1 20)))),.int .i64 (wrap64 (1+(wrap64 (Int.tmod a2 20)))),u341003] 76 (0,0))):=⟨by (with_reducible repeat (first | refine blk_drewN ?_ _ | refine blk_drew ?_ | refine blk_alloc ?_ _));refine blk_far ?_ NB340_361.out _;(with_reducible repeat (first | refine blk_drewN ?_ _ | refine blk_drew ?_ | refine blk_alloc ?_ _));refine blk_far ?_ NB340_361.out _;(with_reducible repeat (first | refine blk_drewN ?_ _ | refine blk_drew ?_ | refine blk_alloc ?_ _));refine blk_far ?_ NB340_361.out _;(with_reducible repeat (first | refine blk_drewN ?_ _ | refine blk_drew ?_ | refine blk_alloc ?_ _));refine blk_far ?_ NB340_361.out _;(with_reducible repeat (first | refine blk_drewN ?_ _ | refine blk_drew ?_ | refine blk_alloc ?_ _));exact BK340.out⟩
               have n4_:Aside0 (((((w97.setCell ⟨gb361,0,none⟩ (.int .i64 t354)).setCell ⟨gb361,1,none⟩ (.int .i64 t355)).setCell ⟨gb361,2,none⟩ (.int .i64 t356)).setCell ⟨gb361,3,none⟩ (.slice Ao100 t357.length co100)).heap[gb361]?=some (.cells #[.int .i64 t354,.int .i64 t355,.int .i64 t356,.slice Ao100 t357.length co100] 76 (0,0))):=⟨by (with_reducible repeat (first | refine blk_drewN ?_ _ | refine blk_drew ?_ | refine blk_alloc ?_ _));refine blk_put (cs:=#[.int .i64 t354,.int .i64 t355,.int .i64 t356,.slice none 0 0]) ?_ 3 _ rfl;(with_reducible repeat (first | refine blk_drewN ?_ _ | refine blk_drew ?_ | refine blk_alloc ?_ _));refine blk_put (cs:=#[.int .i64 t354,.int .i64 t355,.int .i64 0,.slice none 0 0]) ?_ 2 _ rfl;(with_reducible repeat (first | refine blk_drewN ?_ _ | refine blk_drew ?_ | refine blk_alloc ?_ _));refine blk_put (cs:=#[.int .i64 t354,.int .i64 0,.int .i64 0,.slice none 0 0]) ?_ 1 _ rfl;(with_reducible repeat (first | refine blk_drewN ?_ _ | refine blk_drew ?_ | refine blk_alloc ?_ _));refine blk_put (cs:=#[.int .i64 0,.int .i64 0,.int .i64 0,.slice none 0 0]) ?_ 0 _ rfl;(with_reducible repeat (first | refine blk_drewN ?_ _ | refine blk_drew ?_ | refine blk_alloc ?_ _));exact BK361.out⟩
               have n5_:Aside0 (Below w.heap.size w ((((w97.setCell ⟨gb361,0,none⟩ (.int .i64 t354)).setCell ⟨gb361,1,none⟩ (.int .i64 t355)).setCell ⟨gb361,2,none⟩ (.int .i64 t356)).setCell ⟨gb361,3,none⟩ (.slice Ao100 t357.length co100))):=⟨hn HB⟩
               (try clear HO_341003)
               (try clear HO353)
               (try clear HO359)
               (try clear BK340)
               (try clear BK361)
               (try clear HB)
               generalize ((((w97.setCell ⟨gb361,0,none⟩ (.int .i64 t354)).setCell ⟨gb361,1,none⟩ (.int .i64 t355)).setCell ⟨gb361,2,none⟩ (.int .i64 t356)).setCell ⟨gb361,3,none⟩ (.slice Ao100 t357.length co100))=w101 at n0_ n1_ n2_ n3_ n4_ n5_ ⊢
               have HO_341003:=n0_
               have HO353:=n1_
               have HO359:=n2_
               have BK340:=n3_
               have BK361:=n4_
               have HB:=n5_
               clear n0_ n1_ n2_ n3_ n4_ n5_
               have n0_:=Aside0.mk (Kd.R_drew HO_341003.out)
               have n1_:=Aside0.mk (Kd.R_drew HO353.out)
               have n2_:=Aside0.mk (Kd.R_drew HO359.out)
               have n3_:=Aside0.mk (blk_drew BK340.out)
               have n4_:=Aside0.mk (blk_drew BK361.out)
               have n5_:=Aside0.mk (below_drew1 HB.out)
               clear HO_341003
               clear HO353
               clear HO359
               clear BK340
               clear BK361
               clear HB
               have HO_341003:=n0_
               have HO353:=n1_
               have HO359:=n2_
               have BK340:=n3_
               have BK361:=n4_
               have HB:=n5_
               clear n0_ n1_ n2_ n3_ n4_ n5_
               refine start_ (n:=17) (S:=fun w'=>w'.cell? ⟨gb361,0,none⟩=some (.int .i64 t354)∧w'.cell? ⟨gb361,1,none⟩=some (.int .i64 t355)∧w'.cell? ⟨gb361,2,none⟩=some (.int .i64 t356)∧w'.cell? ⟨gb361,3,none⟩=some (.slice Ao100 t357.length co100)∧w'.cell? ⟨gb340,0,none⟩=some (.int .i64 (wrap64 (a0)))∧w'.cell? ⟨gb340,1,none⟩=some (.int .i64 (wrap64 (1+(wrap64 (Int.tmod a1 20)))))∧w'.cell? ⟨gb340,2,none⟩=some (.int .i64 (wrap64 (1+(wrap64 (Int.tmod a2 20)))))∧w'.cell? ⟨gb340,3,none⟩=some (u341003)) (ds:=[]) #[false,false,false,false,false,false,false,false,false,false,false,false,false,false,false,false,false] (by kernel_rfl) rfl rfl ⟨(blk_cell BK361.out 0).trans rfl,(blk_cell BK361.out 1).trans rfl,(blk_cell BK361.out 2).trans rfl,(blk_cell BK361.out 3).trans rfl,(blk_cell BK340.out 0).trans rfl,(blk_cell BK340.out 1).trans rfl,(blk_cell BK340.out 2).trans rfl,(blk_cell BK340.out 3).trans rfl⟩ (fun hHeld=>?_);refine with_tabW celluloidlaw11_PixelTable.tab25 celluloidlaw11_PixelTable.bits25 (fun HT_ HW_=>?_)
               generalize w101.drew=w102 at HO_341003 HO353 HO359 BK340 BK361 HB hHeld ⊢
               refine pureQ 0 (some 191) (tk 1 16) (any_of HT_.out (by kernel_rfl)) ?_
               refine pureQ 1 (some 192) (tk 2 15) (any_of HT_.out (by kernel_rfl)) ?_
               refine pureQ 2 (some 193) (tk 3 14) (any_of HT_.out (by kernel_rfl)) ?_
               refine pureQ 3 (some 194) (tk 4 13) (any_of HT_.out (by kernel_rfl)) ?_
               refine pureQ 4 (some 195) (tk 5 12) (any_of HT_.out (by kernel_rfl)) ?_
               refine pureQ 5 (some 196) (tk 6 11) (any_of HT_.out (by kernel_rfl)) ?_
               refine pureQ 6 (some 197) (tk 7 10) (any_of HT_.out (by kernel_rfl)) ?_
               refine take_ (i:=7) (N:=some 198) (v:=?_) (a':=?_) (tk 8 9) rfl rfl (take_ofW HT_.out HW_.out (by kernel_rfl)) (fun _ _ _ h=>h) (Or.inl ⟨by rfl,?_⟩) hHeld ?_ ?_
               rotate_left
               ·rintro w' ⟨s0,s1,s2,s3,s4,s5,s6,s7⟩
                go_simp
                with_reducible rfl
               rotate_left
               ·simp only [Act.put,List.setIfInBounds_toArray,List.set_cons_zero,List.set_cons_succ,i64_w,i32_w]
                rfl
               refine take_ (i:=9) (N:=some 200) (v:=?_) (a':=?_) #[true,true,true,true,true,true,true,true,false,true,false,false,false,false,false,false,false] rfl rfl (take_ofW HT_.out HW_.out (by kernel_rfl)) (fun _ _ _ h=>h) (Or.inl ⟨by rfl,?_⟩) hHeld ?_ ?_
               rotate_left
               ·rintro w' ⟨s0,s1,s2,s3,s4,s5,s6,s7⟩
                go_simp
                with_reducible rfl
               rotate_left
               ·simp only [Act.put,List.setIfInBounds_toArray,List.set_cons_zero,List.set_cons_succ,i64_w,i32_w]
                rfl
               refine one_ (i:=8) (N:=some 199) (tk 10 7) rfl rfl (one_of HT_.out (by kernel_rfl)) (by decide) (fun K hK=>?_)
               refine goes_ Try.func52 (by kernel_rfl) rfl #[.agg #[.int .i64 t354,.int .i64 t355,.int .i64 t356,.slice Ao100 t357.length co100]] (by rfl) rfl rfl (by (try simp only [List.map_toArray,List.map_cons,List.map_nil]);first | done | rfl | (simp only [List.length_drop,List.length_take];rfl)) ?_
               with_reducible refine (celluloidlaw11_ref.calls t354 t355 t356 (fun k_=>some k_=(.slice Ao100 t357.length co100:Value).ownBlock) (.slice Ao100 t357.length co100) t357 t362 t363 t364 t365 w _ ?side1 ?side2 A87.out).mono ?_
               (case side1=>repeat (first | (with_reducible first | exact HB.out | apply below_alloc | apply pw_below_drewN | apply below_drew1 | refine below_set ?_ GE340.out | refine below_set ?_ GE361.out) | exact HB.out))
               (case side2=>exact Kd.R_tight rfl HO359.out)
               rintro e w103 ⟨v366,rfl,ho0,hb,hkp⟩
               refine ⟨_,rfl,?_⟩
               have n0_:=Aside0.mk (Kd.R_mono (ok':=fun k_=>some k_ ≠ (v366:Value).ownBlock) (Kd.R_keptB (HO_341003.out) hkp (fun k_ hk_ hs_=>(hk_) hs_)) (fun k_ hk_=>fun e_=>Or.elim (ho0.1 k_ e_.symm) (fun hs_=>hk_.2.1 hs_) (fun hn_=>Nat.not_le.2 hk_.2.2 hn_)))
               have n1_:=Aside0.mk (blk_kept (by (with_reducible repeat (first | refine blk_drewN ?_ _ | refine blk_drew ?_ | refine blk_alloc ?_ _));exact BK340.out) hkp (fun hs_=>(fun e_=>(Kd.R_ne HO359.out BK340.out (by decide)) e_) hs_))
               have n2_:=Aside0.mk (Kd.R_mono (ok':=fun k_=>True) (Kd.R_keptB ((Kd.R_apart' HO353.out (Kd.R_typed HO359.out) (by decide))) hkp (fun k_ hk_ hs_=>(hk_.2) hs_)) (fun k_ hk_=>trivial))
               have n3_:=Aside0.mk (blk_kept (by (with_reducible repeat (first | refine blk_drewN ?_ _ | refine blk_drew ?_ | refine blk_alloc ?_ _));exact BK361.out) hkp (fun hs_=>(fun e_=>(Kd.R_ne HO359.out BK361.out (by decide)) e_) hs_))
               have n4_:=Aside0.mk (Kd.R_mono (ok':=fun k_=>some k_ ≠ (u341003:Value).ownBlock) ho0 (fun k_ hk_=>Or.elim hk_ (fun hs_=>fun e_=>(((HO_341003.out).1 k_ e_.symm)) hs_) (fun hn_=>(Kd.fresh' (Kd.R_lt (by (with_reducible repeat (first | apply Kd.R_alloc | apply Kd.R_drewN | apply Kd.R_drew));exact HO_341003.out)) k_ hn_))))
               have n5_:=Aside0.mk (hb)
               clear HO_341003
               clear BK340
               clear HO353
               clear BK361
               clear HB
               clear HO359
               have HO_341003:=n0_
               have BK340:=n1_
               have HO353:=n2_
               have BK361:=n3_
               have HO367:=n4_
               have HB:=n5_
               clear n0_ n1_ n2_ n3_ n4_ n5_
               (try clear hb)
               (try clear hkp)
               (try clear ho0)
               obtain ⟨Ao104,co104,eo104⟩:=Kd.R_slice HO_341003.out
               (first | subst eo104 | (injection eo104 with f1_ f2_ f3_;have f4_:=f1_.symm;have f5_:=f3_.symm;clear f1_ f2_ f3_;subst f4_;subst f5_))
               refine hK.out _ _ ⟨(blk_cell BK361.out 0).trans rfl,(blk_cell BK361.out 1).trans rfl,(blk_cell BK361.out 2).trans rfl,(blk_cell BK361.out 3).trans rfl,(blk_cell BK340.out 0).trans rfl,(blk_cell BK340.out 1).trans rfl,(blk_cell BK340.out 2).trans rfl,(blk_cell BK340.out 3).trans rfl⟩ (fun hHeld=>?_)
               clear hK K
               refine norm_ (a':=?_) ?_ ?_
               rotate_left
               ·show Act.put _ (some 199) _=_
                simp only [Act.put,List.setIfInBounds_toArray,List.set_cons_zero,List.set_cons_succ,i64_w,i32_w]
                rfl
               refine one_ (i:=10) (N:=some 201) (tk 11 6) rfl rfl (one_of HT_.out (by kernel_rfl)) (by decide) (fun K hK=>?_)
               refine goes_ Try.func52 (by kernel_rfl) rfl #[.agg #[.int .i64 (wrap64 (a0)),.int .i64 (wrap64 (1+(wrap64 (Int.tmod a1 20)))),.int .i64 (wrap64 (1+(wrap64 (Int.tmod a2 20)))),.slice Ao104 x341003_3.length co104]] (by rfl) rfl rfl (by (try simp only [List.map_toArray,List.map_cons,List.map_nil]);first | done | rfl | (simp only [List.length_drop,List.length_take];rfl)) ?_
               with_reducible refine (celluloidlaw11_ref.calls (wrap64 (a0)) (wrap64 (1+(wrap64 (Int.tmod a1 20)))) (wrap64 (1+(wrap64 (Int.tmod a2 20)))) (fun k_=>some k_=(.slice Ao104 x341003_3.length co104:Value).ownBlock) (.slice Ao104 x341003_3.length co104) x341003_3 t368 t369 t370 t371 w _ ?side1 ?side2 A88.out).mono ?_
               (case side1=>repeat (first | (with_reducible first | exact HB.out | apply below_alloc | apply pw_below_drewN | apply below_drew1 | refine below_set ?_ GE340.out | refine below_set ?_ GE361.out) | exact HB.out))
               (case side2=>exact Kd.R_tight rfl HO_341003.out)
               rintro e w105 ⟨v372,rfl,ho0,hb,hkp⟩
               refine ⟨_,rfl,?_⟩
               have n0_:=Aside0.mk (blk_kept (by (with_reducible repeat (first | refine blk_drewN ?_ _ | refine blk_drew ?_ | refine blk_alloc ?_ _));exact BK340.out) hkp (fun hs_=>(fun e_=>(Kd.R_ne HO_341003.out BK340.out (by decide)) e_) hs_))
               have n1_:=Aside0.mk (Kd.R_mono (ok':=fun k_=>True) (Kd.R_keptB ((Kd.R_apart' HO353.out (Kd.R_typed HO_341003.out) (by decide))) hkp (fun k_ hk_ hs_=>(hk_.2) hs_)) (fun k_ hk_=>trivial))
               have n2_:=Aside0.mk (blk_kept (by (with_reducible repeat (first | refine blk_drewN ?_ _ | refine blk_drew ?_ | refine blk_alloc ?_ _));exact BK361.out) hkp (fun hs_=>(fun e_=>(Kd.R_ne HO_341003.out BK361.out (by decide)) e_) hs_))
               have n3_:=Aside0.mk (Kd.R_mono (ok':=fun k_=>some k_ ≠ (v372:Value).ownBlock) (Kd.R_keptB (HO367.out) hkp (fun k_ hk_ hs_=>(hk_) hs_)) (fun k_ hk_=>fun e_=>Or.elim (ho0.1 k_ e_.symm) (fun hs_=>hk_.2.1 hs_) (fun hn_=>Nat.not_le.2 hk_.2.2 hn_)))
               have n4_:=Aside0.mk (Kd.R_mono (ok':=fun k_=>some k_ ≠ (v366:Value).ownBlock) ho0 (fun k_ hk_=>Or.elim hk_ (fun hs_=>fun e_=>(((HO367.out).1 k_ e_.symm)) hs_) (fun hn_=>(Kd.fresh' (Kd.R_lt (by (with_reducible repeat (first | apply Kd.R_alloc | apply Kd.R_drewN | apply Kd.R_drew));exact HO367.out)) k_ hn_))))
               have n5_:=Aside0.mk (hb)
               clear BK340
               clear HO353
               clear BK361
               clear HO367
               clear HB
               clear HO_341003
               have BK340:=n0_
               have HO353:=n1_
               have BK361:=n2_
               have HO367:=n3_
               have HO373:=n4_
               have HB:=n5_
               clear n0_ n1_ n2_ n3_ n4_ n5_
               (try clear hb)
               (try clear hkp)
               (try clear ho0)
               obtain ⟨Ao106,co106,eo106⟩:=Kd.R_slice HO367.out
               (first | subst eo106 | (injection eo106 with f1_ f2_ f3_;have f4_:=f1_.symm;have f5_:=f3_.symm;clear f1_ f2_ f3_;subst f4_;subst f5_))
               obtain ⟨Ao107,co107,eo107⟩:=Kd.R_slice HO373.out
               (first | subst eo107 | (injection eo107 with f1_ f2_ f3_;have f4_:=f1_.symm;have f5_:=f3_.symm;clear f1_ f2_ f3_;subst f4_;subst f5_))
               refine hK.out _ _ ⟨(blk_cell BK361.out 0).trans rfl,(blk_cell BK361.out 1).trans rfl,(blk_cell BK361.out 2).trans rfl,(blk_cell BK361.out 3).trans rfl,(blk_cell BK340.out 0).trans rfl,(blk_cell BK340.out 1).trans rfl,(blk_cell BK340.out 2).trans rfl,(blk_cell BK340.out 3).trans rfl⟩ (fun hHeld=>?_)
               clear hK K
               refine norm_ (a':=?_) ?_ ?_
               rotate_left
               ·show Act.put _ (some 201) _=_
                simp only [Act.put,List.setIfInBounds_toArray,List.set_cons_zero,List.set_cons_succ,i64_w,i32_w]
                rfl
               refine one_ (i:=11) (N:=some 202) (tk 12 5) rfl rfl (one_of HT_.out (by kernel_rfl)) (by decide) (fun K hK=>?_)
               refine goes_ Try.func56 (by kernel_rfl) rfl #[.agg #[.int .i64 t362,.int .i64 t363,.int .i64 t364,.slice Ao106 t365.length co106],.agg #[.int .i64 t368,.int .i64 t369,.int .i64 t370,.slice Ao107 t371.length co107]] (by rfl) rfl rfl (by (try simp only [List.map_toArray,List.map_cons,List.map_nil]);first | done | rfl | (simp only [List.length_drop,List.length_take];rfl)) ?_
               with_reducible refine (celluloidref11_Equal.calls k3 t362 t363 t364 _ _ t365 t368 t369 t370 _ _ t371 true _ ?side1 ?side2 ?side3 ?side4 A89.out).mono ?_
               (case side1=>repeat (first | exact (Kd.R_reads' HO367.out).2.2 | (with_reducible refine Kd.C_alloc ?_ _) | (with_reducible refine Kd.C_drewN ?_ _) | (with_reducible refine Kd.C_drew ?_)))
               (case side2=>exact (Kd.R_reads' HO367.out).2.1)
               (case side3=>repeat (first | exact (Kd.R_reads' HO373.out).2.2 | (with_reducible refine Kd.C_alloc ?_ _) | (with_reducible refine Kd.C_drewN ?_ _) | (with_reducible refine Kd.C_drew ?_)))
               (case side4=>exact (Kd.R_reads' HO373.out).2.1)
               rintro e w108 ⟨rfl,hb⟩
               refine ⟨_,rfl,?_⟩
               have n0_:=rk HO353 hb
               have n1_:=rk HO367 hb
               have n2_:=rk HO373 hb
               have n3_:=bb BK340 hb
               have n4_:=bb BK361 hb
               have n5_:=hs HB hb
               clear HO353
               clear HO367
               clear HO373
               clear BK340
               clear BK361
               clear HB
               have HO353:=n0_
               have HO367:=n1_
               have HO373:=n2_
               have BK340:=n3_
               have BK361:=n4_
               have HB:=n5_
               clear n0_ n1_ n2_ n3_ n4_ n5_
               (try clear hb)
               (try clear hb2)
               (try clear hk)
               (try clear hi)
               refine hK.out _ _ ⟨(blk_cell BK361.out 0).trans rfl,(blk_cell BK361.out 1).trans rfl,(blk_cell BK361.out 2).trans rfl,(blk_cell BK361.out 3).trans rfl,(blk_cell BK340.out 0).trans rfl,(blk_cell BK340.out 1).trans rfl,(blk_cell BK340.out 2).trans rfl,(blk_cell BK340.out 3).trans rfl⟩ (fun hHeld=>?_)
               clear hK K
               refine norm_ (a':=?_) ?_ ?_
               rotate_left
               ·show Act.put _ (some 202) _=_
                simp only [Act.put,List.setIfInBounds_toArray,List.set_cons_zero,List.set_cons_succ,i64_w,i32_w]
                rfl
               refine pureQ 12 (some 203) (tk 13 4) (any_of HT_.out (by kernel_rfl)) ?_
               refine pureQ 13 (some 204) (tk 14 3) (any_of HT_.out (by kernel_rfl)) ?_
               refine one_ (i:=14) (N:=some 205) (tk 15 2) rfl rfl (one_of HT_.out (by kernel_rfl)) (by decide) (fun K hK=>?_)
               refine goes_ Try.func49 (by kernel_rfl) rfl #[] (by rfl) rfl rfl (by (try simp only [List.map_toArray,List.map_cons,List.map_nil]);first | done | rfl | (simp only [List.length_drop,List.length_take];rfl)) ?_
               with_reducible refine (celluloidlaw11_awake.calls k3  t375 _ A91.out).mono ?_
               rintro e w109 ⟨rfl,hb⟩
               refine ⟨_,rfl,?_⟩
               have n0_:=rk HO353 hb
               have n1_:=rk HO367 hb
               have n2_:=rk HO373 hb
               have n3_:=bb BK340 hb
               have n4_:=bb BK361 hb
               have n5_:=hs HB hb
               clear HO353
               clear HO367
               clear HO373
               clear BK340
               clear BK361
               clear HB
               have HO353:=n0_
               have HO367:=n1_
               have HO373:=n2_
               have BK340:=n3_
               have BK361:=n4_
               have HB:=n5_
               clear n0_ n1_ n2_ n3_ n4_ n5_
               (try clear hb)
               (try clear hb2)
               (try clear hk)
               (try clear hi)
               refine hK.out _ _ ⟨(blk_cell BK361.out 0).trans rfl,(blk_cell BK361.out 1).trans rfl,(blk_cell BK361.out 2).trans rfl,(blk_cell BK361.out 3).trans rfl,(blk_cell BK340.out 0).trans rfl,(blk_cell BK340.out 1).trans rfl,(blk_cell BK340.out 2).trans rfl,(blk_cell BK340.out 3).trans rfl⟩ (fun hHeld=>?_)
               clear hK K
               refine norm_ (a':=?_) ?_ ?_
               rotate_left
               ·show Act.put _ (some 205) _=_
                simp only [Act.put,List.setIfInBounds_toArray,List.set_cons_zero,List.set_cons_succ,i64_w,i32_w]
                rfl
               refine pureQ 15 (some 206) (tk 16 1) (any_of HT_.out (by kernel_rfl)) ?_
               refine pureQ 16 (some 10) (tk 17 0) (any_of HT_.out (by kernel_rfl)) ?_
               refine done_ (done_of HT_.out (by kernel_rfl)) ?_
               try go_wp2
               go_ret
               exact ⟨by first | rfl | (simp [errW_none,errW_some] <;> rfl) | (simp [*,errW_none,errW_some] <;> rfl),hn HB⟩
             ·replace c90:=Bool.eq_false_iff.mpr c90
              subst c90
              have H1:(some false)=some r:=by rw [if_neg (show ¬ (false=true) by decide)] at H;exact H
              clear H
              have H:=H1
              clear H1
              first
              |exact absurd (Option.some.inj H) (by rw [hr_.out];decide)
              |obtain rfl:=Option.some.inj H
               try go_wp2_with (first | ((with_reducible refine gate_callee (f:=40) rfl ?_);refine goesQ (some 167) Try.func40 #[.string x13_3] ?_;(with_reducible refine (deflate_Close.calls k3 x13_3 t349 t350 _ A82.out).mono ?_);rintro e w110 ⟨rfl,hb⟩;refine ⟨_,rfl,?_⟩;have n0_:=rk HO_341003 hb;have n1_:=bb BK340 hb;have n2_:=hs HB hb;clear HO_341003;clear BK340;clear HB;have HO_341003:=n0_;have BK340:=n1_;have HB:=n2_;clear n0_ n1_ n2_;(try clear hb)) | ((with_reducible refine gate_dst (N:=184) rfl ?_);(try (refine gate_guard (by rfl) ?_;dsimp only));refine Kd.R_lit (Kd.int .u8) _ 5 ?hg (N:=184) ?hd (xs:=([(a0) % 256,(a0 / 256) % 256,3,((wrap64 (1+(wrap64 (Int.tmod a1 20))))) % 256,0,((wrap64 (1+(wrap64 (Int.tmod a2 20))))) % 256,0,(wrap64 ((l3.length:Int) - 1)) % 256]:List Int)) (inner:=[.int .u8 ((a0) % 256),.int .u8 ((a0 / 256) % 256),.int .u8 3,.int .u8 (((wrap64 (1+(wrap64 (Int.tmod a1 20))))) % 256),.int .u8 0,.int .u8 (((wrap64 (1+(wrap64 (Int.tmod a2 20))))) % 256),.int .u8 0,.int .u8 ((wrap64 ((l3.length:Int) - 1)) % 256)]) (ok:=fun _=>True) (okp:=fun _=>True) ?hr ?hp (fun _ hk=>hk) trivial (Below.refl _ _) (Nat.le_refl _) (by simp) ?_;(case hd=>rfl);(case hg=>rfl);(case hr=>first | (go_simp;done) | (go_simp;rfl));(case hp=>exact (Reps.one (show Kd.M (Kd.int .u8) _ _ _ ((a0) % 256) [.int .u8 ((a0) % 256)] from rfl) (Reps.one (show Kd.M (Kd.int .u8) _ _ _ ((a0 / 256) % 256) [.int .u8 ((a0 / 256) % 256)] from rfl) (Reps.one (show Kd.M (Kd.int .u8) _ _ _ 3 [.int .u8 3] from rfl) (Reps.one (show Kd.M (Kd.int .u8) _ _ _ (((wrap64 (1+(wrap64 (Int.tmod a1 20))))) % 256) [.int .u8 (((wrap64 (1+(wrap64 (Int.tmod a1 20))))) % 256)] from rfl) (Reps.one (show Kd.M (Kd.int .u8) _ _ _ 0 [.int .u8 0] from rfl) (Reps.one (show Kd.M (Kd.int .u8) _ _ _ (((wrap64 (1+(wrap64 (Int.tmod a2 20))))) % 256) [.int .u8 (((wrap64 (1+(wrap64 (Int.tmod a2 20))))) % 256)] from rfl) (Reps.one (show Kd.M (Kd.int .u8) _ _ _ 0 [.int .u8 0] from rfl) (Reps.one (show Kd.M (Kd.int .u8) _ _ _ ((wrap64 ((l3.length:Int) - 1)) % 256) [.int .u8 ((wrap64 ((l3.length:Int) - 1)) % 256)] from rfl) (Reps.none _ _))))))))));intro v352 w111 ho112 hb hg_ hnew_;clear hg_ hnew_;(first | rw [← Ny351.out] at ho112 | (simp only [Int.reduceToNat] at ho112;rw [← Ny351.out] at ho112));have n0_:=rk HO_341003 hb;have n1_:=Aside0.mk (Kd.R_lower ho112 (below_size (hn HB)));have n2_:=bb BK340 hb;have n3_:=hs HB hb;clear HO_341003;clear BK340;clear HB;have HO_341003:=n0_;have HO353:=n1_;have BK340:=n2_;have HB:=n3_;clear n0_ n1_ n2_ n3_;clear hb ho112;have hcv113:=own_string (P:=Try.prog) Try.underlying40 Try.underlying5 Try.underlying9 (Kd.own_of_R HO353.out)) | ((with_reducible refine gate_callee (f:=54) rfl ?_);refine goesQ (some 188) Try.func54 #[.string ((strOfNums y351) ++ t349)] ?_;(with_reducible refine (pixel_Take.calls k3 ((strOfNums y351) ++ t349) t354 t355 t356 t357 t360 _ A84.out).mono ?_);rintro e w114 ⟨v358,rfl,ho0,hb⟩;refine ⟨_,rfl,?_⟩;have n0_:=Aside0.mk (Kd.R_elder' (by (with_reducible repeat (first | apply Kd.R_alloc | apply Kd.R_drewN | apply Kd.R_drew));exact HO_341003.out) (Kd.R_base ho0) hb);have n1_:=rk HO353 hb;have n2_:=Aside0.mk (Kd.R_lower (Kd.R_new' ho0 (Kd.R_lt (by (with_reducible repeat (first | apply Kd.R_alloc | apply Kd.R_drewN | apply Kd.R_drew));exact HO_341003.out))) (below_size (hn HB)));have n3_:=bb BK340 hb;have n4_:=hs HB hb;clear HO_341003;clear HO353;clear BK340;clear HB;have HO_341003:=n0_;have HO353:=n1_;have HO359:=n2_;have BK340:=n3_;have HB:=n4_;clear n0_ n1_ n2_ n3_ n4_;(try clear hb);(try clear ho0)) | ((with_reducible refine gate_dst (N:=22) rfl ?_);(try (refine gate_guard (by rfl) ?_;dsimp only));refine boxQ 22 #[.int .i64 0,.int .i64 0,.int .i64 0,.slice none 0 0] 76 ?_;intro gb361 hg w115 hbox hb;have n0_:=rk HO_341003 hb;have n1_:=rk HO353 hb;have n2_:=rk HO359 hb;have n3_:=bb BK340 hb;have n4_:=hs HB hb;have n5_:=Aside0.mk (hbox);have n6_:=gs HB hg;have n7_:=gs HB hg;have n8_:=nl BK340 hg;have n9_:=ng BK340 hg;clear HO_341003;clear HO353;clear HO359;clear BK340;clear HB;have HO_341003:=n0_;have HO353:=n1_;have HO359:=n2_;have BK340:=n3_;have HB:=n4_;have BK361:=n5_;have GW361:=n6_;have GE361:=n7_;have NB340_361:=n8_;have NB361_340:=n9_;clear n0_ n1_ n2_ n3_ n4_ n5_ n6_ n7_ n8_ n9_;clear hb hbox hg;have hnb116:=NB361_340.out;have hnc116:=NB340_361.out;obtain ⟨hcz117_0,hcz117_1,hcz117_2,hcz117_3⟩:=cc4 BK361;obtain ⟨hfz117_0,hfz117_1,hfz117_2,hfz117_3⟩:=ff4 BK361;obtain ⟨Ao118,co118,eo118⟩:=Kd.R_slice HO359.out;subst eo118))
               have n0_:Aside0 (Kd.R k89 89 ((((w115.setCell ⟨gb361,0,none⟩ (.int .i64 t354)).setCell ⟨gb361,1,none⟩ (.int .i64 t355)).setCell ⟨gb361,2,none⟩ (.int .i64 t356)).setCell ⟨gb361,3,none⟩ (.slice Ao118 t357.length co118)) w.heap.size (fun k_=>some k_ ≠ (.slice Ao118 t357.length co118:Value).ownBlock) u341003 x341003_3):=⟨by (with_reducible repeat (first | apply Kd.R_alloc | apply Kd.R_drewN | apply Kd.R_drew));exact Kd.R_mono (Kd.R_far (p:=⟨gb361,3,none⟩) (Kd.R_far (p:=⟨gb361,2,none⟩) (Kd.R_far (p:=⟨gb361,1,none⟩) (Kd.R_far (p:=⟨gb361,0,none⟩) (Kd.R_types HO_341003.out BK361.out (by decide)) (fun _ hk=>hk.2) (.int .i64 t354)) (fun _ hk=>hk.2) (.int .i64 t355)) (fun _ hk=>hk.2) (.int .i64 t356)) (fun _ hk=>hk.2) (.slice Ao118 t357.length co118)) (fun _ hk=>hk.1.2)⟩
               have n1_:Aside0 (Kd.R (Kd.int .u8) 5 ((((w115.setCell ⟨gb361,0,none⟩ (.int .i64 t354)).setCell ⟨gb361,1,none⟩ (.int .i64 t355)).setCell ⟨gb361,2,none⟩ (.int .i64 t356)).setCell ⟨gb361,3,none⟩ (.slice Ao118 t357.length co118)) w.heap.size (fun _=>True) v352 y351):=⟨by (with_reducible repeat (first | apply Kd.R_alloc | apply Kd.R_drewN | apply Kd.R_drew));exact Kd.R_mono (Kd.R_far (p:=⟨gb361,3,none⟩) (Kd.R_far (p:=⟨gb361,2,none⟩) (Kd.R_far (p:=⟨gb361,1,none⟩) (Kd.R_far (p:=⟨gb361,0,none⟩) (Kd.R_types HO353.out BK361.out (by decide)) (fun _ hk=>hk.2) (.int .i64 t354)) (fun _ hk=>hk.2) (.int .i64 t355)) (fun _ hk=>hk.2) (.int .i64 t356)) (fun _ hk=>hk.2) (.slice Ao118 t357.length co118)) (fun _ hk=>trivial)⟩
               have n2_:Aside0 (Kd.R k89 89 ((((w115.setCell ⟨gb361,0,none⟩ (.int .i64 t354)).setCell ⟨gb361,1,none⟩ (.int .i64 t355)).setCell ⟨gb361,2,none⟩ (.int .i64 t356)).setCell ⟨gb361,3,none⟩ (.slice Ao118 t357.length co118)) w.heap.size (fun k_=>some k_ ≠ (u341003:Value).ownBlock) (.slice Ao118 t357.length co118) t357):=⟨by (with_reducible repeat (first | apply Kd.R_alloc | apply Kd.R_drewN | apply Kd.R_drew));exact Kd.R_mono (Kd.R_far (p:=⟨gb361,3,none⟩) (Kd.R_far (p:=⟨gb361,2,none⟩) (Kd.R_far (p:=⟨gb361,1,none⟩) (Kd.R_far (p:=⟨gb361,0,none⟩) (Kd.R_types HO359.out BK361.out (by decide)) (fun _ hk=>hk.2) (.int .i64 t354)) (fun _ hk=>hk.2) (.int .i64 t355)) (fun _ hk=>hk.2) (.int .i64 t356)) (fun _ hk=>hk.2) (.slice Ao118 t357.length co118)) (fun _ hk=>hk.1.2)⟩
               have n3_:Aside0 (((((w115.setCell ⟨gb361,0,none⟩ (.int .i64 t354)).setCell ⟨gb361,1,none⟩ (.int .i64 t355)).setCell ⟨gb361,2,none⟩ (.int .i64 t356)).setCell ⟨gb361,3,none⟩ (.slice Ao118 t357.length co118)).heap[gb340]?=some (.cells #[.int .i64 (wrap64 (a0)),.int .i64 (wrap64 (1+(wrap64 (Int.tmod a1 20)))),.int .i64 (wrap64 (1+(wrap64 (Int.tmod a2 20)))),u341003] 76 (0,0))):=⟨by (with_reducible repeat (first | refine blk_drewN ?_ _ | refine blk_drew ?_ | refine blk_alloc ?_ _));refine blk_far ?_ NB340_361.out _;(with_reducible repeat (first | refine blk_drewN ?_ _ | refine blk_drew ?_ | refine blk_alloc ?_ _));refine blk_far ?_ NB340_361.out _;(with_reducible repeat (first | refine blk_drewN ?_ _ | refine blk_drew ?_ | refine blk_alloc ?_ _));refine blk_far ?_ NB340_361.out _;(with_reducible repeat (first | refine blk_drewN ?_ _ | refine blk_drew ?_ | refine blk_alloc ?_ _));refine blk_far ?_ NB340_361.out _;(with_reducible repeat (first | refine blk_drewN ?_ _ | refine blk_drew ?_ | refine blk_alloc ?_ _));exact BK340.out⟩
               have n4_:Aside0 (((((w115.setCell ⟨gb361,0,none⟩ (.int .i64 t354)).setCell ⟨gb361,1,none⟩ (.int .i64 t355)).setCell ⟨gb361,2,none⟩ (.int .i64 t356)).setCell ⟨gb361,3,none⟩ (.slice Ao118 t357.length co118)).heap[gb361]?=some (.cells #[.int .i64 t354,.int .i64 t355,.int .i64 t356,.slice Ao118 t357.length co118] 76 (0,0))):=⟨by (with_reducible repeat (first | refine blk_drewN ?_ _ | refine blk_drew ?_ | refine blk_alloc ?_ _));refine blk_put (cs:=#[.int .i64 t354,.int .i64 t355,.int .i64 t356,.slice none 0 0]) ?_ 3 _ rfl;(with_reducible repeat (first | refine blk_drewN ?_ _ | refine blk_drew ?_ | refine blk_alloc ?_ _));refine blk_put (cs:=#[.int .i64 t354,.int .i64 t355,.int .i64 0,.slice none 0 0]) ?_ 2 _ rfl;(with_reducible repeat (first | refine blk_drewN ?_ _ | refine blk_drew ?_ | refine blk_alloc ?_ _));refine blk_put (cs:=#[.int .i64 t354,.int .i64 0,.int .i64 0,.slice none 0 0]) ?_ 1 _ rfl;(with_reducible repeat (first | refine blk_drewN ?_ _ | refine blk_drew ?_ | refine blk_alloc ?_ _));refine blk_put (cs:=#[.int .i64 0,.int .i64 0,.int .i64 0,.slice none 0 0]) ?_ 0 _ rfl;(with_reducible repeat (first | refine blk_drewN ?_ _ | refine blk_drew ?_ | refine blk_alloc ?_ _));exact BK361.out⟩
               have n5_:Aside0 (Below w.heap.size w ((((w115.setCell ⟨gb361,0,none⟩ (.int .i64 t354)).setCell ⟨gb361,1,none⟩ (.int .i64 t355)).setCell ⟨gb361,2,none⟩ (.int .i64 t356)).setCell ⟨gb361,3,none⟩ (.slice Ao118 t357.length co118))):=⟨hn HB⟩
               (try clear HO_341003)
               (try clear HO353)
               (try clear HO359)
               (try clear BK340)
               (try clear BK361)
               (try clear HB)
               generalize ((((w115.setCell ⟨gb361,0,none⟩ (.int .i64 t354)).setCell ⟨gb361,1,none⟩ (.int .i64 t355)).setCell ⟨gb361,2,none⟩ (.int .i64 t356)).setCell ⟨gb361,3,none⟩ (.slice Ao118 t357.length co118))=w119 at n0_ n1_ n2_ n3_ n4_ n5_ ⊢
               have HO_341003:=n0_
               have HO353:=n1_
               have HO359:=n2_
               have BK340:=n3_
               have BK361:=n4_
               have HB:=n5_
               clear n0_ n1_ n2_ n3_ n4_ n5_
               have n0_:=Aside0.mk (Kd.R_drew HO_341003.out)
               have n1_:=Aside0.mk (Kd.R_drew HO353.out)
               have n2_:=Aside0.mk (Kd.R_drew HO359.out)
               have n3_:=Aside0.mk (blk_drew BK340.out)
               have n4_:=Aside0.mk (blk_drew BK361.out)
               have n5_:=Aside0.mk (below_drew1 HB.out)
               clear HO_341003
               clear HO353
               clear HO359
               clear BK340
               clear BK361
               clear HB
               have HO_341003:=n0_
               have HO353:=n1_
               have HO359:=n2_
               have BK340:=n3_
               have BK361:=n4_
               have HB:=n5_
               clear n0_ n1_ n2_ n3_ n4_ n5_
               refine start_ (n:=17) (S:=fun w'=>w'.cell? ⟨gb361,0,none⟩=some (.int .i64 t354)∧w'.cell? ⟨gb361,1,none⟩=some (.int .i64 t355)∧w'.cell? ⟨gb361,2,none⟩=some (.int .i64 t356)∧w'.cell? ⟨gb361,3,none⟩=some (.slice Ao118 t357.length co118)∧w'.cell? ⟨gb340,0,none⟩=some (.int .i64 (wrap64 (a0)))∧w'.cell? ⟨gb340,1,none⟩=some (.int .i64 (wrap64 (1+(wrap64 (Int.tmod a1 20)))))∧w'.cell? ⟨gb340,2,none⟩=some (.int .i64 (wrap64 (1+(wrap64 (Int.tmod a2 20)))))∧w'.cell? ⟨gb340,3,none⟩=some (u341003)) (ds:=[]) #[false,false,false,false,false,false,false,false,false,false,false,false,false,false,false,false,false] (by kernel_rfl) rfl rfl ⟨(blk_cell BK361.out 0).trans rfl,(blk_cell BK361.out 1).trans rfl,(blk_cell BK361.out 2).trans rfl,(blk_cell BK361.out 3).trans rfl,(blk_cell BK340.out 0).trans rfl,(blk_cell BK340.out 1).trans rfl,(blk_cell BK340.out 2).trans rfl,(blk_cell BK340.out 3).trans rfl⟩ (fun hHeld=>?_);refine with_tabW celluloidlaw11_PixelTable.tab25 celluloidlaw11_PixelTable.bits25 (fun HT_ HW_=>?_)
               generalize w119.drew=w120 at HO_341003 HO353 HO359 BK340 BK361 HB hHeld ⊢
               refine pureQ 0 (some 191) (tk 1 16) (any_of HT_.out (by kernel_rfl)) ?_
               refine pureQ 1 (some 192) (tk 2 15) (any_of HT_.out (by kernel_rfl)) ?_
               refine pureQ 2 (some 193) (tk 3 14) (any_of HT_.out (by kernel_rfl)) ?_
               refine pureQ 3 (some 194) (tk 4 13) (any_of HT_.out (by kernel_rfl)) ?_
               refine pureQ 4 (some 195) (tk 5 12) (any_of HT_.out (by kernel_rfl)) ?_
               refine pureQ 5 (some 196) (tk 6 11) (any_of HT_.out (by kernel_rfl)) ?_
               refine pureQ 6 (some 197) (tk 7 10) (any_of HT_.out (by kernel_rfl)) ?_
               refine take_ (i:=7) (N:=some 198) (v:=?_) (a':=?_) (tk 8 9) rfl rfl (take_ofW HT_.out HW_.out (by kernel_rfl)) (fun _ _ _ h=>h) (Or.inl ⟨by rfl,?_⟩) hHeld ?_ ?_
               rotate_left
               ·rintro w' ⟨s0,s1,s2,s3,s4,s5,s6,s7⟩
                go_simp
                with_reducible rfl
               rotate_left
               ·simp only [Act.put,List.setIfInBounds_toArray,List.set_cons_zero,List.set_cons_succ,i64_w,i32_w]
                rfl
               refine take_ (i:=9) (N:=some 200) (v:=?_) (a':=?_) #[true,true,true,true,true,true,true,true,false,true,false,false,false,false,false,false,false] rfl rfl (take_ofW HT_.out HW_.out (by kernel_rfl)) (fun _ _ _ h=>h) (Or.inl ⟨by rfl,?_⟩) hHeld ?_ ?_
               rotate_left
               ·rintro w' ⟨s0,s1,s2,s3,s4,s5,s6,s7⟩
                go_simp
                with_reducible rfl
               rotate_left
               ·simp only [Act.put,List.setIfInBounds_toArray,List.set_cons_zero,List.set_cons_succ,i64_w,i32_w]
                rfl
               refine one_ (i:=8) (N:=some 199) (tk 10 7) rfl rfl (one_of HT_.out (by kernel_rfl)) (by decide) (fun K hK=>?_)
               refine goes_ Try.func52 (by kernel_rfl) rfl #[.agg #[.int .i64 t354,.int .i64 t355,.int .i64 t356,.slice Ao118 t357.length co118]] (by rfl) rfl rfl (by (try simp only [List.map_toArray,List.map_cons,List.map_nil]);first | done | rfl | (simp only [List.length_drop,List.length_take];rfl)) ?_
               with_reducible refine (celluloidlaw11_ref.calls t354 t355 t356 (fun k_=>some k_=(.slice Ao118 t357.length co118:Value).ownBlock) (.slice Ao118 t357.length co118) t357 t362 t363 t364 t365 w _ ?side1 ?side2 A87.out).mono ?_
               (case side1=>repeat (first | (with_reducible first | exact HB.out | apply below_alloc | apply pw_below_drewN | apply below_drew1 | refine below_set ?_ GE340.out | refine below_set ?_ GE361.out) | exact HB.out))
               (case side2=>exact Kd.R_tight rfl HO359.out)
               rintro e w121 ⟨v366,rfl,ho0,hb,hkp⟩
               refine ⟨_,rfl,?_⟩
               have n0_:=Aside0.mk (Kd.R_mono (ok':=fun k_=>some k_ ≠ (v366:Value).ownBlock) (Kd.R_keptB (HO_341003.out) hkp (fun k_ hk_ hs_=>(hk_) hs_)) (fun k_ hk_=>fun e_=>Or.elim (ho0.1 k_ e_.symm) (fun hs_=>hk_.2.1 hs_) (fun hn_=>Nat.not_le.2 hk_.2.2 hn_)))
               have n1_:=Aside0.mk (blk_kept (by (with_reducible repeat (first | refine blk_drewN ?_ _ | refine blk_drew ?_ | refine blk_alloc ?_ _));exact BK340.out) hkp (fun hs_=>(fun e_=>(Kd.R_ne HO359.out BK340.out (by decide)) e_) hs_))
               have n2_:=Aside0.mk (Kd.R_mono (ok':=fun k_=>True) (Kd.R_keptB ((Kd.R_apart' HO353.out (Kd.R_typed HO359.out) (by decide))) hkp (fun k_ hk_ hs_=>(hk_.2) hs_)) (fun k_ hk_=>trivial))
               have n3_:=Aside0.mk (blk_kept (by (with_reducible repeat (first | refine blk_drewN ?_ _ | refine blk_drew ?_ | refine blk_alloc ?_ _));exact BK361.out) hkp (fun hs_=>(fun e_=>(Kd.R_ne HO359.out BK361.out (by decide)) e_) hs_))
               have n4_:=Aside0.mk (Kd.R_mono (ok':=fun k_=>some k_ ≠ (u341003:Value).ownBlock) ho0 (fun k_ hk_=>Or.elim hk_ (fun hs_=>fun e_=>(((HO_341003.out).1 k_ e_.symm)) hs_) (fun hn_=>(Kd.fresh' (Kd.R_lt (by (with_reducible repeat (first | apply Kd.R_alloc | apply Kd.R_drewN | apply Kd.R_drew));exact HO_341003.out)) k_ hn_))))
               have n5_:=Aside0.mk (hb)
               clear HO_341003
               clear BK340
               clear HO353
               clear BK361
               clear HB
               clear HO359
               have HO_341003:=n0_
               have BK340:=n1_
               have HO353:=n2_
               have BK361:=n3_
               have HO367:=n4_
               have HB:=n5_
               clear n0_ n1_ n2_ n3_ n4_ n5_
               (try clear hb)
               (try clear hkp)
               (try clear ho0)
               obtain ⟨Ao122,co122,eo122⟩:=Kd.R_slice HO_341003.out
               (first | subst eo122 | (injection eo122 with f1_ f2_ f3_;have f4_:=f1_.symm;have f5_:=f3_.symm;clear f1_ f2_ f3_;subst f4_;subst f5_))
               refine hK.out _ _ ⟨(blk_cell BK361.out 0).trans rfl,(blk_cell BK361.out 1).trans rfl,(blk_cell BK361.out 2).trans rfl,(blk_cell BK361.out 3).trans rfl,(blk_cell BK340.out 0).trans rfl,(blk_cell BK340.out 1).trans rfl,(blk_cell BK340.out 2).trans rfl,(blk_cell BK340.out 3).trans rfl⟩ (fun hHeld=>?_)
               clear hK K
               refine norm_ (a':=?_) ?_ ?_
               rotate_left
               ·show Act.put _ (some 199) _=_
                simp only [Act.put,List.setIfInBounds_toArray,List.set_cons_zero,List.set_cons_succ,i64_w,i32_w]
                rfl
               refine one_ (i:=10) (N:=some 201) (tk 11 6) rfl rfl (one_of HT_.out (by kernel_rfl)) (by decide) (fun K hK=>?_)
               refine goes_ Try.func52 (by kernel_rfl) rfl #[.agg #[.int .i64 (wrap64 (a0)),.int .i64 (wrap64 (1+(wrap64 (Int.tmod a1 20)))),.int .i64 (wrap64 (1+(wrap64 (Int.tmod a2 20)))),.slice Ao122 x341003_3.length co122]] (by rfl) rfl rfl (by (try simp only [List.map_toArray,List.map_cons,List.map_nil]);first | done | rfl | (simp only [List.length_drop,List.length_take];rfl)) ?_
               with_reducible refine (celluloidlaw11_ref.calls (wrap64 (a0)) (wrap64 (1+(wrap64 (Int.tmod a1 20)))) (wrap64 (1+(wrap64 (Int.tmod a2 20)))) (fun k_=>some k_=(.slice Ao122 x341003_3.length co122:Value).ownBlock) (.slice Ao122 x341003_3.length co122) x341003_3 t368 t369 t370 t371 w _ ?side1 ?side2 A88.out).mono ?_
               (case side1=>repeat (first | (with_reducible first | exact HB.out | apply below_alloc | apply pw_below_drewN | apply below_drew1 | refine below_set ?_ GE340.out | refine below_set ?_ GE361.out) | exact HB.out))
               (case side2=>exact Kd.R_tight rfl HO_341003.out)
               rintro e w123 ⟨v372,rfl,ho0,hb,hkp⟩
               refine ⟨_,rfl,?_⟩
               have n0_:=Aside0.mk (blk_kept (by (with_reducible repeat (first | refine blk_drewN ?_ _ | refine blk_drew ?_ | refine blk_alloc ?_ _));exact BK340.out) hkp (fun hs_=>(fun e_=>(Kd.R_ne HO_341003.out BK340.out (by decide)) e_) hs_))
               have n1_:=Aside0.mk (Kd.R_mono (ok':=fun k_=>True) (Kd.R_keptB ((Kd.R_apart' HO353.out (Kd.R_typed HO_341003.out) (by decide))) hkp (fun k_ hk_ hs_=>(hk_.2) hs_)) (fun k_ hk_=>trivial))
               have n2_:=Aside0.mk (blk_kept (by (with_reducible repeat (first | refine blk_drewN ?_ _ | refine blk_drew ?_ | refine blk_alloc ?_ _));exact BK361.out) hkp (fun hs_=>(fun e_=>(Kd.R_ne HO_341003.out BK361.out (by decide)) e_) hs_))
               have n3_:=Aside0.mk (Kd.R_mono (ok':=fun k_=>some k_ ≠ (v372:Value).ownBlock) (Kd.R_keptB (HO367.out) hkp (fun k_ hk_ hs_=>(hk_) hs_)) (fun k_ hk_=>fun e_=>Or.elim (ho0.1 k_ e_.symm) (fun hs_=>hk_.2.1 hs_) (fun hn_=>Nat.not_le.2 hk_.2.2 hn_)))
               have n4_:=Aside0.mk (Kd.R_mono (ok':=fun k_=>some k_ ≠ (v366:Value).ownBlock) ho0 (fun k_ hk_=>Or.elim hk_ (fun hs_=>fun e_=>(((HO367.out).1 k_ e_.symm)) hs_) (fun hn_=>(Kd.fresh' (Kd.R_lt (by (with_reducible repeat (first | apply Kd.R_alloc | apply Kd.R_drewN | apply Kd.R_drew));exact HO367.out)) k_ hn_))))
               have n5_:=Aside0.mk (hb)
               clear BK340
               clear HO353
               clear BK361
               clear HO367
               clear HB
               clear HO_341003
               have BK340:=n0_
               have HO353:=n1_
               have BK361:=n2_
               have HO367:=n3_
               have HO373:=n4_
               have HB:=n5_
               clear n0_ n1_ n2_ n3_ n4_ n5_
               (try clear hb)
               (try clear hkp)
               (try clear ho0)
               obtain ⟨Ao124,co124,eo124⟩:=Kd.R_slice HO367.out
               (first | subst eo124 | (injection eo124 with f1_ f2_ f3_;have f4_:=f1_.symm;have f5_:=f3_.symm;clear f1_ f2_ f3_;subst f4_;subst f5_))
               obtain ⟨Ao125,co125,eo125⟩:=Kd.R_slice HO373.out
               (first | subst eo125 | (injection eo125 with f1_ f2_ f3_;have f4_:=f1_.symm;have f5_:=f3_.symm;clear f1_ f2_ f3_;subst f4_;subst f5_))
               refine hK.out _ _ ⟨(blk_cell BK361.out 0).trans rfl,(blk_cell BK361.out 1).trans rfl,(blk_cell BK361.out 2).trans rfl,(blk_cell BK361.out 3).trans rfl,(blk_cell BK340.out 0).trans rfl,(blk_cell BK340.out 1).trans rfl,(blk_cell BK340.out 2).trans rfl,(blk_cell BK340.out 3).trans rfl⟩ (fun hHeld=>?_)
               clear hK K
               refine norm_ (a':=?_) ?_ ?_
               rotate_left
               ·show Act.put _ (some 201) _=_
                simp only [Act.put,List.setIfInBounds_toArray,List.set_cons_zero,List.set_cons_succ,i64_w,i32_w]
                rfl
               refine one_ (i:=11) (N:=some 202) (tk 12 5) rfl rfl (one_of HT_.out (by kernel_rfl)) (by decide) (fun K hK=>?_)
               refine goes_ Try.func56 (by kernel_rfl) rfl #[.agg #[.int .i64 t362,.int .i64 t363,.int .i64 t364,.slice Ao124 t365.length co124],.agg #[.int .i64 t368,.int .i64 t369,.int .i64 t370,.slice Ao125 t371.length co125]] (by rfl) rfl rfl (by (try simp only [List.map_toArray,List.map_cons,List.map_nil]);first | done | rfl | (simp only [List.length_drop,List.length_take];rfl)) ?_
               with_reducible refine (celluloidref11_Equal.calls k3 t362 t363 t364 _ _ t365 t368 t369 t370 _ _ t371 false _ ?side1 ?side2 ?side3 ?side4 A89.out).mono ?_
               (case side1=>repeat (first | exact (Kd.R_reads' HO367.out).2.2 | (with_reducible refine Kd.C_alloc ?_ _) | (with_reducible refine Kd.C_drewN ?_ _) | (with_reducible refine Kd.C_drew ?_)))
               (case side2=>exact (Kd.R_reads' HO367.out).2.1)
               (case side3=>repeat (first | exact (Kd.R_reads' HO373.out).2.2 | (with_reducible refine Kd.C_alloc ?_ _) | (with_reducible refine Kd.C_drewN ?_ _) | (with_reducible refine Kd.C_drew ?_)))
               (case side4=>exact (Kd.R_reads' HO373.out).2.1)
               rintro e w126 ⟨rfl,hb⟩
               refine ⟨_,rfl,?_⟩
               have n0_:=rk HO353 hb
               have n1_:=rk HO367 hb
               have n2_:=rk HO373 hb
               have n3_:=bb BK340 hb
               have n4_:=bb BK361 hb
               have n5_:=hs HB hb
               clear HO353
               clear HO367
               clear HO373
               clear BK340
               clear BK361
               clear HB
               have HO353:=n0_
               have HO367:=n1_
               have HO373:=n2_
               have BK340:=n3_
               have BK361:=n4_
               have HB:=n5_
               clear n0_ n1_ n2_ n3_ n4_ n5_
               (try clear hb)
               (try clear hb2)
               (try clear hk)
               (try clear hi)
               refine hK.out _ _ ⟨(blk_cell BK361.out 0).trans rfl,(blk_cell BK361.out 1).trans rfl,(blk_cell BK361.out 2).trans rfl,(blk_cell BK361.out 3).trans rfl,(blk_cell BK340.out 0).trans rfl,(blk_cell BK340.out 1).trans rfl,(blk_cell BK340.out 2).trans rfl,(blk_cell BK340.out 3).trans rfl⟩ (fun hHeld=>?_)
               clear hK K
               refine norm_ (a':=?_) ?_ ?_
               rotate_left
               ·show Act.put _ (some 202) _=_
                simp only [Act.put,List.setIfInBounds_toArray,List.set_cons_zero,List.set_cons_succ,i64_w,i32_w]
                rfl
               refine pureQ 12 (some 203) (tk 13 4) (any_of HT_.out (by kernel_rfl)) ?_
               refine pureQ 13 (some 204) (tk 14 3) (any_of HT_.out (by kernel_rfl)) ?_
               refine pureU 14 (some 205) (tk 15 2) (any_of HT_.out (by kernel_rfl)) ?_
               refine pureQ 15 (some 206) (tk 16 1) (any_of HT_.out (by kernel_rfl)) ?_
               refine pureQ 16 (some 10) (tk 17 0) (any_of HT_.out (by kernel_rfl)) ?_
               refine done_ (done_of HT_.out (by kernel_rfl)) ?_
               try go_wp2
               go_ret
               exact ⟨by first | rfl | (simp [errW_none,errW_some] <;> rfl) | (simp [*,errW_none,errW_some] <;> rfl),hn HB⟩
            ·rw [if_neg c86] at H
             have c86b0:(t360 == 0)=false:=beq_eq_false_iff_ne.mpr c86
             have c86b1:(t360 != 0)=true:=bne_iff_ne.mpr c86
             first
             |exact absurd (Option.some.inj H) (by rw [hr_.out];decide)
             |obtain rfl:=Option.some.inj H
              try go_wp2_with (first | ((with_reducible refine gate_callee (f:=40) rfl ?_);refine goesQ (some 167) Try.func40 #[.string x13_3] ?_;(with_reducible refine (deflate_Close.calls k3 x13_3 t349 t350 _ A82.out).mono ?_);rintro e w127 ⟨rfl,hb⟩;refine ⟨_,rfl,?_⟩;have n0_:=rk HO_341003 hb;have n1_:=bb BK340 hb;have n2_:=hs HB hb;clear HO_341003;clear BK340;clear HB;have HO_341003:=n0_;have BK340:=n1_;have HB:=n2_;clear n0_ n1_ n2_;(try clear hb)) | ((with_reducible refine gate_dst (N:=184) rfl ?_);(try (refine gate_guard (by rfl) ?_;dsimp only));refine Kd.R_lit (Kd.int .u8) _ 5 ?hg (N:=184) ?hd (xs:=([(a0) % 256,(a0 / 256) % 256,3,((wrap64 (1+(wrap64 (Int.tmod a1 20))))) % 256,0,((wrap64 (1+(wrap64 (Int.tmod a2 20))))) % 256,0,(wrap64 ((l3.length:Int) - 1)) % 256]:List Int)) (inner:=[.int .u8 ((a0) % 256),.int .u8 ((a0 / 256) % 256),.int .u8 3,.int .u8 (((wrap64 (1+(wrap64 (Int.tmod a1 20))))) % 256),.int .u8 0,.int .u8 (((wrap64 (1+(wrap64 (Int.tmod a2 20))))) % 256),.int .u8 0,.int .u8 ((wrap64 ((l3.length:Int) - 1)) % 256)]) (ok:=fun _=>True) (okp:=fun _=>True) ?hr ?hp (fun _ hk=>hk) trivial (Below.refl _ _) (Nat.le_refl _) (by simp) ?_;(case hd=>rfl);(case hg=>rfl);(case hr=>first | (go_simp;done) | (go_simp;rfl));(case hp=>exact (Reps.one (show Kd.M (Kd.int .u8) _ _ _ ((a0) % 256) [.int .u8 ((a0) % 256)] from rfl) (Reps.one (show Kd.M (Kd.int .u8) _ _ _ ((a0 / 256) % 256) [.int .u8 ((a0 / 256) % 256)] from rfl) (Reps.one (show Kd.M (Kd.int .u8) _ _ _ 3 [.int .u8 3] from rfl) (Reps.one (show Kd.M (Kd.int .u8) _ _ _ (((wrap64 (1+(wrap64 (Int.tmod a1 20))))) % 256) [.int .u8 (((wrap64 (1+(wrap64 (Int.tmod a1 20))))) % 256)] from rfl) (Reps.one (show Kd.M (Kd.int .u8) _ _ _ 0 [.int .u8 0] from rfl) (Reps.one (show Kd.M (Kd.int .u8) _ _ _ (((wrap64 (1+(wrap64 (Int.tmod a2 20))))) % 256) [.int .u8 (((wrap64 (1+(wrap64 (Int.tmod a2 20))))) % 256)] from rfl) (Reps.one (show Kd.M (Kd.int .u8) _ _ _ 0 [.int .u8 0] from rfl) (Reps.one (show Kd.M (Kd.int .u8) _ _ _ ((wrap64 ((l3.length:Int) - 1)) % 256) [.int .u8 ((wrap64 ((l3.length:Int) - 1)) % 256)] from rfl) (Reps.none _ _))))))))));intro v352 w128 ho129 hb hg_ hnew_;clear hg_ hnew_;(first | rw [← Ny351.out] at ho129 | (simp only [Int.reduceToNat] at ho129;rw [← Ny351.out] at ho129));have n0_:=rk HO_341003 hb;have n1_:=Aside0.mk (Kd.R_lower ho129 (below_size (hn HB)));have n2_:=bb BK340 hb;have n3_:=hs HB hb;clear HO_341003;clear BK340;clear HB;have HO_341003:=n0_;have HO353:=n1_;have BK340:=n2_;have HB:=n3_;clear n0_ n1_ n2_ n3_;clear hb ho129;have hcv130:=own_string (P:=Try.prog) Try.underlying40 Try.underlying5 Try.underlying9 (Kd.own_of_R HO353.out)) | ((with_reducible refine gate_callee (f:=54) rfl ?_);refine goesQ (some 188) Try.func54 #[.string ((strOfNums y351) ++ t349)] ?_;(with_reducible refine (pixel_Take.calls k3 ((strOfNums y351) ++ t349) t354 t355 t356 t357 t360 _ A84.out).mono ?_);rintro e w131 ⟨v358,rfl,ho0,hb⟩;refine ⟨_,rfl,?_⟩;have n0_:=Aside0.mk (Kd.R_elder' (by (with_reducible repeat (first | apply Kd.R_alloc | apply Kd.R_drewN | apply Kd.R_drew));exact HO_341003.out) (Kd.R_base ho0) hb);have n1_:=rk HO353 hb;have n2_:=Aside0.mk (Kd.R_lower (Kd.R_new' ho0 (Kd.R_lt (by (with_reducible repeat (first | apply Kd.R_alloc | apply Kd.R_drewN | apply Kd.R_drew));exact HO_341003.out))) (below_size (hn HB)));have n3_:=bb BK340 hb;have n4_:=hs HB hb;clear HO_341003;clear HO353;clear BK340;clear HB;have HO_341003:=n0_;have HO353:=n1_;have HO359:=n2_;have BK340:=n3_;have HB:=n4_;clear n0_ n1_ n2_ n3_ n4_;(try clear hb);(try clear ho0)) | ((with_reducible refine gate_dst (N:=22) rfl ?_);(try (refine gate_guard (by rfl) ?_;dsimp only));refine boxQ 22 #[.int .i64 0,.int .i64 0,.int .i64 0,.slice none 0 0] 76 ?_;intro gb361 hg w132 hbox hb;have n0_:=rk HO_341003 hb;have n1_:=rk HO353 hb;have n2_:=rk HO359 hb;have n3_:=bb BK340 hb;have n4_:=hs HB hb;have n5_:=Aside0.mk (hbox);have n6_:=gs HB hg;have n7_:=gs HB hg;have n8_:=nl BK340 hg;have n9_:=ng BK340 hg;clear HO_341003;clear HO353;clear HO359;clear BK340;clear HB;have HO_341003:=n0_;have HO353:=n1_;have HO359:=n2_;have BK340:=n3_;have HB:=n4_;have BK361:=n5_;have GW361:=n6_;have GE361:=n7_;have NB340_361:=n8_;have NB361_340:=n9_;clear n0_ n1_ n2_ n3_ n4_ n5_ n6_ n7_ n8_ n9_;clear hb hbox hg;have hnb133:=NB361_340.out;have hnc133:=NB340_361.out;obtain ⟨hcz134_0,hcz134_1,hcz134_2,hcz134_3⟩:=cc4 BK361;obtain ⟨hfz134_0,hfz134_1,hfz134_2,hfz134_3⟩:=ff4 BK361;obtain ⟨Ao135,co135,eo135⟩:=Kd.R_slice HO359.out;subst eo135))
              have n0_:Aside0 (Kd.R k89 89 ((((w132.setCell ⟨gb361,0,none⟩ (.int .i64 t354)).setCell ⟨gb361,1,none⟩ (.int .i64 t355)).setCell ⟨gb361,2,none⟩ (.int .i64 t356)).setCell ⟨gb361,3,none⟩ (.slice Ao135 t357.length co135)) w.heap.size (fun k_=>some k_ ≠ (.slice Ao135 t357.length co135:Value).ownBlock) u341003 x341003_3):=⟨by (with_reducible repeat (first | apply Kd.R_alloc | apply Kd.R_drewN | apply Kd.R_drew));exact Kd.R_mono (Kd.R_far (p:=⟨gb361,3,none⟩) (Kd.R_far (p:=⟨gb361,2,none⟩) (Kd.R_far (p:=⟨gb361,1,none⟩) (Kd.R_far (p:=⟨gb361,0,none⟩) (Kd.R_types HO_341003.out BK361.out (by decide)) (fun _ hk=>hk.2) (.int .i64 t354)) (fun _ hk=>hk.2) (.int .i64 t355)) (fun _ hk=>hk.2) (.int .i64 t356)) (fun _ hk=>hk.2) (.slice Ao135 t357.length co135)) (fun _ hk=>hk.1.2)⟩
              have n1_:Aside0 (Kd.R (Kd.int .u8) 5 ((((w132.setCell ⟨gb361,0,none⟩ (.int .i64 t354)).setCell ⟨gb361,1,none⟩ (.int .i64 t355)).setCell ⟨gb361,2,none⟩ (.int .i64 t356)).setCell ⟨gb361,3,none⟩ (.slice Ao135 t357.length co135)) w.heap.size (fun _=>True) v352 y351):=⟨by (with_reducible repeat (first | apply Kd.R_alloc | apply Kd.R_drewN | apply Kd.R_drew));exact Kd.R_mono (Kd.R_far (p:=⟨gb361,3,none⟩) (Kd.R_far (p:=⟨gb361,2,none⟩) (Kd.R_far (p:=⟨gb361,1,none⟩) (Kd.R_far (p:=⟨gb361,0,none⟩) (Kd.R_types HO353.out BK361.out (by decide)) (fun _ hk=>hk.2) (.int .i64 t354)) (fun _ hk=>hk.2) (.int .i64 t355)) (fun _ hk=>hk.2) (.int .i64 t356)) (fun _ hk=>hk.2) (.slice Ao135 t357.length co135)) (fun _ hk=>trivial)⟩
              have n2_:Aside0 (Kd.R k89 89 ((((w132.setCell ⟨gb361,0,none⟩ (.int .i64 t354)).setCell ⟨gb361,1,none⟩ (.int .i64 t355)).setCell ⟨gb361,2,none⟩ (.int .i64 t356)).setCell ⟨gb361,3,none⟩ (.slice Ao135 t357.length co135)) w.heap.size (fun k_=>some k_ ≠ (u341003:Value).ownBlock) (.slice Ao135 t357.length co135) t357):=⟨by (with_reducible repeat (first | apply Kd.R_alloc | apply Kd.R_drewN | apply Kd.R_drew));exact Kd.R_mono (Kd.R_far (p:=⟨gb361,3,none⟩) (Kd.R_far (p:=⟨gb361,2,none⟩) (Kd.R_far (p:=⟨gb361,1,none⟩) (Kd.R_far (p:=⟨gb361,0,none⟩) (Kd.R_types HO359.out BK361.out (by decide)) (fun _ hk=>hk.2) (.int .i64 t354)) (fun _ hk=>hk.2) (.int .i64 t355)) (fun _ hk=>hk.2) (.int .i64 t356)) (fun _ hk=>hk.2) (.slice Ao135 t357.length co135)) (fun _ hk=>hk.1.2)⟩
              have n3_:Aside0 (((((w132.setCell ⟨gb361,0,none⟩ (.int .i64 t354)).setCell ⟨gb361,1,none⟩ (.int .i64 t355)).setCell ⟨gb361,2,none⟩ (.int .i64 t356)).setCell ⟨gb361,3,none⟩ (.slice Ao135 t357.length co135)).heap[gb340]?=some (.cells #[.int .i64 (wrap64 (a0)),.int .i64 (wrap64 (1+(wrap64 (Int.tmod a1 20)))),.int .i64 (wrap64 (1+(wrap64 (Int.tmod a2 20)))),u341003] 76 (0,0))):=⟨by (with_reducible repeat (first | refine blk_drewN ?_ _ | refine blk_drew ?_ | refine blk_alloc ?_ _));refine blk_far ?_ NB340_361.out _;(with_reducible repeat (first | refine blk_drewN ?_ _ | refine blk_drew ?_ | refine blk_alloc ?_ _));refine blk_far ?_ NB340_361.out _;(with_reducible repeat (first | refine blk_drewN ?_ _ | refine blk_drew ?_ | refine blk_alloc ?_ _));refine blk_far ?_ NB340_361.out _;(with_reducible repeat (first | refine blk_drewN ?_ _ | refine blk_drew ?_ | refine blk_alloc ?_ _));refine blk_far ?_ NB340_361.out _;(with_reducible repeat (first | refine blk_drewN ?_ _ | refine blk_drew ?_ | refine blk_alloc ?_ _));exact BK340.out⟩
              have n4_:Aside0 (((((w132.setCell ⟨gb361,0,none⟩ (.int .i64 t354)).setCell ⟨gb361,1,none⟩ (.int .i64 t355)).setCell ⟨gb361,2,none⟩ (.int .i64 t356)).setCell ⟨gb361,3,none⟩ (.slice Ao135 t357.length co135)).heap[gb361]?=some (.cells #[.int .i64 t354,.int .i64 t355,.int .i64 t356,.slice Ao135 t357.length co135] 76 (0,0))):=⟨by (with_reducible repeat (first | refine blk_drewN ?_ _ | refine blk_drew ?_ | refine blk_alloc ?_ _));refine blk_put (cs:=#[.int .i64 t354,.int .i64 t355,.int .i64 t356,.slice none 0 0]) ?_ 3 _ rfl;(with_reducible repeat (first | refine blk_drewN ?_ _ | refine blk_drew ?_ | refine blk_alloc ?_ _));refine blk_put (cs:=#[.int .i64 t354,.int .i64 t355,.int .i64 0,.slice none 0 0]) ?_ 2 _ rfl;(with_reducible repeat (first | refine blk_drewN ?_ _ | refine blk_drew ?_ | refine blk_alloc ?_ _));refine blk_put (cs:=#[.int .i64 t354,.int .i64 0,.int .i64 0,.slice none 0 0]) ?_ 1 _ rfl;(with_reducible repeat (first | refine blk_drewN ?_ _ | refine blk_drew ?_ | refine blk_alloc ?_ _));refine blk_put (cs:=#[.int .i64 0,.int .i64 0,.int .i64 0,.slice none 0 0]) ?_ 0 _ rfl;(with_reducible repeat (first | refine blk_drewN ?_ _ | refine blk_drew ?_ | refine blk_alloc ?_ _));exact BK361.out⟩
              have n5_:Aside0 (Below w.heap.size w ((((w132.setCell ⟨gb361,0,none⟩ (.int .i64 t354)).setCell ⟨gb361,1,none⟩ (.int .i64 t355)).setCell ⟨gb361,2,none⟩ (.int .i64 t356)).setCell ⟨gb361,3,none⟩ (.slice Ao135 t357.length co135))):=⟨hn HB⟩
              (try clear HO_341003)
              (try clear HO353)
              (try clear HO359)
              (try clear BK340)
              (try clear BK361)
              (try clear HB)
              generalize ((((w132.setCell ⟨gb361,0,none⟩ (.int .i64 t354)).setCell ⟨gb361,1,none⟩ (.int .i64 t355)).setCell ⟨gb361,2,none⟩ (.int .i64 t356)).setCell ⟨gb361,3,none⟩ (.slice Ao135 t357.length co135))=w136 at n0_ n1_ n2_ n3_ n4_ n5_ ⊢
              have HO_341003:=n0_
              have HO353:=n1_
              have HO359:=n2_
              have BK340:=n3_
              have BK361:=n4_
              have HB:=n5_
              clear n0_ n1_ n2_ n3_ n4_ n5_
              have n0_:=Aside0.mk (Kd.R_drew HO_341003.out)
              have n1_:=Aside0.mk (Kd.R_drew HO353.out)
              have n2_:=Aside0.mk (Kd.R_drew HO359.out)
              have n3_:=Aside0.mk (blk_drew BK340.out)
              have n4_:=Aside0.mk (blk_drew BK361.out)
              have n5_:=Aside0.mk (below_drew1 HB.out)
              clear HO_341003
              clear HO353
              clear HO359
              clear BK340
              clear BK361
              clear HB
              have HO_341003:=n0_
              have HO353:=n1_
              have HO359:=n2_
              have BK340:=n3_
              have BK361:=n4_
              have HB:=n5_
              clear n0_ n1_ n2_ n3_ n4_ n5_
              refine start_ (n:=17) (S:=fun w'=>True) (ds:=[]) #[false,false,false,false,false,false,false,false,false,false,false,false,false,false,false,false,false] (by kernel_rfl) rfl rfl trivial (fun hHeld=>?_);refine with_tabW celluloidlaw11_PixelTable.tab25 celluloidlaw11_PixelTable.bits25 (fun HT_ HW_=>?_)
              generalize w136.drew=w137 at HO_341003 HO353 HO359 BK340 BK361 HB hHeld ⊢
              refine pureQ 0 (some 191) (tk 1 16) (any_of HT_.out (by kernel_rfl)) ?_
              refine pureQ 1 (some 192) (tk 2 15) (any_of HT_.out (by kernel_rfl)) ?_
              refine pureQ 2 (some 193) (tk 3 14) (any_of HT_.out (by kernel_rfl)) ?_
              refine pureQ 3 (some 194) (tk 4 13) (any_of HT_.out (by kernel_rfl)) ?_
              refine pureQ 4 (some 195) (tk 5 12) (any_of HT_.out (by kernel_rfl)) ?_
              refine pureQ 5 (some 196) (tk 6 11) (any_of HT_.out (by kernel_rfl)) ?_
              refine pureQ 6 (some 197) (tk 7 10) (any_of HT_.out (by kernel_rfl)) ?_
              refine pureU 7 (some 198) (tk 8 9) (any_of HT_.out (by kernel_rfl)) ?_
              refine pureU 8 (some 199) (tk 9 8) (any_of HT_.out (by kernel_rfl)) ?_
              refine pureU 9 (some 200) (tk 10 7) (any_of HT_.out (by kernel_rfl)) ?_
              refine pureU 10 (some 201) (tk 11 6) (any_of HT_.out (by kernel_rfl)) ?_
              refine pureU 11 (some 202) (tk 12 5) (any_of HT_.out (by kernel_rfl)) ?_
              refine pureQ 12 (some 203) (tk 13 4) (any_of HT_.out (by kernel_rfl)) ?_
              refine pureQ 13 (some 204) (tk 14 3) (any_of HT_.out (by kernel_rfl)) ?_
              refine pureU 14 (some 205) (tk 15 2) (any_of HT_.out (by kernel_rfl)) ?_
              refine pureQ 15 (some 206) (tk 16 1) (any_of HT_.out (by kernel_rfl)) ?_
              refine pureQ 16 (some 10) (tk 17 0) (any_of HT_.out (by kernel_rfl)) ?_
              refine done_ (done_of HT_.out (by kernel_rfl)) ?_
              try go_wp2
              go_ret
              exact ⟨by first | rfl | (simp [errW_none,errW_some] <;> rfl) | (simp [*,errW_none,errW_some] <;> rfl),hn HB⟩
           ·rw [if_neg c85] at H
            have c85b0:(t350 == 0)=false:=beq_eq_false_iff_ne.mpr c85
            have c85b1:(t350 != 0)=true:=bne_iff_ne.mpr c85
            first
            |exact absurd (Option.some.inj H) (by rw [hr_.out];decide)
            |obtain rfl:=Option.some.inj H
             try go_wp2_with (first | ((with_reducible refine gate_callee (f:=40) rfl ?_);refine goesQ (some 167) Try.func40 #[.string x13_3] ?_;(with_reducible refine (deflate_Close.calls k3 x13_3 t349 t350 _ A82.out).mono ?_);rintro e w138 ⟨rfl,hb⟩;refine ⟨_,rfl,?_⟩;have n0_:=rk HO_341003 hb;have n1_:=bb BK340 hb;have n2_:=hs HB hb;clear HO_341003;clear BK340;clear HB;have HO_341003:=n0_;have BK340:=n1_;have HB:=n2_;clear n0_ n1_ n2_;(try clear hb)) | ((with_reducible refine gate_dst (N:=184) rfl ?_);(try (refine gate_guard (by rfl) ?_;dsimp only));refine Kd.R_lit (Kd.int .u8) _ 5 ?hg (N:=184) ?hd (xs:=([(a0) % 256,(a0 / 256) % 256,3,((wrap64 (1+(wrap64 (Int.tmod a1 20))))) % 256,0,((wrap64 (1+(wrap64 (Int.tmod a2 20))))) % 256,0,(wrap64 ((l3.length:Int) - 1)) % 256]:List Int)) (inner:=[.int .u8 ((a0) % 256),.int .u8 ((a0 / 256) % 256),.int .u8 3,.int .u8 (((wrap64 (1+(wrap64 (Int.tmod a1 20))))) % 256),.int .u8 0,.int .u8 (((wrap64 (1+(wrap64 (Int.tmod a2 20))))) % 256),.int .u8 0,.int .u8 ((wrap64 ((l3.length:Int) - 1)) % 256)]) (ok:=fun _=>True) (okp:=fun _=>True) ?hr ?hp (fun _ hk=>hk) trivial (Below.refl _ _) (Nat.le_refl _) (by simp) ?_;(case hd=>rfl);(case hg=>rfl);(case hr=>first | (go_simp;done) | (go_simp;rfl));(case hp=>exact (Reps.one (show Kd.M (Kd.int .u8) _ _ _ ((a0) % 256) [.int .u8 ((a0) % 256)] from rfl) (Reps.one (show Kd.M (Kd.int .u8) _ _ _ ((a0 / 256) % 256) [.int .u8 ((a0 / 256) % 256)] from rfl) (Reps.one (show Kd.M (Kd.int .u8) _ _ _ 3 [.int .u8 3] from rfl) (Reps.one (show Kd.M (Kd.int .u8) _ _ _ (((wrap64 (1+(wrap64 (Int.tmod a1 20))))) % 256) [.int .u8 (((wrap64 (1+(wrap64 (Int.tmod a1 20))))) % 256)] from rfl) (Reps.one (show Kd.M (Kd.int .u8) _ _ _ 0 [.int .u8 0] from rfl) (Reps.one (show Kd.M (Kd.int .u8) _ _ _ (((wrap64 (1+(wrap64 (Int.tmod a2 20))))) % 256) [.int .u8 (((wrap64 (1+(wrap64 (Int.tmod a2 20))))) % 256)] from rfl) (Reps.one (show Kd.M (Kd.int .u8) _ _ _ 0 [.int .u8 0] from rfl) (Reps.one (show Kd.M (Kd.int .u8) _ _ _ ((wrap64 ((l3.length:Int) - 1)) % 256) [.int .u8 ((wrap64 ((l3.length:Int) - 1)) % 256)] from rfl) (Reps.none _ _))))))))));intro v352 w139 ho140 hb hg_ hnew_;clear hg_ hnew_;(first | rw [← Ny351.out] at ho140 | (simp only [Int.reduceToNat] at ho140;rw [← Ny351.out] at ho140));have n0_:=rk HO_341003 hb;have n1_:=Aside0.mk (Kd.R_lower ho140 (below_size (hn HB)));have n2_:=bb BK340 hb;have n3_:=hs HB hb;clear HO_341003;clear BK340;clear HB;have HO_341003:=n0_;have HO353:=n1_;have BK340:=n2_;have HB:=n3_;clear n0_ n1_ n2_ n3_;clear hb ho140;have hcv141:=own_string (P:=Try.prog) Try.underlying40 Try.underlying5 Try.underlying9 (Kd.own_of_R HO353.out)) | ((with_reducible refine gate_callee (f:=54) rfl ?_);refine goesQ (some 188) Try.func54 #[.string ((strOfNums y351) ++ t349)] ?_;(with_reducible refine (pixel_Take.calls k3 ((strOfNums y351) ++ t349) t354 t355 t356 t357 t360 _ A84.out).mono ?_);rintro e w142 ⟨v358,rfl,ho0,hb⟩;refine ⟨_,rfl,?_⟩;have n0_:=Aside0.mk (Kd.R_elder' (by (with_reducible repeat (first | apply Kd.R_alloc | apply Kd.R_drewN | apply Kd.R_drew));exact HO_341003.out) (Kd.R_base ho0) hb);have n1_:=rk HO353 hb;have n2_:=Aside0.mk (Kd.R_lower (Kd.R_new' ho0 (Kd.R_lt (by (with_reducible repeat (first | apply Kd.R_alloc | apply Kd.R_drewN | apply Kd.R_drew));exact HO_341003.out))) (below_size (hn HB)));have n3_:=bb BK340 hb;have n4_:=hs HB hb;clear HO_341003;clear HO353;clear BK340;clear HB;have HO_341003:=n0_;have HO353:=n1_;have HO359:=n2_;have BK340:=n3_;have HB:=n4_;clear n0_ n1_ n2_ n3_ n4_;(try clear hb);(try clear ho0)) | ((with_reducible refine gate_dst (N:=22) rfl ?_);(try (refine gate_guard (by rfl) ?_;dsimp only));refine boxQ 22 #[.int .i64 0,.int .i64 0,.int .i64 0,.slice none 0 0] 76 ?_;intro gb361 hg w143 hbox hb;have n0_:=rk HO_341003 hb;have n1_:=rk HO353 hb;have n2_:=rk HO359 hb;have n3_:=bb BK340 hb;have n4_:=hs HB hb;have n5_:=Aside0.mk (hbox);have n6_:=gs HB hg;have n7_:=gs HB hg;have n8_:=nl BK340 hg;have n9_:=ng BK340 hg;clear HO_341003;clear HO353;clear HO359;clear BK340;clear HB;have HO_341003:=n0_;have HO353:=n1_;have HO359:=n2_;have BK340:=n3_;have HB:=n4_;have BK361:=n5_;have GW361:=n6_;have GE361:=n7_;have NB340_361:=n8_;have NB361_340:=n9_;clear n0_ n1_ n2_ n3_ n4_ n5_ n6_ n7_ n8_ n9_;clear hb hbox hg;have hnb144:=NB361_340.out;have hnc144:=NB340_361.out;obtain ⟨hcz145_0,hcz145_1,hcz145_2,hcz145_3⟩:=cc4 BK361;obtain ⟨hfz145_0,hfz145_1,hfz145_2,hfz145_3⟩:=ff4 BK361;obtain ⟨Ao146,co146,eo146⟩:=Kd.R_slice HO359.out;subst eo146))
             have n0_:Aside0 (Kd.R k89 89 ((((w143.setCell ⟨gb361,0,none⟩ (.int .i64 t354)).setCell ⟨gb361,1,none⟩ (.int .i64 t355)).setCell ⟨gb361,2,none⟩ (.int .i64 t356)).setCell ⟨gb361,3,none⟩ (.slice Ao146 t357.length co146)) w.heap.size (fun k_=>some k_ ≠ (.slice Ao146 t357.length co146:Value).ownBlock) u341003 x341003_3):=⟨by (with_reducible repeat (first | apply Kd.R_alloc | apply Kd.R_drewN | apply Kd.R_drew));exact Kd.R_mono (Kd.R_far (p:=⟨gb361,3,none⟩) (Kd.R_far (p:=⟨gb361,2,none⟩) (Kd.R_far (p:=⟨gb361,1,none⟩) (Kd.R_far (p:=⟨gb361,0,none⟩) (Kd.R_types HO_341003.out BK361.out (by decide)) (fun _ hk=>hk.2) (.int .i64 t354)) (fun _ hk=>hk.2) (.int .i64 t355)) (fun _ hk=>hk.2) (.int .i64 t356)) (fun _ hk=>hk.2) (.slice Ao146 t357.length co146)) (fun _ hk=>hk.1.2)⟩
             have n1_:Aside0 (Kd.R (Kd.int .u8) 5 ((((w143.setCell ⟨gb361,0,none⟩ (.int .i64 t354)).setCell ⟨gb361,1,none⟩ (.int .i64 t355)).setCell ⟨gb361,2,none⟩ (.int .i64 t356)).setCell ⟨gb361,3,none⟩ (.slice Ao146 t357.length co146)) w.heap.size (fun _=>True) v352 y351):=⟨by (with_reducible repeat (first | apply Kd.R_alloc | apply Kd.R_drewN | apply Kd.R_drew));exact Kd.R_mono (Kd.R_far (p:=⟨gb361,3,none⟩) (Kd.R_far (p:=⟨gb361,2,none⟩) (Kd.R_far (p:=⟨gb361,1,none⟩) (Kd.R_far (p:=⟨gb361,0,none⟩) (Kd.R_types HO353.out BK361.out (by decide)) (fun _ hk=>hk.2) (.int .i64 t354)) (fun _ hk=>hk.2) (.int .i64 t355)) (fun _ hk=>hk.2) (.int .i64 t356)) (fun _ hk=>hk.2) (.slice Ao146 t357.length co146)) (fun _ hk=>trivial)⟩
             have n2_:Aside0 (Kd.R k89 89 ((((w143.setCell ⟨gb361,0,none⟩ (.int .i64 t354)).setCell ⟨gb361,1,none⟩ (.int .i64 t355)).setCell ⟨gb361,2,none⟩ (.int .i64 t356)).setCell ⟨gb361,3,none⟩ (.slice Ao146 t357.length co146)) w.heap.size (fun k_=>some k_ ≠ (u341003:Value).ownBlock) (.slice Ao146 t357.length co146) t357):=⟨by (with_reducible repeat (first | apply Kd.R_alloc | apply Kd.R_drewN | apply Kd.R_drew));exact Kd.R_mono (Kd.R_far (p:=⟨gb361,3,none⟩) (Kd.R_far (p:=⟨gb361,2,none⟩) (Kd.R_far (p:=⟨gb361,1,none⟩) (Kd.R_far (p:=⟨gb361,0,none⟩) (Kd.R_types HO359.out BK361.out (by decide)) (fun _ hk=>hk.2) (.int .i64 t354)) (fun _ hk=>hk.2) (.int .i64 t355)) (fun _ hk=>hk.2) (.int .i64 t356)) (fun _ hk=>hk.2) (.slice Ao146 t357.length co146)) (fun _ hk=>hk.1.2)⟩
             have n3_:Aside0 (((((w143.setCell ⟨gb361,0,none⟩ (.int .i64 t354)).setCell ⟨gb361,1,none⟩ (.int .i64 t355)).setCell ⟨gb361,2,none⟩ (.int .i64 t356)).setCell ⟨gb361,3,none⟩ (.slice Ao146 t357.length co146)).heap[gb340]?=some (.cells #[.int .i64 (wrap64 (a0)),.int .i64 (wrap64 (1+(wrap64 (Int.tmod a1 20)))),.int .i64 (wrap64 (1+(wrap64 (Int.tmod a2 20)))),u341003] 76 (0,0))):=⟨by (with_reducible repeat (first | refine blk_drewN ?_ _ | refine blk_drew ?_ | refine blk_alloc ?_ _));refine blk_far ?_ NB340_361.out _;(with_reducible repeat (first | refine blk_drewN ?_ _ | refine blk_drew ?_ | refine blk_alloc ?_ _));refine blk_far ?_ NB340_361.out _;(with_reducible repeat (first | refine blk_drewN ?_ _ | refine blk_drew ?_ | refine blk_alloc ?_ _));refine blk_far ?_ NB340_361.out _;(with_reducible repeat (first | refine blk_drewN ?_ _ | refine blk_drew ?_ | refine blk_alloc ?_ _));refine blk_far ?_ NB340_361.out _;(with_reducible repeat (first | refine blk_drewN ?_ _ | refine blk_drew ?_ | refine blk_alloc ?_ _));exact BK340.out⟩
             have n4_:Aside0 (((((w143.setCell ⟨gb361,0,none⟩ (.int .i64 t354)).setCell ⟨gb361,1,none⟩ (.int .i64 t355)).setCell ⟨gb361,2,none⟩ (.int .i64 t356)).setCell ⟨gb361,3,none⟩ (.slice Ao146 t357.length co146)).heap[gb361]?=some (.cells #[.int .i64 t354,.int .i64 t355,.int .i64 t356,.slice Ao146 t357.length co146] 76 (0,0))):=⟨by (with_reducible repeat (first | refine blk_drewN ?_ _ | refine blk_drew ?_ | refine blk_alloc ?_ _));refine blk_put (cs:=#[.int .i64 t354,.int .i64 t355,.int .i64 t356,.slice none 0 0]) ?_ 3 _ rfl;(with_reducible repeat (first | refine blk_drewN ?_ _ | refine blk_drew ?_ | refine blk_alloc ?_ _));refine blk_put (cs:=#[.int .i64 t354,.int .i64 t355,.int .i64 0,.slice none 0 0]) ?_ 2 _ rfl;(with_reducible repeat (first | refine blk_drewN ?_ _ | refine blk_drew ?_ | refine blk_alloc ?_ _));refine blk_put (cs:=#[.int .i64 t354,.int .i64 0,.int .i64 0,.slice none 0 0]) ?_ 1 _ rfl;(with_reducible repeat (first | refine blk_drewN ?_ _ | refine blk_drew ?_ | refine blk_alloc ?_ _));refine blk_put (cs:=#[.int .i64 0,.int .i64 0,.int .i64 0,.slice none 0 0]) ?_ 0 _ rfl;(with_reducible repeat (first | refine blk_drewN ?_ _ | refine blk_drew ?_ | refine blk_alloc ?_ _));exact BK361.out⟩
             have n5_:Aside0 (Below w.heap.size w ((((w143.setCell ⟨gb361,0,none⟩ (.int .i64 t354)).setCell ⟨gb361,1,none⟩ (.int .i64 t355)).setCell ⟨gb361,2,none⟩ (.int .i64 t356)).setCell ⟨gb361,3,none⟩ (.slice Ao146 t357.length co146))):=⟨hn HB⟩
             (try clear HO_341003)
             (try clear HO353)
             (try clear HO359)
             (try clear BK340)
             (try clear BK361)
             (try clear HB)
             generalize ((((w143.setCell ⟨gb361,0,none⟩ (.int .i64 t354)).setCell ⟨gb361,1,none⟩ (.int .i64 t355)).setCell ⟨gb361,2,none⟩ (.int .i64 t356)).setCell ⟨gb361,3,none⟩ (.slice Ao146 t357.length co146))=w147 at n0_ n1_ n2_ n3_ n4_ n5_ ⊢
             have HO_341003:=n0_
             have HO353:=n1_
             have HO359:=n2_
             have BK340:=n3_
             have BK361:=n4_
             have HB:=n5_
             clear n0_ n1_ n2_ n3_ n4_ n5_
             have n0_:=Aside0.mk (Kd.R_drew HO_341003.out)
             have n1_:=Aside0.mk (Kd.R_drew HO353.out)
             have n2_:=Aside0.mk (Kd.R_drew HO359.out)
             have n3_:=Aside0.mk (blk_drew BK340.out)
             have n4_:=Aside0.mk (blk_drew BK361.out)
             have n5_:=Aside0.mk (below_drew1 HB.out)
             clear HO_341003
             clear HO353
             clear HO359
             clear BK340
             clear BK361
             clear HB
             have HO_341003:=n0_
             have HO353:=n1_
             have HO359:=n2_
             have BK340:=n3_
             have BK361:=n4_
             have HB:=n5_
             clear n0_ n1_ n2_ n3_ n4_ n5_
             refine start_ (n:=17) (S:=fun w'=>True) (ds:=[]) #[false,false,false,false,false,false,false,false,false,false,false,false,false,false,false,false,false] (by kernel_rfl) rfl rfl trivial (fun hHeld=>?_);refine with_tabW celluloidlaw11_PixelTable.tab25 celluloidlaw11_PixelTable.bits25 (fun HT_ HW_=>?_)
             generalize w147.drew=w148 at HO_341003 HO353 HO359 BK340 BK361 HB hHeld ⊢
             refine pureQ 0 (some 191) (tk 1 16) (any_of HT_.out (by kernel_rfl)) ?_
             refine pureQ 1 (some 192) (tk 2 15) (any_of HT_.out (by kernel_rfl)) ?_
             refine pureQ 2 (some 193) (tk 3 14) (any_of HT_.out (by kernel_rfl)) ?_
             refine pureU 3 (some 194) (tk 4 13) (any_of HT_.out (by kernel_rfl)) ?_
             refine pureU 4 (some 195) (tk 5 12) (any_of HT_.out (by kernel_rfl)) ?_
             refine pureQ 5 (some 196) (tk 6 11) (any_of HT_.out (by kernel_rfl)) ?_
             refine pureQ 6 (some 197) (tk 7 10) (any_of HT_.out (by kernel_rfl)) ?_
             refine pureU 7 (some 198) (tk 8 9) (any_of HT_.out (by kernel_rfl)) ?_
             refine pureU 8 (some 199) (tk 9 8) (any_of HT_.out (by kernel_rfl)) ?_
             refine pureU 9 (some 200) (tk 10 7) (any_of HT_.out (by kernel_rfl)) ?_
             refine pureU 10 (some 201) (tk 11 6) (any_of HT_.out (by kernel_rfl)) ?_
             refine pureU 11 (some 202) (tk 12 5) (any_of HT_.out (by kernel_rfl)) ?_
             refine pureQ 12 (some 203) (tk 13 4) (any_of HT_.out (by kernel_rfl)) ?_
             refine pureQ 13 (some 204) (tk 14 3) (any_of HT_.out (by kernel_rfl)) ?_
             refine pureU 14 (some 205) (tk 15 2) (any_of HT_.out (by kernel_rfl)) ?_
             refine pureQ 15 (some 206) (tk 16 1) (any_of HT_.out (by kernel_rfl)) ?_
             refine pureQ 16 (some 10) (tk 17 0) (any_of HT_.out (by kernel_rfl)) ?_
             refine done_ (done_of HT_.out (by kernel_rfl)) ?_
             try go_wp2
             go_ret
             exact ⟨by first | rfl | (simp [errW_none,errW_some] <;> rfl) | (simp [*,errW_none,errW_some] <;> rfl),hn HB⟩
          ·rw [if_neg c83] at H
           exact absurd H (by simp)
end Go.Proofs.Ytpbhkdamkbopkaa.GPixb
namespace Go.Proofs.Ytpbhkdamkbopkaa.Inf
set_option linter.unusedSimpArgs false
set_option linter.unusedVariables false
open Go.RowKit Go.Proofs.Ytpbhkdamkbopkaa.Ext Go.Proofs.Ytpbhkdamkbopkaa.RefP Go.Proofs.Ytpbhkdamkbopkaa.Stage Go.Proofs.YtpbhkdamkbopkaaW.PrintWords Go.Proofs.YtpbhkdamkbopkaaW.PrintLast Go.Proofs.YtpbhkdamkbopkaaW.PrintMore
/-- Bytes that are the same as far as N. -/
structure Agr (s t:ByteArray) (N:Nat):Prop where
 ns:N≤s.size
 nt:N≤t.size
 b:∀ j:Int,0≤j → j < N → bt t j=bt s j
 hs:s.size≤140737488351232
 ht:t.size≤140737488351232
section
variable {s t:ByteArray} {N:Nat} {mx mz:Int} {x y z:St}
theorem Agr.bit (A:Agr s t N) (i:Int) (h0:0≤i) (h1:i < 8*N):bitN t i=bitN s i:=by
 unfold bitN;rw [A.b (i / 8) (by omega) (by omega)]
theorem Agr.vn (A:Agr s t N) (pos:Int) (h0:0≤pos):∀ n:Nat,pos+n≤8*N → Vn t pos n=Vn s pos n:=by
 intro n
 induction n with
 |zero=>intro _;rfl
 |succ n ih =>
  intro h
  show 2*Vn t pos n+bitN t (pos+n)=2*Vn s pos n+bitN s (pos+n)
  rw [ih (by omega),A.bit (pos+n) (by omega) (by omega)]
end
end Go.Proofs.Ytpbhkdamkbopkaa.Inf
namespace Go.Proofs.Ytpbhkdamkbopkaa.Inf
set_option linter.unusedSimpArgs false
set_option linter.unusedVariables false
open Go.RowKit Go.Proofs.Ytpbhkdamkbopkaa.Ext Go.Proofs.Ytpbhkdamkbopkaa.RefP Go.Proofs.YtpbhkdamkbopkaaW.PrintWords Go.Proofs.YtpbhkdamkbopkaaW.PrintLast Go.Proofs.YtpbhkdamkbopkaaW.PrintMore
theorem strOfNums_bytes (s:ByteArray):strOfNums (bytesOf s)=s:=by
 unfold strOfNums bytesOf
 rw [List.map_map]
 have e:(fun n:Int=>UInt8.ofNat n.toNat) ∘ (fun b:UInt8=>(b.toNat:Int))=id:=by
  funext b;simp
 rw [e,List.map_id]
theorem bytesOf_append (s t:ByteArray):bytesOf (s ++ t)=bytesOf s ++ bytesOf t:=by simp [bytesOf]
theorem strOfNums_append (a b:List Int):strOfNums (a ++ b)=strOfNums a ++ strOfNums b:=by
 apply ByteArray.ext
 simp [strOfNums,List.map_append]
theorem bt_left (s t:ByteArray) (j:Int) (h0:0≤j) (h1:j < s.size):bt (s ++ t) j=bt s j:=by
 rw [← rd_bytesOf,← rd_bytesOf,bytesOf_append]
 unfold rd
 simp only [List.getD_eq_getElem?_getD]
 rw [List.getElem?_append_left (by rw [bytesOf_length];omega)]
theorem bt_nums (l:List Int) (hl:∀ x ∈ l,0≤x∧x≤255) (j:Nat) (h:j < l.length):bt (strOfNums l) (j:Int)=l.getD j 0:=by
 rw [← rd_bytesOf]
 unfold rd bytesOf
 have hd:(strOfNums l).data.toList=l.map fun n=>UInt8.ofNat n.toNat:=rfl
 rw [hd,List.map_map]
 simp only [List.getD_eq_getElem?_getD,Int.toNat_natCast]
 rw [List.getElem?_map,List.getElem?_eq_getElem h]
 have:=hl _ (List.getElem_mem h)
 simp
 omega
theorem bits_at (s:ByteArray) (k:Nat) (p:Int) (o:List Int) (h0:0≤p) (hk:k≤16) (h:p+k≤8*s.size):bits s k ⟨p,o,0⟩=(Bn s p k,⟨p+k,o,0⟩):=by
 have e:bitsOf s p k=(Bn s p k,p+k,0):=by
  unfold bitsOf
  rw [if_neg (by omega),if_pos h,Int.toNat_natCast]
 unfold bits tak
 rw [if_pos rfl]
 simp only [e]
 rfl
def run0 (s:ByteArray) (mx:Int):St:=blocks s mx (8*s.size+2) ⟨0,[],0⟩
theorem raw_is (s:ByteArray) (mx:Int) (h:0≤mx∧mx≤262144):raw s mx=if (run0 s mx).e=0 then (strOfNums (run0 s mx).o,((run0 s mx).p+7) / 8,0) else (⟨#[]⟩,0,(run0 s mx).e):=by
 unfold raw;rw [if_neg (by omega)];rfl
end Go.Proofs.Ytpbhkdamkbopkaa.Inf
namespace Go.Proofs.Ytpbhkdamkbopkaa.Bk
set_option linter.unusedSimpArgs false
set_option linter.unusedVariables false
open Go.RowKit Go.Proofs.Ytpbhkdamkbopkaa.Ext Go.Proofs.Ytpbhkdamkbopkaa.RefP Go.Proofs.Ytpbhkdamkbopkaa.Stage Go.Proofs.Ytpbhkdamkbopkaa.Inf Go.Proofs.YtpbhkdamkbopkaaW.PrintWords Go.Proofs.YtpbhkdamkbopkaaW.PrintLast Go.Proofs.YtpbhkdamkbopkaaW.PrintMore
open Go.Proofs.Ytpbhkdamkbopkaa.Wr (pk pkr put1 pkr_len pk_len pkr_rng pk_rng Bits bit nb nb_succ nb_len nb_bits cb cb_len cb_bits sc sc_bits sc_len rc rc_bits lsym dsym lsym_rng lf df lof dof lof_all dof_all RB rbits run_rng df_rng rc_len)
open Go.Proofs.Ytpbhkdamkbopkaa.Rn (run mlen mlen_spec best best_spec)
theorem getL (A B:List Int) (i:Nat) (h:i < A.length):(A ++ B).getD i 0=A.getD i 0:=by
 rw [List.getD_eq_getElem?_getD,List.getD_eq_getElem?_getD,List.getElem?_append_left h]
theorem getR (A B:List Int) (i:Nat):(A ++ B).getD (A.length+i) 0=B.getD i 0:=by
 rw [List.getD_eq_getElem?_getD,List.getD_eq_getElem?_getD,List.getElem?_append_right (by omega),Nat.add_sub_cancel_left]
theorem getS (A:List Int) (i j:Nat) (x:Int):(A.set i x).getD j 0=if i=j∧j < A.length then x else A.getD j 0:=by
 rw [List.getD_eq_getElem?_getD,List.getD_eq_getElem?_getD,List.getElem?_set]
 by_cases h:i=j
 ·subst h
  rw [if_pos rfl]
  by_cases h2:i < A.length
  ·rw [if_pos h2,if_pos ⟨rfl,h2⟩];rfl
  ·rw [if_neg h2,if_neg (fun h=>h2 h.2),List.getElem?_eq_none (by omega)]
 ·rw [if_neg h,if_neg (fun h3=>h h3.1)]
theorem add_bit (z b:Int) (i r:Nat) (hi:i < r):(z+b*2 ^ r) / 2 ^ i % 2=z / 2 ^ i % 2:=by
 have e:b*2 ^ r=2*(b*2 ^ (r - i - 1))*2 ^ i:=by
  have:(2:Int) ^ r=2 ^ (r - i - 1)*2*2 ^ i:=by
   rw [← Int.pow_succ,← Int.pow_add];congr 1;omega
  rw [this]
  simp only [Int.mul_comm,Int.mul_left_comm,Int.mul_assoc]
 have hp:(2:Int) ^ i ≠ 0:=by have:=Int.pow_pos (n:=2) (m:=i) (by decide);omega
 rw [e,Int.add_mul_ediv_right _ _ hp]
 omega
theorem top_bit (z b:Int) (r:Nat) (h0:0≤z) (h1:z < 2 ^ r) (hb:0≤b∧b≤1):(z+b*2 ^ r) / 2 ^ r % 2=b:=by
 have hp:(2:Int) ^ r ≠ 0:=by omega
 rw [Int.add_mul_ediv_right _ _ hp,Int.ediv_eq_zero_of_lt h0 h1]
 omega
theorem pkr_bit:∀ (B:List Int),(∀ b ∈ B,0≤b∧b≤1) → ∀ i,i < B.length → (pkr B).getD (i / 8) 0 / 2 ^ (i % 8) % 2=B.getD (B.length - 1 - i) 0
 |[],_,i,h=>absurd h (Nat.not_lt_zero _)
 |b :: t,hB,i,h=>by
  have hb:=hB b (by simp)
  have ht:∀ x ∈ t,0≤x∧x≤1:=fun x hx=>hB x (by simp [hx])
  have hl:=pkr_len t
  have ih:=pkr_bit t ht
  have hr:=(pkr_rng t ht).2
  rw [List.length_cons] at h ⊢
  simp only [pkr,put1]
  by_cases hi:i < t.length
  ·have hc : (b :: t).getD (t.length + 1 - 1 - i) 0 = t.getD (t.length - 1 - i) 0 := by
    rw [show t.length+1 - 1 - i=(t.length - 1 - i)+1 by omega];rfl
   rw [hc,← ih i hi]
   by_cases hm:t.length % 8=0
   ·rw [if_pos hm,getL _ _ _ (by omega)]
   ·rw [if_neg hm,getS]
    by_cases c:(pkr t).length - 1=i / 8∧i / 8 < (pkr t).length
    ·rw [if_pos c,c.1,add_bit _ _ _ _ (by omega)]
    ·rw [if_neg c]
  ·obtain rfl:i=t.length:=by omega
   have hc:(b :: t).getD (t.length+1 - 1 - t.length) 0=b:=by
    rw [show t.length+1 - 1 - t.length=0 by omega];rfl
   rw [hc]
   by_cases hm:t.length % 8=0
   ·have e:=getR (pkr t) [b] 0
    rw [if_pos hm,hm,show t.length / 8=(pkr t).length+0 by omega,e]
    show b / 1 % 2=b
    omega
   ·obtain ⟨h0,h1⟩:=hr hm
    rw [if_neg hm,getS,if_pos ⟨by omega,by omega⟩]
    exact top_bit _ _ _ h0 h1 hb
theorem pk_bit (B:List Int) (hB:Bits B) (i:Nat) (h:i < B.length):(pk B).getD (i / 8) 0 / 2 ^ (i % 8) % 2=B.getD i 0:=by
 have e:=pkr_bit B.reverse (fun b hb=>hB b (by simpa using hb)) i (by rw [List.length_reverse];exact h)
 unfold pk
 rw [e,List.getD_eq_getElem?_getD,List.getD_eq_getElem?_getD,List.length_reverse,List.getElem?_reverse (by omega)]
 congr 2
 omega
/-- These bits stand from a place on. -/
def At (T:ByteArray) (p:Nat) (L:List Int):Prop:=∀ i,i < L.length → bitN T ((p+i:Nat):Int)=L.getD i 0
theorem At.left {T:ByteArray} {p:Nat} {L M:List Int} (h:At T p (L ++ M)):At T p L:=fun i hi=>by
 rw [h i (by rw [List.length_append];omega),getL _ _ _ hi]
theorem At.right {T:ByteArray} {p:Nat} {L M:List Int} (h:At T p (L ++ M)):At T (p+L.length) M:=fun i hi=>by
 have e:=h (L.length+i) (by rw [List.length_append];omega)
 rw [getR] at e
 rw [← e]
 congr 1
 omega
theorem pk_size (B:List Int):(strOfNums (pk B)).size=(B.length+7) / 8:=by rw [strOfNums_size,pk_len]
theorem at_pk (B:List Int) (hB:Bits B) (X:ByteArray):At (strOfNums (pk B) ++ X) 0 B:=fun i hi=>by
 have hs:=pk_size B
 unfold bitN
 rw [Nat.zero_add,bt_left _ _ _ (by omega) (by omega),show ((i:Int) / 8)=((i / 8:Nat):Int) by omega,bt_nums _ (pk_rng hB).1 _ (by rw [pk_len];omega),show ((i:Int) % 8).toNat=i % 8 by omega]
 exact pk_bit B hB i hi
theorem At.num {T:ByteArray} {p v:Nat}:∀ {n:Nat},At T p (nb (v:Int) n) → Bn T (p:Int) n=((v % 2 ^ n:Nat):Int):=by
 intro n
 induction n with
 |zero=>intro _;simp [Bn,Nat.mod_one]
 |succ n ih =>
  intro h
  rw [nb_succ] at h
  have h2:=h.right 0 (by simp)
  rw [nb_len] at h2
  show Bn T p n+2 ^ n*bitN T ((p:Int)+n)=_
  rw [ih h.left,show (p:Int)+n=((p+n+0:Nat):Int) by omega,h2,Nat.mod_pow_succ]
  show _+2 ^ n*bit (v:Int) n=_
  unfold bit
  push_cast
  rfl
theorem bits_back {T:ByteArray} {p n:Nat} {v:Int} {o:List Int} (h:At T p (nb v n)) (h0:0≤v) (h1:v < 2 ^ n) (hn:n≤16) (hp:p+n≤8*T.size):Inf.bits T (n:Int) ⟨(p:Int),o,0⟩=(v,⟨((p+n:Nat):Int),o,0⟩):=by
 obtain ⟨w,rfl⟩:=Int.eq_ofNat_of_zero_le h0
 have e:((2 ^ n:Nat):Int)=2 ^ n:=by rw [Int.natCast_pow];rfl
 rw [bits_at T n _ o (by omega) hn (by omega),h.num,Nat.mod_eq_of_lt (by omega)]
 rfl
theorem pow_half (n m:Nat) (h:m+1≤n):(2:Int) ^ (n - m)=2 ^ (n - 1 - m)*2:=by
 rw [← Int.pow_succ];congr 1;omega
theorem At.code {T:ByteArray} {p n:Nat} {v:Int} (h:At T p (cb v n)) (h0:0≤v) (h1:v < 2 ^ n):∀ m,m≤n → Vn T (p:Int) m=v / 2 ^ (n - m):=by
 intro m
 induction m with
 |zero=>intro _;rw [Nat.sub_zero,Int.ediv_eq_zero_of_lt h0 h1];rfl
 |succ m ih =>
  intro hm
  have e:=h m (by rw [cb_len];omega)
  have g:(cb v n).getD m 0=bit v (n - 1 - m):=by
   unfold cb
   rw [List.getD_eq_getElem?_getD,List.getElem?_map,List.getElem?_range (by omega)]
   rfl
  show 2*Vn T p m+bitN T ((p:Int)+m)=_
  rw [ih (by omega),show (p:Int)+m=((p+m:Nat):Int) by omega,e,g,pow_half n m hm,← Int.ediv_ediv_of_nonneg (Int.le_of_lt (Int.pow_pos (by decide)))]
  unfold bit
  rw [show n - (m+1)=n - 1 - m by omega]
  omega
theorem below_code (l:List Int) (i n:Nat) (h0:1≤n) (h:n < 16) (hi:i < l.length) (he:l.getD i 0=n) (m:Nat) (hm:m < n):Gn l m≤codeAt l i / 2 ^ (n - m)∧Sn l m ≠ (syms l).length:=by
 have hs:=symbol_at l i n h0 h hi he
 obtain ⟨k,rfl⟩:∃ k,n=k+1:=⟨n - 1,by omega⟩
 have hmono:=Gn_mono l m k (by omega)
 rw [firstC_succ] at hs
 have hp:(0:Int) < 2 ^ (k+1 - m):=Int.pow_pos (by decide)
 refine ⟨?_,?_⟩
 ·rw [Int.le_ediv_iff_mul_le hp,show k+1 - m=(k - m)+1 by omega,Int.pow_succ,← Int.mul_assoc]
  omega
 ·have h1:=Sn_mono l m k (by omega) (by omega)
  have h2:=Sn_succ l k (by omega)
  have h3:=Sn_mono l (k+1) 15 (by omega) (by omega)
  have h4:=Gn_succ l k
  have h5:=syms_Sn l
  omega
theorem sym_stage (l : List Int) (he : errOf l = 0) (i n : Nat) (h0 : 1 ≤ n) (h : n ≤ 15) (hi : i < l.length) (hl : l.getD i 0 = n) (T : ByteArray) (hT : T.size ≤ 140737488351232) (p : Nat) (hp : p + n ≤ 8 * T.size) (hV : ∀ m, m ≤ n → Vn T (p : Int) m = codeAt l i / 2 ^ (n - m)) (d : Nat) : ∀ m, m + d = n →
  stageOf l T (p:Int) m=some ((i:Int),((p+n:Nat):Int),0):=by
 have hs:=symbol_at l i n h0 (by omega) hi hl
 induction d with
 |zero =>
  intro m hm
  obtain rfl:m=n:=by omega
  have hv:=hV m (Nat.le_refl _)
  rw [Nat.sub_self,Int.pow_zero,Int.ediv_one] at hv
  unfold stageOf
  rw [hv,if_pos hs.2.1,hs.2.2]
  rfl
 |succ d ih =>
  intro m hm
  have hb:=below_code l i n h0 (by omega) hi hl m (by omega)
  rw [stage_step l (errOf_ok l he).1 _ hT _ (by omega) (by omega) m (by omega) (by rw [hV m (by omega)];exact hb.1) hb.2,if_pos (by omega)]
  exact ih (m+1) (by omega)
theorem next_back (l : List Int) (he : errOf l = 0) (i n : Nat) (h0 : 1 ≤ n) (h : n ≤ 15) (hi : i < l.length) (hl : l.getD i 0 = n) (T : ByteArray) (hT : T.size ≤ 140737488351232) (p : Nat) (hp : p + n ≤ 8 * T.size) (hV : ∀ m, m ≤ n → Vn T (p : Int) m = codeAt l i / 2 ^ (n - m)) (o : List Int) :
  Inf.next l T ⟨(p:Int),o,0⟩=((i:Int),⟨((p+n:Nat):Int),o,0⟩):=by
 have e:nextL l T (p:Int)=((i:Int),((p+n:Nat):Int),0):=by
  unfold nextL
  have e1:=sym_stage l he i n h0 h hi hl T hT p hp hV n 0 (by omega)
  have e0:Sn l 0=0:=rfl
  have eV:¬ Vn T (p:Int) 0 < Gn l 0:=by rw [Gn_zero];exact Int.lt_irrefl 0
  have hS:=(below_code l i n h0 (by omega) hi hl 0 (by omega)).2
  rw [e0] at hS
  rw [nextOf_good l he T _ (by omega),if_neg (by omega)]
  unfold stageOf at e1
  rw [if_neg eV,e0,Gn_zero,if_neg hS,show (p:Int)+((0:Nat):Int)=p by omega] at e1
  have e2:nxt (cnts l) (syms l) T 15 (p:Int) 0 0 0=some ((i:Int),((p+n:Nat):Int),0):=e1
  rw [e2]
  rfl
 unfold Inf.next tak
 rw [if_pos rfl]
 simp only [e]
 rfl
end Go.Proofs.Ytpbhkdamkbopkaa.Bk
namespace Go.Proofs.Ytpbhkdamkbopkaa.Bk
set_option linter.unusedSimpArgs false
set_option linter.unusedVariables false
open Go.RowKit Go.Proofs.Ytpbhkdamkbopkaa.Ext Go.Proofs.Ytpbhkdamkbopkaa.RefP Go.Proofs.Ytpbhkdamkbopkaa.Stage Go.Proofs.Ytpbhkdamkbopkaa.Inf Go.Proofs.YtpbhkdamkbopkaaW.PrintWords Go.Proofs.YtpbhkdamkbopkaaW.PrintLast Go.Proofs.YtpbhkdamkbopkaaW.PrintMore
open Go.Proofs.Ytpbhkdamkbopkaa.Wr (pk pkr put1 pkr_len pk_len pkr_rng pk_rng Bits bit nb nb_succ nb_len nb_bits cb cb_len cb_bits sc sc_bits sc_len rc rc_bits lsym dsym lsym_rng lf df lof dof lof_all dof_all RB rbits run_rng df_rng rc_len)
open Go.Proofs.Ytpbhkdamkbopkaa.Rn (run mlen mlen_spec best best_spec)
theorem LA_len:plainA.length=288:=by unfold plainA;simp
theorem LB_len:plainB.length=32:=by unfold plainB;simp
theorem LA_get (i:Nat) (h:i < 288):plainA.getD i 0=if i < 144 then 8 else if i < 256 then 9 else if i < 280 then 7 else 8:=by
 unfold plainA
 simp [List.getD_eq_getElem?_getD,h]
theorem LB_get (i:Nat) (h:i < 32):plainB.getD i 0=5:=by
 unfold plainB
 rw [List.getD_eq_getElem?_getD,List.getElem?_replicate,if_pos h]
 rfl
theorem rankA (n:Nat):∀ i,i≤288 → (idxN plainA n i).length=if n=8 then (if i≤144 then i else if i≤280 then 144 else i - 136) else if n=9 then (if i≤144 then 0 else if i≤256 then i - 144 else 112) else if n=7 then (if i≤256 then 0 else if i≤280 then i - 256 else 24) else 0:=by
 intro i
 induction i with
 |zero=>intro _;simp [idxN]
 |succ i ih =>
  intro hi
  rw [idxN_succ,List.length_append,ih (by omega),LA_get i (by omega)]
  have e:∀ (p:Prop) [Decidable p],(if p then [(i:Int)] else []).length=if p then 1 else 0:=fun p _=>by split <;> rfl
  rw [e]
  by_cases h1:i < 144
  ·simp only [if_pos h1];(repeat' split) <;> omega
  ·by_cases h2:i < 256
   ·simp only [if_neg h1,if_pos h2];(repeat' split) <;> omega
   ·by_cases h3:i < 280
    ·simp only [if_neg h1,if_neg h2,if_pos h3];(repeat' split) <;> omega
    ·simp only [if_neg h1,if_neg h2,if_neg h3];(repeat' split) <;> omega
theorem rankB:∀ i,i≤32 → (idxN plainB 5 i).length=i:=by
 intro i
 induction i with
 |zero=>intro _;simp [idxN]
 |succ i ih =>
  intro hi
  rw [idxN_succ,List.length_append,ih (by omega),LB_get i (by omega),if_pos (by rfl)]
  rfl
theorem firstA7:firstC plainA 7=0:=by decide +kernel
theorem firstA8:firstC plainA 8=48:=by decide +kernel
theorem firstA9:firstC plainA 9=400:=by decide +kernel
theorem firstB5:firstC plainB 5=0:=by decide +kernel
theorem codeA (c:Nat) (h:c < 288):(codesOf plainA).getD c 0=if c < 144 then 48+(c:Int) else if c < 256 then 400+(c:Int) - 144 else if c < 280 then (c:Int) - 256 else 192+(c:Int) - 280:=by
 have hg:=LA_get c h
 have e:(codesOf plainA).getD c 0=if plainA.getD c 0≤0 then 0 else codeAt plainA c:=by
  rw [List.getD_eq_getElem?_getD]
  unfold codesOf
  simp [LA_len,h]
 rw [e]
 by_cases h1:c < 144
 ·rw [if_pos h1] at hg
  rw [hg,if_neg (by decide),if_pos h1]
  unfold codeAt
  rw [rank_n plainA c 8 hg,hg,rankA 8 c (by omega),if_pos rfl,if_pos (by omega),show (8:Int).toNat=8 from rfl,firstA8]
 ·by_cases h2:c < 256
  ·rw [if_neg h1,if_pos h2] at hg
   rw [hg,if_neg (by decide),if_neg h1,if_pos h2]
   unfold codeAt
   rw [rank_n plainA c 9 hg,hg,rankA 9 c (by omega),if_neg (by decide),if_pos rfl,show (9:Int).toNat=9 from rfl,firstA9]
   split
   ·omega
   ·rw [if_pos (by omega)];omega
  ·by_cases h3:c < 280
   ·rw [if_neg h1,if_neg h2,if_pos h3] at hg
    rw [hg,if_neg (by decide),if_neg h1,if_neg h2,if_pos h3]
    unfold codeAt
    rw [rank_n plainA c 7 hg,hg,rankA 7 c (by omega),if_neg (by decide),if_neg (by decide),if_pos rfl,show (7:Int).toNat=7 from rfl,firstA7]
    split
    ·omega
    ·rw [if_pos (by omega)];omega
   ·rw [if_neg h1,if_neg h2,if_neg h3] at hg
    rw [hg,if_neg (by decide),if_neg h1,if_neg h2,if_neg h3]
    unfold codeAt
    rw [rank_n plainA c 8 hg,hg,rankA 8 c (by omega),if_pos rfl,show (8:Int).toNat=8 from rfl,firstA8,if_neg (by omega)]
    split <;> omega
theorem codeB (c:Nat) (h:c < 32):(codesOf plainB).getD c 0=(c:Int):=by
 have hg:=LB_get c h
 have e:(codesOf plainB).getD c 0=if plainB.getD c 0≤0 then 0 else codeAt plainB c:=by
  rw [List.getD_eq_getElem?_getD]
  unfold codesOf
  simp [LB_len,h]
 rw [e,hg,if_neg (by decide)]
 unfold codeAt
 rw [rank_n plainB c 5 hg,hg,rankB c (by omega),show (5:Int).toNat=5 from rfl,firstB5]
 omega
theorem df_at (n:Int) (hn:1≤n):∀ k,k≤30 → ∃ m:Nat,m < 30∧df n k=((m:Int),dof m):=by
 intro k
 induction k with
 |zero=>intro _;exact ⟨0,by decide,by show (0,1,0)=_;decide +kernel⟩
 |succ k ih =>
  intro hk
  unfold df
  split
  ·exact ⟨k,by omega,rfl⟩
  ·exact ih (by omega)
theorem errA:errOf plainA=0:=by decide +kernel
theorem errB:errOf plainB=0:=by decide +kernel
theorem codesOf_at (l:List Int) (c:Nat) (h:c < l.length) (h0:0 < l.getD c 0):(codesOf l).getD c 0=codeAt l c:=by
 rw [List.getD_eq_getElem?_getD]
 unfold codesOf
 rw [List.getElem?_map,List.getElem?_range h]
 show (if l.getD c 0≤0 then 0 else codeAt l c)=_
 rw [if_neg (by omega)]
/-- A fixed code's length. -/
def wA (c:Nat):Nat:=if c < 144 then 8 else if c < 256 then 9 else if c < 280 then 7 else 8
theorem lenA (c:Nat) (h:c < 288):plainA.getD c 0=(wA c:Nat):=by
 rw [LA_get c h];unfold wA;(repeat' split) <;> rfl
theorem wA_rng (c:Nat):7≤wA c∧wA c≤9:=by unfold wA;(repeat' split) <;> omega
theorem sc_is (c:Nat) (h:c < 288):sc (c:Int)=cb (codeAt plainA c) (wA c)∧0≤codeAt plainA c∧codeAt plainA c < 2 ^ wA c:=by
 have e:=codesOf_at plainA c (by rw [LA_len];exact h) (by rw [lenA c h];have:=wA_rng c;omega)
 rw [codeA c h] at e
 rw [← e]
 unfold sc wA
 by_cases h1:c < 144
 ·rw [if_pos h1,if_pos h1,if_pos (by omega)];exact ⟨rfl,by omega,by omega⟩
 ·by_cases h2:c < 256
  ·rw [if_neg h1,if_neg h1,if_pos h2,if_pos h2,if_neg (by omega),if_pos (by omega)];exact ⟨rfl,by omega,by omega⟩
  ·by_cases h3:c < 280
   ·rw [if_neg h1,if_neg h1,if_neg h2,if_neg h2,if_pos h3,if_pos h3,if_neg (by omega),if_neg (by omega),if_pos (by omega)];exact ⟨rfl,by omega,by omega⟩
   ·rw [if_neg h1,if_neg h1,if_neg h2,if_neg h2,if_neg h3,if_neg h3,if_neg (by omega),if_neg (by omega),if_neg (by omega)];exact ⟨rfl,by omega,by omega⟩
theorem sc_lenA (c:Nat) (h:c < 288):(sc (c:Int)).length=wA c:=by rw [(sc_is c h).1,cb_len]
theorem nextA_back {T : ByteArray} {p c : Nat} {o : List Int} (h : At T p (sc (c : Int))) (hc : c < 288) (hT : T.size ≤ 140737488351232) (hp : p + (sc (c : Int)).length ≤ 8 * T.size) :
  Inf.next plainA T ⟨(p:Int),o,0⟩=((c:Int),⟨((p+(sc (c:Int)).length:Nat):Int),o,0⟩):=by
 obtain ⟨e,h0,h1⟩:=sc_is c hc
 have hw:=wA_rng c
 have hl:=sc_lenA c hc
 rw [hl] at hp ⊢
 rw [e] at h
 exact next_back plainA errA c (wA c) (by omega) (by omega) (by rw [LA_len];exact hc) (lenA c hc) T hT p hp (h.code h0 h1) o
theorem nextB_back {T : ByteArray} {p c : Nat} {o : List Int} (h : At T p (cb (c : Int) 5)) (hc : c < 32) (hT : T.size ≤ 140737488351232) (hp : p + 5 ≤ 8 * T.size) :
  Inf.next plainB T ⟨(p:Int),o,0⟩=((c:Int),⟨((p+5:Nat):Int),o,0⟩):=by
 have e:=codesOf_at plainB c (by rw [LB_len];exact hc) (by rw [LB_get c hc];decide)
 rw [codeB c hc] at e
 refine next_back plainB errB c 5 (by decide) (by decide) (by rw [LB_len];exact hc) (LB_get c hc) T hT p hp ?_ o
 rw [← e]
 exact h.code (by omega) (by show (c:Int) < 32;omega)
theorem lsym_all:∀ n:Nat,n < 259 → 3≤n → 257≤(lsym n).1∧(lsym n).1≤285∧lenM.getD ((lsym n).1 - 257).toNat 0=(lsym n).2.2∧lenB.getD ((lsym n).1 - 257).toNat 0=(lsym n).2.1∧0≤(n:Int) - (lsym n).2.1∧(n:Int) - (lsym n).2.1 < 2 ^ (lsym n).2.2.toNat∧0≤(lsym n).2.2∧(lsym n).2.2≤5:=by decide +kernel
theorem dof_tab:∀ k:Nat,k < 30 → disM.getD k 0=(dof k).2∧disB.getD k 0=(dof k).1∧(dof k).1+2 ^ (dof k).2.toNat=(if k=29 then 32769 else (dof (k+1)).1):=by decide +kernel
theorem df_lim (n:Int) (hn:1≤n):∀ k,k≤30 → n < (if k=30 then 32769 else (dof k).1) → n - (df n k).2.1 < 2 ^ (df n k).2.2.toNat:=by
 intro k
 induction k with
 |zero =>
  intro _ h
  have e:(dof 0).1=1:=by decide +kernel
  rw [if_neg (by decide),e] at h
  omega
 |succ k ih =>
  intro hk h
  unfold df
  by_cases c:(dof k).1≤n
  ·rw [if_pos c]
   obtain ⟨_,_,e⟩:=dof_tab k (by omega)
   simp only
   by_cases c2:k=29
   ·rw [if_pos c2] at e
    rw [if_pos (by omega)] at h
    omega
   ·rw [if_neg c2] at e
    rw [if_neg (by omega)] at h
    omega
  ·rw [if_neg c]
   refine ih (by omega) ?_
   rw [if_neg (by omega)]
   omega
theorem dsym_all (f:Int) (h1:1≤f) (h2:f≤32768):∃ c:Nat,c < 30∧(dsym f).1=c∧disM.getD c 0=(dsym f).2.2∧disB.getD c 0=(dsym f).2.1∧0≤f - (dsym f).2.1∧f - (dsym f).2.1 < 2 ^ (dsym f).2.2.toNat∧0≤(dsym f).2.2∧(dsym f).2.2≤13:=by
 obtain ⟨m,hm,e⟩:=df_at f h1 30 (Nat.le_refl _)
 have hr:=df_rng h1 30 (Nat.le_refl _)
 have hl:=df_lim f h1 30 (Nat.le_refl _) (by rw [if_pos rfl];omega)
 obtain ⟨t1,t2,_⟩:=dof_tab m hm
 unfold dsym
 rw [e] at hr hl ⊢
 exact ⟨m,hm,rfl,t1,t2,by omega,hl,by omega,by omega⟩
theorem far_back {T : ByteArray} {mx : Int} {p : Nat} {o : List Int} (n f : Nat) (hn0 : 3 ≤ n) (hn1 : n ≤ 258) (hf0 : 1 ≤ f) (hf1 : f ≤ 32768) (hT : T.size ≤ 140737488351232)
  (h:At T p (nb ((n:Int) - (lsym n).2.1) (lsym n).2.2.toNat ++ (cb (dsym f).1 5 ++ nb ((f:Int) - (dsym f).2.1) (dsym f).2.2.toNat)))
  (hp:p+((lsym n).2.2.toNat+(5+(dsym f).2.2.toNat))≤8*T.size) :
  Inf.far T mx plainB ⟨(p:Int),o,0⟩ (lsym n).1=Inf.copy mx ⟨((p+((lsym n).2.2.toNat+(5+(dsym f).2.2.toNat)):Nat):Int),o,0⟩ n f:=by
 obtain ⟨l1,l2,l3,l4,l5,l6,l7,l8⟩:=lsym_all n (by omega) hn0
 obtain ⟨c,d1,d2,d3,d4,d5,d6,d7,d8⟩:=dsym_all f (by omega) (by omega)
 generalize lsym n=L at *
 generalize dsym f=D at *
 have b1:=bits_back (o:=o) h.left l5 l6 (by omega) (by omega)
 rw [Int.toNat_of_nonneg l7] at b1
 have h2:=h.right
 rw [nb_len] at h2
 rw [d2] at h2
 have b2:=nextB_back (o:=o) h2.left (by omega) hT (by omega)
 have h3:=h2.right
 rw [cb_len] at h3
 have b3:=bits_back (o:=o) h3 d5 d6 (by omega) (by omega)
 rw [Int.toNat_of_nonneg d7] at b3
 unfold far
 simp only
 rw [l3,b1]
 simp only
 rw [b2]
 simp only
 have hx:¬ (True∧(c:Int) ≥ 30):=fun h=>absurd h.2 (by omega)
 rw [if_neg hx]
 simp only
 rw [if_pos trivial,Int.toNat_natCast,d3,b3]
 simp only
 rw [if_pos trivial,l4,d4]
 congr 1
 ·congr 1;omega
 ·omega
 ·omega
theorem pre_len (s:ByteArray) (i:Nat) (h:i≤s.size):((bytesOf s).take i).length=i:=by rw [List.length_take,bytesOf_length];omega
theorem pre_get (s:ByteArray) (i j:Nat) (h:j < i) (hi:i≤s.size):((bytesOf s).take i).getD j 0=bt s (j:Int):=by
 rw [← rd_bytesOf]
 unfold rd
 rw [List.getD_eq_getElem?_getD,List.getD_eq_getElem?_getD,List.getElem?_take,if_pos h,Int.toNat_natCast]
theorem pre_next (s:ByteArray) (i:Nat) (h:i < s.size):(bytesOf s).take (i+1)=(bytesOf s).take i ++ [bt s (i:Int)]:=by
 rw [List.take_succ_eq_append_getElem (by rw [bytesOf_length];exact h),← rd_bytesOf]
 unfold rd
 rw [List.getD_eq_getElem?_getD,Int.toNat_natCast,List.getElem?_eq_getElem (by rw [bytesOf_length];exact h)]
 rfl
theorem again_back (s:ByteArray) (i d:Nat) (h0:1≤d) (h1:d≤i):∀ n,i+n≤s.size → (∀ t,t < n → bt s ((i+t:Nat):Int)=bt s ((i - d+t:Nat):Int)) → Inf.again ((bytesOf s).take i) d n=(bytesOf s).take (i+n):=by
 intro n
 induction n with
 |zero=>intro _ _;rfl
 |succ n ih =>
  intro hn h
  unfold again
  rw [ih (by omega) (fun t ht=>h t (by omega)),pre_len s (i+n) (by omega),pre_get s (i+n) (i+n - d) (by omega) (by omega),← Nat.add_assoc,pre_next s (i+n) (by omega),h n (by omega)]
  congr 4
  omega
theorem rc_split (n f:Int):rc n f=sc (lsym n).1 ++ (nb (n - (lsym n).2.1) (lsym n).2.2.toNat ++ (cb (dsym f).1 5 ++ nb (f - (dsym f).2.1) (dsym f).2.2.toNat)):=by
 unfold rc
 rw [List.append_assoc,List.append_assoc]
theorem run_back (s:ByteArray) (i:Nat) (hi:i≤s.size) (hr:(run s i).1 ≠ 0):∀ t,t < (run s i).1 → bt s ((i+t:Nat):Int)=bt s ((i - (run s i).2+t:Nat):Int):=by
 obtain ⟨b0,b1⟩:=best_spec s i (min i 32768)
 unfold run at hr ⊢
 generalize best s i (min i 32768)=q at *
 unfold Rn.fin at hr ⊢
 by_cases c:q.1 < 3
 ·rw [if_pos c] at hr;exact absurd rfl hr
 ·rw [if_neg c]
  rcases b1 with ⟨z,_⟩ | ⟨_,_,e,_,_⟩
  ·omega
  ·rw [← e]
   exact (mlen_spec hi).2.2.1
theorem codes_back (T s : ByteArray) (mx : Int) (hm : (s.size : Int) ≤ mx) (hT : T.size ≤ 140737488351232) (m : Nat) : ∀ i p k, s.size ≤ i + m → i ≤ s.size → At T p (rbits s m i ++ sc 256) → p + (rbits s m i ++ sc 256).length ≤ 8 * T.size → (rbits s m i).length + 1 ≤ k →
  Inf.codes T mx plainA plainB k ⟨(p:Int),(bytesOf s).take i,0⟩=⟨((p+(rbits s m i ++ sc 256).length:Nat):Int),bytesOf s,0⟩:=by
 have hend : ∀ i p k, s.size ≤ i → i ≤ s.size → At T p (sc 256) → p + (sc 256).length ≤ 8 * T.size → 1 ≤ k →
   Inf.codes T mx plainA plainB k ⟨(p:Int),(bytesOf s).take i,0⟩=⟨((p+(sc 256).length:Nat):Int),bytesOf s,0⟩:=by
  intro i p k h0 h1 hA hp hk
  obtain ⟨k1,rfl⟩:∃ k1,k=k1+1:=⟨k - 1,by omega⟩
  have e:=nextA_back (T:=T) (p:=p) (c:=256) (o:=(bytesOf s).take i) hA (by decide) hT hp
  have e1:Inf.one T mx plainA plainB ⟨(p:Int),(bytesOf s).take i,0⟩=(true,⟨((p+(sc 256).length:Nat):Int),(bytesOf s).take i,0⟩):=by
   unfold one
   rw [e]
   simp only
   exact if_pos (.inr rfl)
  unfold Inf.codes
  rw [if_pos rfl,e1,if_pos rfl,List.take_of_length_le (by rw [bytesOf_length];omega)]
 induction m with
 |zero =>
  intro i p k h0 h1 hA hp hk
  have e:rbits s 0 i ++ sc 256=sc 256:=rfl
  rw [e] at hA hp ⊢
  exact hend i p k (by omega) h1 hA hp (by omega)
 |succ m ih =>
  intro i p k h0 h1 hA hp hk
  by_cases c:i < s.size
  ·obtain ⟨k1,rfl⟩:∃ k1,k=k1+1:=⟨k - 1,by omega⟩
   have hb:=bt_range s (i:Int)
   by_cases c2:(run s i).1=0
   ·have e : rbits s (m + 1) i = sc (bt s (i : Int)) ++ rbits s m (i + 1) := by
     show (if i < s.size then (if (run s i).1=0 then _ else _) else _)=_
     rw [if_pos c,if_pos c2]
    rw [e] at hA hp hk ⊢
    rw [List.append_assoc] at hA hp ⊢
    obtain ⟨b,hbb⟩:∃ b:Nat,bt s (i:Int)=b:=⟨(bt s (i:Int)).toNat,by omega⟩
    rw [hbb] at hA hp hk ⊢
    have hw:=sc_lenA b (by omega)
    have hw2:=wA_rng b
    rw [List.length_append] at hp hk ⊢
    have e1:=nextA_back (o:=(bytesOf s).take i) hA.left (by omega) hT (by omega)
    have e2:Inf.one T mx plainA plainB ⟨(p:Int),(bytesOf s).take i,0⟩=(false,⟨((p+(sc (b:Int)).length:Nat):Int),(bytesOf s).take (i+1),0⟩):=by
     unfold one
     rw [e1]
     simp only
     rw [if_neg (by omega),if_pos (by omega),if_neg (by rw [pre_len s i h1];omega),pre_next s i c,hbb,Int.emod_eq_of_lt (by omega) (by omega)]
    have e3:=ih (i+1) (p+(sc (b:Int)).length) k1 (by omega) (by omega) hA.right (by omega) (by omega)
    unfold Inf.codes
    rw [if_pos rfl,e2]
    simp only
    rw [if_neg (by decide),e3]
    exact congrArg (fun q:Nat=>(⟨(q:Int),bytesOf s,0⟩:St)) (by omega)
   ·have e : rbits s (m + 1) i = rc ((run s i).1 : Nat) ((run s i).2 : Nat) ++ rbits s m (i + (run s i).1) := by
     show (if i < s.size then (if (run s i).1=0 then _ else _) else _)=_
     rw [if_pos c,if_neg c2]
    have hr:=run_rng s i h1
    have hbk:=run_back s i h1 c2
    rw [e] at hA hp hk ⊢
    generalize run s i=r at *
    obtain ⟨n,f⟩:=r
    simp only at *
    obtain ⟨r1,r2,r3,r4,r5,r6⟩:3≤n∧n≤258∧1≤f∧f≤i∧f≤32768∧i+n≤s.size:=by omega
    obtain ⟨l1,l2,_⟩:=lsym_all n (by omega) r1
    obtain ⟨y,hy⟩:∃ y:Nat,(lsym (n:Int)).1=y:=⟨((lsym (n:Int)).1).toNat,by omega⟩
    have hrc:=rc_split (n:Int) (f:Int)
    have hrl:(rc (n:Int) (f:Int)).length=(sc (y:Int)).length+((lsym (n:Int)).2.2.toNat+(5+(dsym (f:Int)).2.2.toNat)):=by
     rw [hrc,hy]
     simp only [List.length_append,nb_len,cb_len]
    rw [List.append_assoc] at hA hp ⊢
    rw [List.length_append] at hp hk ⊢
    have hA2:=hA.left
    rw [hrc,hy] at hA2
    have hw:=sc_lenA y (by omega)
    have hw2:=wA_rng y
    have e1:=nextA_back (o:=(bytesOf s).take i) hA2.left (by omega) hT (by omega)
    have e4:=far_back (mx:=mx) (o:=(bytesOf s).take i) n f r1 r2 r3 r5 hT hA2.right (by omega)
    rw [hy] at e4
    have e5:Inf.copy mx ⟨((p+(sc (y:Int)).length+((lsym (n:Int)).2.2.toNat+(5+(dsym (f:Int)).2.2.toNat)):Nat):Int),(bytesOf s).take i,0⟩ n f=⟨((p+(rc (n:Int) (f:Int)).length:Nat):Int),(bytesOf s).take (i+n),0⟩:=by
     unfold copy
     rw [if_pos (by rw [pre_len s i h1];omega),if_pos (by rw [pre_len s i h1];omega)]
     simp only
     rw [Int.toNat_natCast,Int.toNat_natCast,again_back s i f r3 r4 n r6 hbk,hrl]
     exact congrArg (fun q:Nat=>(⟨(q:Int),(bytesOf s).take (i+n),0⟩:St)) (by omega)
    rw [e5] at e4
    have e2:Inf.one T mx plainA plainB ⟨(p:Int),(bytesOf s).take i,0⟩=(false,⟨((p+(rc (n:Int) (f:Int)).length:Nat):Int),(bytesOf s).take (i+n),0⟩):=by
     unfold one
     rw [e1]
     simp only
     rw [if_neg (by omega),if_neg (by omega),if_neg (by omega),e4]
    have e3:=ih (i+n) (p+(rc (n:Int) (f:Int)).length) k1 (by omega) (by omega) hA.right (by omega) (by omega)
    unfold Inf.codes
    rw [if_pos rfl,e2]
    simp only
    rw [if_neg (by decide),e3]
    exact congrArg (fun q:Nat=>(⟨(q:Int),bytesOf s,0⟩:St)) (by omega)
  ·have e : rbits s (m + 1) i = [] := by
    show (if i < s.size then _ else _)=_
    rw [if_neg c]
   rw [e,List.nil_append] at hA hp ⊢
   exact hend i p k (by omega) h1 hA hp (by omega)
theorem rbits_bits (s:ByteArray):∀ m i,Bits (rbits s m i):=by
 intro m
 induction m with
 |zero=>intro i b hb;simp [rbits] at hb
 |succ m ih =>
  intro i
  unfold rbits
  split
  ·split
   ·exact (sc_bits _).append (ih _)
   ·exact (rc_bits _ _).append (ih _)
  ·intro b hb;simp at hb
theorem RB_bits (s:ByteArray):Bits (RB s):=by
 unfold RB
 refine Bits.append (Bits.append (Bits.append ?_ (nb_bits _ _)) (rbits_bits s _ _)) (sc_bits _)
 intro b hb
 simp at hb
 omega
theorem RB_split (s:ByteArray):RB s=nb 1 1 ++ (nb 1 2 ++ (rbits s s.size 0 ++ sc 256)):=by
 unfold RB
 rw [List.append_assoc,List.append_assoc]
 rfl
/-- THE STAGE'S THEOREM,in plain: what is packed is unpacked to what it was,whatever stands behind. -/
theorem raw_back (s X : ByteArray) (mx : Int) (hm : (s.size : Int) ≤ mx) (h1 : mx ≤ 262144) (hT : (strOfNums (pk (RB s)) ++ X).size ≤ 140737488351232) :
  raw (strOfNums (pk (RB s)) ++ X) mx=(s,((strOfNums (pk (RB s))).size:Int),0):=by
 have hA:=at_pk (RB s) (RB_bits s) X
 have hz:(RB s).length≤8*(strOfNums (pk (RB s)) ++ X).size:=by rw [ByteArray.size_append,pk_size];omega
 have hq:=pk_size (RB s)
 generalize strOfNums (pk (RB s))=Q at *
 generalize hQ:Q ++ X=T at *
 have hl:(RB s).length=1+(2+(rbits s s.size 0 ++ sc 256).length):=by
  rw [RB_split,List.length_append,List.length_append,nb_len,nb_len]
 rw [RB_split] at hA
 have hA2:=hA.right
 rw [nb_len] at hA2
 have hA3:=hA2.right
 rw [nb_len] at hA3
 have b1:=bits_back (v:=1) (n:=1) (o:=[]) hA.left (by decide) (by decide) (by decide) (by omega)
 have b2:=bits_back (v:=1) (n:=2) (o:=[]) hA2.left (by decide) (by decide) (by decide) (by omega)
 have b3:=codes_back T s mx hm hT s.size 0 3 (left T ⟨((0+1+2:Nat):Int),[],0⟩) (by omega) (by omega) hA3 (by omega) (by
  unfold left
  rw [List.length_append] at hl
  have:=sc_lenA 256 (by decide)
  show _≤(8*(T.size:Int)+1 - 3).toNat+1
  omega)
 have e1:block T mx ⟨0,[],0⟩=(true,⟨((RB s).length:Int),bytesOf s,0⟩):=by
  unfold block
  simp only
  rw [show (⟨0,[],0⟩:St)=⟨((0:Nat):Int),[],0⟩ from rfl,show (1:Int)=((1:Nat):Int) from rfl,b1]
  simp only
  rw [show (2:Int)=((2:Nat):Int) from rfl,b2]
  simp only
  rw [if_neg (by decide),if_pos (show (1:Int)=((1:Nat):Int) from rfl)]
  unfold both table fail
  rw [errA,errB]
  simp only [if_true]
  rw [show (bytesOf s).take 0=[] from rfl] at b3
  have e3:((0+1+2:Nat):Int)=((3:Nat):Int):=rfl
  rw [e3] at b3 ⊢
  rw [b3]
  exact congrArg (fun q:Int=>(true,(⟨q,bytesOf s,0⟩:St))) (by omega)
 have er:run0 T mx=⟨((RB s).length:Int),bytesOf s,0⟩:=by
  unfold run0
  show blocks T mx (8*T.size+1+1) _=_
  unfold blocks
  rw [e1]
  exact if_pos rfl
 rw [raw_is _ _ ⟨by omega,h1⟩,er]
 simp only
 rw [if_pos trivial,strOfNums_bytes]
 exact congrArg (fun q:Int=>(s,q,(0:Int))) (by omega)
/-- What is packed is not longer than it may be. -/
theorem rc_short (n f:Nat) (hn0:3≤n) (hn1:n≤258) (hf0:1≤f) (hf1:f≤32768):(rc (n:Int) (f:Int)).length≤9*n:=by
 obtain ⟨l1,l2,l3,l4,l5,l6,l7,l8⟩:=lsym_all n (by omega) hn0
 obtain ⟨c,d1,d2,d3,d4,d5,d6,d7,d8⟩:=dsym_all f (by omega) (by omega)
 obtain ⟨y,hy⟩:∃ y:Nat,(lsym (n:Int)).1=y:=⟨((lsym (n:Int)).1).toNat,by omega⟩
 have hw:=sc_lenA y (by omega)
 have hw8:wA y≤8:=by unfold wA;(repeat' split) <;> omega
 rw [rc_split,hy]
 simp only [List.length_append,nb_len,cb_len]
 rcases Nat.lt_or_ge n 4 with h | h
 ·obtain rfl:n=3:=by omega
  have e:(lsym ((3:Nat):Int))=(257,3,0):=by decide +kernel
  rw [e] at hy l7 ⊢
  have hy2:y=257:=by simp only at hy;omega
  have:wA 257=7:=by decide
  subst hy2
  show _+(0+_)≤_
  omega
 ·omega
theorem rbits_short (s:ByteArray):∀ m i,i≤s.size → (rbits s m i).length≤9*(s.size - i):=by
 intro m
 induction m with
 |zero=>intro i _;simp [rbits]
 |succ m ih =>
  intro i hi
  unfold rbits
  have hr:=run_rng s i hi
  by_cases c:i < s.size
  ·rw [if_pos c]
   by_cases hz:(run s i).1=0
   ·rw [if_pos hz,List.length_append]
    have h1:=ih (i+1) (by omega)
    have h2:=sc_len (bt s (i:Int))
    omega
   ·rw [if_neg hz,List.length_append]
    have h1:=ih (i+(run s i).1) (by omega)
    have h2:=rc_short (run s i).1 (run s i).2 (by omega) (by omega) (by omega) (by omega)
    omega
  ·rw [if_neg c];simp
theorem RB_short (s:ByteArray):(RB s).length≤9*s.size+10:=by
 have h:=rbits_short s s.size 0 (by omega)
 have e2:(sc 256).length=7:=by decide
 rw [RB_split,List.length_append,List.length_append,List.length_append,nb_len,nb_len,e2]
 omega
end Go.Proofs.Ytpbhkdamkbopkaa.Bk
set_option linter.unusedSimpArgs false
set_option linter.unusedVariables false
namespace Go.Proofs.Ytpbhkdamkbopkaa.OpenB
open Go.RowKit Go.Proofs.Ytpbhkdamkbopkaa.Ext Go.Proofs.Ytpbhkdamkbopkaa.GBack2 Go.Proofs.Ytpbhkdamkbopkaa.Wr2 Go.Proofs.Ytpbhkdamkbopkaa.Inf Go.Proofs.YtpbhkdamkbopkaaW.PrintWords Go.Proofs.YtpbhkdamkbopkaaW.PrintLast
theorem raw_f (s:ByteArray) (mx:Int) (hs:s.size≤17592186044416):inflate_Raw.f s mx=some (raw s mx):=by unfold inflate_Raw.f;rw [if_pos hs]
theorem behind (a b:ByteArray) (n m:Nat) (hn:n=a.size) (hm:m=(a ++ b).size):(a ++ b).extract n m=b:=by
 subst hn;subst hm
 rw [ByteArray.size_append]
 exact ByteArray.extract_append_eq_right rfl rfl
theorem d1:Go.bits .and .u8 120 15=8:=by decide +kernel
theorem d2:¬ ((120:Int) / 16 > 7):=by decide +kernel
theorem d3:Int.tmod (Go.bits .or .i64 (wrap64 (wrap64 120*256)) (wrap64 156)) 31=0:=by decide +kernel
theorem d4:Go.bits .and .u8 156 32=0:=by decide +kernel
theorem or_four (b0 b1 b2 b3 : Int) (h0 : 0 ≤ b0 ∧ b0 ≤ 255) (h1 : 0 ≤ b1 ∧ b1 ≤ 255) (h2 : 0 ≤ b2 ∧ b2 ≤ 255) (h3 : 0 ≤ b3 ∧ b3 ≤ 255) :
  Go.bits .or .i64 (Go.bits .or .i64 (Go.bits .or .i64 (wrap64 (wrap64 b0*16777216)) (wrap64 (wrap64 b1*65536))) (wrap64 (wrap64 b2*256))) (wrap64 b3)=b0*16777216+b1*65536+b2*256+b3:=by
 have W:∀ n:Int,0≤n → n < 2 ^ 40 → IntKind.i64.wrap n=n:=fun n h0 h1=>by
  rw [IntKind.wrap_i64]
  have:(2:Int) ^ 40=1099511627776:=by decide
  omega
 rw [wrap_in (n:=b0) (by omega) (by omega),wrap_in (n:=b1) (by omega) (by omega),wrap_in (n:=b2) (by omega) (by omega),wrap_in (n:=b3) (by omega) (by omega),
  wrap_in (n:=b0*16777216) (by omega) (by omega),wrap_in (n:=b1*65536) (by omega) (by omega),wrap_in (n:=b2*256) (by omega) (by omega)]
 rw [Go.bits_join .i64 40 (by decide) W 24 (b0*16777216) (b1*65536) (by omega) (by omega) (by omega) (by omega) (by omega) (by omega)]
 rw [Go.bits_join .i64 40 (by decide) W 16 (b0*16777216+b1*65536) (b2*256) (by omega) (by omega) (by omega) (by omega) (by omega) (by omega)]
 rw [Go.bits_join .i64 40 (by decide) W 8 (b0*16777216+b1*65536+b2*256) b3 (by omega) (by omega) (by omega) (by omega) (by omega) (by omega)]
/-- Bytes that are wrapped: their sum's four bytes behind them. -/
theorem open_is (k : Nat) (body tail out : ByteArray) (mx v : Int) (b0 b1 b2 b3 : Int) (h0 : 0 ≤ b0 ∧ b0 ≤ 255) (h1 : 0 ≤ b1 ∧ b1 ≤ 255) (h2 : 0 ≤ b2 ∧ b2 ≤ 255) (h3 : 0 ≤ b3 ∧ b3 ≤ 255) (ht : tail = strOfNums [b0, b1, b2, b3])
  (hm:0≤mx∧mx≤262144) (hs:body.size≤1000000000) (hr:raw (body ++ tail) mx=(out,(body.size:Int),0)) (hv:adler_Sum.f k out=some v) :
  inflate_Open.f (k+1) ((⟨#[120,156]⟩ ++ body) ++ tail) mx=some (if b0*16777216+b1*65536+b2*256+b3=v then (out,0) else (⟨#[]⟩,5)):=by
 have e4:tail.size=4:=by rw [ht];rfl
 have hl:∀ x ∈ [b0,b1,b2,b3],0≤x∧x≤255:=by
  intro x hx
  simp only [List.mem_cons,List.not_mem_nil,or_false] at hx
  rcases hx with rfl | rfl | rfl | rfl <;> assumption
 have t0:bt tail 0=b0:=by rw [ht];exact bt_nums _ hl 0 (by decide:0 < 4)
 have t1:bt tail 1=b1:=by rw [ht];exact bt_nums _ hl 1 (by decide:1 < 4)
 have t2:bt tail 2=b2:=by rw [ht];exact bt_nums _ hl 2 (by decide:2 < 4)
 have t3:bt tail 3=b3:=by rw [ht];exact bt_nums _ hl 3 (by decide:3 < 4)
 have z2:(⟨#[120,156]⟩:ByteArray).size=2:=rfl
 have eA:((⟨#[120,156]⟩:ByteArray) ++ body) ++ tail=⟨#[120,156]⟩ ++ (body ++ tail):=ByteArray.append_assoc
 obtain ⟨s,hS⟩:∃ s:ByteArray,s=((⟨#[120,156]⟩:ByteArray) ++ body) ++ tail:=⟨_,rfl⟩
 have zs:s.size=2+body.size+4:=by rw [hS,ByteArray.size_append,ByteArray.size_append,z2,e4]
 have c0:bt s 0=120:=by rw [hS,eA,bt_left _ _ 0 (by decide) (by rw [z2];decide)];rfl
 have c1:bt s 1=156:=by rw [hS,eA,bt_left _ _ 1 (by decide) (by rw [z2];decide)];rfl
 have x1:s.extract 2 s.size=body ++ tail:=by rw [hS,eA];exact behind _ _ _ _ rfl rfl
 have x2:s.extract (2+body.size) s.size=tail:=by rw [hS];exact behind _ _ _ _ (by rw [ByteArray.size_append,z2]) rfl
 have wn:Aside0 (wrap64 (2+(body.size:Int))=((2+body.size:Nat):Int)):=⟨by rw [wrap_in (by omega) (by omega)];omega⟩
 rw [← hS]
 clear hS eA ht
 unfold inflate_Open.f
 rw [if_neg (by omega),decide_eq_false (by omega),inflate_Open.j0,if_neg (by decide),if_neg (by omega),if_pos (by omega),c0,if_pos d1,if_neg d2,if_pos (by omega),c1,if_pos d3,if_pos d4,if_pos (by omega),x1,raw_f _ _ (by rw [ByteArray.size_append];omega),hr,Option.bind_some]
 simp only
 rw [if_pos trivial,wn.out,if_pos (by omega),if_pos (by omega),Int.toNat_natCast,x2,e4,if_neg (by decide),if_pos (by decide),if_pos (by decide),if_pos (by decide),if_pos (by decide),hv,Option.bind_some,t0,t1,t2,t3,or_four b0 b1 b2 b3 h0 h1 h2 h3]
 by_cases c:b0*16777216+b1*65536+b2*256+b3=v
 ·rw [if_pos c,if_pos c,if_neg (by decide)]
 ·rw [if_neg c,if_neg c]
end Go.Proofs.Ytpbhkdamkbopkaa.OpenB
set_option linter.unusedSimpArgs false
set_option linter.unusedVariables false
namespace Go.Proofs.Ytpbhkdamkbopkaa.ASumB
open Go.RowKit Go.Proofs.Ytpbhkdamkbopkaa.GBack2 Go.Proofs.YtpbhkdamkbopkaaW.PrintWords Go.Proofs.YtpbhkdamkbopkaaW.PrintLast Go.Proofs.YtpbhkdamkbopkaaW.PrintMore
/-- A byte more. -/
def stp (p:Int × Int) (c:Int):Int × Int:=((p.1+c) % 65521,(p.2+(p.1+c) % 65521) % 65521)
def run (p:Int × Int) (l:List Int):Int × Int:=l.foldl stp p
def bts (s:ByteArray):List Int:=s.data.toList.map fun c=>(c.toNat:Int)
def fin (p:Int × Int):Int:=p.2*65536+p.1
def Rng (p:Int × Int):Prop:=0≤p.1∧p.1 < 65521∧0≤p.2∧p.2 < 65521
theorem bts_length (s:ByteArray):(bts s).length=s.size:=by unfold bts;rw [List.length_map,Array.length_toList];rfl
theorem bts_get (s:ByteArray) (i:Nat) (h:i < s.size):(bts s)[i]'(by rw [bts_length];exact h)=bt s i:=by
 have h2:(Int.toNat (i:Int)) < s.size:=by simpa using h
 unfold bt
 rw [dif_pos h2]
 simp [bts]
 rfl
theorem bts_drop (s:ByteArray) (i:Nat) (h:i < s.size):(bts s).drop i=bt s i :: (bts s).drop (i+1):=by
 rw [List.drop_eq_getElem_cons (by rw [bts_length];exact h),bts_get s i h]
theorem stp_rng (p:Int × Int) (c:Int):Rng (stp p c):=by unfold stp Rng;refine ⟨?_,?_,?_,?_⟩ <;> simp only <;> omega
theorem run_nil (p:Int × Int):run p []=p:=rfl
theorem run_cons (p:Int × Int) (c:Int) (l:List Int):run p (c :: l)=run (stp p c) l:=rfl
theorem run_rng (l:List Int):∀ p,Rng p → Rng (run p l):=by
 induction l with
 |nil=>intro p h;exact h
 |cons c l ih=>intro p _;rw [run_cons];exact ih _ (stp_rng p c)
theorem rng_one:Rng (1,0):=by unfold Rng;simp
theorem wrap_in {n:Int} (h0:-9223372036854775808≤n) (h1:n≤9223372036854775807):wrap64 n=n:=by unfold wrap64;omega
theorem wraps_i64 (j:Nat) (hj:j≤62) (n:Int) (h₀:0≤n) (h₁:n < 2 ^ j):IntKind.i64.wrap n=n:=by
 have:(2:Int) ^ j≤2 ^ 62:=by
  have:=Nat.pow_le_pow_right (n:=2) (by decide) hj
  exact_mod_cast this
 have h2:(2:Int) ^ 62=4611686018427387904:=by decide
 rw [IntKind.wrap_i64];omega
theorem wraps_u32 (n:Int) (h₀:0≤n) (h₁:n < 2 ^ 32):IntKind.u32.wrap n=n:=by rw [IntKind.wrap_u32];omega
theorem or_16 {x y:Int} (hx₀:0≤x) (hx₁:x < 65536) (h₀:0≤y) (h₁:y < 65536):Go.bits .or .i64 (x*65536) y=x*65536+y :=
 Go.bits_join .i64 40 (by decide) (wraps_i64 40 (by decide)) 16 _ _ (by omega) (by omega) (by omega) h₀ (by omega) (by omega)
theorem and_16u {x:Int} (hx₀:0≤x) (hx₁:x < 4294967296):Go.bits .and .u32 x 65535=x % 65536 :=
 Go.bits_mask .u32 32 (by decide) wraps_u32 16 (by decide) x hx₀ (by omega)
/-- What the sum's parts are. -/
def prt (n:Int):Int × Int:=(n % 4294967296 % 65536 % 65521,n % 4294967296 / 65536 % 65521)
theorem prt_rng (n:Int):Rng (prt n):=by unfold prt Rng;refine ⟨?_,?_,?_,?_⟩ <;> simp only <;> omega
theorem prt_one:prt 1=(1,0):=by decide
theorem parts_is (n:Int):adler_parts.f n=some (prt n):=by
 unfold adler_parts.f
 rw [and_16u (by omega) (by omega),wrap_in (by omega) (by omega),Int.tmod_eq_emod_of_nonneg (by omega)]
 rfl
theorem more_l (s : ByteArray) (hn : s.size ≤ 140737488351232) (d : Nat) : ∀ (k i : Nat) (p : Int × Int), Rng p → i + d = s.size → d < k →
  adler_More.l0 k s p.1 p.2 s.size i=some (fin (run p ((bts s).drop i))):=by
 induction d with
 |zero =>
  intro k i p hp hi hk
  obtain ⟨k,rfl⟩:∃ m,k=m+1:=⟨k - 1,by omega⟩
  simp only [adler_More.l0]
  rw [if_neg (by omega),List.drop_of_length_le (by rw [bts_length];omega),run_nil]
  obtain ⟨h0,h1,h2,h3⟩:=hp
  rw [wrap_in (by omega) (by omega),or_16 h2 (by omega) h0 (by omega)];rfl
 |succ d ih =>
  intro k i p hp hi hk
  obtain ⟨k,rfl⟩:∃ m,k=m+1:=⟨k - 1,by omega⟩
  have hb:=bt_range s i
  obtain ⟨h0,h1,h2,h3⟩:=hp
  simp only [adler_More.l0]
  rw [if_pos (by omega),if_pos (by omega),if_pos (by omega)]
  have e:=ih k (i+1) (stp p (bt s i)) (stp_rng _ _) (by omega) (by omega)
  rw [bts_drop s i (by omega),run_cons,← e]
  have w1:wrap64 (bt s i)=bt s i:=wrap_in (by omega) (by omega)
  have w2:wrap64 (p.1+bt s i)=p.1+bt s i:=wrap_in (by omega) (by omega)
  have w3:wrap64 (p.2+(p.1+bt s i) % 65521)=p.2+(p.1+bt s i) % 65521:=wrap_in (by omega) (by omega)
  have w4:wrap64 ((i:Int)+1)=((i+1:Nat):Int):=by rw [wrap_in (by omega) (by omega)];omega
  rw [w1,w2,Int.tmod_eq_emod_of_nonneg (by omega),w3,Int.tmod_eq_emod_of_nonneg (by omega),w4]
  rfl
theorem more_is (n : Int) (s : ByteArray) (hn : s.size ≤ 140737488351232) (k : Nat) (hk : s.size < k) :
  adler_More.f k n s=some (fin (run (prt n) (bts s))):=by
 unfold adler_More.f
 rw [parts_is]
 have e:=more_l s hn s.size k 0 (prt n) (prt_rng n) (by omega) hk
 rw [List.drop_zero] at e
 exact e
theorem sum_is (s : ByteArray) (hn : s.size ≤ 140737488351232) (k : Nat) (hk : s.size < k) :
  adler_Sum.f k s=some (fin (run (1,0) (bts s))):=by
 unfold adler_Sum.f
 rw [more_is 1 s hn k hk,prt_one];rfl
end Go.Proofs.Ytpbhkdamkbopkaa.ASumB
