/- Parts of the proof, glued by a program of this session (wip/tools/claimfit.py). -/
import Derived.Test.YtpbhkdamkbopkaaMIOD
namespace Go.Proofs.Ytpbhkdamkbopkaa.GInfr
open Go.Proofs.Ytpbhkdamkbopkaa.Sq
open Go.RowKit Go.Proofs.YtpbhkdamkbopkaaW.PrintWords Go.Proofs.YtpbhkdamkbopkaaW.PrintLast Go.Proofs.YtpbhkdamkbopkaaW.PrintMore Go.Proofs.Ytpbhkdamkbopkaa.HuM Go.Proofs.Ytpbhkdamkbopkaa.LenP
attribute [local go_sem] max2_int min2_int max_two min_two max_three min_three max_four min_four
set_option linter.unusedVariables false
set_option linter.unusedSimpArgs false
set_option maxHeartbeats 8000000 in
set_option maxRecDepth 100000 in
theorem celluloidref05_lengths.calls (k : Nat) (a0 : ByteArray) (P1_0_ : Nat → Prop) (u9000_ : Value) (l1_0 : List Int) (a1_1 : Int) (a1_2 : Int) (r1 : List Int) (r2 : List Int) (r3 : List Int) (r4 : Int) (r5 : Int) (w0 w : World) (hB : Below w0.heap.size w0 w) (ho1_0 : Kd.R (Kd.int .u8) 5 w w0.heap.size P1_0_ u9000_ l1_0) (h : celluloidref05_lengths.f k a0 l1_0 a1_1 a1_2 = some (r1, r2, r3, r4, r5)) :
  Calls Try.prog 76 #[.string a0,.agg #[u9000_,.int .i64 a1_1,.int .i64 a1_2]] w fun e w'=>LenP P1_0_ w0 w r1 r2 r3 r4 r5 e w':=by
 have hu115:=Try.underlying115
 have HO1_0:=Aside0.mk (show Kd.R (Kd.int .u8) 5 w w0.heap.size (fun k_=>(P1_0_ k_ ∨ w.heap.size≤k_)) u9000_ l1_0 from Kd.R_mono ho1_0 (fun k_ hk=>(.inl hk)))
 have HK:=Aside0.mk (Kept.refl w (fun k_=>P1_0_ k_))
 have HW0:=Aside0.mk hB.size
 have HB:=Aside0.mk hB
 clear hB
 have H:((celluloidref05_number.f k a0 l1_0 a1_1 a1_2 5).bind fun bt292=>((celluloidref05_number.f k a0 bt292.2.1 bt292.2.2.1 bt292.2.2.2 5).bind fun bt298=>((celluloidref05_number.f k a0 bt298.2.1 bt298.2.2.1 bt298.2.2.2 4).bind fun bt304=>(if bt304.2.2.2=0 then (if bt292.1 > 29 then (celluloidref05_lengths.j0 k a0 bt292.1 bt298.1 bt304.1 true bt304.2.1 bt304.2.2.1 bt304.2.2.2) else (celluloidref05_lengths.j0 k a0 bt292.1 bt298.1 bt304.1 (decide (bt298.1 > 29)) bt304.2.1 bt304.2.2.1 bt304.2.2.2)) else (celluloidref05_lengths.j0 k a0 bt292.1 bt298.1 bt304.1 false bt304.2.1 bt304.2.2.1 bt304.2.2.2)))))=some (r1,r2,r3,r4,r5):=h
 clear h
 replace H:=Option.bind_eq_some_iff.mp H
 obtain ⟨⟨t292,t293,t296,t297⟩,A30,H⟩:=H
 replace H:((celluloidref05_number.f k a0 t293 t296 t297 5).bind fun bt298=>((celluloidref05_number.f k a0 bt298.2.1 bt298.2.2.1 bt298.2.2.2 4).bind fun bt304=>(if bt304.2.2.2=0 then (if t292 > 29 then (celluloidref05_lengths.j0 k a0 t292 bt298.1 bt304.1 true bt304.2.1 bt304.2.2.1 bt304.2.2.2) else (celluloidref05_lengths.j0 k a0 t292 bt298.1 bt304.1 (decide (bt298.1 > 29)) bt304.2.1 bt304.2.2.1 bt304.2.2.2)) else (celluloidref05_lengths.j0 k a0 t292 bt298.1 bt304.1 false bt304.2.1 bt304.2.2.1 bt304.2.2.2))))=some (r1,r2,r3,r4,r5):=H
 have A3:=Aside0.mk A30
 clear A30
 replace H:=Option.bind_eq_some_iff.mp H
 obtain ⟨⟨t298,t299,t302,t303⟩,A40,H⟩:=H
 replace H:((celluloidref05_number.f k a0 t299 t302 t303 4).bind fun bt304=>(if bt304.2.2.2=0 then (if t292 > 29 then (celluloidref05_lengths.j0 k a0 t292 t298 bt304.1 true bt304.2.1 bt304.2.2.1 bt304.2.2.2) else (celluloidref05_lengths.j0 k a0 t292 t298 bt304.1 (decide (t298 > 29)) bt304.2.1 bt304.2.2.1 bt304.2.2.2)) else (celluloidref05_lengths.j0 k a0 t292 t298 bt304.1 false bt304.2.1 bt304.2.2.1 bt304.2.2.2)))=some (r1,r2,r3,r4,r5):=H
 have A4:=Aside0.mk A40
 clear A40
 replace H:=Option.bind_eq_some_iff.mp H
 obtain ⟨⟨t304,t305,t308,t309⟩,A50,H⟩:=H
 replace H:(if t309=0 then (if t292 > 29 then (celluloidref05_lengths.j0 k a0 t292 t298 t304 true t305 t308 t309) else (celluloidref05_lengths.j0 k a0 t292 t298 t304 (decide (t298 > 29)) t305 t308 t309)) else (celluloidref05_lengths.j0 k a0 t292 t298 t304 false t305 t308 t309))=some (r1,r2,r3,r4,r5):=H
 have A5:=Aside0.mk A50
 clear A50
 have HC6:=Aside0.mk H
 clear H
 obtain ⟨Ao7,co7,eo7⟩:=Kd.R_slice HO1_0.out
 subst eo7
 go_enter Try.func76,Try.ntmps76
 go_upto_region 5 with (first | ((with_reducible refine gate_dst (N:=3) rfl ?_);(try (refine gate_guard (by rfl) ?_;dsimp only));refine boxQ 3 #[.slice Ao7 l1_0.length co7,.int .i64 a1_1,.int .i64 a1_2] 115 ?_;intro gb290 hg w8 hbox hb;have n0_:=rk HO1_0 hb;have n1_:=Aside0.mk (Kept.below (S:=(fun k_=>P1_0_ k_)) (hk HK) hb);have n2_:=hs HB hb;have n3_:=Aside0.mk hbox;have n4_:=Aside0.mk ((by rw [hg];exact hz HK:w.heap.size≤gb290));have n5_:=gs HB hg;clear HO1_0 HK HB;have HO1_0:=n0_;have HK:=n1_;have HB:=n2_;have BK290:=n3_;have GW290:=n4_;have GE290:=n5_;clear n0_ n1_ n2_ n3_ n4_ n5_;clear hb hbox hg) | ((with_reducible refine gate_dst (N:=6) rfl ?_);(try (refine gate_guard (by rfl) ?_;dsimp only));refine boxQ 6 #[.slice none 0 0,.int .i64 0,.int .i64 0] 115 ?_;intro gb291 hg w9 hbox hb;have n0_:=rk HO1_0 hb;have n1_:=bb BK290 hb;have n2_:=Aside0.mk (Kept.below (S:=(fun k_=>P1_0_ k_)) (hk HK) hb);have n3_:=hs HB hb;have n4_:=Aside0.mk hbox;have n5_:=Aside0.mk ((by rw [hg];exact hz HK:w.heap.size≤gb291));have n6_:=gs HB hg;have n7_:=nl BK290 hg;have n8_:=ng BK290 hg;clear HO1_0 BK290 HK HB;have HO1_0:=n0_;have BK290:=n1_;have HK:=n2_;have HB:=n3_;have BK291:=n4_;have GW291:=n5_;have GE291:=n6_;have NB290_291:=n7_;have NB291_290:=n8_;clear n0_ n1_ n2_ n3_ n4_ n5_ n6_ n7_ n8_;clear hb hbox hg;have hnb10:=NB290_291.out;have hnc10:=NB291_290.out;obtain ⟨hcz11_0,hcz11_1,hcz11_2⟩:=cc3 BK290;obtain ⟨hfz11_0,hfz11_1,hfz11_2⟩:=ff3 BK290) | ((with_reducible refine gate_callee (f:=73) rfl ?_);refine goesQ (some 22) Try.func73 #[.string a0,.agg #[.slice Ao7 l1_0.length co7,.int .i64 a1_1,.int .i64 a1_2],.int .i64 5] ?_;(with_reducible refine (celluloidref05_number.calls k a0 (fun k_=>some k_=(.slice Ao7 l1_0.length co7:Value).ownBlock) (.slice Ao7 l1_0.length co7) l1_0 a1_1 a1_2 5 t292 t293 t296 t297 w0 _ (hn HB) (Kd.R_tight rfl HO1_0.out) A3.out).mono ?_);rintro e w12 ⟨v294,rfl,ho0,hb,hkp⟩;refine ⟨_,rfl,?_⟩;have n0_:=kb BK290 HO1_0 hkp;have n1_:=kb BK291 HO1_0 hkp;have n2_:=kr HO1_0 HK ho0;have n3_:=kt HK HO1_0 hkp;have n4_:=Aside0.mk hb;clear BK290 BK291 HK HB HO1_0;have BK290:=n0_;have BK291:=n1_;have HO295:=n2_;have HK:=n3_;have HB:=n4_;clear n0_ n1_ n2_ n3_ n4_;(try clear hb);(try clear hkp);(try clear ho0);obtain ⟨Ao13,co13,eo13⟩:=Kd.R_slice HO295.out;subst eo13;obtain ⟨hcz14_0,hcz14_1,hcz14_2⟩:=cc3 BK290;obtain ⟨hfz14_0,hfz14_1,hfz14_2⟩:=ff3 BK290) | ((with_reducible refine gate_store (t:=115) (p:=3) rfl ?_);refine stQ 115 3 ((((w12.setCell ⟨gb290,0,none⟩ (.slice Ao13 t293.length co13)).setCell ⟨gb290,1,none⟩ (.int .i64 t296)).setCell ⟨gb290,2,none⟩ (.int .i64 t297))) ?_;intro w15 hw;have n0_:=sR hw HO295 BK290;have n1_:=sP hw BK290;have n2_:=sF hw BK291 NB291_290;have n3_:=sK hw HK GW290;have n4_:=sB hw HB GE290;clear hw HO295 BK290 BK291 HK HB;have HO295:=n0_;have BK290:=n1_;have BK291:=n2_;have HK:=n3_;have HB:=n4_;clear n0_ n1_ n2_ n3_ n4_;obtain ⟨hcz16_0,hcz16_1,hcz16_2⟩:=cc3 BK290;obtain ⟨hfz16_0,hfz16_1,hfz16_2⟩:=ff3 BK290) | ((with_reducible refine gate_callee (f:=73) rfl ?_);refine goesQ (some 28) Try.func73 #[.string a0,.agg #[.slice Ao13 t293.length co13,.int .i64 t296,.int .i64 t297],.int .i64 5] ?_;(with_reducible refine (celluloidref05_number.calls k a0 (fun k_=>some k_=(.slice Ao13 t293.length co13:Value).ownBlock) (.slice Ao13 t293.length co13) t293 t296 t297 5 t298 t299 t302 t303 w0 _ (hn HB) (Kd.R_tight rfl HO295.out) A4.out).mono ?_);rintro e w17 ⟨v300,rfl,ho0,hb,hkp⟩;refine ⟨_,rfl,?_⟩;have n0_:=kb BK290 HO295 hkp;have n1_:=kb BK291 HO295 hkp;have n2_:=kr HO295 HK ho0;have n3_:=kt HK HO295 hkp;have n4_:=Aside0.mk hb;clear BK290 BK291 HK HB HO295;have BK290:=n0_;have BK291:=n1_;have HO301:=n2_;have HK:=n3_;have HB:=n4_;clear n0_ n1_ n2_ n3_ n4_;(try clear hb);(try clear hkp);(try clear ho0);obtain ⟨Ao18,co18,eo18⟩:=Kd.R_slice HO301.out;subst eo18;obtain ⟨hcz19_0,hcz19_1,hcz19_2⟩:=cc3 BK290;obtain ⟨hfz19_0,hfz19_1,hfz19_2⟩:=ff3 BK290) | ((with_reducible refine gate_store (t:=115) (p:=3) rfl ?_);refine stQ 115 3 ((((w17.setCell ⟨gb290,0,none⟩ (.slice Ao18 t299.length co18)).setCell ⟨gb290,1,none⟩ (.int .i64 t302)).setCell ⟨gb290,2,none⟩ (.int .i64 t303))) ?_;intro w20 hw;have n0_:=sR hw HO301 BK290;have n1_:=sP hw BK290;have n2_:=sF hw BK291 NB291_290;have n3_:=sK hw HK GW290;have n4_:=sB hw HB GE290;clear hw HO301 BK290 BK291 HK HB;have HO301:=n0_;have BK290:=n1_;have BK291:=n2_;have HK:=n3_;have HB:=n4_;clear n0_ n1_ n2_ n3_ n4_;obtain ⟨hcz21_0,hcz21_1,hcz21_2⟩:=cc3 BK290;obtain ⟨hfz21_0,hfz21_1,hfz21_2⟩:=ff3 BK290) | ((with_reducible refine gate_callee (f:=73) rfl ?_);refine goesQ (some 34) Try.func73 #[.string a0,.agg #[.slice Ao18 t299.length co18,.int .i64 t302,.int .i64 t303],.int .i64 4] ?_;(with_reducible refine (celluloidref05_number.calls k a0 (fun k_=>some k_=(.slice Ao18 t299.length co18:Value).ownBlock) (.slice Ao18 t299.length co18) t299 t302 t303 4 t304 t305 t308 t309 w0 _ (hn HB) (Kd.R_tight rfl HO301.out) A5.out).mono ?_);rintro e w22 ⟨v306,rfl,ho0,hb,hkp⟩;refine ⟨_,rfl,?_⟩;have n0_:=kb BK290 HO301 hkp;have n1_:=kb BK291 HO301 hkp;have n2_:=kr HO301 HK ho0;have n3_:=kt HK HO301 hkp;have n4_:=Aside0.mk hb;clear BK290 BK291 HK HB HO301;have BK290:=n0_;have BK291:=n1_;have HO307:=n2_;have HK:=n3_;have HB:=n4_;clear n0_ n1_ n2_ n3_ n4_;(try clear hb);(try clear hkp);(try clear ho0);obtain ⟨Ao23,co23,eo23⟩:=Kd.R_slice HO307.out;subst eo23;obtain ⟨hcz24_0,hcz24_1,hcz24_2⟩:=cc3 BK290;obtain ⟨hfz24_0,hfz24_1,hfz24_2⟩:=ff3 BK290) | ((with_reducible refine gate_store (t:=115) (p:=3) rfl ?_);refine stQ 115 3 ((((w22.setCell ⟨gb290,0,none⟩ (.slice Ao23 t305.length co23)).setCell ⟨gb290,1,none⟩ (.int .i64 t308)).setCell ⟨gb290,2,none⟩ (.int .i64 t309))) ?_;intro w25 hw;have n0_:=sR hw HO307 BK290;have n1_:=sP hw BK290;have n2_:=sF hw BK291 NB291_290;have n3_:=sK hw HK GW290;have n4_:=sB hw HB GE290;clear hw HO307 BK290 BK291 HK HB;have HO307:=n0_;have BK290:=n1_;have BK291:=n2_;have HK:=n3_;have HB:=n4_;clear n0_ n1_ n2_ n3_ n4_))
 (try simp only [Act.put,List.setIfInBounds_toArray,List.set_cons_zero,List.set_cons_succ])
 go_cut [47] (fun v47 wc=>∃ (kq:Nat) (x47_5:Bool),v47=.bool x47_5∧Aside0 (celluloidref05_lengths.j0 kq a0 t292 t298 t304 x47_5 t305 t308 t309=some (r1,r2,r3,r4,r5))∧Aside0 (kq≤k)∧Aside0 (Kd.R (Kd.int .u8) 5 wc w0.heap.size (fun k_=>(P1_0_ k_ ∨ w.heap.size≤k_)) (.slice Ao23 t305.length co23) t305)∧Aside0 (wc.heap[gb290]?=some (.cells #[(.slice Ao23 t305.length co23),.int .i64 t308,.int .i64 t309] 115 (0,0)))∧Aside0 (wc.heap[gb291]?=some (.cells #[(.slice none 0 0),.int .i64 0,.int .i64 0] 115 (0,0)))∧Aside0 (Kept w wc (fun k_=>P1_0_ k_))∧Aside0 (Below w0.heap.size w0 wc))
 case first =>
  have H:=HC6.out
  clear HC6
  by_cases c26:t309=0
  ·rw [if_pos c26] at H
   have c26b0:(t309 == 0)=true:=beq_iff_eq.mpr c26
   have c26b1:(t309 != 0)=false:=bne_eq_false_iff_eq.mpr c26
   clear c26
   (first | rw [c26b0] | (simp only [i64_w,i32_w];rw [c26b0]) | skip)
   by_cases c27:t292 > 29
   ·rw [if_pos c27] at H
    have c27b0:decide (29 < t292)=true:=decide_eq_true c27
    clear c27
    have H':=Aside0.mk H
    clear H
    have hnb28:=NB290_291.out
    have hnc28:=NB291_290.out
    obtain ⟨hcz29_0,hcz29_1,hcz29_2⟩:=cc3 BK290
    obtain ⟨hfz29_0,hfz29_1,hfz29_2⟩:=ff3 BK290
    go_wp2
    go_meet
    case rel=>exact ⟨_,(true),(by first | rfl | (simp;done) | (simp [*];done)),H',⟨by first | omega | exact Nat.le_refl _⟩,⟨rr HO307⟩,⟨bk BK290⟩,⟨bk BK291⟩,⟨hk HK⟩,⟨hn HB⟩⟩
   ·rw [if_neg c27] at H
    have c27b0:decide (29 < t292)=false:=decide_eq_false c27
    clear c27
    have H':=Aside0.mk H
    clear H
    have hnb30:=NB290_291.out
    have hnc30:=NB291_290.out
    obtain ⟨hcz31_0,hcz31_1,hcz31_2⟩:=cc3 BK290
    obtain ⟨hfz31_0,hfz31_1,hfz31_2⟩:=ff3 BK290
    go_wp2
    go_meet
    case rel=>exact ⟨_,(decide (t298 > 29)),(by first | rfl | (simp;done) | (simp [*];done)),H',⟨by first | omega | exact Nat.le_refl _⟩,⟨rr HO307⟩,⟨bk BK290⟩,⟨bk BK291⟩,⟨hk HK⟩,⟨hn HB⟩⟩
  ·rw [if_neg c26] at H
   have c26b0:(t309 == 0)=false:=beq_eq_false_iff_ne.mpr c26
   have c26b1:(t309 != 0)=true:=bne_iff_ne.mpr c26
   (first | rw [c26b0] | (simp only [i64_w,i32_w];rw [c26b0]) | skip)
   have H':=Aside0.mk H
   clear H
   have hnb32:=NB290_291.out
   have hnc32:=NB291_290.out
   obtain ⟨hcz33_0,hcz33_1,hcz33_2⟩:=cc3 BK290
   obtain ⟨hfz33_0,hfz33_1,hfz33_2⟩:=ff3 BK290
   go_wp2
   go_meet
   case rel=>exact ⟨_,(false),(by first | rfl | (simp;done) | (simp [*];done)),H',⟨by first | omega | exact Nat.le_refl _⟩,⟨rr HO307⟩,⟨bk BK290⟩,⟨bk BK291⟩,⟨hk HK⟩,⟨hn HB⟩⟩
 case rest =>
  clear HC6
  clear hcz11_0 hcz11_1 hcz11_2 hcz14_0 hcz14_1 hcz14_2 hcz16_0 hcz16_1 hcz16_2 hcz19_0 hcz19_1 hcz19_2 hcz21_0 hcz21_1 hcz21_2 hcz24_0 hcz24_1 hcz24_2 hfz11_0 hfz11_1 hfz11_2 hfz14_0 hfz14_1 hfz14_2 hfz16_0 hfz16_1 hfz16_2 hfz19_0 hfz19_1 hfz19_2 hfz21_0 hfz21_1 hfz21_2 hfz24_0 hfz24_1 hfz24_2
  obtain ⟨kq,x47_5,rfl,HA,HJ5,HO_291000,BK290,BK291,HK,HB⟩:=hcut
  cases kq with
  |zero=>exact absurd HA.out (by simp [celluloidref05_lengths.j0])
  |succ kj5 =>
   have H:=HA.out
   clear HA
   simp only [celluloidref05_lengths.j0] at H
   have HC34:=Aside0.mk H
   clear H
   go_upto_if 47 with (fail)
   go_cut [] (fun wc=>∃ (kq:Nat) (x291002_33:Int),Aside0 (celluloidref05_lengths.j1 kq a0 t292 t298 t304 t305 t308 x291002_33=some (r1,r2,r3,r4,r5))∧Aside0 (kq≤kj5)∧Aside0 (Kd.R (Kd.int .u8) 5 wc w0.heap.size (fun k_=>(P1_0_ k_ ∨ w.heap.size≤k_)) (.slice Ao23 t305.length co23) t305)∧Aside0 (wc.heap[gb290]?=some (.cells #[(.slice Ao23 t305.length co23),.int .i64 t308,.int .i64 x291002_33] 115 (0,0)))∧Aside0 (wc.heap[gb291]?=some (.cells #[(.slice none 0 0),.int .i64 0,.int .i64 0] 115 (0,0)))∧Aside0 (Kept w wc (fun k_=>P1_0_ k_))∧Aside0 (Below w0.heap.size w0 wc))
   case first =>
    have H:=HC34.out
    clear HC34
    by_cases c35:x47_5=true
    ·subst c35
     have H1:(celluloidref05_lengths.j1 kj5 a0 t292 t298 t304 t305 t308 3)=some (r1,r2,r3,r4,r5):=by rw [if_pos rfl] at H;exact H
     clear H
     have H:=H1
     clear H1
     have H':=Aside0.mk H
     clear H
     have hnb36:=NB290_291.out
     have hnc36:=NB291_290.out
     obtain ⟨hcz37_0,hcz37_1,hcz37_2⟩:=cc3 BK290
     obtain ⟨hfz37_0,hfz37_1,hfz37_2⟩:=ff3 BK290
     go_wp2_with (first | ((with_reducible refine gate_store (t:=3) (p:=48) rfl ?_);refine stQ 3 48 ((wc.setCell ⟨gb290,2,none⟩ (.int .i64 3))) ?_;intro w38 hw;have n0_:=sR hw HO_291000 BK290;have n1_:=sP2 hw BK290;have n2_:=sF hw BK291 NB291_290;have n3_:=sK hw HK GW290;have n4_:=sB hw HB GE290;clear hw HO_291000 BK290 BK291 HK HB;have HO_291000:=n0_;have BK290:=n1_;have BK291:=n2_;have HK:=n3_;have HB:=n4_;clear n0_ n1_ n2_ n3_ n4_))
     go_meet
     case rel=>exact ⟨_,(3),H',⟨by have:=HJ5.out;first | omega | exact Nat.le_refl _⟩,⟨rr HO_291000⟩,⟨bk BK290⟩,⟨bk BK291⟩,⟨hk HK⟩,⟨hn HB⟩⟩
    ·replace c35:=Bool.eq_false_iff.mpr c35
     subst c35
     have H1:(celluloidref05_lengths.j1 kj5 a0 t292 t298 t304 t305 t308 t309)=some (r1,r2,r3,r4,r5):=by rw [if_neg (show ¬ (false=true) by decide)] at H;exact H
     clear H
     have H:=H1
     clear H1
     have H':=Aside0.mk H
     clear H
     go_wp2
     go_meet
     case rel=>exact ⟨_,(t309),H',⟨by have:=HJ5.out;first | omega | exact Nat.le_refl _⟩,⟨rr HO_291000⟩,⟨bk BK290⟩,⟨bk BK291⟩,⟨hk HK⟩,⟨hn HB⟩⟩
   case rest =>
    clear HC34
    obtain ⟨kq,x291002_33,HA,HJ33,HO_291000,BK290,BK291,HK,HB⟩:=hcut
    cases kq with
    |zero=>exact absurd HA.out (by simp [celluloidref05_lengths.j1])
    |succ kj33 =>
     have H:=HA.out
     clear HA
     simp only [celluloidref05_lengths.j1] at H
     by_cases c39:19≤35184372088832
     ·rw [if_pos c39] at H
      have c39b0:=eq_true c39
      have c39b1:decide (19≤35184372088832)=true:=decide_eq_true c39
      clear c39
      obtain ⟨y310,hy310⟩:∃ y_:List Int,y_=(List.replicate 19 0):=⟨_,rfl⟩
      replace H:(celluloidref05_lengths.l0 kj33 a0 t292 t298 t304 y310 (([16,17,18,0,8,7,9,6,10,5,11,4,12,3,13,2,14,1,15]:List Int)) 0 t305 t308 x291002_33)=some (r1,r2,r3,r4,r5):=by first | (rw [hy310];with_reducible exact H) | (have H2_:=(Option.bind_some _ _).symm.trans H;rw [hy310];with_reducible exact H2_) | (have H2_:=(Option.bind_some _ _).symm.trans H;with_reducible exact H2_) | with_reducible exact H | (rw [hy310];exact H) | exact H
      have Ny310:=Aside0.mk hy310
      clear hy310
      obtain ⟨y313,hy313⟩:∃ y_:List Int,y_=(([16,17,18,0,8,7,9,6,10,5,11,4,12,3,13,2,14,1,15]:List Int)):=⟨_,rfl⟩
      replace H:(celluloidref05_lengths.l0 kj33 a0 t292 t298 t304 y310 y313 0 t305 t308 x291002_33)=some (r1,r2,r3,r4,r5):=by first | (rw [hy313];with_reducible exact H) | (have H2_:=(Option.bind_some _ _).symm.trans H;rw [hy313];with_reducible exact H2_) | (have H2_:=(Option.bind_some _ _).symm.trans H;with_reducible exact H2_) | with_reducible exact H | (rw [hy313];exact H) | exact H
      have Ny313:=Aside0.mk hy313
      clear hy313
      have H':=Aside0.mk H
      clear H
      go_wp2_with (first | ((with_reducible refine gate_dst (N:=49) rfl ?_);(try (refine gate_guard (by rfl) ?_;dsimp only));refine Kd.R_make (Kd.int .i64) _ 3 rfl (N:=49) rfl 22 _ _ rfl 19 rfl rfl Try.underlying22 (.int .i64 0) 8 info3 rfl (by decide) (by omega) 0 (ok:=fun _=>True) (okp:=fun _=>True) rfl (fun _ hk=>hk) trivial (by omega) (by omega) (Below.refl _ _) (Nat.le_refl _) ?_;intro v311 w40 ho41 hb hg_ hnew_;clear hg_ hnew_;(first | rw [← Ny310.out] at ho41 | (simp only [Int.reduceToNat] at ho41;rw [← Ny310.out] at ho41));have n0_:=rk HO_291000 hb;have n1_:=Aside0.mk (Kd.R_lower (Kd.R_newM (M:=fun k_=>(P1_0_ k_ ∨ w.heap.size≤k_)) ho41 (by first | exact HK.out.1 | exact (show Kept w _ (fun k_=>P1_0_ k_) from by repeat (first | (with_reducible first | exact HK.out | apply Kept.alloc | apply Kept.drewN | apply Kept.drew | refine Kept.setCell ?_ (.inr GW290.out) _ | refine Kept.setCell ?_ (.inr GW291.out) _) | exact HK.out)).1) (fun k_ h_=>.inr h_)) (below_size (hn HB)));have n2_:=bb BK290 hb;have n3_:=bb BK291 hb;have n4_:=Aside0.mk (Kept.below (S:=(fun k_=>P1_0_ k_)) (hk HK) hb);have n5_:=hs HB hb;clear HO_291000 BK290 BK291 HK HB;have HO_291000:=n0_;have HO312:=n1_;have BK290:=n2_;have BK291:=n3_;have HK:=n4_;have HB:=n5_;clear n0_ n1_ n2_ n3_ n4_ n5_;clear hb ho41) | ((with_reducible refine gate_dst (N:=50) rfl ?_);(try (refine gate_guard (by rfl) ?_;dsimp only));refine Kd.R_lit (Kd.int .i64) _ 3 ?hg (N:=50) ?hd (xs:=([16,17,18,0,8,7,9,6,10,5,11,4,12,3,13,2,14,1,15]:List Int)) (inner:=[.int .i64 16,.int .i64 17,.int .i64 18,.int .i64 0,.int .i64 8,.int .i64 7,.int .i64 9,.int .i64 6,.int .i64 10,.int .i64 5,.int .i64 11,.int .i64 4,.int .i64 12,.int .i64 3,.int .i64 13,.int .i64 2,.int .i64 14,.int .i64 1,.int .i64 15]) (ok:=fun _=>True) (okp:=fun _=>True) ?hr ?hp (fun _ hk=>hk) trivial (Below.refl _ _) (Nat.le_refl _) (by simp) ?_;(case hd=>rfl);(case hg=>rfl);(case hr=>first | (go_simp;done) | (go_simp;rfl));(case hp=>exact (Reps.one (show Kd.M (Kd.int .i64) _ _ _ 16 [.int .i64 16] from rfl) (Reps.one (show Kd.M (Kd.int .i64) _ _ _ 17 [.int .i64 17] from rfl) (Reps.one (show Kd.M (Kd.int .i64) _ _ _ 18 [.int .i64 18] from rfl) (Reps.one (show Kd.M (Kd.int .i64) _ _ _ 0 [.int .i64 0] from rfl) (Reps.one (show Kd.M (Kd.int .i64) _ _ _ 8 [.int .i64 8] from rfl) (Reps.one (show Kd.M (Kd.int .i64) _ _ _ 7 [.int .i64 7] from rfl) (Reps.one (show Kd.M (Kd.int .i64) _ _ _ 9 [.int .i64 9] from rfl) (Reps.one (show Kd.M (Kd.int .i64) _ _ _ 6 [.int .i64 6] from rfl) (Reps.one (show Kd.M (Kd.int .i64) _ _ _ 10 [.int .i64 10] from rfl) (Reps.one (show Kd.M (Kd.int .i64) _ _ _ 5 [.int .i64 5] from rfl) (Reps.one (show Kd.M (Kd.int .i64) _ _ _ 11 [.int .i64 11] from rfl) (Reps.one (show Kd.M (Kd.int .i64) _ _ _ 4 [.int .i64 4] from rfl) (Reps.one (show Kd.M (Kd.int .i64) _ _ _ 12 [.int .i64 12] from rfl) (Reps.one (show Kd.M (Kd.int .i64) _ _ _ 3 [.int .i64 3] from rfl) (Reps.one (show Kd.M (Kd.int .i64) _ _ _ 13 [.int .i64 13] from rfl) (Reps.one (show Kd.M (Kd.int .i64) _ _ _ 2 [.int .i64 2] from rfl) (Reps.one (show Kd.M (Kd.int .i64) _ _ _ 14 [.int .i64 14] from rfl) (Reps.one (show Kd.M (Kd.int .i64) _ _ _ 1 [.int .i64 1] from rfl) (Reps.one (show Kd.M (Kd.int .i64) _ _ _ 15 [.int .i64 15] from rfl) (Reps.none _ _)))))))))))))))))))));intro v314 w42 ho43 hb hg_ hnew_;clear hg_ hnew_;(first | rw [← Ny313.out] at ho43 | (simp only [Int.reduceToNat] at ho43;rw [← Ny313.out] at ho43));have n0_:=rk HO_291000 hb;have n1_:=Aside0.mk (Kd.R_elder' (rr HO312) (Kd.R_base ho43) hb);have n2_:=Aside0.mk (Kd.R_lower (Kd.R_new' (Kd.R_newM (M:=fun k_=>(P1_0_ k_ ∨ w.heap.size≤k_)) ho43 (by first | exact HK.out.1 | exact (show Kept w _ (fun k_=>P1_0_ k_) from by repeat (first | (with_reducible first | exact HK.out | apply Kept.alloc | apply Kept.drewN | apply Kept.drew | refine Kept.setCell ?_ (.inr GW290.out) _ | refine Kept.setCell ?_ (.inr GW291.out) _) | exact HK.out)).1) (fun k_ h_=>.inr h_)) (Kd.R_lt (rr HO312))) (below_size (hn HB)));have n3_:=bb BK290 hb;have n4_:=bb BK291 hb;have n5_:=Aside0.mk (Kept.below (S:=(fun k_=>P1_0_ k_)) (hk HK) hb);have n6_:=hs HB hb;clear HO_291000 HO312 BK290 BK291 HK HB;have HO_291000:=n0_;have HO312:=n1_;have HO315:=n2_;have BK290:=n3_;have BK291:=n4_;have HK:=n5_;have HB:=n6_;clear n0_ n1_ n2_ n3_ n4_ n5_ n6_;clear hb ho43))
      go_loopg [12] kj33 (fun kq v12 w'=>∃ (x10_3:List Int) (x12_3:Int) (x291000_3:List Int) (x291001_3:Int) (x291002_3:Int) (u291000:Value),v12=.int .i64 x12_3∧Aside0 (celluloidref05_lengths.l0 kq a0 t292 t298 t304 x10_3 y313 x12_3 x291000_3 x291001_3 x291002_3=some (r1,r2,r3,r4,r5))∧Aside0 (kq≤kj33)∧Aside0 (Kd.R (Kd.int .i64) 3 w' w0.heap.size (fun k_=>(P1_0_ k_ ∨ w.heap.size≤k_)∧some k_ ≠ (v314:Value).ownBlock) v311 x10_3)∧Aside0 (Kd.R (Kd.int .i64) 3 w' w0.heap.size (fun k_=>(P1_0_ k_ ∨ w.heap.size≤k_)∧some k_ ≠ (v311:Value).ownBlock) v314 y313)∧Aside0 (Kd.R (Kd.int .u8) 5 w' w0.heap.size (fun k_=>(P1_0_ k_ ∨ w.heap.size≤k_)) u291000 x291000_3)∧Aside0 (w'.heap[gb290]?=some (.cells #[u291000,.int .i64 x291001_3,.int .i64 x291002_3] 115 (0,0)))∧Aside0 (w'.heap[gb291]?=some (.cells #[(.slice none 0 0),.int .i64 0,.int .i64 0] 115 (0,0)))∧Aside0 (Kept w w' (fun k_=>P1_0_ k_))∧Aside0 (Below w0.heap.size w0 w'))
      case atStart=>exact ⟨(y310),(0),(t305),(t308),(x291002_33),(.slice Ao23 t305.length co23),(by first | rfl | (simp;done) | (simp [*];done)),H',⟨Nat.le_refl _⟩,⟨by (with_reducible repeat (first | apply Kd.R_alloc | apply Kd.R_drewN | apply Kd.R_drew));exact Kd.R_mono HO312.out (fun _ hk=>⟨hk.1.1,hk.2⟩)⟩,⟨by (with_reducible repeat (first | apply Kd.R_alloc | apply Kd.R_drewN | apply Kd.R_drew));exact Kd.R_mono HO315.out (fun _ hk=>⟨hk.1.1,hk.2⟩)⟩,⟨rr HO_291000⟩,⟨bk BK290⟩,⟨bk BK291⟩,⟨hk HK⟩,⟨hn HB⟩⟩
      case round =>
       as_aux_lemma =>
        clear H'
        clear c39b0 c39b1
        obtain ⟨x10_3,x12_3,x291000_3,x291001_3,x291002_3,u291000,rfl,HA,HK3,HO_10,HO_11,HO_291000,BK290,BK291,HK,HB⟩:=hrel
        cases gk with
        |zero=>exact absurd HA.out (by simp [celluloidref05_lengths.l0])
        |succ k3 =>
         have H:=HA.out
         clear HA
         simp only [celluloidref05_lengths.l0] at H
         by_cases c44:x12_3 < (wrap64 (t304+4))
         ·rw [if_pos c44] at H
          have c44b0:decide (x12_3 < (wrap64 (t304+4)))=true:=decide_eq_true c44
          clear c44
          by_cases c45:0≤x12_3
          ·rw [if_pos c45] at H
           have c45b0:decide (0≤x12_3)=true:=decide_eq_true c45
           clear c45
           by_cases c46:x12_3 < (y313.length:Int)
           ·rw [if_pos c46] at H
            have c46b0:decide (x12_3 < (y313.length:Int))=true:=decide_eq_true c46
            clear c46
            replace H:=Option.bind_eq_some_iff.mp H
            obtain ⟨⟨t317,t318,t321,t322⟩,A470,H⟩:=H
            replace H:(if 0≤(rd y313 x12_3) then (if (rd y313 x12_3) < (x10_3.length:Int) then (celluloidref05_lengths.l0 k3 a0 t292 t298 t304 (x10_3.set ((rd y313 x12_3):Int).toNat t317) y313 (wrap64 (x12_3+1)) t318 t321 t322) else (none)) else (none))=some (r1,r2,r3,r4,r5):=H
            have A47:=Aside0.mk A470
            clear A470
            by_cases c48:0≤(rd y313 x12_3)
            ·rw [if_pos c48] at H
             have c48b0:decide (0≤(rd y313 x12_3))=true:=decide_eq_true c48
             clear c48
             by_cases c49:(rd y313 x12_3) < (x10_3.length:Int)
             ·rw [if_pos c49] at H
              have c49b0:decide ((rd y313 x12_3) < (x10_3.length:Int))=true:=decide_eq_true c49
              clear c49
              obtain ⟨y323,hy323⟩:∃ y_:List Int,y_=(x10_3.set ((rd y313 x12_3):Int).toNat t317):=⟨_,rfl⟩
              replace H:(celluloidref05_lengths.l0 k3 a0 t292 t298 t304 y323 y313 (wrap64 (x12_3+1)) t318 t321 t322)=some (r1,r2,r3,r4,r5):=by first | (rw [hy323];with_reducible exact H) | (have H2_:=(Option.bind_some _ _).symm.trans H;rw [hy323];with_reducible exact H2_) | (have H2_:=(Option.bind_some _ _).symm.trans H;with_reducible exact H2_) | with_reducible exact H | (rw [hy323];exact H) | exact H
              have Ny323:=Aside0.mk hy323
              clear hy323
              have H':=Aside0.mk H
              clear H
              try go_wp2
              have n0_:=Aside0.mk (Kd.R_drew HO_10.out)
              have n1_:=Aside0.mk (Kd.R_drew HO_11.out)
              have n2_:=Aside0.mk (Kd.R_drew HO_291000.out)
              have n3_:=Aside0.mk (blk_drew BK290.out)
              have n4_:=Aside0.mk (blk_drew BK291.out)
              have n5_:=Aside0.mk (Kept.drew HK.out)
              have n6_:=Aside0.mk (below_drew1 HB.out)
              clear HO_10
              clear HO_11
              clear HO_291000
              clear BK290
              clear BK291
              clear HK
              clear HB
              have HO_10:=n0_
              have HO_11:=n1_
              have HO_291000:=n2_
              have BK290:=n3_
              have BK291:=n4_
              have HK:=n5_
              have HB:=n6_
              clear n0_ n1_ n2_ n3_ n4_ n5_ n6_
              obtain ⟨Ao52,co52,eo52⟩:=Kd.R_slice HO_11.out
              (first | subst eo52 | (injection eo52 with f1_ f2_ f3_;have f4_:=f1_.symm;have f5_:=f3_.symm;clear f1_ f2_ f3_;subst f4_;subst f5_))
              have p316:0≤(x12_3:Int):=of_decide_eq_true (by first | (with_reducible assumption) | assumption)
              have q316:x12_3 < (y313.length:Int):=of_decide_eq_true (by first | (with_reducible assumption) | assumption)
              obtain ⟨ad316,e316,hx316_0⟩:=Kd.at_int (Kd.R_reads' HO_11.out).2.2 x12_3 p316 q316
              cases e316
              replace p316:=eq_true p316
              replace q316:=eq_true q316
              obtain ⟨Ao53,co53,eo53⟩:=Kd.R_slice HO_291000.out
              (first | subst eo53 | (injection eo53 with f1_ f2_ f3_;have f4_:=f1_.symm;have f5_:=f3_.symm;clear f1_ f2_ f3_;subst f4_;subst f5_))
              refine start_ (n:=14) (S:=fun w'=>w'.cell? ⟨gb290,0,none⟩=some (.slice Ao53 x291000_3.length co53)∧w'.cell? ⟨gb290,1,none⟩=some (.int .i64 x291001_3)∧w'.cell? ⟨gb290,2,none⟩=some (.int .i64 x291002_3)∧w'.cell? (ad316.add (x12_3).toNat)=some (.int .i64 (rd y313 x12_3))) (ds:=[13]) #[false,false,false,false,false,false,false,false,false,false,false,false,false,false] (by kernel_rfl) rfl rfl ⟨(blk_cell BK290.out 0).trans rfl,(blk_cell BK290.out 1).trans rfl,(blk_cell BK290.out 2).trans rfl,hx316_0⟩ (fun hHeld=>?_);refine with_tabW celluloidref05_lengths.tab12 celluloidref05_lengths.bits12 (fun HT_ HW_=>?_)
              generalize wr.drew=w51 at HO_10 HO_11 HO_291000 BK290 BK291 HK HB hx316_0 hHeld ⊢
              refine pureQ 0 (some 58) (tk 1 13) (any_of HT_.out (by kernel_rfl)) ?_
              refine pureQ 1 (some 59) (tk 2 12) (any_of HT_.out (by kernel_rfl)) ?_
              refine pureQ 2 (some 60) (tk 3 11) (any_of HT_.out (by kernel_rfl)) ?_
              refine pureQ 3 (some 61) (tk 4 10) (any_of HT_.out (by kernel_rfl)) ?_
              refine pureQ 5 (some 63) #[true,true,true,true,false,true,false,false,false,false,false,false,false,false] (any_of HT_.out (by kernel_rfl)) ?_
              refine take_ (i:=4) (N:=some 62) (v:=?_) (a':=?_) (tk 6 8) rfl rfl (take_ofW HT_.out HW_.out (by kernel_rfl)) (fun _ _ _ h=>h) (Or.inl ⟨by rfl,?_⟩) hHeld ?_ ?_
              rotate_left
              ·rintro w' ⟨s0,s1,s2,s3⟩
               go_simp
               with_reducible rfl
              rotate_left
              ·simp only [Act.put,List.setIfInBounds_toArray,List.set_cons_zero,List.set_cons_succ,i64_w,i32_w]
               rfl
              refine take_ (i:=6) (N:=some 64) (v:=?_) (a':=?_) (tk 7 7) rfl rfl (take_ofW HT_.out HW_.out (by kernel_rfl)) (fun _ _ _ h=>h) (Or.inl ⟨by rfl,?_⟩) hHeld ?_ ?_
              rotate_left
              ·rintro w' ⟨s0,s1,s2,s3⟩
               go_simp
               with_reducible rfl
              rotate_left
              ·simp only [Act.put,List.setIfInBounds_toArray,List.set_cons_zero,List.set_cons_succ,i64_w,i32_w]
               rfl
              refine one_ (i:=7) (N:=some 65) (tk 8 6) rfl rfl (one_of HT_.out (by kernel_rfl)) (by decide) (fun K hK=>?_)
              refine goes_ Try.func73 (by kernel_rfl) rfl #[.string a0,.agg #[.slice Ao53 x291000_3.length co53,.int .i64 x291001_3,.int .i64 x291002_3],.int .i64 3] (by rfl) rfl rfl (by (try simp only [List.map_toArray,List.map_cons,List.map_nil]);first | done | rfl | (simp only [List.length_drop,List.length_take];rfl)) ?_
              with_reducible refine (celluloidref05_number.calls k3 a0 (fun k_=>some k_=(.slice Ao53 x291000_3.length co53:Value).ownBlock) (.slice Ao53 x291000_3.length co53) x291000_3 x291001_3 x291002_3 3 t317 t318 t321 t322 w0 _ ?side1 ?side2 A47.out).mono ?_
              (case side1=>repeat (first | (with_reducible first | exact HB.out | apply below_alloc | apply pw_below_drewN | apply below_drew1 | refine below_set ?_ GE290.out | refine below_set ?_ GE291.out) | exact HB.out))
              (case side2=>exact Kd.R_tight rfl HO_291000.out)
              rintro e w54 ⟨v319,rfl,ho0,hb,hkp⟩
              have HS3_:=cell_kept (hHeld.2.2.2) hkp (by first | (rw [add_block];exact (fun hs_=>((((Kd.R_apart' HO_11.out (Kd.R_typed HO_291000.out) (by decide))).1 _ rfl).2) hs_)) | (show ¬ _;simp only [add_block];exact (fun hs_=>((((Kd.R_apart' HO_11.out (Kd.R_typed HO_291000.out) (by decide))).1 _ rfl).2) hs_)) | exact (fun hs_=>((((Kd.R_apart' HO_11.out (Kd.R_typed HO_291000.out) (by decide))).1 _ rfl).2) hs_))
              refine ⟨_,rfl,?_⟩
              have n0_:=ka HO_10 HO_291000 hkp
              have n1_:=ka HO_11 HO_291000 hkp
              have n2_:=kb BK290 HO_291000 hkp
              have n3_:=kb BK291 HO_291000 hkp
              have n4_:=kr HO_291000 HK ho0
              have n5_:=kt HK HO_291000 hkp
              have n6_:=Aside0.mk hb
              clear HO_10
              clear HO_11
              clear BK290
              clear BK291
              clear HK
              clear HB
              clear HO_291000
              have HO_10:=n0_
              have HO_11:=n1_
              have BK290:=n2_
              have BK291:=n3_
              have HO320:=n4_
              have HK:=n5_
              have HB:=n6_
              clear n0_ n1_ n2_ n3_ n4_ n5_ n6_
              (try clear hb)
              (try clear hkp)
              (try clear ho0)
              have p50:0≤((rd y313 x12_3):Int):=of_decide_eq_true (by first | (with_reducible assumption) | assumption)
              have q50:((rd y313 x12_3):Int) < ((x10_3.length:Int):Int):=of_decide_eq_true (by first | (with_reducible assumption) | assumption)
              obtain ⟨go50,co50,eo50,gb50,gl50,cl50,HG50⟩:=Kd.R_form HO_10.out (by omega)
              (first | cases eo50 | (injection eo50 with ea_ en_ ec_;(first | subst ea_ | (injection ea_ with ea_;subst ea_));subst ec_;clear en_))
              have GB50:=Aside0.mk gb50
              have GG50:=Aside0.mk HG50
              clear gb50 gl50 HG50
              have HMgo50:=Aside0.mk (show (P1_0_ go50 ∨ w.heap.size≤go50) from (HO_10.out.1 _ rfl).1)
              obtain ⟨hx50_0,hf50_0⟩:=Kd.R_celln 0 HO_10.out ((rd y313 x12_3):Int) p50 q50
              replace p50:=eq_true p50
              replace q50:=eq_true q50
              have HP55:=Kd.R_putn HO_10.out ((rd y313 x12_3):Int) t317
              rw [← Ny323.out] at HP55
              have HQ55:=Aside0.mk HP55
              clear HP55
              refine hK.out _ _ ⟨(blk_cell BK290.out 0).trans rfl,(blk_cell BK290.out 1).trans rfl,(blk_cell BK290.out 2).trans rfl,HS3_⟩ (fun hHeld=>?_)
              clear hK K
              refine norm_ (a':=?_) ?_ ?_
              rotate_left
              ·show Act.put _ (some 65) _=_
               simp only [Act.put,List.setIfInBounds_toArray,List.set_cons_zero,List.set_cons_succ,i64_w,i32_w]
               rfl
              refine pureQ 8 (some 57) (tk 9 5) (any_of HT_.out (by kernel_rfl)) ?_
              refine pureQ 9 (some 66) (tk 10 4) (any_of HT_.out (by kernel_rfl)) ?_
              refine pureQ 10 (some 67) (tk 11 3) (any_of HT_.out (by kernel_rfl)) ?_
              refine pureQ 11 (some 68) (tk 12 2) (any_of HT_.out (by kernel_rfl)) ?_
              refine one_ (i:=12) (N:=none) (tk 13 1) rfl rfl (one_of HT_.out (by kernel_rfl)) (by decide) (fun K hK=>?_)
              refine skip_ (w1:=?_) (by rfl) rfl ?_ ?_
              rotate_left
              ·go_simp
               rfl
              have n0_:Aside0 (Kd.R (Kd.int .i64) 3 (w54.setCell ⟨go50,((rd y313 x12_3):Int).toNat,none⟩ (.int .i64 t317)) w0.heap.size (fun k_=>(P1_0_ k_ ∨ w.heap.size≤k_)∧some k_ ≠ (.slice (some ad316) y313.length co52:Value).ownBlock) (.slice (some ⟨go50,0,none⟩) x10_3.length co50) y323):=⟨by (with_reducible repeat (first | apply Kd.R_alloc | apply Kd.R_drewN | apply Kd.R_drew));exact HQ55.out⟩
              have n1_:Aside0 (Kd.R (Kd.int .i64) 3 (w54.setCell ⟨go50,((rd y313 x12_3):Int).toNat,none⟩ (.int .i64 t317)) w0.heap.size (fun k_=>(P1_0_ k_ ∨ w.heap.size≤k_)∧some k_ ≠ (.slice (some ⟨go50,0,none⟩) x10_3.length co50:Value).ownBlock) (.slice (some ad316) y313.length co52) y313):=⟨by (with_reducible repeat (first | apply Kd.R_alloc | apply Kd.R_drewN | apply Kd.R_drew));exact Kd.R_mono (Kd.R_far (p:=⟨go50,((rd y313 x12_3):Int).toNat,none⟩) (Kd.R_mono HO_11.out (fun k_ hk=>(⟨hk,fun e_=>hk.2 (by rw [e_];rfl)⟩:_∧k_ ≠ go50))) (fun _ hk=>hk.2) (.int .i64 t317)) (fun _ hk=>⟨hk.1.1,hk.1.2⟩)⟩
              have n2_:Aside0 (Kd.R (Kd.int .u8) 5 (w54.setCell ⟨go50,((rd y313 x12_3):Int).toNat,none⟩ (.int .i64 t317)) w0.heap.size (fun k_=>(P1_0_ k_ ∨ w.heap.size≤k_)) v319 t318):=⟨by (with_reducible repeat (first | apply Kd.R_alloc | apply Kd.R_drewN | apply Kd.R_drew));exact Kd.R_mono (Kd.R_far (p:=⟨go50,((rd y313 x12_3):Int).toNat,none⟩) (Kd.R_types HO320.out GG50.out (by decide)) (fun _ hk=>hk.2) (.int .i64 t317)) (fun _ hk=>hk.1)⟩
              have n3_:Aside0 ((w54.setCell ⟨go50,((rd y313 x12_3):Int).toNat,none⟩ (.int .i64 t317)).heap[gb290]?=some (.cells #[.slice Ao53 x291000_3.length co53,.int .i64 x291001_3,.int .i64 x291002_3] 115 (0,0))):=⟨by (with_reducible repeat (first | refine blk_drewN ?_ _ | refine blk_drew ?_ | refine blk_alloc ?_ _));refine blk_far ?_ (by have h_:=Kd.R_ne HO_10.out BK290.out (by decide);intro e_;exact h_ (by rw [e_];rfl)) _;(with_reducible repeat (first | refine blk_drewN ?_ _ | refine blk_drew ?_ | refine blk_alloc ?_ _));exact BK290.out⟩
              have n4_:Aside0 ((w54.setCell ⟨go50,((rd y313 x12_3):Int).toNat,none⟩ (.int .i64 t317)).heap[gb291]?=some (.cells #[.slice none 0 0,.int .i64 0,.int .i64 0] 115 (0,0))):=⟨by (with_reducible repeat (first | refine blk_drewN ?_ _ | refine blk_drew ?_ | refine blk_alloc ?_ _));refine blk_far ?_ (by have h_:=Kd.R_ne HO_10.out BK291.out (by decide);intro e_;exact h_ (by rw [e_];rfl)) _;(with_reducible repeat (first | refine blk_drewN ?_ _ | refine blk_drew ?_ | refine blk_alloc ?_ _));exact BK291.out⟩
              have n5_:Aside0 (Kept w (w54.setCell ⟨go50,((rd y313 x12_3):Int).toNat,none⟩ (.int .i64 t317)) (fun k_=>P1_0_ k_)):=⟨by repeat (first | (with_reducible first | exact HK.out | apply Kept.alloc | apply Kept.drewN | apply Kept.drew | refine Kept.setCell ?_ HMgo50.out _ | refine Kept.setCell ?_ (.inr GW290.out) _ | refine Kept.setCell ?_ (.inr GW291.out) _) | exact HK.out)⟩
              have n6_:Aside0 (Below w0.heap.size w0 (w54.setCell ⟨go50,((rd y313 x12_3):Int).toNat,none⟩ (.int .i64 t317))):=⟨by repeat (first | (with_reducible first | exact HB.out | apply below_alloc | apply pw_below_drewN | apply below_drew1 | refine below_set ?_ GB50.out | refine below_set ?_ GE290.out | refine below_set ?_ GE291.out) | exact HB.out)⟩
              (try clear HO_10)
              (try clear HO_11)
              (try clear HO320)
              (try clear BK290)
              (try clear BK291)
              (try clear HK)
              (try clear HB)
              generalize (w54.setCell ⟨go50,((rd y313 x12_3):Int).toNat,none⟩ (.int .i64 t317))=w56 at n0_ n1_ n2_ n3_ n4_ n5_ n6_ ⊢
              have HO_10:=n0_
              have HO_11:=n1_
              have HO320:=n2_
              have BK290:=n3_
              have BK291:=n4_
              have HK:=n5_
              have HB:=n6_
              clear n0_ n1_ n2_ n3_ n4_ n5_ n6_
              obtain ⟨ad9_,e9_,HS4_⟩:=Kd.at_int (Kd.R_reads' HO_11.out).2.2 x12_3 (of_eq_true p316) (of_eq_true q316)
              cases e9_
              refine hK.out _ _ ⟨(blk_cell BK290.out 0).trans rfl,(blk_cell BK290.out 1).trans rfl,(blk_cell BK290.out 2).trans rfl,HS4_⟩ (fun hHeld=>?_)
              clear hK K
              obtain ⟨Ao57,co57,eo57⟩:=Kd.R_slice HO320.out
              subst eo57
              have hnb58:=NB290_291.out
              have hnc58:=NB291_290.out
              obtain ⟨hcz59_0,hcz59_1,hcz59_2⟩:=cc3 BK290
              obtain ⟨hfz59_0,hfz59_1,hfz59_2⟩:=ff3 BK290
              refine last_ (i:=13) (N:=none) #[true,true,true,true,true,true,true,true,true,true,true,true,true,true] rfl rfl (one_of HT_.out (by kernel_rfl)) (by decide) (fun K hK=>?_)
              refine skip_ (w1:=(((w56.setCell ⟨gb290,0,none⟩ (.slice Ao57 t318.length co57)).setCell ⟨gb290,1,none⟩ (.int .i64 t321)).setCell ⟨gb290,2,none⟩ (.int .i64 t322))) (by rfl) rfl ?_ ?_
              ·first | (go_simp;done) | (go_simp;rfl)
              refine hK.out _ _ ?_
              clear hK K
              refine done_ (done_of HT_.out (by kernel_rfl)) ?_
              obtain ⟨w60,hw⟩:∃ w_,w_=(((w56.setCell ⟨gb290,0,none⟩ (.slice Ao57 t318.length co57)).setCell ⟨gb290,1,none⟩ (.int .i64 t321)).setCell ⟨gb290,2,none⟩ (.int .i64 t322)):=⟨_,rfl⟩
              rw [← hw]
              have n0_:Aside0 (Kd.R (Kd.int .i64) 3 w60 w0.heap.size (fun k_=>(P1_0_ k_ ∨ w.heap.size≤k_)∧some k_ ≠ (.slice (some ad316) y313.length co52:Value).ownBlock) (.slice (some ⟨go50,0,none⟩) x10_3.length co50) y323):=⟨(by rw [hw];exact (by (with_reducible repeat (first | apply Kd.R_alloc | apply Kd.R_drewN | apply Kd.R_drew));exact Kd.R_mono (Kd.R_far (p:=⟨gb290,2,none⟩) (Kd.R_far (p:=⟨gb290,1,none⟩) (Kd.R_far (p:=⟨gb290,0,none⟩) (Kd.R_types HO_10.out BK290.out (by decide)) (fun _ hk=>hk.2) (.slice Ao57 t318.length co57)) (fun _ hk=>hk.2) (.int .i64 t321)) (fun _ hk=>hk.2) (.int .i64 t322)) (fun _ hk=>⟨hk.1.1,hk.1.2⟩)))⟩;have n1_:Aside0 (Kd.R (Kd.int .i64) 3 w60 w0.heap.size (fun k_=>(P1_0_ k_ ∨ w.heap.size≤k_)∧some k_ ≠ (.slice (some ⟨go50,0,none⟩) x10_3.length co50:Value).ownBlock) (.slice (some ad316) y313.length co52) y313):=⟨(by rw [hw];exact (by (with_reducible repeat (first | apply Kd.R_alloc | apply Kd.R_drewN | apply Kd.R_drew));exact Kd.R_mono (Kd.R_far (p:=⟨gb290,2,none⟩) (Kd.R_far (p:=⟨gb290,1,none⟩) (Kd.R_far (p:=⟨gb290,0,none⟩) (Kd.R_types HO_11.out BK290.out (by decide)) (fun _ hk=>hk.2) (.slice Ao57 t318.length co57)) (fun _ hk=>hk.2) (.int .i64 t321)) (fun _ hk=>hk.2) (.int .i64 t322)) (fun _ hk=>⟨hk.1.1,hk.1.2⟩)))⟩;have n2_:Aside0 (Kd.R (Kd.int .u8) 5 w60 w0.heap.size (fun k_=>(P1_0_ k_ ∨ w.heap.size≤k_)) (.slice Ao57 t318.length co57) t318):=⟨(by rw [hw];exact (by (with_reducible repeat (first | apply Kd.R_alloc | apply Kd.R_drewN | apply Kd.R_drew));exact Kd.R_mono (Kd.R_far (p:=⟨gb290,2,none⟩) (Kd.R_far (p:=⟨gb290,1,none⟩) (Kd.R_far (p:=⟨gb290,0,none⟩) (Kd.R_types HO320.out BK290.out (by decide)) (fun _ hk=>hk.2) (.slice Ao57 t318.length co57)) (fun _ hk=>hk.2) (.int .i64 t321)) (fun _ hk=>hk.2) (.int .i64 t322)) (fun _ hk=>hk.1)))⟩;have n3_:Aside0 (w60.heap[gb290]?=some (.cells #[.slice Ao57 t318.length co57,.int .i64 t321,.int .i64 t322] 115 (0,0))):=⟨(by rw [hw];exact (bq BK290))⟩;have n4_:Aside0 (w60.heap[gb291]?=some (.cells #[.slice none 0 0,.int .i64 0,.int .i64 0] 115 (0,0))):=⟨(by rw [hw];exact (bq BK291))⟩;have n5_:Aside0 (Kept w w60 (fun k_=>P1_0_ k_)):=⟨(by rw [hw];exact (hk HK))⟩;have n6_:Aside0 (Below w0.heap.size w0 w60):=⟨(by rw [hw];exact (hn HB))⟩;clear hw HO_10 HO_11 HO320 BK290 BK291 HK HB;have HO_10:=n0_;have HO_11:=n1_;have HO320:=n2_;have BK290:=n3_;have BK291:=n4_;have HK:=n5_;have HB:=n6_;clear n0_ n1_ n2_ n3_ n4_ n5_ n6_
              try go_wp2
              go_roundg k3
              case measure=>have:=HJ5.out;have:=HJ33.out;have:=HK3.out;omega
              case rel=>exact ⟨(y323),(wrap64 (x12_3+1)),(t318),(t321),(t322),(.slice Ao57 t318.length co57),(by first | rfl | (simp;done) | (simp [*];done)),H',⟨by have:=HJ5.out;have:=HJ33.out;have:=HK3.out;omega⟩,⟨rr HO_10⟩,⟨rr HO_11⟩,⟨rr HO320⟩,⟨bk BK290⟩,⟨bk BK291⟩,⟨hk HK⟩,⟨hn HB⟩⟩
             ·rw [if_neg c49] at H
              exact absurd H (by simp)
            ·rw [if_neg c48] at H
             exact absurd H (by simp)
           ·rw [if_neg c46] at H
            exact absurd H (by simp)
          ·rw [if_neg c45] at H
           exact absurd H (by simp)
         ·rw [if_neg c44] at H
          have c44b0:decide (x12_3 < (wrap64 (t304+4)))=false:=decide_eq_false c44
          clear c44
          have HC61:=Aside0.mk H
          clear H
          have hnb62:=NB290_291.out
          have hnc62:=NB291_290.out
          obtain ⟨hcz63_0,hcz63_1,hcz63_2⟩:=cc3 BK290
          obtain ⟨hfz63_0,hfz63_1,hfz63_2⟩:=ff3 BK290
          go_upto_if 71 with (fail)
          go_cut [] (fun wc=>∃ (kq:Nat) (x291002_60:Int),Aside0 (celluloidref05_lengths.j3 kq a0 t292 t298 x10_3 x291000_3 x291001_3 x291002_60=some (r1,r2,r3,r4,r5))∧Aside0 (kq≤k3)∧Aside0 (Kd.R (Kd.int .i64) 3 wc w0.heap.size (fun k_=>(P1_0_ k_ ∨ w.heap.size≤k_)) v311 x10_3)∧Aside0 (Kd.R (Kd.int .u8) 5 wc w0.heap.size (fun k_=>(P1_0_ k_ ∨ w.heap.size≤k_)) u291000 x291000_3)∧Aside0 (wc.heap[gb290]?=some (.cells #[u291000,.int .i64 x291001_3,.int .i64 x291002_60] 115 (0,0)))∧Aside0 (wc.heap[gb291]?=some (.cells #[(.slice none 0 0),.int .i64 0,.int .i64 0] 115 (0,0)))∧Aside0 (Kept w wc (fun k_=>P1_0_ k_))∧Aside0 (Below w0.heap.size w0 wc))
          case first =>
           have H:=HC61.out
           clear HC61
           by_cases c64:x291002_3=0
           ·rw [if_pos c64] at H
            have c64b0:(x291002_3 == 0)=true:=beq_iff_eq.mpr c64
            have c64b1:(x291002_3 != 0)=false:=bne_eq_false_iff_eq.mpr c64
            clear c64
            (first | rw [c64b0] | (simp only [i64_w,i32_w];rw [c64b0]) | skip)
            replace H:=Option.bind_eq_some_iff.mp H
            obtain ⟨t324,A650,H⟩:=H
            replace H:(celluloidref05_lengths.j3 k3 a0 t292 t298 x10_3 x291000_3 x291001_3 t324)=some (r1,r2,r3,r4,r5):=H
            have A65:=Aside0.mk A650
            clear A650
            have H':=Aside0.mk H
            clear H
            obtain ⟨Ao66,co66,eo66⟩:=Kd.R_slice HO_10.out
            subst eo66
            go_wp2_with (first | ((with_reducible refine gate_callee (f:=28) rfl ?_);refine goesQ (some 73) Try.func28 #[.slice Ao66 x10_3.length co66] ?_;(with_reducible refine (celluloidref04_Error.calls k3 _ _ x10_3 t324 _ ?side1 ?side2 A65.out).mono ?_);(case side1=>repeat (first | exact (Kd.R_reads' HO_10.out).2.2 | (with_reducible refine Kd.C_alloc ?_ _) | (with_reducible refine Kd.C_drewN ?_ _) | (with_reducible refine Kd.C_drew ?_)));(case side2=>exact (Kd.R_reads' HO_10.out).2.1);rintro e w67 ⟨rfl,hb⟩;refine ⟨_,rfl,?_⟩;have n0_:=rk HO_10 hb;have n1_:=rk HO_11 hb;have n2_:=rk HO_291000 hb;have n3_:=bb BK290 hb;have n4_:=bb BK291 hb;have n5_:=Aside0.mk (Kept.below (S:=(fun k_=>P1_0_ k_)) (hk HK) hb);have n6_:=hs HB hb;clear HO_10 HO_11 HO_291000 BK290 BK291 HK HB;have HO_10:=n0_;have HO_11:=n1_;have HO_291000:=n2_;have BK290:=n3_;have BK291:=n4_;have HK:=n5_;have HB:=n6_;clear n0_ n1_ n2_ n3_ n4_ n5_ n6_;(try clear hb);have hnb68:=NB290_291.out;have hnc68:=NB291_290.out;obtain ⟨hcz69_0,hcz69_1,hcz69_2⟩:=cc3 BK290;obtain ⟨hfz69_0,hfz69_1,hfz69_2⟩:=ff3 BK290) | ((with_reducible refine gate_store (t:=3) (p:=74) rfl ?_);refine stQ 3 74 ((w67.setCell ⟨gb290,2,none⟩ (.int .i64 t324))) ?_;intro w70 hw;have n0_:=sR hw HO_10 BK290;have n1_:=sR hw HO_11 BK290;have n2_:=sR hw HO_291000 BK290;have n3_:=sP2 hw BK290;have n4_:=sF hw BK291 NB291_290;have n5_:=sK hw HK GW290;have n6_:=sB hw HB GE290;clear hw HO_10 HO_11 HO_291000 BK290 BK291 HK HB;have HO_10:=n0_;have HO_11:=n1_;have HO_291000:=n2_;have BK290:=n3_;have BK291:=n4_;have HK:=n5_;have HB:=n6_;clear n0_ n1_ n2_ n3_ n4_ n5_ n6_))
            go_meet
            case rel=>exact ⟨_,(t324),H',⟨by have:=HJ5.out;have:=HJ33.out;have:=HK3.out;first | omega | exact Nat.le_refl _⟩,⟨by (with_reducible repeat (first | apply Kd.R_alloc | apply Kd.R_drewN | apply Kd.R_drew));exact Kd.R_mono HO_10.out (fun _ hk=>hk.1)⟩,⟨rr HO_291000⟩,⟨bk BK290⟩,⟨bk BK291⟩,⟨hk HK⟩,⟨hn HB⟩⟩
           ·rw [if_neg c64] at H
            have c64b0:(x291002_3 == 0)=false:=beq_eq_false_iff_ne.mpr c64
            have c64b1:(x291002_3 != 0)=true:=bne_iff_ne.mpr c64
            (first | rw [c64b0] | (simp only [i64_w,i32_w];rw [c64b0]) | skip)
            have H':=Aside0.mk H
            clear H
            go_wp2
            go_meet
            case rel=>exact ⟨_,(x291002_3),H',⟨by have:=HJ5.out;have:=HJ33.out;have:=HK3.out;first | omega | exact Nat.le_refl _⟩,⟨by (with_reducible repeat (first | apply Kd.R_alloc | apply Kd.R_drewN | apply Kd.R_drew));exact Kd.R_mono HO_10.out (fun _ hk=>hk.1)⟩,⟨rr HO_291000⟩,⟨bk BK290⟩,⟨bk BK291⟩,⟨hk HK⟩,⟨hn HB⟩⟩
          case rest =>
           clear HC61
           clear c44b0 hcz63_0 hcz63_1 hcz63_2 hfz63_0 hfz63_1 hfz63_2
           obtain ⟨kq,x291002_60,HA,HJ60,HO_10,HO_291000,BK290,BK291,HK,HB⟩:=hcut
           cases kq with
           |zero=>exact absurd HA.out (by simp [celluloidref05_lengths.j3])
           |succ kj60 =>
            have H:=HA.out
            clear HA
            simp only [celluloidref05_lengths.j3] at H
            have HC71:=Aside0.mk H
            clear H
            go_upto_block 2 with (fail)
            go_cut [13] (fun v13 wc=>∃ (kq:Nat) (x13_70:List Int) (x291000_70:List Int) (x291001_70:Int) (x291002_70:Int) (x292001_70:Int) (x292002_70:Int) (u291000:Value),Aside0 (celluloidref05_lengths.j8 kq t292 x13_70 (wrap64 ((wrap64 (t292+t298))+258)) x291000_70 x291001_70 x291002_70=some (r1,r2,r3,r4,r5))∧Aside0 (kq≤kj60)∧Aside0 (Kd.R (Kd.int .i64) 3 wc w0.heap.size (fun k_=>(P1_0_ k_ ∨ w.heap.size≤k_)) v13 x13_70)∧Aside0 (Kd.R (Kd.int .u8) 5 wc w0.heap.size (fun k_=>(P1_0_ k_ ∨ w.heap.size≤k_)) u291000 x291000_70)∧Aside0 (wc.heap[gb290]?=some (.cells #[u291000,.int .i64 x291001_70,.int .i64 x291002_70] 115 (0,0)))∧Aside0 (wc.heap[gb291]?=some (.cells #[(.slice none 0 0),.int .i64 x292001_70,.int .i64 x292002_70] 115 (0,0)))∧Aside0 (Kept w wc (fun k_=>P1_0_ k_))∧Aside0 (Below w0.heap.size w0 wc))
            case first =>
             as_aux_lemma =>
              have H:=HC71.out
              clear HC71
              have H':=Aside0.mk H
              clear H
              go_wp2
              go_loopg [13] kj60 (fun kq v13 w'=>∃ (x13_5:List Int) (x291000_5:List Int) (x291001_5:Int) (x291002_5:Int) (x292001_5:Int) (x292002_5:Int) (u291000:Value),Aside0 (celluloidref05_lengths.l1 kq a0 t292 x10_3 x13_5 (wrap64 ((wrap64 (t292+t298))+258)) x291000_5 x291001_5 x291002_5=some (r1,r2,r3,r4,r5))∧Aside0 (kq≤kj60)∧Aside0 (Kd.R (Kd.int .i64) 3 w' w0.heap.size (fun k_=>(P1_0_ k_ ∨ w.heap.size≤k_)∧some k_ ≠ (v13:Value).ownBlock) v311 x10_3)∧Aside0 (Kd.R (Kd.int .i64) 3 w' w0.heap.size (fun k_=>(P1_0_ k_ ∨ w.heap.size≤k_)∧some k_ ≠ (v311:Value).ownBlock) v13 x13_5)∧Aside0 (Kd.R (Kd.int .u8) 5 w' w0.heap.size (fun k_=>(P1_0_ k_ ∨ w.heap.size≤k_)) u291000 x291000_5)∧Aside0 (w'.heap[gb290]?=some (.cells #[u291000,.int .i64 x291001_5,.int .i64 x291002_5] 115 (0,0)))∧Aside0 (w'.heap[gb291]?=some (.cells #[(.slice none 0 0),.int .i64 x292001_5,.int .i64 x292002_5] 115 (0,0)))∧Aside0 (Kept w w' (fun k_=>P1_0_ k_))∧Aside0 (Below w0.heap.size w0 w'))
              case atStart=>exact ⟨(([]:List Int)),(x291000_3),(x291001_3),(x291002_60),(0),(0),(u291000),H',⟨Nat.le_refl _⟩,⟨by (with_reducible repeat (first | apply Kd.R_alloc | apply Kd.R_drewN | apply Kd.R_drew));exact Kd.R_mono HO_10.out (fun _ hk=>⟨hk,(by simp [Value.ownBlock])⟩)⟩,⟨by first | exact Kd.R_nil _ _ _ _ _ | exact Kd.N_nil _ _ _ _ _ | exact Kd.V_nil _ _ _ _ _ | exact Kd.Q_nil _ _ _ _ _ | exact Kd.S_nil _ _ _ _ _⟩,⟨rr HO_291000⟩,⟨bk BK290⟩,⟨bk BK291⟩,⟨hk HK⟩,⟨hn HB⟩⟩
              case round =>
               clear H'
               obtain ⟨x13_5,x291000_5,x291001_5,x291002_5,x292001_5,x292002_5,u291000,HA,HK5,HO_10,HO_13,HO_291000,BK290,BK291,HK,HB⟩:=hrel
               cases gk with
               |zero=>exact absurd HA.out (by simp [celluloidref05_lengths.l1])
               |succ k5 =>
                have H:=HA.out
                clear HA
                simp only [celluloidref05_lengths.l1] at H
                have HC72:=Aside0.mk H
                clear H
                go_upto_region 17 with (fail)
                go_cut [87] (fun v87 wc=>∃ (kq:Nat) (x87_71:Bool),v87=.bool x87_71∧Aside0 (celluloidref05_lengths.j5 kq a0 t292 x10_3 x13_5 (wrap64 ((wrap64 (t292+t298))+258)) x87_71 x291000_5 x291001_5 x291002_5=some (r1,r2,r3,r4,r5))∧Aside0 (kq≤k5)∧Aside0 (Kd.R (Kd.int .i64) 3 wc w0.heap.size (fun k_=>(P1_0_ k_ ∨ w.heap.size≤k_)∧some k_ ≠ (u13:Value).ownBlock) v311 x10_3)∧Aside0 (Kd.R (Kd.int .i64) 3 wc w0.heap.size (fun k_=>(P1_0_ k_ ∨ w.heap.size≤k_)∧some k_ ≠ (v311:Value).ownBlock) u13 x13_5)∧Aside0 (Kd.R (Kd.int .u8) 5 wc w0.heap.size (fun k_=>(P1_0_ k_ ∨ w.heap.size≤k_)) u291000 x291000_5)∧Aside0 (wc.heap[gb290]?=some (.cells #[u291000,.int .i64 x291001_5,.int .i64 x291002_5] 115 (0,0)))∧Aside0 (wc.heap[gb291]?=some (.cells #[(.slice none 0 0),.int .i64 x292001_5,.int .i64 x292002_5] 115 (0,0)))∧Aside0 (Kept w wc (fun k_=>P1_0_ k_))∧Aside0 (Below w0.heap.size w0 wc))
                case first =>
                 have H:=HC72.out
                 clear HC72
                 by_cases c73:x291002_5=0
                 ·rw [if_pos c73] at H
                  have c73b0:(x291002_5 == 0)=true:=beq_iff_eq.mpr c73
                  have c73b1:(x291002_5 != 0)=false:=bne_eq_false_iff_eq.mpr c73
                  clear c73
                  (first | rw [c73b0] | (simp only [i64_w,i32_w];rw [c73b0]) | skip)
                  have H':=Aside0.mk H
                  clear H
                  have hnb74:=NB290_291.out
                  have hnc74:=NB291_290.out
                  obtain ⟨hcz75_0,hcz75_1,hcz75_2⟩:=cc3 BK290
                  obtain ⟨hfz75_0,hfz75_1,hfz75_2⟩:=ff3 BK290
                  obtain ⟨Ao76,co76,eo76⟩:=Kd.R_slice HO_13.out
                  subst eo76
                  go_wp2
                  go_meet
                  case rel=>exact ⟨_,(decide ((x13_5.length:Int) < (wrap64 ((wrap64 (t292+t298))+258)))),(by first | rfl | (simp;done) | (simp [*];done)),H',⟨by have:=HJ5.out;have:=HJ33.out;have:=HK3.out;have:=HJ60.out;have:=HK5.out;first | omega | exact Nat.le_refl _⟩,⟨rr HO_10⟩,⟨rr HO_13⟩,⟨rr HO_291000⟩,⟨bk BK290⟩,⟨bk BK291⟩,⟨hk HK⟩,⟨hn HB⟩⟩
                 ·rw [if_neg c73] at H
                  have c73b0:(x291002_5 == 0)=false:=beq_eq_false_iff_ne.mpr c73
                  have c73b1:(x291002_5 != 0)=true:=bne_iff_ne.mpr c73
                  (first | rw [c73b0] | (simp only [i64_w,i32_w];rw [c73b0]) | skip)
                  have H':=Aside0.mk H
                  clear H
                  have hnb77:=NB290_291.out
                  have hnc77:=NB291_290.out
                  obtain ⟨hcz78_0,hcz78_1,hcz78_2⟩:=cc3 BK290
                  obtain ⟨hfz78_0,hfz78_1,hfz78_2⟩:=ff3 BK290
                  go_wp2
                  go_meet
                  case rel=>exact ⟨_,(false),(by first | rfl | (simp;done) | (simp [*];done)),H',⟨by have:=HJ5.out;have:=HJ33.out;have:=HK3.out;have:=HJ60.out;have:=HK5.out;first | omega | exact Nat.le_refl _⟩,⟨rr HO_10⟩,⟨rr HO_13⟩,⟨rr HO_291000⟩,⟨bk BK290⟩,⟨bk BK291⟩,⟨hk HK⟩,⟨hn HB⟩⟩
                case rest =>
                 clear HC72
                 obtain ⟨kq,x87_71,rfl,HA,HJ71,HO_10,HO_13,HO_291000,BK290,BK291,HK,HB⟩:=hcut
                 cases kq with
                 |zero=>exact absurd HA.out (by simp [celluloidref05_lengths.j5])
                 |succ kj71 =>
                  have H:=HA.out
                  clear HA
                  simp only [celluloidref05_lengths.j5] at H
                  by_cases c79:x87_71=true
                  ·subst c79
                   have H1:((celluloidref05_symbol.f kj71 a0 x291000_5 x291001_5 x291002_5 x10_3).bind fun bt325=>(if bt325.2.2.2=0 then (if bt325.1 < 16 then (if x13_5.length < 17592186044416 then (celluloidref05_lengths.l1 kj71 a0 t292 x10_3 (x13_5 ++ [bt325.1]) (wrap64 ((wrap64 (t292+t298))+258)) bt325.2.1 bt325.2.2.1 bt325.2.2.2) else (none)) else (if bt325.1=16 then (if (x13_5.length:Int)=0 then (some (([]:List Int),([]:List Int),bt325.2.1,bt325.2.2.1,3)) else (if 0≤(wrap64 ((x13_5.length:Int) - 1)) then (if (wrap64 ((x13_5.length:Int) - 1)) < (x13_5.length:Int) then ((celluloidref05_number.f kj71 a0 bt325.2.1 bt325.2.2.1 bt325.2.2.2 2).bind fun bt335=>(celluloidref05_lengths.j6 kj71 a0 t292 x10_3 x13_5 (wrap64 ((wrap64 (t292+t298))+258)) (rd x13_5 (wrap64 ((x13_5.length:Int) - 1))) (wrap64 (bt335.1+3)) bt335.2.1 bt335.2.2.1 bt335.2.2.2)) else (none)) else (none))) else (if bt325.1=17 then ((celluloidref05_number.f kj71 a0 bt325.2.1 bt325.2.2.1 bt325.2.2.2 3).bind fun bt341=>(celluloidref05_lengths.j6 kj71 a0 t292 x10_3 x13_5 (wrap64 ((wrap64 (t292+t298))+258)) 0 (wrap64 (bt341.1+3)) bt341.2.1 bt341.2.2.1 bt341.2.2.2)) else (if bt325.1=18 then ((celluloidref05_number.f kj71 a0 bt325.2.1 bt325.2.2.1 bt325.2.2.2 7).bind fun bt347=>(celluloidref05_lengths.j6 kj71 a0 t292 x10_3 x13_5 (wrap64 ((wrap64 (t292+t298))+258)) 0 (wrap64 (bt347.1+11)) bt347.2.1 bt347.2.2.1 bt347.2.2.2)) else (celluloidref05_lengths.j6 kj71 a0 t292 x10_3 x13_5 (wrap64 ((wrap64 (t292+t298))+258)) 0 0 bt325.2.1 bt325.2.2.1 bt325.2.2.2))))) else (celluloidref05_lengths.j8 kj71 t292 x13_5 (wrap64 ((wrap64 (t292+t298))+258)) bt325.2.1 bt325.2.2.1 bt325.2.2.2)))=some (r1,r2,r3,r4,r5):=by rw [if_pos rfl] at H;exact H
                   clear H
                   have H:=H1
                   clear H1
                   replace H:=Option.bind_eq_some_iff.mp H
                   obtain ⟨⟨t325,t326,t329,t330⟩,A800,H⟩:=H
                   replace H:(if t330=0 then (if t325 < 16 then (if x13_5.length < 17592186044416 then (celluloidref05_lengths.l1 kj71 a0 t292 x10_3 (x13_5 ++ [t325]) (wrap64 ((wrap64 (t292+t298))+258)) t326 t329 t330) else (none)) else (if t325=16 then (if (x13_5.length:Int)=0 then (some (([]:List Int),([]:List Int),t326,t329,3)) else (if 0≤(wrap64 ((x13_5.length:Int) - 1)) then (if (wrap64 ((x13_5.length:Int) - 1)) < (x13_5.length:Int) then ((celluloidref05_number.f kj71 a0 t326 t329 t330 2).bind fun bt335=>(celluloidref05_lengths.j6 kj71 a0 t292 x10_3 x13_5 (wrap64 ((wrap64 (t292+t298))+258)) (rd x13_5 (wrap64 ((x13_5.length:Int) - 1))) (wrap64 (bt335.1+3)) bt335.2.1 bt335.2.2.1 bt335.2.2.2)) else (none)) else (none))) else (if t325=17 then ((celluloidref05_number.f kj71 a0 t326 t329 t330 3).bind fun bt341=>(celluloidref05_lengths.j6 kj71 a0 t292 x10_3 x13_5 (wrap64 ((wrap64 (t292+t298))+258)) 0 (wrap64 (bt341.1+3)) bt341.2.1 bt341.2.2.1 bt341.2.2.2)) else (if t325=18 then ((celluloidref05_number.f kj71 a0 t326 t329 t330 7).bind fun bt347=>(celluloidref05_lengths.j6 kj71 a0 t292 x10_3 x13_5 (wrap64 ((wrap64 (t292+t298))+258)) 0 (wrap64 (bt347.1+11)) bt347.2.1 bt347.2.2.1 bt347.2.2.2)) else (celluloidref05_lengths.j6 kj71 a0 t292 x10_3 x13_5 (wrap64 ((wrap64 (t292+t298))+258)) 0 0 t326 t329 t330))))) else (celluloidref05_lengths.j8 kj71 t292 x13_5 (wrap64 ((wrap64 (t292+t298))+258)) t326 t329 t330))=some (r1,r2,r3,r4,r5):=H
                   have A80:=Aside0.mk A800
                   clear A800
                   by_cases c81:t330=0
                   ·rw [if_pos c81] at H
                    have c81b0:(t330 == 0)=true:=beq_iff_eq.mpr c81
                    have c81b1:(t330 != 0)=false:=bne_eq_false_iff_eq.mpr c81
                    clear c81
                    by_cases c82:t325 < 16
                    ·rw [if_pos c82] at H
                     have c82b0:decide (t325 < 16)=true:=decide_eq_true c82
                     clear c82
                     by_cases c83:x13_5.length < 17592186044416
                     ·rw [if_pos c83] at H
                      have LMc83:=Aside0.mk c83
                      clear c83
                      obtain ⟨y331,hy331⟩:∃ y_:List Int,y_=(x13_5 ++ [t325]):=⟨_,rfl⟩
                      replace H:(celluloidref05_lengths.l1 kj71 a0 t292 x10_3 y331 (wrap64 ((wrap64 (t292+t298))+258)) t326 t329 t330)=some (r1,r2,r3,r4,r5):=by first | (rw [hy331];with_reducible exact H) | (have H2_:=(Option.bind_some _ _).symm.trans H;rw [hy331];with_reducible exact H2_) | (have H2_:=(Option.bind_some _ _).symm.trans H;with_reducible exact H2_) | with_reducible exact H | (rw [hy331];exact H) | exact H
                      have Ny331:=Aside0.mk hy331
                      clear hy331
                      have H':=Aside0.mk H
                      clear H
                      have hnb84:=NB290_291.out
                      have hnc84:=NB291_290.out
                      obtain ⟨hcz85_0,hcz85_1,hcz85_2⟩:=cc3 BK290
                      obtain ⟨hfz85_0,hfz85_1,hfz85_2⟩:=ff3 BK290
                      obtain ⟨Ao86,co86,eo86⟩:=Kd.R_slice HO_291000.out
                      subst eo86
                      obtain ⟨Ao87,co87,eo87⟩:=Kd.R_slice HO_10.out
                      subst eo87
                      go_wp2_with (first | ((with_reducible refine gate_callee (f:=101) rfl ?_);refine goesQ (some 92) Try.func101 #[.string a0,.agg #[.slice Ao86 x291000_5.length co86,.int .i64 x291001_5,.int .i64 x291002_5],.slice Ao87 x10_3.length co87] ?_;(with_reducible refine (celluloidref05_symbol.calls kj71 a0 (fun k_=>some k_=(.slice Ao86 x291000_5.length co86:Value).ownBlock) (.slice Ao86 x291000_5.length co86) x291000_5 x291001_5 x291002_5 _ _ x10_3 t325 t326 t329 t330 w0 _ (hn HB) (Kd.R_tight rfl HO_291000.out) ?side3 ?side4 A80.out).mono ?_);(case side3=>exact Kd.C_kept_own ((Kd.R_apart' HO_10.out (Kd.R_typed HO_291000.out) (by decide))) (fun k_ hk_ hs_=>(hk_.2) hs_));(case side4=>exact (Kd.R_reads' HO_10.out).2.1);rintro e w88 ⟨v327,rfl,ho0,hb,hkp⟩;refine ⟨_,rfl,?_⟩;have n0_:=ka HO_10 HO_291000 hkp;have n1_:=ka HO_13 HO_291000 hkp;have n2_:=kb BK290 HO_291000 hkp;have n3_:=kb BK291 HO_291000 hkp;have n4_:=kr HO_291000 HK ho0;have n5_:=kt HK HO_291000 hkp;have n6_:=Aside0.mk hb;clear HO_10 HO_13 BK290 BK291 HK HB HO_291000;have HO_10:=n0_;have HO_13:=n1_;have BK290:=n2_;have BK291:=n3_;have HO328:=n4_;have HK:=n5_;have HB:=n6_;clear n0_ n1_ n2_ n3_ n4_ n5_ n6_;(try clear hb);(try clear hkp);(try clear ho0);obtain ⟨Ao89,co89,eo89⟩:=Kd.R_slice HO328.out;subst eo89;obtain ⟨hcz90_0,hcz90_1,hcz90_2⟩:=cc3 BK290;obtain ⟨hfz90_0,hfz90_1,hfz90_2⟩:=ff3 BK290) | ((with_reducible refine gate_store (t:=115) (p:=3) rfl ?_);refine stQ 115 3 ((((w88.setCell ⟨gb290,0,none⟩ (.slice Ao89 t326.length co89)).setCell ⟨gb290,1,none⟩ (.int .i64 t329)).setCell ⟨gb290,2,none⟩ (.int .i64 t330))) ?_;intro w91 hw;have n0_:=sR hw HO_10 BK290;have n1_:=sR hw HO_13 BK290;have n2_:=sR hw HO328 BK290;have n3_:=sP hw BK290;have n4_:=sF hw BK291 NB291_290;have n5_:=sK hw HK GW290;have n6_:=sB hw HB GE290;clear hw HO_10 HO_13 HO328 BK290 BK291 HK HB;have HO_10:=n0_;have HO_13:=n1_;have HO328:=n2_;have BK290:=n3_;have BK291:=n4_;have HK:=n5_;have HB:=n6_;clear n0_ n1_ n2_ n3_ n4_ n5_ n6_;obtain ⟨hcz92_0,hcz92_1,hcz92_2⟩:=cc3 BK290;obtain ⟨hfz92_0,hfz92_1,hfz92_2⟩:=ff3 BK290) | ((with_reducible refine gate_builtin (b:=.append) (xs:=#[.tmp 100,.tmp 102]) rfl ?_);(try (refine gate_guard (by rfl) ?_;dsimp only));at_builtin;refine Kd.R_append (Kd.int .i64) (w0:=w0) w0.heap.size rfl (.tmp 100) (.tmp 102) 22 3 (.int .i64 0) 8 rfl Try.underlying22 info3 rfl (by decide) (by omega) u13 x13_5 t325 [.int .i64 t325] (fun k_=>(P1_0_ k_ ∨ w.heap.size≤k_)∧some k_ ≠ (.slice Ao87 x10_3.length co87:Value).ownBlock) (fun _=>False) rfl rfl ?aP (fun _ hk=>hk.elim) ?aF ?aO ?aB ?aS ?aL ?_;(case aP=>exact rfl);(case aB=>exact (hn HB));(case aF=>exact (fun k_ hk=>⟨(.inr (Nat.le_trans (by first | exact HK.out.1 | exact (show Kept w _ (fun k_=>P1_0_ k_) from by repeat (first | (with_reducible first | exact HK.out | apply Kept.alloc | apply Kept.drewN | apply Kept.drew | refine Kept.setCell ?_ (.inr GW290.out) _ | refine Kept.setCell ?_ (.inr GW291.out) _) | exact HK.out)).1) hk)),Kd.fresh' (Kd.R_lt (rr HO_10)) k_ hk⟩));(case aO=>exact (rr HO_13));(case aS=>exact (below_size (hn HB)));(case aL=>have:=LMc83.out;omega);intro v332 w93 ho hb hg hat;rw [← Ny331.out] at ho;have n0_:=Aside0.mk (Kd.R_after (ok:=(fun k_=>(P1_0_ k_ ∨ w.heap.size≤k_))) (rr HO_10) hg hat);have n1_:=Aside0.mk (blk_grown (g:=gb290) (o:=.cells #[.slice Ao89 t326.length co89,.int .i64 t329,.int .i64 t330] 115 (0,0)) (bk BK290) hg (Kd.R_ne HO_13.out BK290.out (by decide)));have n2_:=Aside0.mk (blk_grown (g:=gb291) (o:=.cells #[.slice none 0 0,.int .i64 x292001_5,.int .i64 x292002_5] 115 (0,0)) (bk BK291) hg (Kd.R_ne HO_13.out BK291.out (by decide)));have n3_:=Aside0.mk (Kd.R_over' (rr HO328) (Kd.R_typed (rr HO_13)) (by decide) hg);have n4_:=Aside0.mk hb;have n5_:=Aside0.mk (Kept.of_grown (S:=(fun k_=>P1_0_ k_)) hg (hk HK) (fun k_ e_=>(HO_13.out.1 k_ e_).1));have n6_:=Aside0.mk ho;clear HO_10 BK290 BK291 HO328 HB HK HO_13;have HO_10:=n0_;have BK290:=n1_;have BK291:=n2_;have HO328:=n3_;have HB:=n4_;have HK:=n5_;have HO333:=n6_;clear n0_ n1_ n2_ n3_ n4_ n5_ n6_;clear ho hb hg hat))
                      go_roundg kj71
                      case measure=>have:=HJ5.out;have:=HJ33.out;have:=HK3.out;have:=HJ60.out;have:=HK5.out;have:=HJ71.out;omega
                      case rel=>exact ⟨(y331),(t326),(t329),(t330),(x292001_5),(x292002_5),(.slice Ao89 t326.length co89),H',⟨by have:=HJ5.out;have:=HJ33.out;have:=HK3.out;have:=HJ60.out;have:=HK5.out;have:=HJ71.out;omega⟩,⟨rr HO_10⟩,⟨rr HO333⟩,⟨rr HO328⟩,⟨bk BK290⟩,⟨bk BK291⟩,⟨hk HK⟩,⟨hn HB⟩⟩
                     ·rw [if_neg c83] at H
                      exact absurd H (by simp)
                    ·rw [if_neg c82] at H
                     have c82b0:decide (t325 < 16)=false:=decide_eq_false c82
                     clear c82
                     have HC94:=Aside0.mk H
                     clear H
                     have hnb95:=NB290_291.out
                     have hnc95:=NB291_290.out
                     obtain ⟨hcz96_0,hcz96_1,hcz96_2⟩:=cc3 BK290
                     obtain ⟨hfz96_0,hfz96_1,hfz96_2⟩:=ff3 BK290
                     obtain ⟨Ao97,co97,eo97⟩:=Kd.R_slice HO_291000.out
                     subst eo97
                     obtain ⟨Ao98,co98,eo98⟩:=Kd.R_slice HO_10.out
                     subst eo98
                     go_upto_block 4 with (first | ((with_reducible refine gate_callee (f:=101) rfl ?_);refine goesQ (some 92) Try.func101 #[.string a0,.agg #[.slice Ao97 x291000_5.length co97,.int .i64 x291001_5,.int .i64 x291002_5],.slice Ao98 x10_3.length co98] ?_;(with_reducible refine (celluloidref05_symbol.calls kj71 a0 (fun k_=>some k_=(.slice Ao97 x291000_5.length co97:Value).ownBlock) (.slice Ao97 x291000_5.length co97) x291000_5 x291001_5 x291002_5 _ _ x10_3 t325 t326 t329 t330 w0 _ (hn HB) (Kd.R_tight rfl HO_291000.out) ?side3 ?side4 A80.out).mono ?_);(case side3=>exact Kd.C_kept_own ((Kd.R_apart' HO_10.out (Kd.R_typed HO_291000.out) (by decide))) (fun k_ hk_ hs_=>(hk_.2) hs_));(case side4=>exact (Kd.R_reads' HO_10.out).2.1);rintro e w99 ⟨v327,rfl,ho0,hb,hkp⟩;refine ⟨_,rfl,?_⟩;have n0_:=ka HO_10 HO_291000 hkp;have n1_:=ka HO_13 HO_291000 hkp;have n2_:=kb BK290 HO_291000 hkp;have n3_:=kb BK291 HO_291000 hkp;have n4_:=kr HO_291000 HK ho0;have n5_:=kt HK HO_291000 hkp;have n6_:=Aside0.mk hb;clear HO_10 HO_13 BK290 BK291 HK HB HO_291000;have HO_10:=n0_;have HO_13:=n1_;have BK290:=n2_;have BK291:=n3_;have HO328:=n4_;have HK:=n5_;have HB:=n6_;clear n0_ n1_ n2_ n3_ n4_ n5_ n6_;(try clear hb);(try clear hkp);(try clear ho0);obtain ⟨Ao100,co100,eo100⟩:=Kd.R_slice HO328.out;subst eo100;obtain ⟨hcz101_0,hcz101_1,hcz101_2⟩:=cc3 BK290;obtain ⟨hfz101_0,hfz101_1,hfz101_2⟩:=ff3 BK290) | ((with_reducible refine gate_store (t:=115) (p:=3) rfl ?_);refine stQ 115 3 ((((w99.setCell ⟨gb290,0,none⟩ (.slice Ao100 t326.length co100)).setCell ⟨gb290,1,none⟩ (.int .i64 t329)).setCell ⟨gb290,2,none⟩ (.int .i64 t330))) ?_;intro w102 hw;have n0_:=sR hw HO_10 BK290;have n1_:=sR hw HO_13 BK290;have n2_:=sR hw HO328 BK290;have n3_:=sP hw BK290;have n4_:=sF hw BK291 NB291_290;have n5_:=sK hw HK GW290;have n6_:=sB hw HB GE290;clear hw HO_10 HO_13 HO328 BK290 BK291 HK HB;have HO_10:=n0_;have HO_13:=n1_;have HO328:=n2_;have BK290:=n3_;have BK291:=n4_;have HK:=n5_;have HB:=n6_;clear n0_ n1_ n2_ n3_ n4_ n5_ n6_;obtain ⟨hcz103_0,hcz103_1,hcz103_2⟩:=cc3 BK290;obtain ⟨hfz103_0,hfz103_1,hfz103_2⟩:=ff3 BK290))
                     (try simp only [Act.put,List.setIfInBounds_toArray,List.set_cons_zero,List.set_cons_succ])
                     go_cut [16,17] (fun v16 v17 wc=>∃ (kq:Nat) (x16_93:Int) (x17_93:Int) (x291000_93:List Int) (x291001_93:Int) (x291002_93:Int) (x292001_93:Int) (x292002_93:Int) (u291000:Value),v16=.int .i64 x16_93∧v17=.int .i64 x17_93∧Aside0 (celluloidref05_lengths.j6 kq a0 t292 x10_3 x13_5 (wrap64 ((wrap64 (t292+t298))+258)) x16_93 x17_93 x291000_93 x291001_93 x291002_93=some (r1,r2,r3,r4,r5))∧Aside0 (kq≤kj71)∧Aside0 (Kd.R (Kd.int .i64) 3 wc w0.heap.size (fun k_=>(P1_0_ k_ ∨ w.heap.size≤k_)∧some k_ ≠ (u13:Value).ownBlock) (.slice Ao98 x10_3.length co98) x10_3)∧Aside0 (Kd.R (Kd.int .i64) 3 wc w0.heap.size (fun k_=>(P1_0_ k_ ∨ w.heap.size≤k_)∧some k_ ≠ ((.slice Ao98 x10_3.length co98):Value).ownBlock) u13 x13_5)∧Aside0 (Kd.R (Kd.int .u8) 5 wc w0.heap.size (fun k_=>(P1_0_ k_ ∨ w.heap.size≤k_)) u291000 x291000_93)∧Aside0 (wc.heap[gb290]?=some (.cells #[u291000,.int .i64 x291001_93,.int .i64 x291002_93] 115 (0,0)))∧Aside0 (wc.heap[gb291]?=some (.cells #[(.slice none 0 0),.int .i64 x292001_93,.int .i64 x292002_93] 115 (0,0)))∧Aside0 (Kept w wc (fun k_=>P1_0_ k_))∧Aside0 (Below w0.heap.size w0 wc))
                     case first =>
                      have H:=HC94.out
                      clear HC94
                      by_cases c104:t325=16
                      ·rw [if_pos c104] at H
                       have c104b0:(t325 == 16)=true:=beq_iff_eq.mpr c104
                       have c104b1:(t325 != 16)=false:=bne_eq_false_iff_eq.mpr c104
                       clear c104
                       (first | rw [c104b0] | (simp only [i64_w,i32_w];rw [c104b0]) | skip)
                       by_cases c105:(x13_5.length:Int)=0
                       ·rw [if_pos c105] at H
                        have c105b0:((x13_5.length:Int) == 0)=true:=beq_iff_eq.mpr c105
                        have c105b1:((x13_5.length:Int) != 0)=false:=bne_eq_false_iff_eq.mpr c105
                        clear c105
                        simp only [Option.some.injEq,Prod.mk.injEq] at H
                        obtain ⟨rfl,rfl,rfl,rfl,rfl⟩:=H
                        obtain ⟨Ao106,co106,eo106⟩:=Kd.R_slice HO_13.out
                        subst eo106
                        have hnb107:=NB290_291.out
                        have hnc107:=NB291_290.out
                        obtain ⟨hcz108_0,hcz108_1,hcz108_2⟩:=cc3 BK290
                        obtain ⟨hfz108_0,hfz108_1,hfz108_2⟩:=ff3 BK290
                        try go_wp2_with (first | ((with_reducible refine gate_store (t:=3) (p:=110) rfl ?_);refine stQ 3 110 ((w102.setCell ⟨gb290,2,none⟩ (.int .i64 3))) ?_;intro w109 hw;have n0_:=sR hw HO_10 BK290;have n1_:=sR hw HO_13 BK290;have n2_:=sR hw HO328 BK290;have n3_:=sP2 hw BK290;have n4_:=sF hw BK291 NB291_290;have n5_:=sK hw HK GW290;have n6_:=sB hw HB GE290;clear hw HO_10 HO_13 HO328 BK290 BK291 HK HB;have HO_10:=n0_;have HO_13:=n1_;have HO328:=n2_;have BK290:=n3_;have BK291:=n4_;have HK:=n5_;have HB:=n6_;clear n0_ n1_ n2_ n3_ n4_ n5_ n6_))
                        have n0_:=Aside0.mk (Kd.R_drew HO_10.out)
                        have n1_:=Aside0.mk (Kd.R_drew HO_13.out)
                        have n2_:=Aside0.mk (Kd.R_drew HO328.out)
                        have n3_:=Aside0.mk (blk_drew BK290.out)
                        have n4_:=Aside0.mk (blk_drew BK291.out)
                        have n5_:=Aside0.mk (Kept.drew HK.out)
                        have n6_:=Aside0.mk (below_drew1 HB.out)
                        clear HO_10
                        clear HO_13
                        clear HO328
                        clear BK290
                        clear BK291
                        clear HK
                        clear HB
                        have HO_10:=n0_
                        have HO_13:=n1_
                        have HO328:=n2_
                        have BK290:=n3_
                        have BK291:=n4_
                        have HK:=n5_
                        have HB:=n6_
                        clear n0_ n1_ n2_ n3_ n4_ n5_ n6_
                        refine start_ (n:=4) (S:=fun w'=>w'.cell? ⟨gb290,0,none⟩=some (.slice Ao100 t326.length co100)∧w'.cell? ⟨gb290,1,none⟩=some (.int .i64 t329)∧w'.cell? ⟨gb290,2,none⟩=some (.int .i64 3)) (ds:=[]) #[false,false,false,false] (by kernel_rfl) rfl rfl ⟨(blk_cell BK290.out 0).trans rfl,(blk_cell BK290.out 1).trans rfl,(blk_cell BK290.out 2).trans rfl⟩ (fun hHeld=>?_)
                        generalize w109.drew=w110 at HO_10 HO_13 HO328 BK290 BK291 HK HB hHeld ⊢
                        refine pureQ 1 (some 4) #[false,true,false,false] (by kernel_rfl) ?_
                        refine pureQ 2 (some 5) #[false,true,true,false] (by kernel_rfl) ?_
                        refine take_ (i:=0) (N:=some 111) (v:=?_) (a':=?_) (tk 3 1) rfl rfl (by kernel_rfl) (fun _ _ _ h=>h) (Or.inl ⟨by rfl,?_⟩) hHeld ?_ ?_
                        rotate_left
                        ·rintro w' ⟨s0,s1,s2⟩
                         go_simp
                         with_reducible rfl
                        rotate_left
                        ·simp only [Act.put,List.setIfInBounds_toArray,List.set_cons_zero,List.set_cons_succ,i64_w,i32_w]
                         rfl
                        refine one_ (i:=3) (N:=none) (tk 4 0) rfl rfl (by kernel_rfl) (by decide) (fun K hK=>?_)
                        have hs111:w110.cell? ⟨gb291,0,none⟩=some (.slice none 0 0):=(blk_cell BK291.out 0).trans rfl
                        have hfs111:=blk_frozen BK291.out 0
                        have hns111_0:=NB290_291.out
                        have hms111_0:=NB291_290.out
                        have hs112:w110.cell? ⟨gb291,1,none⟩=some (.int .i64 x292001_5):=(blk_cell BK291.out 1).trans rfl
                        have hfs112:=blk_frozen BK291.out 1
                        have hns112_0:=NB290_291.out
                        have hms112_0:=NB291_290.out
                        have hs113:w110.cell? ⟨gb291,2,none⟩=some (.int .i64 x292002_5):=(blk_cell BK291.out 2).trans rfl
                        have hfs113:=blk_frozen BK291.out 2
                        have hns113_0:=NB290_291.out
                        have hms113_0:=NB291_290.out
                        refine skip_ (w1:=?_) (by rfl) rfl ?_ ?_
                        rotate_left
                        ·go_simp
                         rfl
                        refine hK.out _ _ ⟨((cell_far (p:=⟨gb291,_,none⟩) NB290_291.out _).trans (((cell_far (p:=⟨gb291,_,none⟩) NB290_291.out _).trans (((cell_far (p:=⟨gb291,_,none⟩) NB290_291.out _).trans (hHeld.1)))))),((cell_far (p:=⟨gb291,_,none⟩) NB290_291.out _).trans (((cell_far (p:=⟨gb291,_,none⟩) NB290_291.out _).trans (((cell_far (p:=⟨gb291,_,none⟩) NB290_291.out _).trans (hHeld.2.1)))))),((cell_far (p:=⟨gb291,_,none⟩) NB290_291.out _).trans (((cell_far (p:=⟨gb291,_,none⟩) NB290_291.out _).trans (((cell_far (p:=⟨gb291,_,none⟩) NB290_291.out _).trans (hHeld.2.2))))))⟩ (fun hHeld=>?_)
                        clear hK K
                        refine done_ (by kernel_rfl) ?_
                        try go_wp2
                        refine bodyPost_ret (results_list (rs:=[.tmp 4,.tmp 5,.cell 6 115]) rfl (by simp) (.tmp (.tmp (.cell gb291 115 #[.slice Ao100 t326.length co100,.int .i64 t329,.int .i64 3] (0,0) _ rfl (bq BK291) Try.underlying115 rfl (by kernel_rfl) .nil)))) rfl ?_
                        exact LenP.nil' ⟨by first | rfl | (simp [errW_none,errW_some] <;> rfl) | (simp [*,errW_none,errW_some] <;> rfl),by (with_reducible repeat (first | apply Kd.R_alloc | apply Kd.R_drewN | apply Kd.R_drew));exact Kd.R_mono (Kd.R_far (p:=⟨gb291,2,none⟩) (Kd.R_far (p:=⟨gb291,1,none⟩) (Kd.R_far (p:=⟨gb291,0,none⟩) (Kd.R_types HO328.out BK291.out (by decide)) (fun _ hk=>hk.2) (.slice Ao100 t326.length co100)) (fun _ hk=>hk.2) (.int .i64 t329)) (fun _ hk=>hk.2) (.int .i64 3)) (fun _ hk=>hk.1),hn HB,hk HK⟩
                       ·rw [if_neg c105] at H
                        have c105b0:((x13_5.length:Int) == 0)=false:=beq_eq_false_iff_ne.mpr c105
                        have c105b1:((x13_5.length:Int) != 0)=true:=bne_iff_ne.mpr c105
                        have c105b2:¬ (x13_5=[]):=fun h_=>c105 (by rw [h_];rfl)
                        obtain ⟨ji114,hji114⟩:∃ j_:Int,(wrap64 ((x13_5.length:Int) - 1))=j_:=⟨_,rfl⟩
                        replace H:(if 0≤(ji114) then (if (ji114) < (x13_5.length:Int) then ((celluloidref05_number.f kj71 a0 t326 t329 t330 2).bind fun bt335=>(celluloidref05_lengths.j6 kj71 a0 t292 x10_3 x13_5 (wrap64 ((wrap64 (t292+t298))+258)) (rd x13_5 (ji114)) (wrap64 (bt335.1+3)) bt335.2.1 bt335.2.2.1 bt335.2.2.2)) else (none)) else (none))=some (r1,r2,r3,r4,r5):=by first | (rw [hji114] at H;exact H) | (simp only [hji114] at H ⊢;exact H)
                        have hji114w:(IntKind.i64.wrap ((x13_5.length:Int) - 1))=ji114:=(i64_w _).trans hji114
                        by_cases c115:0≤(ji114)
                        ·rw [if_pos c115] at H
                         have c115b0:decide (0≤(ji114))=true:=decide_eq_true c115
                         clear c115
                         by_cases c116:(ji114) < (x13_5.length:Int)
                         ·rw [if_pos c116] at H
                          have c116b0:decide ((ji114) < (x13_5.length:Int))=true:=decide_eq_true c116
                          clear c116
                          replace H:=Option.bind_eq_some_iff.mp H
                          obtain ⟨⟨t335,t336,t339,t340⟩,A1170,H⟩:=H
                          replace H:(celluloidref05_lengths.j6 kj71 a0 t292 x10_3 x13_5 (wrap64 ((wrap64 (t292+t298))+258)) (rd x13_5 (ji114)) (wrap64 (t335+3)) t336 t339 t340)=some (r1,r2,r3,r4,r5):=H
                          have A117:=Aside0.mk A1170
                          clear A1170
                          have H':=Aside0.mk H
                          clear H
                          obtain ⟨Ao118,co118,eo118⟩:=Kd.R_slice HO_13.out
                          subst eo118
                          have p334:0≤((ji114):Int):=of_decide_eq_true (by first | (with_reducible assumption) | assumption)
                          have q334:(ji114) < (x13_5.length:Int):=of_decide_eq_true (by first | (with_reducible assumption) | assumption)
                          obtain ⟨ad334,e334,hx334_0⟩:=Kd.at_int (Kd.R_reads' HO_13.out).2.2 (ji114) p334 q334
                          cases e334
                          replace p334:=eq_true p334
                          replace q334:=eq_true q334
                          have hnb119:=NB290_291.out
                          have hnc119:=NB291_290.out
                          obtain ⟨hcz120_0,hcz120_1,hcz120_2⟩:=cc3 BK290
                          obtain ⟨hfz120_0,hfz120_1,hfz120_2⟩:=ff3 BK290
                          go_wp2_with (first | ((with_reducible refine gate_callee (f:=73) rfl ?_);refine goesQ (some 121) Try.func73 #[.string a0,.agg #[.slice Ao100 t326.length co100,.int .i64 t329,.int .i64 t330],.int .i64 2] ?_;(with_reducible refine (celluloidref05_number.calls kj71 a0 (fun k_=>some k_=(.slice Ao100 t326.length co100:Value).ownBlock) (.slice Ao100 t326.length co100) t326 t329 t330 2 t335 t336 t339 t340 w0 _ (hn HB) (Kd.R_tight rfl HO328.out) A117.out).mono ?_);rintro e w121 ⟨v337,rfl,ho0,hb,hkp⟩;refine ⟨_,rfl,?_⟩;have n0_:=ka HO_10 HO328 hkp;have n1_:=ka HO_13 HO328 hkp;have n2_:=kb BK290 HO328 hkp;have n3_:=kb BK291 HO328 hkp;have n4_:=kr HO328 HK ho0;have n5_:=kt HK HO328 hkp;have n6_:=Aside0.mk hb;clear HO_10 HO_13 BK290 BK291 HK HB HO328;have HO_10:=n0_;have HO_13:=n1_;have BK290:=n2_;have BK291:=n3_;have HO338:=n4_;have HK:=n5_;have HB:=n6_;clear n0_ n1_ n2_ n3_ n4_ n5_ n6_;(try clear hb);(try clear hkp);(try clear ho0);obtain ⟨Ao122,co122,eo122⟩:=Kd.R_slice HO338.out;subst eo122;obtain ⟨hcz123_0,hcz123_1,hcz123_2⟩:=cc3 BK290;obtain ⟨hfz123_0,hfz123_1,hfz123_2⟩:=ff3 BK290) | ((with_reducible refine gate_store (t:=115) (p:=3) rfl ?_);refine stQ 115 3 ((((w121.setCell ⟨gb290,0,none⟩ (.slice Ao122 t336.length co122)).setCell ⟨gb290,1,none⟩ (.int .i64 t339)).setCell ⟨gb290,2,none⟩ (.int .i64 t340))) ?_;intro w124 hw;have n0_:=sR hw HO_10 BK290;have n1_:=sR hw HO_13 BK290;have n2_:=sR hw HO338 BK290;have n3_:=sP hw BK290;have n4_:=sF hw BK291 NB291_290;have n5_:=sK hw HK GW290;have n6_:=sB hw HB GE290;clear hw HO_10 HO_13 HO338 BK290 BK291 HK HB;have HO_10:=n0_;have HO_13:=n1_;have HO338:=n2_;have BK290:=n3_;have BK291:=n4_;have HK:=n5_;have HB:=n6_;clear n0_ n1_ n2_ n3_ n4_ n5_ n6_))
                          go_meet
                          case rel=>exact ⟨_,(rd x13_5 (ji114)),(wrap64 (t335+3)),(t336),(t339),(t340),(x292001_5),(x292002_5),(.slice Ao122 t336.length co122),(by first | rfl | (simp;done) | (simp only [← hji114] <;> (first | rfl | simp)) | (simp [*];done)),(by first | rfl | (simp;done) | (simp [*];done)),H',⟨by have:=HJ5.out;have:=HJ33.out;have:=HK3.out;have:=HJ60.out;have:=HK5.out;have:=HJ71.out;first | omega | exact Nat.le_refl _⟩,⟨rr HO_10⟩,⟨rr HO_13⟩,⟨rr HO338⟩,⟨bk BK290⟩,⟨bk BK291⟩,⟨hk HK⟩,⟨hn HB⟩⟩
                         ·rw [if_neg c116] at H
                          exact absurd H (by simp)
                        ·rw [if_neg c115] at H
                         exact absurd H (by simp)
                      ·rw [if_neg c104] at H
                       have c104b0:(t325 == 16)=false:=beq_eq_false_iff_ne.mpr c104
                       have c104b1:(t325 != 16)=true:=bne_iff_ne.mpr c104
                       (first | rw [c104b0] | (simp only [i64_w,i32_w];rw [c104b0]) | skip)
                       by_cases c125:t325=17
                       ·rw [if_pos c125] at H
                        have c125b0:(t325 == 17)=true:=beq_iff_eq.mpr c125
                        have c125b1:(t325 != 17)=false:=bne_eq_false_iff_eq.mpr c125
                        clear c125
                        replace H:=Option.bind_eq_some_iff.mp H
                        obtain ⟨⟨t341,t342,t345,t346⟩,A1260,H⟩:=H
                        replace H:(celluloidref05_lengths.j6 kj71 a0 t292 x10_3 x13_5 (wrap64 ((wrap64 (t292+t298))+258)) 0 (wrap64 (t341+3)) t342 t345 t346)=some (r1,r2,r3,r4,r5):=H
                        have A126:=Aside0.mk A1260
                        clear A1260
                        have H':=Aside0.mk H
                        clear H
                        have hnb127:=NB290_291.out
                        have hnc127:=NB291_290.out
                        obtain ⟨hcz128_0,hcz128_1,hcz128_2⟩:=cc3 BK290
                        obtain ⟨hfz128_0,hfz128_1,hfz128_2⟩:=ff3 BK290
                        go_wp2_with (first | ((with_reducible refine gate_callee (f:=73) rfl ?_);refine goesQ (some 131) Try.func73 #[.string a0,.agg #[.slice Ao100 t326.length co100,.int .i64 t329,.int .i64 t330],.int .i64 3] ?_;(with_reducible refine (celluloidref05_number.calls kj71 a0 (fun k_=>some k_=(.slice Ao100 t326.length co100:Value).ownBlock) (.slice Ao100 t326.length co100) t326 t329 t330 3 t341 t342 t345 t346 w0 _ (hn HB) (Kd.R_tight rfl HO328.out) A126.out).mono ?_);rintro e w129 ⟨v343,rfl,ho0,hb,hkp⟩;refine ⟨_,rfl,?_⟩;have n0_:=ka HO_10 HO328 hkp;have n1_:=ka HO_13 HO328 hkp;have n2_:=kb BK290 HO328 hkp;have n3_:=kb BK291 HO328 hkp;have n4_:=kr HO328 HK ho0;have n5_:=kt HK HO328 hkp;have n6_:=Aside0.mk hb;clear HO_10 HO_13 BK290 BK291 HK HB HO328;have HO_10:=n0_;have HO_13:=n1_;have BK290:=n2_;have BK291:=n3_;have HO344:=n4_;have HK:=n5_;have HB:=n6_;clear n0_ n1_ n2_ n3_ n4_ n5_ n6_;(try clear hb);(try clear hkp);(try clear ho0);obtain ⟨Ao130,co130,eo130⟩:=Kd.R_slice HO344.out;subst eo130;obtain ⟨hcz131_0,hcz131_1,hcz131_2⟩:=cc3 BK290;obtain ⟨hfz131_0,hfz131_1,hfz131_2⟩:=ff3 BK290) | ((with_reducible refine gate_store (t:=115) (p:=3) rfl ?_);refine stQ 115 3 ((((w129.setCell ⟨gb290,0,none⟩ (.slice Ao130 t342.length co130)).setCell ⟨gb290,1,none⟩ (.int .i64 t345)).setCell ⟨gb290,2,none⟩ (.int .i64 t346))) ?_;intro w132 hw;have n0_:=sR hw HO_10 BK290;have n1_:=sR hw HO_13 BK290;have n2_:=sR hw HO344 BK290;have n3_:=sP hw BK290;have n4_:=sF hw BK291 NB291_290;have n5_:=sK hw HK GW290;have n6_:=sB hw HB GE290;clear hw HO_10 HO_13 HO344 BK290 BK291 HK HB;have HO_10:=n0_;have HO_13:=n1_;have HO344:=n2_;have BK290:=n3_;have BK291:=n4_;have HK:=n5_;have HB:=n6_;clear n0_ n1_ n2_ n3_ n4_ n5_ n6_))
                        go_meet
                        case rel=>exact ⟨_,(0),(wrap64 (t341+3)),(t342),(t345),(t346),(x292001_5),(x292002_5),(.slice Ao130 t342.length co130),(by first | rfl | (simp;done) | (simp [*];done)),(by first | rfl | (simp;done) | (simp [*];done)),H',⟨by have:=HJ5.out;have:=HJ33.out;have:=HK3.out;have:=HJ60.out;have:=HK5.out;have:=HJ71.out;first | omega | exact Nat.le_refl _⟩,⟨rr HO_10⟩,⟨rr HO_13⟩,⟨rr HO344⟩,⟨bk BK290⟩,⟨bk BK291⟩,⟨hk HK⟩,⟨hn HB⟩⟩
                       ·rw [if_neg c125] at H
                        have c125b0:(t325 == 17)=false:=beq_eq_false_iff_ne.mpr c125
                        have c125b1:(t325 != 17)=true:=bne_iff_ne.mpr c125
                        by_cases c133:t325=18
                        ·rw [if_pos c133] at H
                         have c133b0:(t325 == 18)=true:=beq_iff_eq.mpr c133
                         have c133b1:(t325 != 18)=false:=bne_eq_false_iff_eq.mpr c133
                         clear c133
                         replace H:=Option.bind_eq_some_iff.mp H
                         obtain ⟨⟨t347,t348,t351,t352⟩,A1340,H⟩:=H
                         replace H:(celluloidref05_lengths.j6 kj71 a0 t292 x10_3 x13_5 (wrap64 ((wrap64 (t292+t298))+258)) 0 (wrap64 (t347+11)) t348 t351 t352)=some (r1,r2,r3,r4,r5):=H
                         have A134:=Aside0.mk A1340
                         clear A1340
                         have H':=Aside0.mk H
                         clear H
                         have hnb135:=NB290_291.out
                         have hnc135:=NB291_290.out
                         obtain ⟨hcz136_0,hcz136_1,hcz136_2⟩:=cc3 BK290
                         obtain ⟨hfz136_0,hfz136_1,hfz136_2⟩:=ff3 BK290
                         go_wp2_with (first | ((with_reducible refine gate_callee (f:=73) rfl ?_);refine goesQ (some 141) Try.func73 #[.string a0,.agg #[.slice Ao100 t326.length co100,.int .i64 t329,.int .i64 t330],.int .i64 7] ?_;(with_reducible refine (celluloidref05_number.calls kj71 a0 (fun k_=>some k_=(.slice Ao100 t326.length co100:Value).ownBlock) (.slice Ao100 t326.length co100) t326 t329 t330 7 t347 t348 t351 t352 w0 _ (hn HB) (Kd.R_tight rfl HO328.out) A134.out).mono ?_);rintro e w137 ⟨v349,rfl,ho0,hb,hkp⟩;refine ⟨_,rfl,?_⟩;have n0_:=ka HO_10 HO328 hkp;have n1_:=ka HO_13 HO328 hkp;have n2_:=kb BK290 HO328 hkp;have n3_:=kb BK291 HO328 hkp;have n4_:=kr HO328 HK ho0;have n5_:=kt HK HO328 hkp;have n6_:=Aside0.mk hb;clear HO_10 HO_13 BK290 BK291 HK HB HO328;have HO_10:=n0_;have HO_13:=n1_;have BK290:=n2_;have BK291:=n3_;have HO350:=n4_;have HK:=n5_;have HB:=n6_;clear n0_ n1_ n2_ n3_ n4_ n5_ n6_;(try clear hb);(try clear hkp);(try clear ho0);obtain ⟨Ao138,co138,eo138⟩:=Kd.R_slice HO350.out;subst eo138;obtain ⟨hcz139_0,hcz139_1,hcz139_2⟩:=cc3 BK290;obtain ⟨hfz139_0,hfz139_1,hfz139_2⟩:=ff3 BK290) | ((with_reducible refine gate_store (t:=115) (p:=3) rfl ?_);refine stQ 115 3 ((((w137.setCell ⟨gb290,0,none⟩ (.slice Ao138 t348.length co138)).setCell ⟨gb290,1,none⟩ (.int .i64 t351)).setCell ⟨gb290,2,none⟩ (.int .i64 t352))) ?_;intro w140 hw;have n0_:=sR hw HO_10 BK290;have n1_:=sR hw HO_13 BK290;have n2_:=sR hw HO350 BK290;have n3_:=sP hw BK290;have n4_:=sF hw BK291 NB291_290;have n5_:=sK hw HK GW290;have n6_:=sB hw HB GE290;clear hw HO_10 HO_13 HO350 BK290 BK291 HK HB;have HO_10:=n0_;have HO_13:=n1_;have HO350:=n2_;have BK290:=n3_;have BK291:=n4_;have HK:=n5_;have HB:=n6_;clear n0_ n1_ n2_ n3_ n4_ n5_ n6_))
                         go_meet
                         case rel=>exact ⟨_,(0),(wrap64 (t347+11)),(t348),(t351),(t352),(x292001_5),(x292002_5),(.slice Ao138 t348.length co138),(by first | rfl | (simp;done) | (simp [*];done)),(by first | rfl | (simp;done) | (simp [*];done)),H',⟨by have:=HJ5.out;have:=HJ33.out;have:=HK3.out;have:=HJ60.out;have:=HK5.out;have:=HJ71.out;first | omega | exact Nat.le_refl _⟩,⟨rr HO_10⟩,⟨rr HO_13⟩,⟨rr HO350⟩,⟨bk BK290⟩,⟨bk BK291⟩,⟨hk HK⟩,⟨hn HB⟩⟩
                        ·rw [if_neg c133] at H
                         have c133b0:(t325 == 18)=false:=beq_eq_false_iff_ne.mpr c133
                         have c133b1:(t325 != 18)=true:=bne_iff_ne.mpr c133
                         have H':=Aside0.mk H
                         clear H
                         go_wp2
                         go_meet
                         case rel=>exact ⟨_,(0),(0),(t326),(t329),(t330),(x292001_5),(x292002_5),(.slice Ao100 t326.length co100),(by first | rfl | (simp;done) | (simp [*];done)),(by first | rfl | (simp;done) | (simp [*];done)),H',⟨by have:=HJ5.out;have:=HJ33.out;have:=HK3.out;have:=HJ60.out;have:=HK5.out;have:=HJ71.out;first | omega | exact Nat.le_refl _⟩,⟨rr HO_10⟩,⟨rr HO_13⟩,⟨rr HO328⟩,⟨bk BK290⟩,⟨bk BK291⟩,⟨hk HK⟩,⟨hn HB⟩⟩
                     case rest =>
                      clear HC94
                      clear c81b0 c81b1 c82b0 hcz101_0 hcz101_1 hcz101_2 hcz103_0 hcz103_1 hcz103_2 hcz96_0 hcz96_1 hcz96_2 hfz101_0 hfz101_1 hfz101_2 hfz103_0 hfz103_1 hfz103_2 hfz96_0 hfz96_1 hfz96_2
                      obtain ⟨kq,x16_93,x17_93,x291000_93,x291001_93,x291002_93,x292001_93,x292002_93,u291000,rfl,rfl,HA,HJ93,HO_10,HO_13,HO_291000,BK290,BK291,HK,HB⟩:=hcut
                      cases kq with
                      |zero=>exact absurd HA.out (by simp [celluloidref05_lengths.j6])
                      |succ kj93 =>
                       have H:=HA.out
                       clear HA
                       simp only [celluloidref05_lengths.j6] at H
                       have H':=Aside0.mk H
                       clear H
                       go_wp2
                       go_loopg [13,18] kj93 (fun kq v13 v18 w'=>∃ (x13_8:List Int) (x18_8:Int),v18=.int .i64 x18_8∧Aside0 (celluloidref05_lengths.l2 kq a0 t292 x10_3 x13_8 (wrap64 ((wrap64 (t292+t298))+258)) x16_93 x17_93 x18_8 x291000_93 x291001_93 x291002_93=some (r1,r2,r3,r4,r5))∧Aside0 (kq≤kj93)∧Aside0 (Kd.R (Kd.int .i64) 3 w' w0.heap.size (fun k_=>(P1_0_ k_ ∨ w.heap.size≤k_)∧some k_ ≠ (v13:Value).ownBlock) (.slice Ao98 x10_3.length co98) x10_3)∧Aside0 (Kd.R (Kd.int .i64) 3 w' w0.heap.size (fun k_=>(P1_0_ k_ ∨ w.heap.size≤k_)∧some k_ ≠ ((.slice Ao98 x10_3.length co98):Value).ownBlock) v13 x13_8)∧Aside0 (Kd.R (Kd.int .u8) 5 w' w0.heap.size (fun k_=>(P1_0_ k_ ∨ w.heap.size≤k_)) u291000 x291000_93)∧Aside0 (w'.heap[gb290]?=some (.cells #[u291000,.int .i64 x291001_93,.int .i64 x291002_93] 115 (0,0)))∧Aside0 (w'.heap[gb291]?=some (.cells #[(.slice none 0 0),.int .i64 x292001_93,.int .i64 x292002_93] 115 (0,0)))∧Aside0 (Kept w w' (fun k_=>P1_0_ k_))∧Aside0 (Below w0.heap.size w0 w'))
                       case atStart=>exact ⟨(x13_5),(0),(by first | rfl | (simp;done) | (simp [*];done)),H',⟨Nat.le_refl _⟩,⟨rr HO_10⟩,⟨rr HO_13⟩,⟨rr HO_291000⟩,⟨bk BK290⟩,⟨bk BK291⟩,⟨hk HK⟩,⟨hn HB⟩⟩
                       case round =>
                        clear H'
                        obtain ⟨x13_8,x18_8,rfl,HA,HK8,HO_10,HO_13,HO_291000,BK290,BK291,HK,HB⟩:=hrel
                        cases gk with
                        |zero=>exact absurd HA.out (by simp [celluloidref05_lengths.l2])
                        |succ k8 =>
                         have H:=HA.out
                         clear HA
                         simp only [celluloidref05_lengths.l2] at H
                         by_cases c141:x18_8 < x17_93
                         ·rw [if_pos c141] at H
                          have c141b0:decide (x18_8 < x17_93)=true:=decide_eq_true c141
                          clear c141
                          by_cases c142:x13_8.length < 17592186044416
                          ·rw [if_pos c142] at H
                           have LMc142:=Aside0.mk c142
                           clear c142
                           obtain ⟨y353,hy353⟩:∃ y_:List Int,y_=(x13_8 ++ [x16_93]):=⟨_,rfl⟩
                           replace H:(celluloidref05_lengths.l2 k8 a0 t292 x10_3 y353 (wrap64 ((wrap64 (t292+t298))+258)) x16_93 x17_93 (wrap64 (x18_8+1)) x291000_93 x291001_93 x291002_93)=some (r1,r2,r3,r4,r5):=by first | (rw [hy353];with_reducible exact H) | (have H2_:=(Option.bind_some _ _).symm.trans H;rw [hy353];with_reducible exact H2_) | (have H2_:=(Option.bind_some _ _).symm.trans H;with_reducible exact H2_) | with_reducible exact H | (rw [hy353];exact H) | exact H
                           have Ny353:=Aside0.mk hy353
                           clear hy353
                           have H':=Aside0.mk H
                           clear H
                           go_wp2_with (first | ((with_reducible refine gate_builtin (b:=.append) (xs:=#[.tmp 151,.tmp 153]) rfl ?_);(try (refine gate_guard (by rfl) ?_;dsimp only));at_builtin;refine Kd.R_append (Kd.int .i64) (w0:=w0) w0.heap.size rfl (.tmp 151) (.tmp 153) 22 3 (.int .i64 0) 8 rfl Try.underlying22 info3 rfl (by decide) (by omega) u13 x13_8 x16_93 [.int .i64 x16_93] (fun k_=>(P1_0_ k_ ∨ w.heap.size≤k_)∧some k_ ≠ (.slice Ao98 x10_3.length co98:Value).ownBlock) (fun _=>False) rfl rfl ?aP (fun _ hk=>hk.elim) ?aF ?aO ?aB ?aS ?aL ?_;(case aP=>exact rfl);(case aB=>exact (hn HB));(case aF=>exact (fun k_ hk=>⟨(.inr (Nat.le_trans (by first | exact HK.out.1 | exact (show Kept w _ (fun k_=>P1_0_ k_) from by repeat (first | (with_reducible first | exact HK.out | apply Kept.alloc | apply Kept.drewN | apply Kept.drew | refine Kept.setCell ?_ (.inr GW290.out) _ | refine Kept.setCell ?_ (.inr GW291.out) _) | exact HK.out)).1) hk)),Kd.fresh' (Kd.R_lt (rr HO_10)) k_ hk⟩));(case aO=>exact (rr HO_13));(case aS=>exact (below_size (hn HB)));(case aL=>have:=LMc142.out;omega);intro v354 w143 ho hb hg hat;rw [← Ny353.out] at ho;have n0_:=Aside0.mk (Kd.R_after (ok:=(fun k_=>(P1_0_ k_ ∨ w.heap.size≤k_))) (rr HO_10) hg hat);have n1_:=Aside0.mk (Kd.R_over' (rr HO_291000) (Kd.R_typed (rr HO_13)) (by decide) hg);have n2_:=Aside0.mk (blk_grown (g:=gb290) (o:=.cells #[u291000,.int .i64 x291001_93,.int .i64 x291002_93] 115 (0,0)) (bk BK290) hg (Kd.R_ne HO_13.out BK290.out (by decide)));have n3_:=Aside0.mk (blk_grown (g:=gb291) (o:=.cells #[.slice none 0 0,.int .i64 x292001_93,.int .i64 x292002_93] 115 (0,0)) (bk BK291) hg (Kd.R_ne HO_13.out BK291.out (by decide)));have n4_:=Aside0.mk hb;have n5_:=Aside0.mk (Kept.of_grown (S:=(fun k_=>P1_0_ k_)) hg (hk HK) (fun k_ e_=>(HO_13.out.1 k_ e_).1));have n6_:=Aside0.mk ho;clear HO_10 HO_291000 BK290 BK291 HB HK HO_13;have HO_10:=n0_;have HO_291000:=n1_;have BK290:=n2_;have BK291:=n3_;have HB:=n4_;have HK:=n5_;have HO355:=n6_;clear n0_ n1_ n2_ n3_ n4_ n5_ n6_;clear ho hb hg hat))
                           go_roundg k8
                           case measure=>have:=HJ5.out;have:=HJ33.out;have:=HK3.out;have:=HJ60.out;have:=HK5.out;have:=HJ71.out;have:=HJ93.out;have:=HK8.out;omega
                           case rel=>exact ⟨(y353),(wrap64 (x18_8+1)),(by first | rfl | (simp;done) | (simp [*];done)),H',⟨by have:=HJ5.out;have:=HJ33.out;have:=HK3.out;have:=HJ60.out;have:=HK5.out;have:=HJ71.out;have:=HJ93.out;have:=HK8.out;omega⟩,⟨rr HO_10⟩,⟨rr HO355⟩,⟨rr HO_291000⟩,⟨bk BK290⟩,⟨bk BK291⟩,⟨hk HK⟩,⟨hn HB⟩⟩
                          ·rw [if_neg c142] at H
                           exact absurd H (by simp)
                         ·rw [if_neg c141] at H
                          have c141b0:decide (x18_8 < x17_93)=false:=decide_eq_false c141
                          clear c141
                          have H':=Aside0.mk H
                          clear H
                          go_wp2
                          go_roundg k8
                          case measure=>have:=HJ5.out;have:=HJ33.out;have:=HK3.out;have:=HJ60.out;have:=HK5.out;have:=HJ71.out;have:=HJ93.out;have:=HK8.out;omega
                          case rel=>exact ⟨(x13_8),(x291000_93),(x291001_93),(x291002_93),(x292001_93),(x292002_93),(u291000),H',⟨by have:=HJ5.out;have:=HJ33.out;have:=HK3.out;have:=HJ60.out;have:=HK5.out;have:=HJ71.out;have:=HJ93.out;have:=HK8.out;omega⟩,⟨rr HO_10⟩,⟨rr HO_13⟩,⟨rr HO_291000⟩,⟨bk BK290⟩,⟨bk BK291⟩,⟨hk HK⟩,⟨hn HB⟩⟩
                   ·rw [if_neg c81] at H
                    have c81b0:(t330 == 0)=false:=beq_eq_false_iff_ne.mpr c81
                    have c81b1:(t330 != 0)=true:=bne_iff_ne.mpr c81
                    have H':=Aside0.mk H
                    clear H
                    have hnb144:=NB290_291.out
                    have hnc144:=NB291_290.out
                    obtain ⟨hcz145_0,hcz145_1,hcz145_2⟩:=cc3 BK290
                    obtain ⟨hfz145_0,hfz145_1,hfz145_2⟩:=ff3 BK290
                    obtain ⟨Ao146,co146,eo146⟩:=Kd.R_slice HO_291000.out
                    subst eo146
                    obtain ⟨Ao147,co147,eo147⟩:=Kd.R_slice HO_10.out
                    subst eo147
                    go_wp2_with (first | ((with_reducible refine gate_callee (f:=101) rfl ?_);refine goesQ (some 92) Try.func101 #[.string a0,.agg #[.slice Ao146 x291000_5.length co146,.int .i64 x291001_5,.int .i64 x291002_5],.slice Ao147 x10_3.length co147] ?_;(with_reducible refine (celluloidref05_symbol.calls kj71 a0 (fun k_=>some k_=(.slice Ao146 x291000_5.length co146:Value).ownBlock) (.slice Ao146 x291000_5.length co146) x291000_5 x291001_5 x291002_5 _ _ x10_3 t325 t326 t329 t330 w0 _ (hn HB) (Kd.R_tight rfl HO_291000.out) ?side3 ?side4 A80.out).mono ?_);(case side3=>exact Kd.C_kept_own ((Kd.R_apart' HO_10.out (Kd.R_typed HO_291000.out) (by decide))) (fun k_ hk_ hs_=>(hk_.2) hs_));(case side4=>exact (Kd.R_reads' HO_10.out).2.1);rintro e w148 ⟨v327,rfl,ho0,hb,hkp⟩;refine ⟨_,rfl,?_⟩;have n0_:=ka HO_10 HO_291000 hkp;have n1_:=ka HO_13 HO_291000 hkp;have n2_:=kb BK290 HO_291000 hkp;have n3_:=kb BK291 HO_291000 hkp;have n4_:=kr HO_291000 HK ho0;have n5_:=kt HK HO_291000 hkp;have n6_:=Aside0.mk hb;clear HO_10 HO_13 BK290 BK291 HK HB HO_291000;have HO_10:=n0_;have HO_13:=n1_;have BK290:=n2_;have BK291:=n3_;have HO328:=n4_;have HK:=n5_;have HB:=n6_;clear n0_ n1_ n2_ n3_ n4_ n5_ n6_;(try clear hb);(try clear hkp);(try clear ho0);obtain ⟨Ao149,co149,eo149⟩:=Kd.R_slice HO328.out;subst eo149;obtain ⟨hcz150_0,hcz150_1,hcz150_2⟩:=cc3 BK290;obtain ⟨hfz150_0,hfz150_1,hfz150_2⟩:=ff3 BK290) | ((with_reducible refine gate_store (t:=115) (p:=3) rfl ?_);refine stQ 115 3 ((((w148.setCell ⟨gb290,0,none⟩ (.slice Ao149 t326.length co149)).setCell ⟨gb290,1,none⟩ (.int .i64 t329)).setCell ⟨gb290,2,none⟩ (.int .i64 t330))) ?_;intro w151 hw;have n0_:=sR hw HO_10 BK290;have n1_:=sR hw HO_13 BK290;have n2_:=sR hw HO328 BK290;have n3_:=sP hw BK290;have n4_:=sF hw BK291 NB291_290;have n5_:=sK hw HK GW290;have n6_:=sB hw HB GE290;clear hw HO_10 HO_13 HO328 BK290 BK291 HK HB;have HO_10:=n0_;have HO_13:=n1_;have HO328:=n2_;have BK290:=n3_;have BK291:=n4_;have HK:=n5_;have HB:=n6_;clear n0_ n1_ n2_ n3_ n4_ n5_ n6_;obtain ⟨hcz152_0,hcz152_1,hcz152_2⟩:=cc3 BK290;obtain ⟨hfz152_0,hfz152_1,hfz152_2⟩:=ff3 BK290))
                    go_meet
                    case rel=>exact ⟨_,(x13_5),(t326),(t329),(t330),(x292001_5),(x292002_5),(.slice Ao149 t326.length co149),H',⟨by have:=HJ5.out;have:=HJ33.out;have:=HK3.out;have:=HJ60.out;have:=HK5.out;have:=HJ71.out;first | omega | exact Nat.le_refl _⟩,⟨by (with_reducible repeat (first | apply Kd.R_alloc | apply Kd.R_drewN | apply Kd.R_drew));exact Kd.R_mono HO_13.out (fun _ hk=>hk.1)⟩,⟨rr HO328⟩,⟨bk BK290⟩,⟨bk BK291⟩,⟨hk HK⟩,⟨hn HB⟩⟩
                  ·replace c79:=Bool.eq_false_iff.mpr c79
                   subst c79
                   have H1:(celluloidref05_lengths.j8 kj71 t292 x13_5 (wrap64 ((wrap64 (t292+t298))+258)) x291000_5 x291001_5 x291002_5)=some (r1,r2,r3,r4,r5):=by rw [if_neg (show ¬ (false=true) by decide)] at H;exact H
                   clear H
                   have H:=H1
                   clear H1
                   have H':=Aside0.mk H
                   clear H
                   go_wp2
                   go_meet
                   case rel=>exact ⟨_,(x13_5),(x291000_5),(x291001_5),(x291002_5),(x292001_5),(x292002_5),(u291000),H',⟨by have:=HJ5.out;have:=HJ33.out;have:=HK3.out;have:=HJ60.out;have:=HK5.out;have:=HJ71.out;first | omega | exact Nat.le_refl _⟩,⟨by (with_reducible repeat (first | apply Kd.R_alloc | apply Kd.R_drewN | apply Kd.R_drew));exact Kd.R_mono HO_13.out (fun _ hk=>hk.1)⟩,⟨rr HO_291000⟩,⟨bk BK290⟩,⟨bk BK291⟩,⟨hk HK⟩,⟨hn HB⟩⟩
            case rest =>
             as_aux_lemma =>
              clear HC71
              obtain ⟨kq,x13_70,x291000_70,x291001_70,x291002_70,x292001_70,x292002_70,u291000,HA,HJ70,HO_13,HO_291000,BK290,BK291,HK,HB⟩:=hcut
              cases kq with
              |zero=>exact absurd HA.out (by simp [celluloidref05_lengths.j8])
              |succ kj70 =>
               have H:=HA.out
               clear HA
               simp only [celluloidref05_lengths.j8] at H
               have HC153:=Aside0.mk H
               clear H
               go_upto_region 42 with (fail)
               go_cut [169] (fun v169 wc=>∃ (kq:Nat) (x169_152:Bool),v169=.bool x169_152∧Aside0 (celluloidref05_lengths.j9 kq t292 x13_70 x169_152 x291000_70 x291001_70 x291002_70=some (r1,r2,r3,r4,r5))∧Aside0 (kq≤kj70)∧Aside0 (Kd.R (Kd.int .i64) 3 wc w0.heap.size (fun k_=>(P1_0_ k_ ∨ w.heap.size≤k_)) u13 x13_70)∧Aside0 (Kd.R (Kd.int .u8) 5 wc w0.heap.size (fun k_=>(P1_0_ k_ ∨ w.heap.size≤k_)) u291000 x291000_70)∧Aside0 (wc.heap[gb290]?=some (.cells #[u291000,.int .i64 x291001_70,.int .i64 x291002_70] 115 (0,0)))∧Aside0 (wc.heap[gb291]?=some (.cells #[(.slice none 0 0),.int .i64 x292001_70,.int .i64 x292002_70] 115 (0,0)))∧Aside0 (Kept w wc (fun k_=>P1_0_ k_))∧Aside0 (Below w0.heap.size w0 wc))
               case first =>
                have H:=HC153.out
                clear HC153
                by_cases c154:x291002_70=0
                ·rw [if_pos c154] at H
                 have c154b0:(x291002_70 == 0)=true:=beq_iff_eq.mpr c154
                 have c154b1:(x291002_70 != 0)=false:=bne_eq_false_iff_eq.mpr c154
                 clear c154
                 (first | rw [c154b0] | (simp only [i64_w,i32_w];rw [c154b0]) | skip)
                 by_cases c155:(x13_70.length:Int)=(wrap64 ((wrap64 (t292+t298))+258))
                 ·rw [if_pos c155] at H
                  have c155b0:((x13_70.length:Int) == (wrap64 ((wrap64 (t292+t298))+258)))=true:=beq_iff_eq.mpr c155
                  have c155b1:((x13_70.length:Int) != (wrap64 ((wrap64 (t292+t298))+258)))=false:=bne_eq_false_iff_eq.mpr c155
                  clear c155
                  by_cases c156:256 < (x13_70.length:Int)
                  ·rw [if_pos c156] at H
                   have c156b0:decide (256 < (x13_70.length:Int))=true:=decide_eq_true c156
                   have c156b1:decide (256 < x13_70.length)=true:=decide_eq_true (by omega)
                   clear c156
                   have H':=Aside0.mk H
                   clear H
                   have hnb157:=NB290_291.out
                   have hnc157:=NB291_290.out
                   obtain ⟨hcz158_0,hcz158_1,hcz158_2⟩:=cc3 BK290
                   obtain ⟨hfz158_0,hfz158_1,hfz158_2⟩:=ff3 BK290
                   obtain ⟨Ao159,co159,eo159⟩:=Kd.R_slice HO_13.out
                   subst eo159
                   have p356:0≤(256:Int):=(by omega)
                   have q356:256 < (x13_70.length:Int):=of_decide_eq_true (by first | (with_reducible assumption) | assumption)
                   obtain ⟨ad356,e356,hx356_0⟩:=Kd.at_int (Kd.R_reads' HO_13.out).2.2 256 p356 q356
                   cases e356
                   (try simp only [show (256:Int).toNat=256 from rfl,Nat.reduceMul,Nat.reduceEqDiff,Go.Addr.add,↓reduceIte] at hx356_0)
                   have qi356:(256 < x13_70.length)=True:=eq_true (by omega)
                   (try rw [show ((256:Int)).toNat=256 from rfl] at hx356_0)
                   replace p356:=eq_true p356
                   replace q356:=eq_true q356
                   go_wp2
                   go_meet
                   case rel=>exact ⟨_,(((rd x13_70 256) == 0)),(by first | rfl | (simp;done) | (simp [*];done)),H',⟨by have:=HJ5.out;have:=HJ33.out;have:=HK3.out;have:=HJ60.out;have:=HJ70.out;first | omega | exact Nat.le_refl _⟩,⟨rr HO_13⟩,⟨rr HO_291000⟩,⟨bk BK290⟩,⟨bk BK291⟩,⟨hk HK⟩,⟨hn HB⟩⟩
                  ·rw [if_neg c156] at H
                   exact absurd H (by simp)
                 ·rw [if_neg c155] at H
                  have c155b0:((x13_70.length:Int) == (wrap64 ((wrap64 (t292+t298))+258)))=false:=beq_eq_false_iff_ne.mpr c155
                  have c155b1:((x13_70.length:Int) != (wrap64 ((wrap64 (t292+t298))+258)))=true:=bne_iff_ne.mpr c155
                  have H':=Aside0.mk H
                  clear H
                  have hnb160:=NB290_291.out
                  have hnc160:=NB291_290.out
                  obtain ⟨hcz161_0,hcz161_1,hcz161_2⟩:=cc3 BK290
                  obtain ⟨hfz161_0,hfz161_1,hfz161_2⟩:=ff3 BK290
                  obtain ⟨Ao162,co162,eo162⟩:=Kd.R_slice HO_13.out
                  subst eo162
                  go_wp2
                  go_meet
                  case rel=>exact ⟨_,(true),(by first | rfl | (simp;done) | (simp [*];done)),H',⟨by have:=HJ5.out;have:=HJ33.out;have:=HK3.out;have:=HJ60.out;have:=HJ70.out;first | omega | exact Nat.le_refl _⟩,⟨rr HO_13⟩,⟨rr HO_291000⟩,⟨bk BK290⟩,⟨bk BK291⟩,⟨hk HK⟩,⟨hn HB⟩⟩
                ·rw [if_neg c154] at H
                 have c154b0:(x291002_70 == 0)=false:=beq_eq_false_iff_ne.mpr c154
                 have c154b1:(x291002_70 != 0)=true:=bne_iff_ne.mpr c154
                 (first | rw [c154b0] | (simp only [i64_w,i32_w];rw [c154b0]) | skip)
                 have H':=Aside0.mk H
                 clear H
                 have hnb163:=NB290_291.out
                 have hnc163:=NB291_290.out
                 obtain ⟨hcz164_0,hcz164_1,hcz164_2⟩:=cc3 BK290
                 obtain ⟨hfz164_0,hfz164_1,hfz164_2⟩:=ff3 BK290
                 go_wp2
                 go_meet
                 case rel=>exact ⟨_,(false),(by first | rfl | (simp;done) | (simp [*];done)),H',⟨by have:=HJ5.out;have:=HJ33.out;have:=HK3.out;have:=HJ60.out;have:=HJ70.out;first | omega | exact Nat.le_refl _⟩,⟨rr HO_13⟩,⟨rr HO_291000⟩,⟨bk BK290⟩,⟨bk BK291⟩,⟨hk HK⟩,⟨hn HB⟩⟩
               case rest =>
                clear HC153
                obtain ⟨kq,x169_152,rfl,HA,HJ152,HO_13,HO_291000,BK290,BK291,HK,HB⟩:=hcut
                cases kq with
                |zero=>exact absurd HA.out (by simp [celluloidref05_lengths.j9])
                |succ kj152 =>
                 have H:=HA.out
                 clear HA
                 simp only [celluloidref05_lengths.j9] at H
                 by_cases c165:x169_152=true
                 ·subst c165
                  have H1:(if 3=0 then (if 0≤(wrap64 (t292+257)) then (if (wrap64 (t292+257)) < (x13_70.length:Int) then (some (x13_70,(([wrap64 (t292+257)]:List Int)),x291000_70,x291001_70,3)) else (none)) else (none)) else (some (([]:List Int),([]:List Int),x291000_70,x291001_70,3)))=some (r1,r2,r3,r4,r5):=by rw [if_pos rfl] at H;exact H
                  clear H
                  have H:=H1
                  clear H1
                  by_cases c166:3=0
                  ·exact absurd c166 (by decide)
                  ·rw [if_neg c166] at H
                   have c166b0:(3 == 0)=false:=beq_eq_false_iff_ne.mpr c166
                   have c166b1:(3 != 0)=true:=bne_iff_ne.mpr c166
                   simp only [Option.some.injEq,Prod.mk.injEq] at H
                   obtain ⟨rfl,rfl,rfl,rfl,rfl⟩:=H
                   have hnb183:=NB290_291.out
                   have hnc183:=NB291_290.out
                   obtain ⟨hcz184_0,hcz184_1,hcz184_2⟩:=cc3 BK290
                   obtain ⟨hfz184_0,hfz184_1,hfz184_2⟩:=ff3 BK290
                   try go_wp2_with (first | ((with_reducible refine gate_store (t:=3) (p:=170) rfl ?_);refine stQ 3 170 ((wc.setCell ⟨gb290,2,none⟩ (.int .i64 3))) ?_;intro w185 hw;have n0_:=sR hw HO_13 BK290;have n1_:=sR hw HO_291000 BK290;have n2_:=sP2 hw BK290;have n3_:=sF hw BK291 NB291_290;have n4_:=sK hw HK GW290;have n5_:=sB hw HB GE290;clear hw HO_13 HO_291000 BK290 BK291 HK HB;have HO_13:=n0_;have HO_291000:=n1_;have BK290:=n2_;have BK291:=n3_;have HK:=n4_;have HB:=n5_;clear n0_ n1_ n2_ n3_ n4_ n5_;obtain ⟨hcz186_0,hcz186_1,hcz186_2⟩:=cc3 BK290;obtain ⟨hfz186_0,hfz186_1,hfz186_2⟩:=ff3 BK290))
                   have n0_:=Aside0.mk (Kd.R_drew HO_13.out)
                   have n1_:=Aside0.mk (Kd.R_drew HO_291000.out)
                   have n2_:=Aside0.mk (blk_drew BK290.out)
                   have n3_:=Aside0.mk (blk_drew BK291.out)
                   have n4_:=Aside0.mk (Kept.drew HK.out)
                   have n5_:=Aside0.mk (below_drew1 HB.out)
                   clear HO_13
                   clear HO_291000
                   clear BK290
                   clear BK291
                   clear HK
                   clear HB
                   have HO_13:=n0_
                   have HO_291000:=n1_
                   have BK290:=n2_
                   have BK291:=n3_
                   have HK:=n4_
                   have HB:=n5_
                   clear n0_ n1_ n2_ n3_ n4_ n5_
                   obtain ⟨Ao188,co188,eo188⟩:=Kd.R_slice HO_291000.out
                   (first | subst eo188 | (injection eo188 with f1_ f2_ f3_;have f4_:=f1_.symm;have f5_:=f3_.symm;clear f1_ f2_ f3_;subst f4_;subst f5_))
                   refine start_ (n:=4) (S:=fun w'=>w'.cell? ⟨gb290,0,none⟩=some (.slice Ao188 x291000_70.length co188)∧w'.cell? ⟨gb290,1,none⟩=some (.int .i64 x291001_70)∧w'.cell? ⟨gb290,2,none⟩=some (.int .i64 3)) (ds:=[]) #[false,false,false,false] (by kernel_rfl) rfl rfl ⟨(blk_cell BK290.out 0).trans rfl,(blk_cell BK290.out 1).trans rfl,(blk_cell BK290.out 2).trans rfl⟩ (fun hHeld=>?_)
                   generalize w185.drew=w187 at HO_13 HO_291000 BK290 BK291 HK HB hHeld ⊢
                   refine pureQ 1 (some 4) #[false,true,false,false] (by kernel_rfl) ?_
                   refine pureQ 2 (some 5) #[false,true,true,false] (by kernel_rfl) ?_
                   refine take_ (i:=0) (N:=some 174) (v:=?_) (a':=?_) (tk 3 1) rfl rfl (by kernel_rfl) (fun _ _ _ h=>h) (Or.inl ⟨by rfl,?_⟩) hHeld ?_ ?_
                   rotate_left
                   ·rintro w' ⟨s0,s1,s2⟩
                    go_simp
                    with_reducible rfl
                   rotate_left
                   ·simp only [Act.put,List.setIfInBounds_toArray,List.set_cons_zero,List.set_cons_succ,i64_w,i32_w]
                    rfl
                   refine one_ (i:=3) (N:=none) (tk 4 0) rfl rfl (by kernel_rfl) (by decide) (fun K hK=>?_)
                   have hs189:w187.cell? ⟨gb291,0,none⟩=some (.slice none 0 0):=(blk_cell BK291.out 0).trans rfl
                   have hfs189:=blk_frozen BK291.out 0
                   have hns189_0:=NB290_291.out
                   have hms189_0:=NB291_290.out
                   have hs190:w187.cell? ⟨gb291,1,none⟩=some (.int .i64 x292001_70):=(blk_cell BK291.out 1).trans rfl
                   have hfs190:=blk_frozen BK291.out 1
                   have hns190_0:=NB290_291.out
                   have hms190_0:=NB291_290.out
                   have hs191:w187.cell? ⟨gb291,2,none⟩=some (.int .i64 x292002_70):=(blk_cell BK291.out 2).trans rfl
                   have hfs191:=blk_frozen BK291.out 2
                   have hns191_0:=NB290_291.out
                   have hms191_0:=NB291_290.out
                   refine skip_ (w1:=?_) (by rfl) rfl ?_ ?_
                   rotate_left
                   ·go_simp
                    rfl
                   refine hK.out _ _ ⟨((cell_far (p:=⟨gb291,_,none⟩) NB290_291.out _).trans (((cell_far (p:=⟨gb291,_,none⟩) NB290_291.out _).trans (((cell_far (p:=⟨gb291,_,none⟩) NB290_291.out _).trans (hHeld.1)))))),((cell_far (p:=⟨gb291,_,none⟩) NB290_291.out _).trans (((cell_far (p:=⟨gb291,_,none⟩) NB290_291.out _).trans (((cell_far (p:=⟨gb291,_,none⟩) NB290_291.out _).trans (hHeld.2.1)))))),((cell_far (p:=⟨gb291,_,none⟩) NB290_291.out _).trans (((cell_far (p:=⟨gb291,_,none⟩) NB290_291.out _).trans (((cell_far (p:=⟨gb291,_,none⟩) NB290_291.out _).trans (hHeld.2.2))))))⟩ (fun hHeld=>?_)
                   clear hK K
                   refine done_ (by kernel_rfl) ?_
                   try go_wp2
                   refine bodyPost_ret (results_list (rs:=[.tmp 4,.tmp 5,.cell 6 115]) rfl (by simp) (.tmp (.tmp (.cell gb291 115 #[.slice Ao188 x291000_70.length co188,.int .i64 x291001_70,.int .i64 3] (0,0) _ rfl (bq BK291) Try.underlying115 rfl (by kernel_rfl) .nil)))) rfl ?_
                   exact LenP.nil' ⟨by first | rfl | (simp [errW_none,errW_some] <;> rfl) | (simp [*,errW_none,errW_some] <;> rfl),by (with_reducible repeat (first | apply Kd.R_alloc | apply Kd.R_drewN | apply Kd.R_drew));exact Kd.R_mono (Kd.R_far (p:=⟨gb291,2,none⟩) (Kd.R_far (p:=⟨gb291,1,none⟩) (Kd.R_far (p:=⟨gb291,0,none⟩) (Kd.R_types HO_291000.out BK291.out (by decide)) (fun _ hk=>hk.2) (.slice Ao188 x291000_70.length co188)) (fun _ hk=>hk.2) (.int .i64 x291001_70)) (fun _ hk=>hk.2) (.int .i64 3)) (fun _ hk=>hk.1),hn HB,hk HK⟩
                 ·replace c165:=Bool.eq_false_iff.mpr c165
                  subst c165
                  have H1:(if x291002_70=0 then (if 0≤(wrap64 (t292+257)) then (if (wrap64 (t292+257)) < (x13_70.length:Int) then (some (x13_70,(([wrap64 (t292+257)]:List Int)),x291000_70,x291001_70,x291002_70)) else (none)) else (none)) else (some (([]:List Int),([]:List Int),x291000_70,x291001_70,x291002_70)))=some (r1,r2,r3,r4,r5):=by rw [if_neg (show ¬ (false=true) by decide)] at H;exact H
                  clear H
                  have H:=H1
                  clear H1
                  by_cases c192:x291002_70=0
                  ·rw [if_pos c192] at H
                   have c192b0:(x291002_70 == 0)=true:=beq_iff_eq.mpr c192
                   have c192b1:(x291002_70 != 0)=false:=bne_eq_false_iff_eq.mpr c192
                   clear c192
                   obtain ⟨ji193,hji193⟩:∃ j_:Int,(wrap64 (t292+257))=j_:=⟨_,rfl⟩
                   replace H:(if 0≤(ji193) then (if (ji193) < (x13_70.length:Int) then (some (x13_70,(([ji193]:List Int)),x291000_70,x291001_70,x291002_70)) else (none)) else (none))=some (r1,r2,r3,r4,r5):=by first | (rw [hji193] at H;exact H) | (simp only [hji193] at H ⊢;exact H)
                   have hji193w:(IntKind.i64.wrap (t292+257))=ji193:=(i64_w _).trans hji193
                   by_cases c194:0≤(ji193)
                   ·rw [if_pos c194] at H
                    have c194b0:decide (0≤(ji193))=true:=decide_eq_true c194
                    clear c194
                    by_cases c195:(ji193) < (x13_70.length:Int)
                    ·rw [if_pos c195] at H
                     have c195b0:decide ((ji193) < (x13_70.length:Int))=true:=decide_eq_true c195
                     clear c195
                     obtain ⟨y362,hy362⟩:∃ y_:List Int,y_=(([ji193]:List Int)):=⟨_,rfl⟩
                     replace H:(some (x13_70,y362,x291000_70,x291001_70,x291002_70))=some (r1,r2,r3,r4,r5):=by first | (rw [hy362];with_reducible exact H) | (have H2_:=(Option.bind_some _ _).symm.trans H;rw [hy362];with_reducible exact H2_) | (have H2_:=(Option.bind_some _ _).symm.trans H;with_reducible exact H2_) | with_reducible exact H | (rw [hy362];exact H) | exact H
                     have Ny362:=Aside0.mk hy362
                     clear hy362
                     simp only [Option.some.injEq,Prod.mk.injEq] at H
                     obtain ⟨rfl,rfl,rfl,rfl,rfl⟩:=H
                     have pA:0≤ji193:=of_decide_eq_true c194b0
                     have qA:ji193 < (x13_70.length:Int):=of_decide_eq_true c195b0
                     obtain ⟨na,hna⟩:∃ na:Nat,ji193=(na:Int):=⟨ji193.toNat,(Int.toNat_of_nonneg pA).symm⟩
                     subst hna
                     have hnl:na < x13_70.length:=Int.ofNat_lt.1 qA
                     obtain ⟨gl,cl,el,hgb,hgl,hcl⟩:=Kd.R_form HO_13.out (Nat.lt_of_le_of_lt (Nat.zero_le _) hnl)
                     subst el
                     obtain ⟨Ao_,co_,eo_⟩:=Kd.R_slice HO_291000.out
                     subst eo_
                     have hc1:x13_70.length≤cl:=(Kd.R_reads' HO_13.out).2.1
                     have hnl0:((0:Int)≤(na:Int))=True:=eq_true pA
                     have hnl1:((na:Int)≤(x13_70.length:Int))=True:=eq_true (Int.le_of_lt qA)
                     have hnl2:((na:Int)≤(cl:Int))=True:=eq_true (Int.le_trans (Int.le_of_lt qA) (Int.ofNat_le.2 hc1))
                     have hncl:(cl=na)=False:=eq_false (fun e_=>Nat.lt_irrefl _ (Nat.lt_of_lt_of_le hnl (e_ ▸ hc1)))
                     have hcy_0:wc.cell? ⟨gb290,0,none⟩=some (.slice Ao_ x291000_70.length co_):=(blk_cell BK290.out 0).trans rfl
                     have hcy_1:wc.cell? ⟨gb290,1,none⟩=some (.int .i64 x291001_70):=(blk_cell BK290.out 1).trans rfl
                     have hcy_2:wc.cell? ⟨gb290,2,none⟩=some (.int .i64 x291002_70):=(blk_cell BK290.out 2).trans rfl
                     go_upto_region 46 with (fail)
                     go_still_tail 11,(by kernel_rfl)
                     change wpList _ _ _ _ _ wc.drew
                     clear hcy_0 hcy_1 hcy_2
                     replace HO_13:=Aside0.mk (Kd.R_drew HO_13.out)
                     replace HO_291000:=Aside0.mk (Kd.R_drew HO_291000.out)
                     replace BK290:=Aside0.mk (blk_drew BK290.out)
                     replace BK291:=Aside0.mk (blk_drew BK291.out)
                     replace HK:=Aside0.mk (Kept.drew HK.out)
                     replace HB:=Aside0.mk (below_drew1 HB.out)
                     generalize wc.drew=w9 at HO_13 HO_291000 BK290 BK291 HK HB ⊢
                     have hs_0:w9.cell? ⟨gb291,0,none⟩=some (.slice none 0 0):=(blk_cell BK291.out 0).trans rfl
                     have hs_1:w9.cell? ⟨gb291,1,none⟩=some (.int .i64 x292001_70):=(blk_cell BK291.out 1).trans rfl
                     have hs_2:w9.cell? ⟨gb291,2,none⟩=some (.int .i64 x292002_70):=(blk_cell BK291.out 2).trans rfl
                     have hfs_0:=blk_frozen BK291.out 0
                     have hfs_1:=blk_frozen BK291.out 1
                     have hfs_2:=blk_frozen BK291.out 2
                     have hns_:=NB290_291.out
                     have hms_:=NB291_290.out
                     go_wp2
                     refine bodyPost_ret (results_list (rs:=[.tmp 4,.tmp 5,.cell 6 115]) rfl (by simp) (.tmp (.tmp (.cell gb291 115 #[.slice Ao_ x291000_70.length co_,.int .i64 x291001_70,.int .i64 x291002_70] (0,0) _ rfl (by refine blk_put (cs:=#[.slice Ao_ x291000_70.length co_,.int .i64 x291001_70,.int .i64 x292002_70]) ?_ 2 _ rfl;refine blk_put (cs:=#[.slice Ao_ x291000_70.length co_,.int .i64 x292001_70,.int .i64 x292002_70]) ?_ 1 _ rfl;refine blk_put (cs:=#[.slice none 0 0,.int .i64 x292001_70,.int .i64 x292002_70]) ?_ 0 _ rfl;exact BK291.out) Try.underlying115 rfl (by kernel_rfl) .nil)))) rfl ?_
                     rw [Ny362.out]
                     exact LenP.cut hnl (Kd.R_mono (Kd.R_far (p:=⟨gb291,2,none⟩) (Kd.R_far (p:=⟨gb291,1,none⟩) (Kd.R_far (p:=⟨gb291,0,none⟩) (Kd.R_types HO_13.out BK291.out (by decide)) (fun _ hk=>hk.2) (.slice Ao_ x291000_70.length co_)) (fun _ hk=>hk.2) (.int .i64 x291001_70)) (fun _ hk=>hk.2) (.int .i64 x291002_70)) (fun _ hk=>hk.1)) (by first | rfl | (simp;done) | (simp [Addr.add];done)) (Kd.R_mono (Kd.R_far (p:=⟨gb291,2,none⟩) (Kd.R_far (p:=⟨gb291,1,none⟩) (Kd.R_far (p:=⟨gb291,0,none⟩) (Kd.R_types HO_291000.out BK291.out (by decide)) (fun _ hk=>hk.2) (.slice Ao_ x291000_70.length co_)) (fun _ hk=>hk.2) (.int .i64 x291001_70)) (fun _ hk=>hk.2) (.int .i64 x291002_70)) (fun _ hk=>hk.1)) (hn HB) (hk HK)
                    ·rw [if_neg c195] at H
                     exact absurd H (by simp)
                   ·rw [if_neg c194] at H
                    exact absurd H (by simp)
                  ·rw [if_neg c192] at H
                   have c192b0:(x291002_70 == 0)=false:=beq_eq_false_iff_ne.mpr c192
                   have c192b1:(x291002_70 != 0)=true:=bne_iff_ne.mpr c192
                   simp only [Option.some.injEq,Prod.mk.injEq] at H
                   obtain ⟨rfl,rfl,rfl,rfl,rfl⟩:=H
                   have hnb207:=NB290_291.out
                   have hnc207:=NB291_290.out
                   obtain ⟨hcz208_0,hcz208_1,hcz208_2⟩:=cc3 BK290
                   obtain ⟨hfz208_0,hfz208_1,hfz208_2⟩:=ff3 BK290
                   try go_wp2
                   have n0_:=Aside0.mk (Kd.R_drew HO_13.out)
                   have n1_:=Aside0.mk (Kd.R_drew HO_291000.out)
                   have n2_:=Aside0.mk (blk_drew BK290.out)
                   have n3_:=Aside0.mk (blk_drew BK291.out)
                   have n4_:=Aside0.mk (Kept.drew HK.out)
                   have n5_:=Aside0.mk (below_drew1 HB.out)
                   clear HO_13
                   clear HO_291000
                   clear BK290
                   clear BK291
                   clear HK
                   clear HB
                   have HO_13:=n0_
                   have HO_291000:=n1_
                   have BK290:=n2_
                   have BK291:=n3_
                   have HK:=n4_
                   have HB:=n5_
                   clear n0_ n1_ n2_ n3_ n4_ n5_
                   obtain ⟨Ao210,co210,eo210⟩:=Kd.R_slice HO_291000.out
                   (first | subst eo210 | (injection eo210 with f1_ f2_ f3_;have f4_:=f1_.symm;have f5_:=f3_.symm;clear f1_ f2_ f3_;subst f4_;subst f5_))
                   refine start_ (n:=4) (S:=fun w'=>w'.cell? ⟨gb290,0,none⟩=some (.slice Ao210 x291000_70.length co210)∧w'.cell? ⟨gb290,1,none⟩=some (.int .i64 x291001_70)∧w'.cell? ⟨gb290,2,none⟩=some (.int .i64 x291002_70)) (ds:=[]) #[false,false,false,false] (by kernel_rfl) rfl rfl ⟨(blk_cell BK290.out 0).trans rfl,(blk_cell BK290.out 1).trans rfl,(blk_cell BK290.out 2).trans rfl⟩ (fun hHeld=>?_)
                   generalize wc.drew=w209 at HO_13 HO_291000 BK290 BK291 HK HB hHeld ⊢
                   refine pureQ 1 (some 4) #[false,true,false,false] (by kernel_rfl) ?_
                   refine pureQ 2 (some 5) #[false,true,true,false] (by kernel_rfl) ?_
                   refine take_ (i:=0) (N:=some 174) (v:=?_) (a':=?_) (tk 3 1) rfl rfl (by kernel_rfl) (fun _ _ _ h=>h) (Or.inl ⟨by rfl,?_⟩) hHeld ?_ ?_
                   rotate_left
                   ·rintro w' ⟨s0,s1,s2⟩
                    go_simp
                    with_reducible rfl
                   rotate_left
                   ·simp only [Act.put,List.setIfInBounds_toArray,List.set_cons_zero,List.set_cons_succ,i64_w,i32_w]
                    rfl
                   refine one_ (i:=3) (N:=none) (tk 4 0) rfl rfl (by kernel_rfl) (by decide) (fun K hK=>?_)
                   have hs211:w209.cell? ⟨gb291,0,none⟩=some (.slice none 0 0):=(blk_cell BK291.out 0).trans rfl
                   have hfs211:=blk_frozen BK291.out 0
                   have hns211_0:=NB290_291.out
                   have hms211_0:=NB291_290.out
                   have hs212:w209.cell? ⟨gb291,1,none⟩=some (.int .i64 x292001_70):=(blk_cell BK291.out 1).trans rfl
                   have hfs212:=blk_frozen BK291.out 1
                   have hns212_0:=NB290_291.out
                   have hms212_0:=NB291_290.out
                   have hs213:w209.cell? ⟨gb291,2,none⟩=some (.int .i64 x292002_70):=(blk_cell BK291.out 2).trans rfl
                   have hfs213:=blk_frozen BK291.out 2
                   have hns213_0:=NB290_291.out
                   have hms213_0:=NB291_290.out
                   refine skip_ (w1:=?_) (by rfl) rfl ?_ ?_
                   rotate_left
                   ·go_simp
                    rfl
                   refine hK.out _ _ ⟨((cell_far (p:=⟨gb291,_,none⟩) NB290_291.out _).trans (((cell_far (p:=⟨gb291,_,none⟩) NB290_291.out _).trans (((cell_far (p:=⟨gb291,_,none⟩) NB290_291.out _).trans (hHeld.1)))))),((cell_far (p:=⟨gb291,_,none⟩) NB290_291.out _).trans (((cell_far (p:=⟨gb291,_,none⟩) NB290_291.out _).trans (((cell_far (p:=⟨gb291,_,none⟩) NB290_291.out _).trans (hHeld.2.1)))))),((cell_far (p:=⟨gb291,_,none⟩) NB290_291.out _).trans (((cell_far (p:=⟨gb291,_,none⟩) NB290_291.out _).trans (((cell_far (p:=⟨gb291,_,none⟩) NB290_291.out _).trans (hHeld.2.2))))))⟩ (fun hHeld=>?_)
                   clear hK K
                   refine done_ (by kernel_rfl) ?_
                   try go_wp2
                   refine bodyPost_ret (results_list (rs:=[.tmp 4,.tmp 5,.cell 6 115]) rfl (by simp) (.tmp (.tmp (.cell gb291 115 #[.slice Ao210 x291000_70.length co210,.int .i64 x291001_70,.int .i64 x291002_70] (0,0) _ rfl (bq BK291) Try.underlying115 rfl (by kernel_rfl) .nil)))) rfl ?_
                   exact LenP.nil' ⟨by first | rfl | (simp [errW_none,errW_some] <;> rfl) | (simp [*,errW_none,errW_some] <;> rfl),by (with_reducible repeat (first | apply Kd.R_alloc | apply Kd.R_drewN | apply Kd.R_drew));exact Kd.R_mono (Kd.R_far (p:=⟨gb291,2,none⟩) (Kd.R_far (p:=⟨gb291,1,none⟩) (Kd.R_far (p:=⟨gb291,0,none⟩) (Kd.R_types HO_291000.out BK291.out (by decide)) (fun _ hk=>hk.2) (.slice Ao210 x291000_70.length co210)) (fun _ hk=>hk.2) (.int .i64 x291001_70)) (fun _ hk=>hk.2) (.int .i64 x291002_70)) (fun _ hk=>hk.1),hn HB,hk HK⟩
     ·rw [if_neg c39] at H
      exact absurd H (by simp)
end Go.Proofs.Ytpbhkdamkbopkaa.GInfr
