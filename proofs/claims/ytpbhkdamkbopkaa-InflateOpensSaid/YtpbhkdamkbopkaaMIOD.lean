/- Parts of the proof, glued by a program of this session (wip/tools/claimfit.py). -/
import Derived.Test.YtpbhkdamkbopkaaMIOC
namespace Go.Proofs.Ytpbhkdamkbopkaa.GInfr
open Go.Proofs.Ytpbhkdamkbopkaa.Sq
open Go.RowKit Go.Proofs.YtpbhkdamkbopkaaW.PrintWords Go.Proofs.YtpbhkdamkbopkaaW.PrintLast Go.Proofs.YtpbhkdamkbopkaaW.PrintMore Go.Proofs.Ytpbhkdamkbopkaa.HuM
attribute [local go_sem] max2_int min2_int max_two min_two max_three min_three max_four min_four
set_option linter.unusedVariables false
set_option linter.unusedSimpArgs false
set_option maxHeartbeats 8000000 in
set_option maxRecDepth 100000 in
theorem celluloidref05_codes.calls (k : Nat) (a0 : ByteArray) (P1_0_ : Nat → Prop) (u9000_ : Value) (l1_0 : List Int) (a1_1 : Int) (a1_2 : Int) (a2 : Int) (A3 : Option Addr) (c3 : Nat) (l3 : List Int) (A4 : Option Addr) (c4 : Nat) (l4 : List Int) (r1 : List Int) (r2 : Int) (r3 : Int) (w0 w : World) (hB : Below w0.heap.size w0 w) (ho1_0 : Kd.R (Kd.int .u8) 5 w w0.heap.size P1_0_ u9000_ l1_0) (hr3 : ∀ W_, Kept w W_ (fun k_ => P1_0_ k_) → Kd.C (Kd.int .i64) W_ A3 l3.length l3) (hc3 : l3.length ≤ c3) (hr4 : ∀ W_, Kept w W_ (fun k_ => P1_0_ k_) → Kd.C (Kd.int .i64) W_ A4 l4.length l4) (hc4 : l4.length ≤ c4) (h : celluloidref05_codes.f k a0 l1_0 a1_1 a1_2 a2 l3 l4 = some (r1, r2, r3)) :
  Calls Try.prog 75 #[.string a0,.agg #[u9000_,.int .i64 a1_1,.int .i64 a1_2],.int .i64 a2,.slice A3 l3.length c3,.slice A4 l4.length c4] w fun e w'=>∃ v0_:Value,e=.returned (.agg #[v0_,.int .i64 r2,.int .i64 r3])∧Kd.R (Kd.int .u8) 5 w' w0.heap.size (fun k_=>(P1_0_ k_ ∨ w.heap.size≤k_)) v0_ r1∧Below w0.heap.size w0 w'∧Kept w w' (fun k_=>P1_0_ k_):=by
 have hu115:=Try.underlying115
 have HO1_0:=Aside0.mk (show Kd.R (Kd.int .u8) 5 w w0.heap.size (fun k_=>(P1_0_ k_ ∨ w.heap.size≤k_)) u9000_ l1_0 from Kd.R_mono ho1_0 (fun k_ hk=>(.inl hk)))
 have HR3:=Aside0.mk hr3
 have HC3:=Aside0.mk hc3
 clear hr3 hc3
 have HR4:=Aside0.mk hr4
 have HC4:=Aside0.mk hc4
 clear hr4 hc4
 have HK:=Aside0.mk (Kept.refl w (fun k_=>P1_0_ k_))
 have HW0:=Aside0.mk hB.size
 have HB:=Aside0.mk hB
 clear hB
 have H:(if a1_2=0 then ((celluloidref04_Error.f k l3).bind fun t253=>(celluloidref05_codes.j0 k a0 a2 l3 l4 l1_0 a1_1 t253)) else (celluloidref05_codes.j0 k a0 a2 l3 l4 l1_0 a1_1 a1_2))=some (r1,r2,r3):=h
 clear h
 have HC6:=Aside0.mk H
 clear H
 obtain ⟨Ao7,co7,eo7⟩:=Kd.R_slice HO1_0.out
 subst eo7
 go_enter Try.func75,Try.ntmps75
 go_upto_if 19 with (first | ((with_reducible refine gate_dst (N:=6) rfl ?_);refine boxQ 6 #[.slice Ao7 l1_0.length co7,.int .i64 a1_1,.int .i64 a1_2] 115 ?_;intro gb251 hg w8 hbox hb;have n0_:=rk HO1_0 hb;have n1_:=Aside0.mk (Kept.below (S:=(fun k_=>P1_0_ k_)) (hk HK) hb);have n2_:=hs HB hb;have n3_:=Aside0.mk hbox;have n4_:=Aside0.mk ((by rw [hg];exact hz HK:w.heap.size≤gb251));have n5_:=gs HB hg;clear HO1_0 HK HB;have HO1_0:=n0_;have HK:=n1_;have HB:=n2_;have BK251:=n3_;have GW251:=n4_;have GE251:=n5_;clear n0_ n1_ n2_ n3_ n4_ n5_;clear hb hbox hg) | ((with_reducible refine gate_dst (N:=10) rfl ?_);refine boxQ 10 #[.slice none 0 0,.int .i64 0,.int .i64 0] 115 ?_;intro gb252 hg w9 hbox hb;have n0_:=rk HO1_0 hb;have n1_:=bb BK251 hb;have n2_:=Aside0.mk (Kept.below (S:=(fun k_=>P1_0_ k_)) (hk HK) hb);have n3_:=hs HB hb;have n4_:=Aside0.mk hbox;have n5_:=Aside0.mk ((by rw [hg];exact hz HK:w.heap.size≤gb252));have n6_:=gs HB hg;have n7_:=nl BK251 hg;have n8_:=ng BK251 hg;clear HO1_0 BK251 HK HB;have HO1_0:=n0_;have BK251:=n1_;have HK:=n2_;have HB:=n3_;have BK252:=n4_;have GW252:=n5_;have GE252:=n6_;have NB251_252:=n7_;have NB252_251:=n8_;clear n0_ n1_ n2_ n3_ n4_ n5_ n6_ n7_ n8_;clear hb hbox hg;have hnb10:=NB251_252.out;have hnc10:=NB252_251.out;obtain ⟨hcz11_0,hcz11_1,hcz11_2⟩:=cc3 BK251;obtain ⟨hfz11_0,hfz11_1,hfz11_2⟩:=ff3 BK251))
 (try simp only [Act.put,List.setIfInBounds_toArray,List.set_cons_zero,List.set_cons_succ])
 go_cut [] (fun wc=>∃ (kq:Nat) (x252002_5:Int),Aside0 (celluloidref05_codes.j0 kq a0 a2 l3 l4 l1_0 a1_1 x252002_5=some (r1,r2,r3))∧Aside0 (kq≤k)∧Aside0 (Kd.R (Kd.int .u8) 5 wc w0.heap.size (fun k_=>(P1_0_ k_ ∨ w.heap.size≤k_)) (.slice Ao7 l1_0.length co7) l1_0)∧Aside0 (wc.heap[gb251]?=some (.cells #[(.slice Ao7 l1_0.length co7),.int .i64 a1_1,.int .i64 x252002_5] 115 (0,0)))∧Aside0 (wc.heap[gb252]?=some (.cells #[(.slice none 0 0),.int .i64 0,.int .i64 0] 115 (0,0)))∧Aside0 (Kept w wc (fun k_=>P1_0_ k_))∧Aside0 (Below w0.heap.size w0 wc))
 case first =>
  have H:=HC6.out
  clear HC6
  by_cases c12:a1_2=0
  ·rw [if_pos c12] at H
   have c12b0:(a1_2 == 0)=true:=beq_iff_eq.mpr c12
   have c12b1:(a1_2 != 0)=false:=bne_eq_false_iff_eq.mpr c12
   clear c12
   (first | rw [c12b0] | (simp only [i64_w,i32_w];rw [c12b0]) | skip)
   replace H:=Option.bind_eq_some_iff.mp H
   obtain ⟨t253,A130,H⟩:=H
   replace H:(celluloidref05_codes.j0 k a0 a2 l3 l4 l1_0 a1_1 t253)=some (r1,r2,r3):=H
   have A13:=Aside0.mk A130
   clear A130
   have H':=Aside0.mk H
   clear H
   go_wp2_with (first | ((with_reducible refine gate_callee (f:=28) rfl ?_);refine goesQ (some 21) Try.func28 #[.slice A3 l3.length c3] ?_;(with_reducible refine (celluloidref04_Error.calls k _ _ l3 t253 _ ?side1 ?side2 A13.out).mono ?_);(case side1=>exact Kd.C_kept_now HR3.out (hk HK));(case side2=>exact HC3.out);rintro e w14 ⟨rfl,hb⟩;refine ⟨_,rfl,?_⟩;have n0_:=rk HO1_0 hb;have n1_:=bb BK251 hb;have n2_:=bb BK252 hb;have n3_:=Aside0.mk (Kept.below (S:=(fun k_=>P1_0_ k_)) (hk HK) hb);have n4_:=hs HB hb;clear HO1_0 BK251 BK252 HK HB;have HO1_0:=n0_;have BK251:=n1_;have BK252:=n2_;have HK:=n3_;have HB:=n4_;clear n0_ n1_ n2_ n3_ n4_;(try clear hb);have hnb15:=NB251_252.out;have hnc15:=NB252_251.out;obtain ⟨hcz16_0,hcz16_1,hcz16_2⟩:=cc3 BK251;obtain ⟨hfz16_0,hfz16_1,hfz16_2⟩:=ff3 BK251) | ((with_reducible refine gate_store (t:=3) (p:=22) rfl ?_);refine stQ 3 22 ((w14.setCell ⟨gb251,2,none⟩ (.int .i64 t253))) ?_;intro w17 hw;have n0_:=sR hw HO1_0 BK251;have n1_:=sP2 hw BK251;have n2_:=sF hw BK252 NB252_251;have n3_:=sK hw HK GW251;have n4_:=sB hw HB GE251;clear hw HO1_0 BK251 BK252 HK HB;have HO1_0:=n0_;have BK251:=n1_;have BK252:=n2_;have HK:=n3_;have HB:=n4_;clear n0_ n1_ n2_ n3_ n4_))
   go_meet
   case rel=>exact ⟨_,(t253),H',⟨by first | omega | exact Nat.le_refl _⟩,⟨rr HO1_0⟩,⟨bk BK251⟩,⟨bk BK252⟩,⟨hk HK⟩,⟨hn HB⟩⟩
  ·rw [if_neg c12] at H
   have c12b0:(a1_2 == 0)=false:=beq_eq_false_iff_ne.mpr c12
   have c12b1:(a1_2 != 0)=true:=bne_iff_ne.mpr c12
   (first | rw [c12b0] | (simp only [i64_w,i32_w];rw [c12b0]) | skip)
   have H':=Aside0.mk H
   clear H
   go_wp2
   go_meet
   case rel=>exact ⟨_,(a1_2),H',⟨by first | omega | exact Nat.le_refl _⟩,⟨rr HO1_0⟩,⟨bk BK251⟩,⟨bk BK252⟩,⟨hk HK⟩,⟨hn HB⟩⟩
 case rest =>
  clear HC6
  clear hcz11_0 hcz11_1 hcz11_2 hfz11_0 hfz11_1 hfz11_2
  obtain ⟨kq,x252002_5,HA,HJ5,HO_252000,BK251,BK252,HK,HB⟩:=hcut
  cases kq with
  |zero=>exact absurd HA.out (by simp [celluloidref05_codes.j0])
  |succ kj5 =>
   have H:=HA.out
   clear HA
   simp only [celluloidref05_codes.j0] at H
   have HC18:=Aside0.mk H
   clear H
   have hnb19:=NB251_252.out
   have hnc19:=NB252_251.out
   obtain ⟨hcz20_0,hcz20_1,hcz20_2⟩:=cc3 BK251
   obtain ⟨hfz20_0,hfz20_1,hfz20_2⟩:=ff3 BK251
   go_upto_if 25 with (fail)
   go_cut [] (fun wc=>∃ (kq:Nat) (x252002_17:Int),Aside0 (celluloidref05_codes.j1 kq a0 a2 l3 l4 l1_0 a1_1 x252002_17=some (r1,r2,r3))∧Aside0 (kq≤kj5)∧Aside0 (Kd.R (Kd.int .u8) 5 wc w0.heap.size (fun k_=>(P1_0_ k_ ∨ w.heap.size≤k_)) (.slice Ao7 l1_0.length co7) l1_0)∧Aside0 (wc.heap[gb251]?=some (.cells #[(.slice Ao7 l1_0.length co7),.int .i64 a1_1,.int .i64 x252002_17] 115 (0,0)))∧Aside0 (wc.heap[gb252]?=some (.cells #[(.slice none 0 0),.int .i64 0,.int .i64 0] 115 (0,0)))∧Aside0 (Kept w wc (fun k_=>P1_0_ k_))∧Aside0 (Below w0.heap.size w0 wc))
   case first =>
    have H:=HC18.out
    clear HC18
    by_cases c21:x252002_5=0
    ·rw [if_pos c21] at H
     have c21b0:(x252002_5 == 0)=true:=beq_iff_eq.mpr c21
     have c21b1:(x252002_5 != 0)=false:=bne_eq_false_iff_eq.mpr c21
     clear c21
     (first | rw [c21b0] | (simp only [i64_w,i32_w];rw [c21b0]) | skip)
     replace H:=Option.bind_eq_some_iff.mp H
     obtain ⟨t254,A220,H⟩:=H
     replace H:(celluloidref05_codes.j1 kj5 a0 a2 l3 l4 l1_0 a1_1 t254)=some (r1,r2,r3):=H
     have A22:=Aside0.mk A220
     clear A220
     have H':=Aside0.mk H
     clear H
     go_wp2_with (first | ((with_reducible refine gate_callee (f:=28) rfl ?_);refine goesQ (some 27) Try.func28 #[.slice A4 l4.length c4] ?_;(with_reducible refine (celluloidref04_Error.calls kj5 _ _ l4 t254 _ ?side1 ?side2 A22.out).mono ?_);(case side1=>exact Kd.C_kept_now HR4.out (hk HK));(case side2=>exact HC4.out);rintro e w23 ⟨rfl,hb⟩;refine ⟨_,rfl,?_⟩;have n0_:=rk HO_252000 hb;have n1_:=bb BK251 hb;have n2_:=bb BK252 hb;have n3_:=Aside0.mk (Kept.below (S:=(fun k_=>P1_0_ k_)) (hk HK) hb);have n4_:=hs HB hb;clear HO_252000 BK251 BK252 HK HB;have HO_252000:=n0_;have BK251:=n1_;have BK252:=n2_;have HK:=n3_;have HB:=n4_;clear n0_ n1_ n2_ n3_ n4_;(try clear hb);have hnb24:=NB251_252.out;have hnc24:=NB252_251.out;obtain ⟨hcz25_0,hcz25_1,hcz25_2⟩:=cc3 BK251;obtain ⟨hfz25_0,hfz25_1,hfz25_2⟩:=ff3 BK251) | ((with_reducible refine gate_store (t:=3) (p:=28) rfl ?_);refine stQ 3 28 ((w23.setCell ⟨gb251,2,none⟩ (.int .i64 t254))) ?_;intro w26 hw;have n0_:=sR hw HO_252000 BK251;have n1_:=sP2 hw BK251;have n2_:=sF hw BK252 NB252_251;have n3_:=sK hw HK GW251;have n4_:=sB hw HB GE251;clear hw HO_252000 BK251 BK252 HK HB;have HO_252000:=n0_;have BK251:=n1_;have BK252:=n2_;have HK:=n3_;have HB:=n4_;clear n0_ n1_ n2_ n3_ n4_))
     go_meet
     case rel=>exact ⟨_,(t254),H',⟨by have:=HJ5.out;first | omega | exact Nat.le_refl _⟩,⟨rr HO_252000⟩,⟨bk BK251⟩,⟨bk BK252⟩,⟨hk HK⟩,⟨hn HB⟩⟩
    ·rw [if_neg c21] at H
     have c21b0:(x252002_5 == 0)=false:=beq_eq_false_iff_ne.mpr c21
     have c21b1:(x252002_5 != 0)=true:=bne_iff_ne.mpr c21
     (first | rw [c21b0] | (simp only [i64_w,i32_w];rw [c21b0]) | skip)
     have H':=Aside0.mk H
     clear H
     go_wp2
     go_meet
     case rel=>exact ⟨_,(x252002_5),H',⟨by have:=HJ5.out;first | omega | exact Nat.le_refl _⟩,⟨rr HO_252000⟩,⟨bk BK251⟩,⟨bk BK252⟩,⟨hk HK⟩,⟨hn HB⟩⟩
   case rest =>
    clear HC18
    clear hcz20_0 hcz20_1 hcz20_2 hfz20_0 hfz20_1 hfz20_2
    obtain ⟨kq,x252002_17,HA,HJ17,HO_252000,BK251,BK252,HK,HB⟩:=hcut
    cases kq with
    |zero=>exact absurd HA.out (by simp [celluloidref05_codes.j1])
    |succ kj17 =>
     have H:=HA.out
     clear HA
     simp only [celluloidref05_codes.j1] at H
     have H':=Aside0.mk H
     clear H
     go_wp2
     go_loopg [] kj17 (fun kq w'=>∃ (x252000_3:List Int) (x252001_3:Int) (x252002_3:Int) (x253001_3:Int) (x253002_3:Int) (u252000:Value),Aside0 (celluloidref05_codes.l0 kq a0 a2 l3 l4 x252000_3 x252001_3 x252002_3=some (r1,r2,r3))∧Aside0 (kq≤kj17)∧Aside0 (Kd.R (Kd.int .u8) 5 w' w0.heap.size (fun k_=>(P1_0_ k_ ∨ w.heap.size≤k_)) u252000 x252000_3)∧Aside0 (w'.heap[gb251]?=some (.cells #[u252000,.int .i64 x252001_3,.int .i64 x252002_3] 115 (0,0)))∧Aside0 (w'.heap[gb252]?=some (.cells #[(.slice none 0 0),.int .i64 x253001_3,.int .i64 x253002_3] 115 (0,0)))∧Aside0 (Kept w w' (fun k_=>P1_0_ k_))∧Aside0 (Below w0.heap.size w0 w'))
     case atStart=>exact ⟨(l1_0),(a1_1),(x252002_17),(0),(0),(.slice Ao7 l1_0.length co7),H',⟨Nat.le_refl _⟩,⟨rr HO_252000⟩,⟨bk BK251⟩,⟨bk BK252⟩,⟨hk HK⟩,⟨hn HB⟩⟩
     case round =>
      clear H'
      obtain ⟨x252000_3,x252001_3,x252002_3,x253001_3,x253002_3,u252000,HA,HK3,HO_252000,BK251,BK252,HK,HB⟩:=hrel
      cases gk with
      |zero=>exact absurd HA.out (by simp [celluloidref05_codes.l0])
      |succ k3 =>
       have H:=HA.out
       clear HA
       simp only [celluloidref05_codes.l0] at H
       by_cases c27:x252002_3=0
       ·rw [if_pos c27] at H
        have c27b0:(x252002_3 == 0)=true:=beq_iff_eq.mpr c27
        have c27b1:(x252002_3 != 0)=false:=bne_eq_false_iff_eq.mpr c27
        clear c27
        replace H:=Option.bind_eq_some_iff.mp H
        obtain ⟨⟨t255,t256,t259,t260⟩,A280,H⟩:=H
        replace H:(if t260=0 then (celluloidref05_codes.j3 k3 a0 a2 l3 l4 t255 (t255 == 256) t256 t259 t260) else (celluloidref05_codes.j3 k3 a0 a2 l3 l4 t255 true t256 t259 t260))=some (r1,r2,r3):=H
        have A28:=Aside0.mk A280
        clear A280
        have HC29:=Aside0.mk H
        clear H
        have hnb30:=NB251_252.out
        have hnc30:=NB252_251.out
        obtain ⟨hcz31_0,hcz31_1,hcz31_2⟩:=cc3 BK251
        obtain ⟨hfz31_0,hfz31_1,hfz31_2⟩:=ff3 BK251
        obtain ⟨Ao32,co32,eo32⟩:=Kd.R_slice HO_252000.out
        subst eo32
        go_upto_region 8 with (first | ((with_reducible refine gate_callee (f:=101) rfl ?_);refine goesQ (some 36) Try.func101 #[.string a0,.agg #[.slice Ao32 x252000_3.length co32,.int .i64 x252001_3,.int .i64 x252002_3],.slice A3 l3.length c3] ?_;(with_reducible refine (celluloidref05_symbol.calls k3 a0 (fun k_=>some k_=(.slice Ao32 x252000_3.length co32:Value).ownBlock) (.slice Ao32 x252000_3.length co32) x252000_3 x252001_3 x252002_3 _ _ l3 t255 t256 t259 t260 w0 _ (hn HB) (Kd.R_tight rfl HO_252000.out) ?side3 ?side4 A28.out).mono ?_);(case side3=>exact Kd.C_kept_call HR3.out (hk HK) (fun k_ hs_=>(fun e_=>(HO_252000.out.1 k_ e_.symm)) hs_));(case side4=>exact HC3.out);rintro e w33 ⟨v257,rfl,ho0,hb,hkp⟩;refine ⟨_,rfl,?_⟩;have n0_:=kb BK251 HO_252000 hkp;have n1_:=kb BK252 HO_252000 hkp;have n2_:=kr HO_252000 HK ho0;have n3_:=kt HK HO_252000 hkp;have n4_:=Aside0.mk hb;clear BK251 BK252 HK HB HO_252000;have BK251:=n0_;have BK252:=n1_;have HO258:=n2_;have HK:=n3_;have HB:=n4_;clear n0_ n1_ n2_ n3_ n4_;(try clear hb);(try clear hkp);(try clear ho0);obtain ⟨Ao34,co34,eo34⟩:=Kd.R_slice HO258.out;subst eo34;obtain ⟨hcz35_0,hcz35_1,hcz35_2⟩:=cc3 BK251;obtain ⟨hfz35_0,hfz35_1,hfz35_2⟩:=ff3 BK251) | ((with_reducible refine gate_store (t:=115) (p:=6) rfl ?_);refine stQ 115 6 ((((w33.setCell ⟨gb251,0,none⟩ (.slice Ao34 t256.length co34)).setCell ⟨gb251,1,none⟩ (.int .i64 t259)).setCell ⟨gb251,2,none⟩ (.int .i64 t260))) ?_;intro w36 hw;have n0_:=sR hw HO258 BK251;have n1_:=sP hw BK251;have n2_:=sF hw BK252 NB252_251;have n3_:=sK hw HK GW251;have n4_:=sB hw HB GE251;clear hw HO258 BK251 BK252 HK HB;have HO258:=n0_;have BK251:=n1_;have BK252:=n2_;have HK:=n3_;have HB:=n4_;clear n0_ n1_ n2_ n3_ n4_))
        (try simp only [Act.put,List.setIfInBounds_toArray,List.set_cons_zero,List.set_cons_succ])
        go_cut [45] (fun v45 wc=>∃ (kq:Nat) (x45_28:Bool),v45=.bool x45_28∧Aside0 (celluloidref05_codes.j3 kq a0 a2 l3 l4 t255 x45_28 t256 t259 t260=some (r1,r2,r3))∧Aside0 (kq≤k3)∧Aside0 (Kd.R (Kd.int .u8) 5 wc w0.heap.size (fun k_=>(P1_0_ k_ ∨ w.heap.size≤k_)) (.slice Ao34 t256.length co34) t256)∧Aside0 (wc.heap[gb251]?=some (.cells #[(.slice Ao34 t256.length co34),.int .i64 t259,.int .i64 t260] 115 (0,0)))∧Aside0 (wc.heap[gb252]?=some (.cells #[(.slice none 0 0),.int .i64 x253001_3,.int .i64 x253002_3] 115 (0,0)))∧Aside0 (Kept w wc (fun k_=>P1_0_ k_))∧Aside0 (Below w0.heap.size w0 wc))
        case first =>
         have H:=HC29.out
         clear HC29
         by_cases c37:t260=0
         ·rw [if_pos c37] at H
          have c37b0:(t260 == 0)=true:=beq_iff_eq.mpr c37
          have c37b1:(t260 != 0)=false:=bne_eq_false_iff_eq.mpr c37
          clear c37
          (first | rw [c37b0] | (simp only [i64_w,i32_w];rw [c37b0]) | skip)
          have H':=Aside0.mk H
          clear H
          have hnb38:=NB251_252.out
          have hnc38:=NB252_251.out
          obtain ⟨hcz39_0,hcz39_1,hcz39_2⟩:=cc3 BK251
          obtain ⟨hfz39_0,hfz39_1,hfz39_2⟩:=ff3 BK251
          go_wp2
          go_meet
          case rel=>exact ⟨_,((t255 == 256)),(by first | rfl | (simp;done) | (simp [*];done)),H',⟨by have:=HJ5.out;have:=HJ17.out;have:=HK3.out;first | omega | exact Nat.le_refl _⟩,⟨rr HO258⟩,⟨bk BK251⟩,⟨bk BK252⟩,⟨hk HK⟩,⟨hn HB⟩⟩
         ·rw [if_neg c37] at H
          have c37b0:(t260 == 0)=false:=beq_eq_false_iff_ne.mpr c37
          have c37b1:(t260 != 0)=true:=bne_iff_ne.mpr c37
          (first | rw [c37b0] | (simp only [i64_w,i32_w];rw [c37b0]) | skip)
          have H':=Aside0.mk H
          clear H
          have hnb40:=NB251_252.out
          have hnc40:=NB252_251.out
          obtain ⟨hcz41_0,hcz41_1,hcz41_2⟩:=cc3 BK251
          obtain ⟨hfz41_0,hfz41_1,hfz41_2⟩:=ff3 BK251
          go_wp2
          go_meet
          case rel=>exact ⟨_,(true),(by first | rfl | (simp;done) | (simp [*];done)),H',⟨by have:=HJ5.out;have:=HJ17.out;have:=HK3.out;first | omega | exact Nat.le_refl _⟩,⟨rr HO258⟩,⟨bk BK251⟩,⟨bk BK252⟩,⟨hk HK⟩,⟨hn HB⟩⟩
        case rest =>
         clear HC29
         clear c27b0 c27b1 hcz31_0 hcz31_1 hcz31_2 hcz35_0 hcz35_1 hcz35_2 hfz31_0 hfz31_1 hfz31_2 hfz35_0 hfz35_1 hfz35_2
         obtain ⟨kq,x45_28,rfl,HA,HJ28,HO_252000,BK251,BK252,HK,HB⟩:=hcut
         cases kq with
         |zero=>exact absurd HA.out (by simp [celluloidref05_codes.j3])
         |succ kj28 =>
          have H:=HA.out
          clear HA
          simp only [celluloidref05_codes.j3] at H
          by_cases c42:x45_28=true
          ·subst c42
           have H1:(some (t256,t259,t260))=some (r1,r2,r3):=by rw [if_pos rfl] at H;exact H
           clear H
           have H:=H1
           clear H1
           simp only [Option.some.injEq,Prod.mk.injEq] at H
           obtain ⟨rfl,rfl,rfl⟩:=H
           have hnb43:=NB251_252.out
           have hnc43:=NB252_251.out
           obtain ⟨hcz44_0,hcz44_1,hcz44_2⟩:=cc3 BK251
           obtain ⟨hfz44_0,hfz44_1,hfz44_2⟩:=ff3 BK251
           obtain ⟨hcz45_0,hcz45_1,hcz45_2⟩:=cc3 BK252
           obtain ⟨hfz45_0,hfz45_1,hfz45_2⟩:=ff3 BK252
           go_wp2_with (first | ((with_reducible refine gate_store (t:=115) (p:=10) rfl ?_);refine stQ 115 10 ((((wc.setCell ⟨gb252,0,none⟩ (.slice Ao34 t256.length co34)).setCell ⟨gb252,1,none⟩ (.int .i64 t259)).setCell ⟨gb252,2,none⟩ (.int .i64 t260))) ?_;intro w46 hw;have n0_:=sR hw HO_252000 BK252;have n1_:=sF hw BK251 NB251_252;have n2_:=sP hw BK252;have n3_:=sK hw HK GW252;have n4_:=sB hw HB GE252;clear hw HO_252000 BK251 BK252 HK HB;have HO_252000:=n0_;have BK251:=n1_;have BK252:=n2_;have HK:=n3_;have HB:=n4_;clear n0_ n1_ n2_ n3_ n4_))
           refine bodyPost_ret (results_cell_row rfl _ _ gb252 115 #[.slice Ao34 t256.length co34,.int .i64 t259,.int .i64 t260] (0,0) _ rfl (bk BK252) Try.underlying115 rfl (by kernel_rfl)) rfl ?_
           exact ⟨_,by first | rfl | (simp [errW_none,errW_some] <;> rfl) | (simp [*,errW_none,errW_some] <;> rfl),rr HO_252000,hn HB,hk HK⟩
          ·replace c42:=Bool.eq_false_iff.mpr c42
           subst c42
           have H1:(if t255 < 256 then (if (t256.length:Int) ≥ a2 then (some (t256,t259,7)) else (if t256.length < 140737488355328 then (celluloidref05_codes.l0 kj28 a0 a2 l3 l4 (t256 ++ [(t255) % 256]) t259 t260) else (none))) else (if t255 > 285 then (some (t256,t259,3)) else ((celluloidref05_Length.f kj28 t255).bind fun bt264=>((celluloidref05_number.f kj28 a0 t256 t259 t260 bt264.2).bind fun bt266=>((celluloidref05_symbol.f kj28 a0 bt266.2.1 bt266.2.2.1 bt266.2.2.2 l4).bind fun bt272=>(if bt272.2.2.2=0 then (celluloidref05_codes.j4 kj28 a0 a2 l3 l4 (wrap64 (bt264.1+bt266.1)) bt272.1 (decide (bt272.1 > 29)) bt272.2.1 bt272.2.2.1 bt272.2.2.2) else (celluloidref05_codes.j4 kj28 a0 a2 l3 l4 (wrap64 (bt264.1+bt266.1)) bt272.1 false bt272.2.1 bt272.2.2.1 bt272.2.2.2)))))))=some (r1,r2,r3):=by rw [if_neg (show ¬ (false=true) by decide)] at H;exact H
           clear H
           have H:=H1
           clear H1
           by_cases c47:t255 < 256
           ·rw [if_pos c47] at H
            have c47b0:decide (t255 < 256)=true:=decide_eq_true c47
            clear c47
            by_cases c48:(t256.length:Int) ≥ a2
            ·rw [if_pos c48] at H
             have c48b0:decide (a2≤(t256.length:Int))=true:=decide_eq_true c48
             clear c48
             simp only [Option.some.injEq,Prod.mk.injEq] at H
             obtain ⟨rfl,rfl,rfl⟩:=H
             have hnb49:=NB251_252.out
             have hnc49:=NB252_251.out
             obtain ⟨hcz50_0,hcz50_1,hcz50_2⟩:=cc3 BK251
             obtain ⟨hfz50_0,hfz50_1,hfz50_2⟩:=ff3 BK251
             go_wp2_with (first | ((with_reducible refine gate_store (t:=3) (p:=54) rfl ?_);refine stQ 3 54 ((wc.setCell ⟨gb251,2,none⟩ (.int .i64 7))) ?_;intro w51 hw;have n0_:=sR hw HO_252000 BK251;have n1_:=sP2 hw BK251;have n2_:=sF hw BK252 NB252_251;have n3_:=sK hw HK GW251;have n4_:=sB hw HB GE251;clear hw HO_252000 BK251 BK252 HK HB;have HO_252000:=n0_;have BK251:=n1_;have BK252:=n2_;have HK:=n3_;have HB:=n4_;clear n0_ n1_ n2_ n3_ n4_;obtain ⟨hcz52_0,hcz52_1,hcz52_2⟩:=cc3 BK251;obtain ⟨hfz52_0,hfz52_1,hfz52_2⟩:=ff3 BK251;obtain ⟨hcz53_0,hcz53_1,hcz53_2⟩:=cc3 BK252;obtain ⟨hfz53_0,hfz53_1,hfz53_2⟩:=ff3 BK252) | ((with_reducible refine gate_store (t:=115) (p:=10) rfl ?_);refine stQ 115 10 ((((w51.setCell ⟨gb252,0,none⟩ (.slice Ao34 t256.length co34)).setCell ⟨gb252,1,none⟩ (.int .i64 t259)).setCell ⟨gb252,2,none⟩ (.int .i64 7))) ?_;intro w54 hw;have n0_:=sR hw HO_252000 BK252;have n1_:=sF hw BK251 NB251_252;have n2_:=sP hw BK252;have n3_:=sK hw HK GW252;have n4_:=sB hw HB GE252;clear hw HO_252000 BK251 BK252 HK HB;have HO_252000:=n0_;have BK251:=n1_;have BK252:=n2_;have HK:=n3_;have HB:=n4_;clear n0_ n1_ n2_ n3_ n4_))
             refine bodyPost_ret (results_cell_row rfl _ _ gb252 115 #[.slice Ao34 t256.length co34,.int .i64 t259,.int .i64 7] (0,0) _ rfl (bk BK252) Try.underlying115 rfl (by kernel_rfl)) rfl ?_
             exact ⟨_,by first | rfl | (simp [errW_none,errW_some] <;> rfl) | (simp [*,errW_none,errW_some] <;> rfl),rr HO_252000,hn HB,hk HK⟩
            ·rw [if_neg c48] at H
             have c48b0:decide (a2≤(t256.length:Int))=false:=decide_eq_false c48
             clear c48
             by_cases c55:t256.length < 140737488355328
             ·rw [if_pos c55] at H
              have LMc55:=Aside0.mk c55
              clear c55
              obtain ⟨y261,hy261⟩:∃ y_:List Int,y_=(t256 ++ [(t255) % 256]):=⟨_,rfl⟩
              replace H:(celluloidref05_codes.l0 kj28 a0 a2 l3 l4 y261 t259 t260)=some (r1,r2,r3):=by first | (rw [hy261];with_reducible exact H) | (have H2_:=(Option.bind_some _ _).symm.trans H;rw [hy261];with_reducible exact H2_) | (have H2_:=(Option.bind_some _ _).symm.trans H;with_reducible exact H2_) | with_reducible exact H | (rw [hy261];exact H) | exact H
              have Ny261:=Aside0.mk hy261
              clear hy261
              have H':=Aside0.mk H
              clear H
              have hnb56:=NB251_252.out
              have hnc56:=NB252_251.out
              obtain ⟨hcz57_0,hcz57_1,hcz57_2⟩:=cc3 BK251
              obtain ⟨hfz57_0,hfz57_1,hfz57_2⟩:=ff3 BK251
              go_wp2_with (first | ((with_reducible refine gate_builtin (b:=.append) (xs:=#[.tmp 57,.tmp 60]) rfl ?_);at_builtin;refine Kd.R_append (Kd.int .u8) (w0:=w0) w0.heap.size rfl (.tmp 57) (.tmp 60) 40 5 (.int .u8 0) 1 rfl Try.underlying40 info5 rfl (by decide) (by omega) (.slice Ao34 t256.length co34) t256 ((t255) % 256) [.int .u8 ((t255) % 256)] (fun k_=>(P1_0_ k_ ∨ w.heap.size≤k_)) (fun _=>False) rfl rfl ?aP (fun _ hk=>hk.elim) ?aF ?aO ?aB ?aS ?aL ?_;(case aP=>exact rfl);(case aB=>exact (hn HB));(case aF=>exact (fun k_ hk=>(.inr (Nat.le_trans (by first | exact HK.out.1 | exact (show Kept w _ (fun k_=>P1_0_ k_) from by repeat (first | (with_reducible first | exact HK.out | apply Kept.alloc | apply Kept.drewN | apply Kept.drew | refine Kept.setCell ?_ (.inr GW251.out) _ | refine Kept.setCell ?_ (.inr GW252.out) _) | exact HK.out)).1) hk))));(case aO=>exact (rr HO_252000));(case aS=>exact (below_size (hn HB)));(case aL=>have:=LMc55.out;omega);intro v262 w58 ho hb hg hat;rw [← Ny261.out] at ho;have n0_:=Aside0.mk (blk_grown (g:=gb251) (o:=.cells #[.slice Ao34 t256.length co34,.int .i64 t259,.int .i64 t260] 115 (0,0)) (bk BK251) hg (Kd.R_ne HO_252000.out BK251.out (by decide)));have n1_:=Aside0.mk (blk_grown (g:=gb252) (o:=.cells #[.slice none 0 0,.int .i64 x253001_3,.int .i64 x253002_3] 115 (0,0)) (bk BK252) hg (Kd.R_ne HO_252000.out BK252.out (by decide)));have n2_:=Aside0.mk hb;have n3_:=Aside0.mk (Kept.of_grown (S:=(fun k_=>P1_0_ k_)) hg (hk HK) (fun k_ e_=>(HO_252000.out.1 k_ e_)));have n4_:=Aside0.mk ho;clear BK251 BK252 HB HK HO_252000;have BK251:=n0_;have BK252:=n1_;have HB:=n2_;have HK:=n3_;have HO263:=n4_;clear n0_ n1_ n2_ n3_ n4_;clear ho hb hg hat;obtain ⟨Ao59,co59,eo59⟩:=Kd.R_slice HO263.out;subst eo59;obtain ⟨hcz60_0,hcz60_1,hcz60_2⟩:=cc3 BK251;obtain ⟨hfz60_0,hfz60_1,hfz60_2⟩:=ff3 BK251) | ((with_reducible refine gate_store (t:=40) (p:=62) rfl ?_);refine stQ 40 62 ((w58.setCell ⟨gb251,0,none⟩ (.slice Ao59 y261.length co59))) ?_;intro w61 hw;have n0_:=sR hw HO263 BK251;have n1_:=sP0 hw BK251;have n2_:=sF hw BK252 NB252_251;have n3_:=sK hw HK GW251;have n4_:=sB hw HB GE251;clear hw HO263 BK251 BK252 HK HB;have HO263:=n0_;have BK251:=n1_;have BK252:=n2_;have HK:=n3_;have HB:=n4_;clear n0_ n1_ n2_ n3_ n4_))
              go_roundg kj28
              case measure=>have:=HJ5.out;have:=HJ17.out;have:=HK3.out;have:=HJ28.out;omega
              case rel=>exact ⟨(y261),(t259),(t260),(x253001_3),(x253002_3),(.slice Ao59 y261.length co59),H',⟨by have:=HJ5.out;have:=HJ17.out;have:=HK3.out;have:=HJ28.out;omega⟩,⟨rr HO263⟩,⟨bk BK251⟩,⟨bk BK252⟩,⟨hk HK⟩,⟨hn HB⟩⟩
             ·rw [if_neg c55] at H
              exact absurd H (by simp)
           ·rw [if_neg c47] at H
            have c47b0:decide (t255 < 256)=false:=decide_eq_false c47
            clear c47
            by_cases c62:t255 > 285
            ·rw [if_pos c62] at H
             have c62b0:decide (285 < t255)=true:=decide_eq_true c62
             clear c62
             simp only [Option.some.injEq,Prod.mk.injEq] at H
             obtain ⟨rfl,rfl,rfl⟩:=H
             have hnb63:=NB251_252.out
             have hnc63:=NB252_251.out
             obtain ⟨hcz64_0,hcz64_1,hcz64_2⟩:=cc3 BK251
             obtain ⟨hfz64_0,hfz64_1,hfz64_2⟩:=ff3 BK251
             go_wp2_with (first | ((with_reducible refine gate_store (t:=3) (p:=65) rfl ?_);refine stQ 3 65 ((wc.setCell ⟨gb251,2,none⟩ (.int .i64 3))) ?_;intro w65 hw;have n0_:=sR hw HO_252000 BK251;have n1_:=sP2 hw BK251;have n2_:=sF hw BK252 NB252_251;have n3_:=sK hw HK GW251;have n4_:=sB hw HB GE251;clear hw HO_252000 BK251 BK252 HK HB;have HO_252000:=n0_;have BK251:=n1_;have BK252:=n2_;have HK:=n3_;have HB:=n4_;clear n0_ n1_ n2_ n3_ n4_;obtain ⟨hcz66_0,hcz66_1,hcz66_2⟩:=cc3 BK251;obtain ⟨hfz66_0,hfz66_1,hfz66_2⟩:=ff3 BK251;obtain ⟨hcz67_0,hcz67_1,hcz67_2⟩:=cc3 BK252;obtain ⟨hfz67_0,hfz67_1,hfz67_2⟩:=ff3 BK252) | ((with_reducible refine gate_store (t:=115) (p:=10) rfl ?_);refine stQ 115 10 ((((w65.setCell ⟨gb252,0,none⟩ (.slice Ao34 t256.length co34)).setCell ⟨gb252,1,none⟩ (.int .i64 t259)).setCell ⟨gb252,2,none⟩ (.int .i64 3))) ?_;intro w68 hw;have n0_:=sR hw HO_252000 BK252;have n1_:=sF hw BK251 NB251_252;have n2_:=sP hw BK252;have n3_:=sK hw HK GW252;have n4_:=sB hw HB GE252;clear hw HO_252000 BK251 BK252 HK HB;have HO_252000:=n0_;have BK251:=n1_;have BK252:=n2_;have HK:=n3_;have HB:=n4_;clear n0_ n1_ n2_ n3_ n4_))
             refine bodyPost_ret (results_cell_row rfl _ _ gb252 115 #[.slice Ao34 t256.length co34,.int .i64 t259,.int .i64 3] (0,0) _ rfl (bk BK252) Try.underlying115 rfl (by kernel_rfl)) rfl ?_
             exact ⟨_,by first | rfl | (simp [errW_none,errW_some] <;> rfl) | (simp [*,errW_none,errW_some] <;> rfl),rr HO_252000,hn HB,hk HK⟩
            ·rw [if_neg c62] at H
             have c62b0:decide (285 < t255)=false:=decide_eq_false c62
             clear c62
             replace H:=Option.bind_eq_some_iff.mp H
             obtain ⟨⟨t264,t265⟩,A690,H⟩:=H
             replace H:((celluloidref05_number.f kj28 a0 t256 t259 t260 t265).bind fun bt266=>((celluloidref05_symbol.f kj28 a0 bt266.2.1 bt266.2.2.1 bt266.2.2.2 l4).bind fun bt272=>(if bt272.2.2.2=0 then (celluloidref05_codes.j4 kj28 a0 a2 l3 l4 (wrap64 (t264+bt266.1)) bt272.1 (decide (bt272.1 > 29)) bt272.2.1 bt272.2.2.1 bt272.2.2.2) else (celluloidref05_codes.j4 kj28 a0 a2 l3 l4 (wrap64 (t264+bt266.1)) bt272.1 false bt272.2.1 bt272.2.2.1 bt272.2.2.2))))=some (r1,r2,r3):=H
             have A69:=Aside0.mk A690
             clear A690
             replace H:=Option.bind_eq_some_iff.mp H
             obtain ⟨⟨t266,t267,t270,t271⟩,A700,H⟩:=H
             replace H:((celluloidref05_symbol.f kj28 a0 t267 t270 t271 l4).bind fun bt272=>(if bt272.2.2.2=0 then (celluloidref05_codes.j4 kj28 a0 a2 l3 l4 (wrap64 (t264+t266)) bt272.1 (decide (bt272.1 > 29)) bt272.2.1 bt272.2.2.1 bt272.2.2.2) else (celluloidref05_codes.j4 kj28 a0 a2 l3 l4 (wrap64 (t264+t266)) bt272.1 false bt272.2.1 bt272.2.2.1 bt272.2.2.2)))=some (r1,r2,r3):=H
             have A70:=Aside0.mk A700
             clear A700
             replace H:=Option.bind_eq_some_iff.mp H
             obtain ⟨⟨t272,t273,t276,t277⟩,A710,H⟩:=H
             replace H:(if t277=0 then (celluloidref05_codes.j4 kj28 a0 a2 l3 l4 (wrap64 (t264+t266)) t272 (decide (t272 > 29)) t273 t276 t277) else (celluloidref05_codes.j4 kj28 a0 a2 l3 l4 (wrap64 (t264+t266)) t272 false t273 t276 t277))=some (r1,r2,r3):=H
             have A71:=Aside0.mk A710
             clear A710
             have HC72:=Aside0.mk H
             clear H
             go_upto_region 23 with (first | ((with_reducible refine gate_callee (f:=68) rfl ?_);refine goesQ (some 69) Try.func68 #[.int .i64 t255] ?_;(with_reducible refine (celluloidref05_Length.calls kj28 t255 t264 t265 _ A69.out).mono ?_);rintro e w' ⟨rfl,⟨nd,rfl⟩⟩;refine ⟨_,rfl,?_⟩;(try (rw [drewN_self wc];generalize hq_:World.drewN wc _=wc;have n0_:Aside0 (Kd.R (Kd.int .u8) 5 wc w0.heap.size (fun k_=>(P1_0_ k_ ∨ w.heap.size≤k_)) (.slice Ao34 t256.length co34) t256):=⟨by rw [← hq_];exact (rr HO_252000)⟩;have n1_:Aside0 (wc.heap[gb251]?=some (.cells #[.slice Ao34 t256.length co34,.int .i64 t259,.int .i64 t260] 115 (0,0))):=⟨by rw [← hq_];exact (bk BK251)⟩;have n2_:Aside0 (wc.heap[gb252]?=some (.cells #[.slice none 0 0,.int .i64 x253001_3,.int .i64 x253002_3] 115 (0,0))):=⟨by rw [← hq_];exact (bk BK252)⟩;have n3_:Aside0 (Kept w wc (fun k_=>P1_0_ k_)):=⟨by rw [← hq_];exact (hk HK)⟩;have n4_:Aside0 (Below w0.heap.size w0 wc):=⟨by rw [← hq_];exact (hn HB)⟩;clear HO_252000 BK251 BK252 HK HB hq_;have HO_252000:=n0_;have BK251:=n1_;have BK252:=n2_;have HK:=n3_;have HB:=n4_;clear n0_ n1_ n2_ n3_ n4_));have hnb73:=NB251_252.out;have hnc73:=NB252_251.out;obtain ⟨hcz74_0,hcz74_1,hcz74_2⟩:=cc3 BK251;obtain ⟨hfz74_0,hfz74_1,hfz74_2⟩:=ff3 BK251) | ((with_reducible refine gate_callee (f:=73) rfl ?_);refine goesQ (some 76) Try.func73 #[.string a0,.agg #[.slice Ao34 t256.length co34,.int .i64 t259,.int .i64 t260],.int .i64 t265] ?_;(with_reducible refine (celluloidref05_number.calls kj28 a0 (fun k_=>some k_=(.slice Ao34 t256.length co34:Value).ownBlock) (.slice Ao34 t256.length co34) t256 t259 t260 t265 t266 t267 t270 t271 w0 _ (hn HB) (Kd.R_tight rfl HO_252000.out) A70.out).mono ?_);rintro e w75 ⟨v268,rfl,ho0,hb,hkp⟩;refine ⟨_,rfl,?_⟩;have n0_:=kb BK251 HO_252000 hkp;have n1_:=kb BK252 HO_252000 hkp;have n2_:=kr HO_252000 HK ho0;have n3_:=kt HK HO_252000 hkp;have n4_:=Aside0.mk hb;clear BK251 BK252 HK HB HO_252000;have BK251:=n0_;have BK252:=n1_;have HO269:=n2_;have HK:=n3_;have HB:=n4_;clear n0_ n1_ n2_ n3_ n4_;(try clear hb);(try clear hkp);(try clear ho0);obtain ⟨Ao76,co76,eo76⟩:=Kd.R_slice HO269.out;subst eo76;obtain ⟨hcz77_0,hcz77_1,hcz77_2⟩:=cc3 BK251;obtain ⟨hfz77_0,hfz77_1,hfz77_2⟩:=ff3 BK251) | ((with_reducible refine gate_store (t:=115) (p:=6) rfl ?_);refine stQ 115 6 ((((w75.setCell ⟨gb251,0,none⟩ (.slice Ao76 t267.length co76)).setCell ⟨gb251,1,none⟩ (.int .i64 t270)).setCell ⟨gb251,2,none⟩ (.int .i64 t271))) ?_;intro w78 hw;have n0_:=sR hw HO269 BK251;have n1_:=sP hw BK251;have n2_:=sF hw BK252 NB252_251;have n3_:=sK hw HK GW251;have n4_:=sB hw HB GE251;clear hw HO269 BK251 BK252 HK HB;have HO269:=n0_;have BK251:=n1_;have BK252:=n2_;have HK:=n3_;have HB:=n4_;clear n0_ n1_ n2_ n3_ n4_;obtain ⟨hcz79_0,hcz79_1,hcz79_2⟩:=cc3 BK251;obtain ⟨hfz79_0,hfz79_1,hfz79_2⟩:=ff3 BK251) | ((with_reducible refine gate_callee (f:=101) rfl ?_);refine goesQ (some 86) Try.func101 #[.string a0,.agg #[.slice Ao76 t267.length co76,.int .i64 t270,.int .i64 t271],.slice A4 l4.length c4] ?_;(with_reducible refine (celluloidref05_symbol.calls kj28 a0 (fun k_=>some k_=(.slice Ao76 t267.length co76:Value).ownBlock) (.slice Ao76 t267.length co76) t267 t270 t271 _ _ l4 t272 t273 t276 t277 w0 _ (hn HB) (Kd.R_tight rfl HO269.out) ?side3 ?side4 A71.out).mono ?_);(case side3=>exact Kd.C_kept_call HR4.out (hk HK) (fun k_ hs_=>(fun e_=>(HO269.out.1 k_ e_.symm)) hs_));(case side4=>exact HC4.out);rintro e w80 ⟨v274,rfl,ho0,hb,hkp⟩;refine ⟨_,rfl,?_⟩;have n0_:=kb BK251 HO269 hkp;have n1_:=kb BK252 HO269 hkp;have n2_:=kr HO269 HK ho0;have n3_:=kt HK HO269 hkp;have n4_:=Aside0.mk hb;clear BK251 BK252 HK HB HO269;have BK251:=n0_;have BK252:=n1_;have HO275:=n2_;have HK:=n3_;have HB:=n4_;clear n0_ n1_ n2_ n3_ n4_;(try clear hb);(try clear hkp);(try clear ho0);obtain ⟨Ao81,co81,eo81⟩:=Kd.R_slice HO275.out;subst eo81;obtain ⟨hcz82_0,hcz82_1,hcz82_2⟩:=cc3 BK251;obtain ⟨hfz82_0,hfz82_1,hfz82_2⟩:=ff3 BK251) | ((with_reducible refine gate_store (t:=115) (p:=6) rfl ?_);refine stQ 115 6 ((((w80.setCell ⟨gb251,0,none⟩ (.slice Ao81 t273.length co81)).setCell ⟨gb251,1,none⟩ (.int .i64 t276)).setCell ⟨gb251,2,none⟩ (.int .i64 t277))) ?_;intro w83 hw;have n0_:=sR hw HO275 BK251;have n1_:=sP hw BK251;have n2_:=sF hw BK252 NB252_251;have n3_:=sK hw HK GW251;have n4_:=sB hw HB GE251;clear hw HO275 BK251 BK252 HK HB;have HO275:=n0_;have BK251:=n1_;have BK252:=n2_;have HK:=n3_;have HB:=n4_;clear n0_ n1_ n2_ n3_ n4_))
             (try simp only [Act.put,List.setIfInBounds_toArray,List.set_cons_zero,List.set_cons_succ])
             go_cut [95] (fun v95 wc=>∃ (kq:Nat) (x95_71:Bool),v95=.bool x95_71∧Aside0 (celluloidref05_codes.j4 kq a0 a2 l3 l4 (wrap64 (t264+t266)) t272 x95_71 t273 t276 t277=some (r1,r2,r3))∧Aside0 (kq≤kj28)∧Aside0 (Kd.R (Kd.int .u8) 5 wc w0.heap.size (fun k_=>(P1_0_ k_ ∨ w.heap.size≤k_)) (.slice Ao81 t273.length co81) t273)∧Aside0 (wc.heap[gb251]?=some (.cells #[(.slice Ao81 t273.length co81),.int .i64 t276,.int .i64 t277] 115 (0,0)))∧Aside0 (wc.heap[gb252]?=some (.cells #[(.slice none 0 0),.int .i64 x253001_3,.int .i64 x253002_3] 115 (0,0)))∧Aside0 (Kept w wc (fun k_=>P1_0_ k_))∧Aside0 (Below w0.heap.size w0 wc))
             case first =>
              have H:=HC72.out
              clear HC72
              by_cases c84:t277=0
              ·rw [if_pos c84] at H
               have c84b0:(t277 == 0)=true:=beq_iff_eq.mpr c84
               have c84b1:(t277 != 0)=false:=bne_eq_false_iff_eq.mpr c84
               clear c84
               (first | rw [c84b0] | (simp only [i64_w,i32_w];rw [c84b0]) | skip)
               have H':=Aside0.mk H
               clear H
               have hnb85:=NB251_252.out
               have hnc85:=NB252_251.out
               obtain ⟨hcz86_0,hcz86_1,hcz86_2⟩:=cc3 BK251
               obtain ⟨hfz86_0,hfz86_1,hfz86_2⟩:=ff3 BK251
               go_wp2
               go_meet
               case rel=>exact ⟨_,(decide (t272 > 29)),(by first | rfl | (simp;done) | (simp [*];done)),H',⟨by have:=HJ5.out;have:=HJ17.out;have:=HK3.out;have:=HJ28.out;first | omega | exact Nat.le_refl _⟩,⟨rr HO275⟩,⟨bk BK251⟩,⟨bk BK252⟩,⟨hk HK⟩,⟨hn HB⟩⟩
              ·rw [if_neg c84] at H
               have c84b0:(t277 == 0)=false:=beq_eq_false_iff_ne.mpr c84
               have c84b1:(t277 != 0)=true:=bne_iff_ne.mpr c84
               (first | rw [c84b0] | (simp only [i64_w,i32_w];rw [c84b0]) | skip)
               have H':=Aside0.mk H
               clear H
               have hnb87:=NB251_252.out
               have hnc87:=NB252_251.out
               obtain ⟨hcz88_0,hcz88_1,hcz88_2⟩:=cc3 BK251
               obtain ⟨hfz88_0,hfz88_1,hfz88_2⟩:=ff3 BK251
               go_wp2
               go_meet
               case rel=>exact ⟨_,(false),(by first | rfl | (simp;done) | (simp [*];done)),H',⟨by have:=HJ5.out;have:=HJ17.out;have:=HK3.out;have:=HJ28.out;first | omega | exact Nat.le_refl _⟩,⟨rr HO275⟩,⟨bk BK251⟩,⟨bk BK252⟩,⟨hk HK⟩,⟨hn HB⟩⟩
             case rest =>
              clear HC72
              clear c47b0 c62b0 hcz74_0 hcz74_1 hcz74_2 hcz77_0 hcz77_1 hcz77_2 hcz79_0 hcz79_1 hcz79_2 hcz82_0 hcz82_1 hcz82_2 hfz74_0 hfz74_1 hfz74_2 hfz77_0 hfz77_1 hfz77_2 hfz79_0 hfz79_1 hfz79_2 hfz82_0 hfz82_1 hfz82_2
              obtain ⟨kq,x95_71,rfl,HA,HJ71,HO_252000,BK251,BK252,HK,HB⟩:=hcut
              cases kq with
              |zero=>exact absurd HA.out (by simp [celluloidref05_codes.j4])
              |succ kj71 =>
               have H:=HA.out
               clear HA
               simp only [celluloidref05_codes.j4] at H
               have HC89:=Aside0.mk H
               clear H
               go_upto_if 95 with (fail)
               go_cut [] (fun wc=>∃ (kq:Nat) (x252002_88:Int),Aside0 (celluloidref05_codes.j5 kq a0 a2 l3 l4 (wrap64 (t264+t266)) t272 t273 t276 x252002_88=some (r1,r2,r3))∧Aside0 (kq≤kj71)∧Aside0 (Kd.R (Kd.int .u8) 5 wc w0.heap.size (fun k_=>(P1_0_ k_ ∨ w.heap.size≤k_)) (.slice Ao81 t273.length co81) t273)∧Aside0 (wc.heap[gb251]?=some (.cells #[(.slice Ao81 t273.length co81),.int .i64 t276,.int .i64 x252002_88] 115 (0,0)))∧Aside0 (wc.heap[gb252]?=some (.cells #[(.slice none 0 0),.int .i64 x253001_3,.int .i64 x253002_3] 115 (0,0)))∧Aside0 (Kept w wc (fun k_=>P1_0_ k_))∧Aside0 (Below w0.heap.size w0 wc))
               case first =>
                have H:=HC89.out
                clear HC89
                by_cases c90:x95_71=true
                ·subst c90
                 have H1:(celluloidref05_codes.j5 kj71 a0 a2 l3 l4 (wrap64 (t264+t266)) t272 t273 t276 3)=some (r1,r2,r3):=by rw [if_pos rfl] at H;exact H
                 clear H
                 have H:=H1
                 clear H1
                 have H':=Aside0.mk H
                 clear H
                 have hnb91:=NB251_252.out
                 have hnc91:=NB252_251.out
                 obtain ⟨hcz92_0,hcz92_1,hcz92_2⟩:=cc3 BK251
                 obtain ⟨hfz92_0,hfz92_1,hfz92_2⟩:=ff3 BK251
                 go_wp2_with (first | ((with_reducible refine gate_store (t:=3) (p:=96) rfl ?_);refine stQ 3 96 ((wc.setCell ⟨gb251,2,none⟩ (.int .i64 3))) ?_;intro w93 hw;have n0_:=sR hw HO_252000 BK251;have n1_:=sP2 hw BK251;have n2_:=sF hw BK252 NB252_251;have n3_:=sK hw HK GW251;have n4_:=sB hw HB GE251;clear hw HO_252000 BK251 BK252 HK HB;have HO_252000:=n0_;have BK251:=n1_;have BK252:=n2_;have HK:=n3_;have HB:=n4_;clear n0_ n1_ n2_ n3_ n4_))
                 go_meet
                 case rel=>exact ⟨_,(3),H',⟨by have:=HJ5.out;have:=HJ17.out;have:=HK3.out;have:=HJ28.out;have:=HJ71.out;first | omega | exact Nat.le_refl _⟩,⟨rr HO_252000⟩,⟨bk BK251⟩,⟨bk BK252⟩,⟨hk HK⟩,⟨hn HB⟩⟩
                ·replace c90:=Bool.eq_false_iff.mpr c90
                 subst c90
                 have H1:(celluloidref05_codes.j5 kj71 a0 a2 l3 l4 (wrap64 (t264+t266)) t272 t273 t276 t277)=some (r1,r2,r3):=by rw [if_neg (show ¬ (false=true) by decide)] at H;exact H
                 clear H
                 have H:=H1
                 clear H1
                 have H':=Aside0.mk H
                 clear H
                 go_wp2
                 go_meet
                 case rel=>exact ⟨_,(t277),H',⟨by have:=HJ5.out;have:=HJ17.out;have:=HK3.out;have:=HJ28.out;have:=HJ71.out;first | omega | exact Nat.le_refl _⟩,⟨rr HO_252000⟩,⟨bk BK251⟩,⟨bk BK252⟩,⟨hk HK⟩,⟨hn HB⟩⟩
               case rest =>
                clear HC89
                obtain ⟨kq,x252002_88,HA,HJ88,HO_252000,BK251,BK252,HK,HB⟩:=hcut
                cases kq with
                |zero=>exact absurd HA.out (by simp [celluloidref05_codes.j5])
                |succ kj88 =>
                 have H:=HA.out
                 clear HA
                 simp only [celluloidref05_codes.j5] at H
                 by_cases c94:x252002_88=0
                 ·rw [if_pos c94] at H
                  have c94b0:(x252002_88 == 0)=true:=beq_iff_eq.mpr c94
                  have c94b1:(x252002_88 != 0)=false:=bne_eq_false_iff_eq.mpr c94
                  clear c94
                  replace H:=Option.bind_eq_some_iff.mp H
                  obtain ⟨⟨t278,t279⟩,A950,H⟩:=H
                  replace H:((celluloidref05_number.f kj88 a0 t273 t276 x252002_88 t279).bind fun bt280=>(if bt280.2.2.2=0 then (if (wrap64 (t278+bt280.1)) > (bt280.2.1.length:Int) then (some (bt280.2.1,bt280.2.2.1,3)) else (if (wrap64 ((bt280.2.1.length:Int)+(wrap64 (t264+t266)))) > a2 then (some (bt280.2.1,bt280.2.2.1,7)) else (celluloidref05_codes.l1 kj88 a0 a2 l3 l4 (wrap64 (t264+t266)) (wrap64 (t278+bt280.1)) 0 bt280.2.1 bt280.2.2.1 bt280.2.2.2))) else (some (bt280.2.1,bt280.2.2.1,bt280.2.2.2))))=some (r1,r2,r3):=H
                  have A95:=Aside0.mk A950
                  clear A950
                  replace H:=Option.bind_eq_some_iff.mp H
                  obtain ⟨⟨t280,t281,t284,t285⟩,A960,H⟩:=H
                  replace H:(if t285=0 then (if (wrap64 (t278+t280)) > (t281.length:Int) then (some (t281,t284,3)) else (if (wrap64 ((t281.length:Int)+(wrap64 (t264+t266)))) > a2 then (some (t281,t284,7)) else (celluloidref05_codes.l1 kj88 a0 a2 l3 l4 (wrap64 (t264+t266)) (wrap64 (t278+t280)) 0 t281 t284 t285))) else (some (t281,t284,t285)))=some (r1,r2,r3):=H
                  have A96:=Aside0.mk A960
                  clear A960
                  by_cases c97:t285=0
                  ·rw [if_pos c97] at H
                   have c97b0:(t285 == 0)=true:=beq_iff_eq.mpr c97
                   have c97b1:(t285 != 0)=false:=bne_eq_false_iff_eq.mpr c97
                   clear c97
                   by_cases c98:(wrap64 (t278+t280)) > (t281.length:Int)
                   ·rw [if_pos c98] at H
                    have c98b0:decide ((t281.length:Int) < (wrap64 (t278+t280)))=true:=decide_eq_true c98
                    clear c98
                    simp only [Option.some.injEq,Prod.mk.injEq] at H
                    obtain ⟨rfl,rfl,rfl⟩:=H
                    have hnb99:=NB251_252.out
                    have hnc99:=NB252_251.out
                    obtain ⟨hcz100_0,hcz100_1,hcz100_2⟩:=cc3 BK251
                    obtain ⟨hfz100_0,hfz100_1,hfz100_2⟩:=ff3 BK251
                    go_wp2_with (first | ((with_reducible refine gate_callee (f:=70) rfl ?_);refine goesQ (some 103) Try.func70 #[.int .i64 t272] ?_;(with_reducible refine (celluloidref05_Distance.calls kj88 t272 t278 t279 _ A95.out).mono ?_);rintro e w' ⟨rfl,⟨nd,rfl⟩⟩;refine ⟨_,rfl,?_⟩;(try (rw [drewN_self wc];generalize hq_:World.drewN wc _=wc;have n0_:Aside0 (Kd.R (Kd.int .u8) 5 wc w0.heap.size (fun k_=>(P1_0_ k_ ∨ w.heap.size≤k_)) (.slice Ao81 t273.length co81) t273):=⟨by rw [← hq_];exact (rr HO_252000)⟩;have n1_:Aside0 (wc.heap[gb251]?=some (.cells #[.slice Ao81 t273.length co81,.int .i64 t276,.int .i64 x252002_88] 115 (0,0))):=⟨by rw [← hq_];exact (bk BK251)⟩;have n2_:Aside0 (wc.heap[gb252]?=some (.cells #[.slice none 0 0,.int .i64 x253001_3,.int .i64 x253002_3] 115 (0,0))):=⟨by rw [← hq_];exact (bk BK252)⟩;have n3_:Aside0 (Kept w wc (fun k_=>P1_0_ k_)):=⟨by rw [← hq_];exact (hk HK)⟩;have n4_:Aside0 (Below w0.heap.size w0 wc):=⟨by rw [← hq_];exact (hn HB)⟩;clear HO_252000 BK251 BK252 HK HB hq_;have HO_252000:=n0_;have BK251:=n1_;have BK252:=n2_;have HK:=n3_;have HB:=n4_;clear n0_ n1_ n2_ n3_ n4_));have hczD_0:wc.cell? ⟨gb251,0,none⟩=some (.slice Ao81 t273.length co81):=(blk_cell BK251.out 0).trans rfl;have hczD_1:wc.cell? ⟨gb251,1,none⟩=some (.int .i64 t276):=(blk_cell BK251.out 1).trans rfl;have hczD_2:wc.cell? ⟨gb251,2,none⟩=some (.int .i64 x252002_88):=(blk_cell BK251.out 2).trans rfl;have hfzD_0:=blk_frozen BK251.out 0;have hfzD_1:=blk_frozen BK251.out 1;have hfzD_2:=blk_frozen BK251.out 2) | ((with_reducible refine gate_callee (f:=73) rfl ?_);refine goesQ (some 110) Try.func73 #[.string a0,.agg #[.slice Ao81 t273.length co81,.int .i64 t276,.int .i64 x252002_88],.int .i64 t279] ?_;(with_reducible refine (celluloidref05_number.calls kj88 a0 (fun k_=>some k_=(.slice Ao81 t273.length co81:Value).ownBlock) (.slice Ao81 t273.length co81) t273 t276 x252002_88 t279 t280 t281 t284 t285 w0 _ (hn HB) (Kd.R_tight rfl HO_252000.out) A96.out).mono ?_);rintro e w101 ⟨v282,rfl,ho0,hb,hkp⟩;refine ⟨_,rfl,?_⟩;have n0_:=kb BK251 HO_252000 hkp;have n1_:=kb BK252 HO_252000 hkp;have n2_:=kr HO_252000 HK ho0;have n3_:=kt HK HO_252000 hkp;have n4_:=Aside0.mk hb;clear BK251 BK252 HK HB HO_252000;have BK251:=n0_;have BK252:=n1_;have HO283:=n2_;have HK:=n3_;have HB:=n4_;clear n0_ n1_ n2_ n3_ n4_;(try clear hb);(try clear hkp);(try clear ho0);obtain ⟨Ao102,co102,eo102⟩:=Kd.R_slice HO283.out;subst eo102;obtain ⟨hcz103_0,hcz103_1,hcz103_2⟩:=cc3 BK251;obtain ⟨hfz103_0,hfz103_1,hfz103_2⟩:=ff3 BK251) | ((with_reducible refine gate_store (t:=115) (p:=6) rfl ?_);refine stQ 115 6 ((((w101.setCell ⟨gb251,0,none⟩ (.slice Ao102 t281.length co102)).setCell ⟨gb251,1,none⟩ (.int .i64 t284)).setCell ⟨gb251,2,none⟩ (.int .i64 t285))) ?_;intro w104 hw;have n0_:=sR hw HO283 BK251;have n1_:=sP hw BK251;have n2_:=sF hw BK252 NB252_251;have n3_:=sK hw HK GW251;have n4_:=sB hw HB GE251;clear hw HO283 BK251 BK252 HK HB;have HO283:=n0_;have BK251:=n1_;have BK252:=n2_;have HK:=n3_;have HB:=n4_;clear n0_ n1_ n2_ n3_ n4_;obtain ⟨hcz105_0,hcz105_1,hcz105_2⟩:=cc3 BK251;obtain ⟨hfz105_0,hfz105_1,hfz105_2⟩:=ff3 BK251) | ((with_reducible refine gate_store (t:=3) (p:=125) rfl ?_);refine stQ 3 125 ((w104.setCell ⟨gb251,2,none⟩ (.int .i64 3))) ?_;intro w106 hw;have n0_:=sR hw HO283 BK251;have n1_:=sP2 hw BK251;have n2_:=sF hw BK252 NB252_251;have n3_:=sK hw HK GW251;have n4_:=sB hw HB GE251;clear hw HO283 BK251 BK252 HK HB;have HO283:=n0_;have BK251:=n1_;have BK252:=n2_;have HK:=n3_;have HB:=n4_;clear n0_ n1_ n2_ n3_ n4_;obtain ⟨hcz107_0,hcz107_1,hcz107_2⟩:=cc3 BK251;obtain ⟨hfz107_0,hfz107_1,hfz107_2⟩:=ff3 BK251;obtain ⟨hcz108_0,hcz108_1,hcz108_2⟩:=cc3 BK252;obtain ⟨hfz108_0,hfz108_1,hfz108_2⟩:=ff3 BK252) | ((with_reducible refine gate_store (t:=115) (p:=10) rfl ?_);refine stQ 115 10 ((((w106.setCell ⟨gb252,0,none⟩ (.slice Ao102 t281.length co102)).setCell ⟨gb252,1,none⟩ (.int .i64 t284)).setCell ⟨gb252,2,none⟩ (.int .i64 3))) ?_;intro w109 hw;have n0_:=sR hw HO283 BK252;have n1_:=sF hw BK251 NB251_252;have n2_:=sP hw BK252;have n3_:=sK hw HK GW252;have n4_:=sB hw HB GE252;clear hw HO283 BK251 BK252 HK HB;have HO283:=n0_;have BK251:=n1_;have BK252:=n2_;have HK:=n3_;have HB:=n4_;clear n0_ n1_ n2_ n3_ n4_))
                    refine bodyPost_ret (results_cell_row rfl _ _ gb252 115 #[.slice Ao102 t281.length co102,.int .i64 t284,.int .i64 3] (0,0) _ rfl (bk BK252) Try.underlying115 rfl (by kernel_rfl)) rfl ?_
                    exact ⟨_,by first | rfl | (simp [errW_none,errW_some] <;> rfl) | (simp [*,errW_none,errW_some] <;> rfl),rr HO283,hn HB,hk HK⟩
                   ·rw [if_neg c98] at H
                    have c98b0:decide ((t281.length:Int) < (wrap64 (t278+t280)))=false:=decide_eq_false c98
                    clear c98
                    by_cases c110:(wrap64 ((t281.length:Int)+(wrap64 (t264+t266)))) > a2
                    ·rw [if_pos c110] at H
                     have c110b0:decide (a2 < (wrap64 ((t281.length:Int)+(wrap64 (t264+t266)))))=true:=decide_eq_true c110
                     clear c110
                     simp only [Option.some.injEq,Prod.mk.injEq] at H
                     obtain ⟨rfl,rfl,rfl⟩:=H
                     have hnb111:=NB251_252.out
                     have hnc111:=NB252_251.out
                     obtain ⟨hcz112_0,hcz112_1,hcz112_2⟩:=cc3 BK251
                     obtain ⟨hfz112_0,hfz112_1,hfz112_2⟩:=ff3 BK251
                     go_wp2_with (first | ((with_reducible refine gate_callee (f:=70) rfl ?_);refine goesQ (some 103) Try.func70 #[.int .i64 t272] ?_;(with_reducible refine (celluloidref05_Distance.calls kj88 t272 t278 t279 _ A95.out).mono ?_);rintro e w' ⟨rfl,⟨nd,rfl⟩⟩;refine ⟨_,rfl,?_⟩;(try (rw [drewN_self wc];generalize hq_:World.drewN wc _=wc;have n0_:Aside0 (Kd.R (Kd.int .u8) 5 wc w0.heap.size (fun k_=>(P1_0_ k_ ∨ w.heap.size≤k_)) (.slice Ao81 t273.length co81) t273):=⟨by rw [← hq_];exact (rr HO_252000)⟩;have n1_:Aside0 (wc.heap[gb251]?=some (.cells #[.slice Ao81 t273.length co81,.int .i64 t276,.int .i64 x252002_88] 115 (0,0))):=⟨by rw [← hq_];exact (bk BK251)⟩;have n2_:Aside0 (wc.heap[gb252]?=some (.cells #[.slice none 0 0,.int .i64 x253001_3,.int .i64 x253002_3] 115 (0,0))):=⟨by rw [← hq_];exact (bk BK252)⟩;have n3_:Aside0 (Kept w wc (fun k_=>P1_0_ k_)):=⟨by rw [← hq_];exact (hk HK)⟩;have n4_:Aside0 (Below w0.heap.size w0 wc):=⟨by rw [← hq_];exact (hn HB)⟩;clear HO_252000 BK251 BK252 HK HB hq_;have HO_252000:=n0_;have BK251:=n1_;have BK252:=n2_;have HK:=n3_;have HB:=n4_;clear n0_ n1_ n2_ n3_ n4_));have hczD_0:wc.cell? ⟨gb251,0,none⟩=some (.slice Ao81 t273.length co81):=(blk_cell BK251.out 0).trans rfl;have hczD_1:wc.cell? ⟨gb251,1,none⟩=some (.int .i64 t276):=(blk_cell BK251.out 1).trans rfl;have hczD_2:wc.cell? ⟨gb251,2,none⟩=some (.int .i64 x252002_88):=(blk_cell BK251.out 2).trans rfl;have hfzD_0:=blk_frozen BK251.out 0;have hfzD_1:=blk_frozen BK251.out 1;have hfzD_2:=blk_frozen BK251.out 2) | ((with_reducible refine gate_callee (f:=73) rfl ?_);refine goesQ (some 110) Try.func73 #[.string a0,.agg #[.slice Ao81 t273.length co81,.int .i64 t276,.int .i64 x252002_88],.int .i64 t279] ?_;(with_reducible refine (celluloidref05_number.calls kj88 a0 (fun k_=>some k_=(.slice Ao81 t273.length co81:Value).ownBlock) (.slice Ao81 t273.length co81) t273 t276 x252002_88 t279 t280 t281 t284 t285 w0 _ (hn HB) (Kd.R_tight rfl HO_252000.out) A96.out).mono ?_);rintro e w113 ⟨v282,rfl,ho0,hb,hkp⟩;refine ⟨_,rfl,?_⟩;have n0_:=kb BK251 HO_252000 hkp;have n1_:=kb BK252 HO_252000 hkp;have n2_:=kr HO_252000 HK ho0;have n3_:=kt HK HO_252000 hkp;have n4_:=Aside0.mk hb;clear BK251 BK252 HK HB HO_252000;have BK251:=n0_;have BK252:=n1_;have HO283:=n2_;have HK:=n3_;have HB:=n4_;clear n0_ n1_ n2_ n3_ n4_;(try clear hb);(try clear hkp);(try clear ho0);obtain ⟨Ao114,co114,eo114⟩:=Kd.R_slice HO283.out;subst eo114;obtain ⟨hcz115_0,hcz115_1,hcz115_2⟩:=cc3 BK251;obtain ⟨hfz115_0,hfz115_1,hfz115_2⟩:=ff3 BK251) | ((with_reducible refine gate_store (t:=115) (p:=6) rfl ?_);refine stQ 115 6 ((((w113.setCell ⟨gb251,0,none⟩ (.slice Ao114 t281.length co114)).setCell ⟨gb251,1,none⟩ (.int .i64 t284)).setCell ⟨gb251,2,none⟩ (.int .i64 t285))) ?_;intro w116 hw;have n0_:=sR hw HO283 BK251;have n1_:=sP hw BK251;have n2_:=sF hw BK252 NB252_251;have n3_:=sK hw HK GW251;have n4_:=sB hw HB GE251;clear hw HO283 BK251 BK252 HK HB;have HO283:=n0_;have BK251:=n1_;have BK252:=n2_;have HK:=n3_;have HB:=n4_;clear n0_ n1_ n2_ n3_ n4_;obtain ⟨hcz117_0,hcz117_1,hcz117_2⟩:=cc3 BK251;obtain ⟨hfz117_0,hfz117_1,hfz117_2⟩:=ff3 BK251) | ((with_reducible refine gate_store (t:=3) (p:=134) rfl ?_);refine stQ 3 134 ((w116.setCell ⟨gb251,2,none⟩ (.int .i64 7))) ?_;intro w118 hw;have n0_:=sR hw HO283 BK251;have n1_:=sP2 hw BK251;have n2_:=sF hw BK252 NB252_251;have n3_:=sK hw HK GW251;have n4_:=sB hw HB GE251;clear hw HO283 BK251 BK252 HK HB;have HO283:=n0_;have BK251:=n1_;have BK252:=n2_;have HK:=n3_;have HB:=n4_;clear n0_ n1_ n2_ n3_ n4_;obtain ⟨hcz119_0,hcz119_1,hcz119_2⟩:=cc3 BK251;obtain ⟨hfz119_0,hfz119_1,hfz119_2⟩:=ff3 BK251;obtain ⟨hcz120_0,hcz120_1,hcz120_2⟩:=cc3 BK252;obtain ⟨hfz120_0,hfz120_1,hfz120_2⟩:=ff3 BK252) | ((with_reducible refine gate_store (t:=115) (p:=10) rfl ?_);refine stQ 115 10 ((((w118.setCell ⟨gb252,0,none⟩ (.slice Ao114 t281.length co114)).setCell ⟨gb252,1,none⟩ (.int .i64 t284)).setCell ⟨gb252,2,none⟩ (.int .i64 7))) ?_;intro w121 hw;have n0_:=sR hw HO283 BK252;have n1_:=sF hw BK251 NB251_252;have n2_:=sP hw BK252;have n3_:=sK hw HK GW252;have n4_:=sB hw HB GE252;clear hw HO283 BK251 BK252 HK HB;have HO283:=n0_;have BK251:=n1_;have BK252:=n2_;have HK:=n3_;have HB:=n4_;clear n0_ n1_ n2_ n3_ n4_))
                     refine bodyPost_ret (results_cell_row rfl _ _ gb252 115 #[.slice Ao114 t281.length co114,.int .i64 t284,.int .i64 7] (0,0) _ rfl (bk BK252) Try.underlying115 rfl (by kernel_rfl)) rfl ?_
                     exact ⟨_,by first | rfl | (simp [errW_none,errW_some] <;> rfl) | (simp [*,errW_none,errW_some] <;> rfl),rr HO283,hn HB,hk HK⟩
                    ·rw [if_neg c110] at H
                     have c110b0:decide (a2 < (wrap64 ((t281.length:Int)+(wrap64 (t264+t266)))))=false:=decide_eq_false c110
                     clear c110
                     have H':=Aside0.mk H
                     clear H
                     have hnb122:=NB251_252.out
                     have hnc122:=NB252_251.out
                     obtain ⟨hcz123_0,hcz123_1,hcz123_2⟩:=cc3 BK251
                     obtain ⟨hfz123_0,hfz123_1,hfz123_2⟩:=ff3 BK251
                     go_wp2_with (first | ((with_reducible refine gate_callee (f:=70) rfl ?_);refine goesQ (some 103) Try.func70 #[.int .i64 t272] ?_;(with_reducible refine (celluloidref05_Distance.calls kj88 t272 t278 t279 _ A95.out).mono ?_);rintro e w' ⟨rfl,⟨nd,rfl⟩⟩;refine ⟨_,rfl,?_⟩;(try (rw [drewN_self wc];generalize hq_:World.drewN wc _=wc;have n0_:Aside0 (Kd.R (Kd.int .u8) 5 wc w0.heap.size (fun k_=>(P1_0_ k_ ∨ w.heap.size≤k_)) (.slice Ao81 t273.length co81) t273):=⟨by rw [← hq_];exact (rr HO_252000)⟩;have n1_:Aside0 (wc.heap[gb251]?=some (.cells #[.slice Ao81 t273.length co81,.int .i64 t276,.int .i64 x252002_88] 115 (0,0))):=⟨by rw [← hq_];exact (bk BK251)⟩;have n2_:Aside0 (wc.heap[gb252]?=some (.cells #[.slice none 0 0,.int .i64 x253001_3,.int .i64 x253002_3] 115 (0,0))):=⟨by rw [← hq_];exact (bk BK252)⟩;have n3_:Aside0 (Kept w wc (fun k_=>P1_0_ k_)):=⟨by rw [← hq_];exact (hk HK)⟩;have n4_:Aside0 (Below w0.heap.size w0 wc):=⟨by rw [← hq_];exact (hn HB)⟩;clear HO_252000 BK251 BK252 HK HB hq_;have HO_252000:=n0_;have BK251:=n1_;have BK252:=n2_;have HK:=n3_;have HB:=n4_;clear n0_ n1_ n2_ n3_ n4_));have hczD_0:wc.cell? ⟨gb251,0,none⟩=some (.slice Ao81 t273.length co81):=(blk_cell BK251.out 0).trans rfl;have hczD_1:wc.cell? ⟨gb251,1,none⟩=some (.int .i64 t276):=(blk_cell BK251.out 1).trans rfl;have hczD_2:wc.cell? ⟨gb251,2,none⟩=some (.int .i64 x252002_88):=(blk_cell BK251.out 2).trans rfl;have hfzD_0:=blk_frozen BK251.out 0;have hfzD_1:=blk_frozen BK251.out 1;have hfzD_2:=blk_frozen BK251.out 2) | ((with_reducible refine gate_callee (f:=73) rfl ?_);refine goesQ (some 110) Try.func73 #[.string a0,.agg #[.slice Ao81 t273.length co81,.int .i64 t276,.int .i64 x252002_88],.int .i64 t279] ?_;(with_reducible refine (celluloidref05_number.calls kj88 a0 (fun k_=>some k_=(.slice Ao81 t273.length co81:Value).ownBlock) (.slice Ao81 t273.length co81) t273 t276 x252002_88 t279 t280 t281 t284 t285 w0 _ (hn HB) (Kd.R_tight rfl HO_252000.out) A96.out).mono ?_);rintro e w124 ⟨v282,rfl,ho0,hb,hkp⟩;refine ⟨_,rfl,?_⟩;have n0_:=kb BK251 HO_252000 hkp;have n1_:=kb BK252 HO_252000 hkp;have n2_:=kr HO_252000 HK ho0;have n3_:=kt HK HO_252000 hkp;have n4_:=Aside0.mk hb;clear BK251 BK252 HK HB HO_252000;have BK251:=n0_;have BK252:=n1_;have HO283:=n2_;have HK:=n3_;have HB:=n4_;clear n0_ n1_ n2_ n3_ n4_;(try clear hb);(try clear hkp);(try clear ho0);obtain ⟨Ao125,co125,eo125⟩:=Kd.R_slice HO283.out;subst eo125;obtain ⟨hcz126_0,hcz126_1,hcz126_2⟩:=cc3 BK251;obtain ⟨hfz126_0,hfz126_1,hfz126_2⟩:=ff3 BK251) | ((with_reducible refine gate_store (t:=115) (p:=6) rfl ?_);refine stQ 115 6 ((((w124.setCell ⟨gb251,0,none⟩ (.slice Ao125 t281.length co125)).setCell ⟨gb251,1,none⟩ (.int .i64 t284)).setCell ⟨gb251,2,none⟩ (.int .i64 t285))) ?_;intro w127 hw;have n0_:=sR hw HO283 BK251;have n1_:=sP hw BK251;have n2_:=sF hw BK252 NB252_251;have n3_:=sK hw HK GW251;have n4_:=sB hw HB GE251;clear hw HO283 BK251 BK252 HK HB;have HO283:=n0_;have BK251:=n1_;have BK252:=n2_;have HK:=n3_;have HB:=n4_;clear n0_ n1_ n2_ n3_ n4_;obtain ⟨hcz128_0,hcz128_1,hcz128_2⟩:=cc3 BK251;obtain ⟨hfz128_0,hfz128_1,hfz128_2⟩:=ff3 BK251))
                     go_loopg [16] kj88 (fun kq v16 w'=>∃ (x16_7:Int) (x252000_7:List Int) (u252000:Value),v16=.int .i64 x16_7∧Aside0 (celluloidref05_codes.l1 kq a0 a2 l3 l4 (wrap64 (t264+t266)) (wrap64 (t278+t280)) x16_7 x252000_7 t284 t285=some (r1,r2,r3))∧Aside0 (kq≤kj88)∧Aside0 (Kd.R (Kd.int .u8) 5 w' w0.heap.size (fun k_=>(P1_0_ k_ ∨ w.heap.size≤k_)) u252000 x252000_7)∧Aside0 (w'.heap[gb251]?=some (.cells #[u252000,.int .i64 t284,.int .i64 t285] 115 (0,0)))∧Aside0 (w'.heap[gb252]?=some (.cells #[(.slice none 0 0),.int .i64 x253001_3,.int .i64 x253002_3] 115 (0,0)))∧Aside0 (Kept w w' (fun k_=>P1_0_ k_))∧Aside0 (Below w0.heap.size w0 w'))
                     case atStart=>exact ⟨(0),(t281),(.slice Ao125 t281.length co125),(by first | rfl | (simp;done) | (simp [*];done)),H',⟨Nat.le_refl _⟩,⟨rr HO283⟩,⟨bk BK251⟩,⟨bk BK252⟩,⟨hk HK⟩,⟨hn HB⟩⟩
                     case round =>
                      clear H'
                      clear c94b0 c94b1 c97b0 c97b1 c98b0 c110b0 hcz123_0 hcz123_1 hcz123_2 hcz126_0 hcz126_1 hcz126_2 hcz128_0 hcz128_1 hcz128_2 hfz123_0 hfz123_1 hfz123_2 hfz126_0 hfz126_1 hfz126_2 hfz128_0 hfz128_1 hfz128_2
                      obtain ⟨x16_7,x252000_7,u252000,rfl,HA,HK7,HO_252000,BK251,BK252,HK,HB⟩:=hrel
                      cases gk with
                      |zero=>exact absurd HA.out (by simp [celluloidref05_codes.l1])
                      |succ k7 =>
                       have H:=HA.out
                       clear HA
                       simp only [celluloidref05_codes.l1] at H
                       by_cases c129:x16_7 < (wrap64 (t264+t266))
                       ·rw [if_pos c129] at H
                        have c129b0:decide (x16_7 < (wrap64 (t264+t266)))=true:=decide_eq_true c129
                        clear c129
                        obtain ⟨ji130,hji130⟩:∃ j_:Int,(wrap64 ((x252000_7.length:Int) - (wrap64 (t278+t280))))=j_:=⟨_,rfl⟩
                        replace H:(if 0≤(ji130) then (if (ji130) < (x252000_7.length:Int) then (if x252000_7.length < 140737488355328 then (celluloidref05_codes.l1 k7 a0 a2 l3 l4 (wrap64 (t264+t266)) (wrap64 (t278+t280)) (wrap64 (x16_7+1)) (x252000_7 ++ [rd x252000_7 (ji130)]) t284 t285) else (none)) else (none)) else (none))=some (r1,r2,r3):=by first | (rw [hji130] at H;exact H) | (simp only [hji130] at H ⊢;exact H)
                        have hji130w:(IntKind.i64.wrap ((x252000_7.length:Int) - (wrap64 (t278+t280))))=ji130:=(i64_w _).trans hji130
                        by_cases c131:0≤(ji130)
                        ·rw [if_pos c131] at H
                         have c131b0:decide (0≤(ji130))=true:=decide_eq_true c131
                         clear c131
                         by_cases c132:(ji130) < (x252000_7.length:Int)
                         ·rw [if_pos c132] at H
                          have c132b0:decide ((ji130) < (x252000_7.length:Int))=true:=decide_eq_true c132
                          clear c132
                          by_cases c133:x252000_7.length < 140737488355328
                          ·rw [if_pos c133] at H
                           have LMc133:=Aside0.mk c133
                           clear c133
                           obtain ⟨y287,hy287⟩:∃ y_:List Int,y_=(x252000_7 ++ [rd x252000_7 (ji130)]):=⟨_,rfl⟩
                           replace H:(celluloidref05_codes.l1 k7 a0 a2 l3 l4 (wrap64 (t264+t266)) (wrap64 (t278+t280)) (wrap64 (x16_7+1)) y287 t284 t285)=some (r1,r2,r3):=by first | (rw [hy287];with_reducible exact H) | (have H2_:=(Option.bind_some _ _).symm.trans H;rw [hy287];with_reducible exact H2_) | (have H2_:=(Option.bind_some _ _).symm.trans H;with_reducible exact H2_) | with_reducible exact H | (rw [hy287];exact H) | exact H
                           have Ny287:=Aside0.mk hy287
                           clear hy287
                           have H':=Aside0.mk H
                           clear H
                           try go_wp2
                           have n0_:=Aside0.mk (Kd.R_drew HO_252000.out)
                           have n1_:=Aside0.mk (blk_drew BK251.out)
                           have n2_:=Aside0.mk (blk_drew BK252.out)
                           have n3_:=Aside0.mk (Kept.drew HK.out)
                           have n4_:=Aside0.mk (below_drew1 HB.out)
                           clear HO_252000
                           clear BK251
                           clear BK252
                           clear HK
                           clear HB
                           have HO_252000:=n0_
                           have BK251:=n1_
                           have BK252:=n2_
                           have HK:=n3_
                           have HB:=n4_
                           clear n0_ n1_ n2_ n3_ n4_
                           obtain ⟨Ao135,co135,eo135⟩:=Kd.R_slice HO_252000.out
                           (first | subst eo135 | (injection eo135 with f1_ f2_ f3_;have f4_:=f1_.symm;have f5_:=f3_.symm;clear f1_ f2_ f3_;subst f4_;subst f5_))
                           have p286:0≤((ji130):Int):=of_decide_eq_true (by first | (with_reducible assumption) | assumption)
                           have q286:(ji130) < (x252000_7.length:Int):=of_decide_eq_true (by first | (with_reducible assumption) | assumption)
                           obtain ⟨ad286,e286,hx286_0⟩:=Kd.at_int (Kd.R_reads' HO_252000.out).2.2 (ji130) p286 q286
                           cases e286
                           replace p286:=eq_true p286
                           replace q286:=eq_true q286
                           refine start_ (n:=15) (S:=fun w'=>w'.cell? ⟨gb251,0,none⟩=some (.slice (some ad286) x252000_7.length co135)∧w'.cell? ⟨gb251,1,none⟩=some (.int .i64 t284)∧w'.cell? ⟨gb251,2,none⟩=some (.int .i64 t285)∧w'.cell? (ad286.add ((ji130)).toNat)=some (.int .u8 (rd x252000_7 (ji130)))) (ds:=[12,14]) #[false,false,false,false,false,false,false,false,false,false,false,false,false,false,false] (by kernel_rfl) rfl rfl ⟨(blk_cell BK251.out 0).trans rfl,(blk_cell BK251.out 1).trans rfl,(blk_cell BK251.out 2).trans rfl,hx286_0⟩ (fun hHeld=>?_);refine with_tabW celluloidref05_codes.tab41 celluloidref05_codes.bits41 (fun HT_ HW_=>?_)
                           generalize wr.drew=w134 at HO_252000 BK251 BK252 HK HB hx286_0 hHeld ⊢
                           refine pureQ 0 (some 141) (tk 1 14) (any_of HT_.out (by kernel_rfl)) ?_
                           refine pureQ 2 (some 143) #[true,false,true,false,false,false,false,false,false,false,false,false,false,false,false] (any_of HT_.out (by kernel_rfl)) ?_
                           refine pureQ 4 (some 145) #[true,false,true,false,true,false,false,false,false,false,false,false,false,false,false] (any_of HT_.out (by kernel_rfl)) ?_
                           refine pureQ 7 (some 148) #[true,false,true,false,true,false,false,true,false,false,false,false,false,false,false] (any_of HT_.out (by kernel_rfl)) ?_
                           refine take_ (i:=1) (N:=some 142) (v:=?_) (a':=?_) #[true,true,true,false,true,false,false,true,false,false,false,false,false,false,false] rfl rfl (take_ofW HT_.out HW_.out (by kernel_rfl)) (fun _ _ _ h=>h) (Or.inl ⟨by rfl,?_⟩) hHeld ?_ ?_
                           rotate_left
                           ·rintro w' ⟨s0,s1,s2,s3⟩
                            go_simp
                            with_reducible rfl
                           rotate_left
                           ·simp only [Act.put,List.setIfInBounds_toArray,List.set_cons_zero,List.set_cons_succ,i64_w,i32_w]
                            rfl
                           refine take_ (i:=3) (N:=some 144) (v:=?_) (a':=?_) #[true,true,true,true,true,false,false,true,false,false,false,false,false,false,false] rfl rfl (take_ofW HT_.out HW_.out (by kernel_rfl)) (fun _ _ _ h=>h) (Or.inl ⟨by rfl,?_⟩) hHeld ?_ ?_
                           rotate_left
                           ·rintro w' ⟨s0,s1,s2,s3⟩
                            go_simp
                            with_reducible rfl
                           rotate_left
                           ·simp only [Act.put,List.setIfInBounds_toArray,List.set_cons_zero,List.set_cons_succ,i64_w,i32_w]
                            rfl
                           refine take_ (i:=5) (N:=some 146) (v:=?_) (a':=?_) #[true,true,true,true,true,true,false,true,false,false,false,false,false,false,false] rfl rfl (take_ofW HT_.out HW_.out (by kernel_rfl)) (fun _ _ _ h=>h) (Or.inl ⟨by rfl,?_⟩) hHeld ?_ ?_
                           rotate_left
                           ·rintro w' ⟨s0,s1,s2,s3⟩
                            go_simp
                            with_reducible rfl
                           rotate_left
                           ·simp only [Act.put,List.setIfInBounds_toArray,List.set_cons_zero,List.set_cons_succ,i64_w,i32_w]
                            rfl
                           refine pureQ 6 (some 147) (tk 8 7) (any_of HT_.out (by kernel_rfl)) ?_
                           refine pureQ 8 (some 149) (tk 9 6) (any_of HT_.out (by kernel_rfl)) ?_
                           refine pureQ 9 (some 150) (tk 10 5) (any_of HT_.out (by kernel_rfl)) ?_
                           refine take_ (i:=10) (N:=some 151) (v:=?_) (a':=?_) (tk 11 4) rfl rfl (take_ofW HT_.out HW_.out (by kernel_rfl)) (fun _ _ _ h=>h) (Or.inl ⟨by rfl,?_⟩) hHeld ?_ ?_
                           rotate_left
                           ·rintro w' ⟨s0,s1,s2,s3⟩
                            go_simp
                            with_reducible rfl
                           rotate_left
                           ·simp only [Act.put,List.setIfInBounds_toArray,List.set_cons_zero,List.set_cons_succ,i64_w,i32_w]
                            rfl
                           refine one_ (i:=11) (N:=some 152) (tk 12 3) rfl rfl (one_of HT_.out (by kernel_rfl)) (by decide) (fun K hK=>?_)
                           refine value_ (w1:=?_) (v:=?_) (by rfl) rfl ?_ ?_
                           rotate_left 2
                           ·go_simp
                            constructor
                            ·rfl
                            ·rfl
                           refine hK.out _ _ ⟨(blk_cell (blk_alloc BK251.out _) 0).trans rfl,(blk_cell (blk_alloc BK251.out _) 1).trans rfl,(blk_cell (blk_alloc BK251.out _) 2).trans rfl,(World.cell?_alloc_lt _ _ _ (World.block_lt_of_cell? _ _ (hHeld.2.2.2))).trans (hHeld.2.2.2)⟩ (fun hHeld=>?_)
                           clear hK K
                           refine norm_ (a':=?_) ?_ ?_
                           rotate_left
                           ·show Act.put _ (some 152) _=_
                            simp only [Act.put,List.setIfInBounds_toArray,List.set_cons_zero,List.set_cons_succ,i64_w,i32_w]
                            rfl
                           refine last_ (i:=12) (N:=some 153) #[true,true,true,true,true,true,true,true,true,true,true,true,true,false,false] rfl rfl (one_of HT_.out (by kernel_rfl)) (by decide) (fun K hK=>?_)
                           refine Kd.R_append_step (Kd.int .u8) (w0:=w0) w0.heap.size (by rfl) (.tmp 142) (.tmp 152) 40 5 (.int .u8 0) 1 rfl Try.underlying40 info5 rfl (by decide) (by omega) (.slice (some ad286) x252000_7.length co135) x252000_7 (rd x252000_7 (ji130)) [.int .u8 (rd x252000_7 (ji130))] (fun k_=>(P1_0_ k_ ∨ w.heap.size≤k_)) (fun _=>False) rfl rfl ?aP (fun _ hk=>hk.elim) ?aF ?aO ?aB ?aS ?aL ?_
                           (case aP=>exact rfl)
                           (case aB=>exact (hn HB))
                           (case aF=>exact (fun k_ hk=>(.inr (Nat.le_trans (by first | exact HK.out.1 | exact (show Kept w _ (fun k_=>P1_0_ k_) from by repeat (first | (with_reducible first | exact HK.out | apply Kept.alloc | apply Kept.drewN | apply Kept.drew | refine Kept.setCell ?_ (.inr GW251.out) _ | refine Kept.setCell ?_ (.inr GW252.out) _) | exact HK.out)).1) hk))))
                           (case aO=>exact (rr HO_252000))
                           (case aS=>exact (below_size (hn HB)))
                           (case aL=>have:=LMc133.out;omega)
                           intro v288 w136 ho hb hg hat
                           rw [← Ny287.out] at ho
                           have n0_:=Aside0.mk (blk_grown (g:=gb251) (o:=.cells #[.slice (some ad286) x252000_7.length co135,.int .i64 t284,.int .i64 t285] 115 (0,0)) (bk BK251) hg (Kd.R_ne HO_252000.out BK251.out (by decide)))
                           have n1_:=Aside0.mk (blk_grown (g:=gb252) (o:=.cells #[.slice none 0 0,.int .i64 x253001_3,.int .i64 x253002_3] 115 (0,0)) (bk BK252) hg (Kd.R_ne HO_252000.out BK252.out (by decide)))
                           have n2_:=Aside0.mk hb
                           have n3_:=Aside0.mk (Kept.of_grown (S:=(fun k_=>P1_0_ k_)) hg (hk HK) (fun k_ e_=>(HO_252000.out.1 k_ e_)))
                           have n4_:=Aside0.mk ho
                           clear BK251
                           clear BK252
                           clear HB
                           clear HK
                           clear HO_252000
                           have BK251:=n0_
                           have BK252:=n1_
                           have HB:=n2_
                           have HK:=n3_
                           have HO289:=n4_
                           clear n0_ n1_ n2_ n3_ n4_
                           clear ho hb hg hat
                           obtain ⟨Ao137,co137,eo137⟩:=Kd.R_slice HO289.out
                           (first | subst eo137 | (injection eo137 with f1_ f2_ f3_;have f4_:=f1_.symm;have f5_:=f3_.symm;clear f1_ f2_ f3_;subst f4_;subst f5_))
                           refine hK.out _ _ ?_
                           clear hK K
                           refine norm_ (a':=?_) ?_ ?_
                           rotate_left
                           ·show Act.put _ (some 153) _=_
                            simp only [Act.put,List.setIfInBounds_toArray,List.set_cons_zero,List.set_cons_succ,i64_w,i32_w]
                            rfl
                           refine pureQ 13 (some 154) (tk 14 1) (any_of HT_.out (by kernel_rfl)) ?_
                           refine last_ (i:=14) (N:=none) #[true,true,true,true,true,true,true,true,true,true,true,true,true,true,true] rfl rfl (one_of HT_.out (by kernel_rfl)) (by decide) (fun K hK=>?_)
                           have hs138:w136.cell? ⟨gb251,0,none⟩=some (.slice (some ad286) x252000_7.length co135):=(blk_cell BK251.out 0).trans rfl
                           have hfs138:=blk_frozen BK251.out 0
                           have hns138_1:=NB252_251.out
                           have hms138_1:=NB251_252.out
                           refine skip_ (w1:=?_) (by rfl) rfl ?_ ?_
                           rotate_left
                           ·go_simp
                            rfl
                           refine hK.out _ _ ?_
                           clear hK K
                           refine done_ (done_of HT_.out (by kernel_rfl)) ?_
                           try go_wp2
                           go_roundg k7
                           case measure=>have:=HJ5.out;have:=HJ17.out;have:=HK3.out;have:=HJ28.out;have:=HJ71.out;have:=HJ88.out;have:=HK7.out;omega
                           case rel=>exact ⟨(wrap64 (x16_7+1)),(y287),(.slice Ao137 y287.length co137),(by first | rfl | (simp;done) | (simp [*];done)),H',⟨by have:=HJ5.out;have:=HJ17.out;have:=HK3.out;have:=HJ28.out;have:=HJ71.out;have:=HJ88.out;have:=HK7.out;omega⟩,⟨by (with_reducible repeat (first | apply Kd.R_alloc | apply Kd.R_drewN | apply Kd.R_drew));exact Kd.R_mono (Kd.R_far (p:=⟨gb251,0,none⟩) (Kd.R_types HO289.out BK251.out (by decide)) (fun _ hk=>hk.2) (.slice Ao137 y287.length co137)) (fun _ hk=>hk.1)⟩,⟨by (with_reducible repeat (first | refine blk_drewN ?_ _ | refine blk_drew ?_ | refine blk_alloc ?_ _));refine blk_put (cs:=#[.slice (some ad286) x252000_7.length co135,.int .i64 t284,.int .i64 t285]) ?_ 0 _ rfl;(with_reducible repeat (first | refine blk_drewN ?_ _ | refine blk_drew ?_ | refine blk_alloc ?_ _));exact BK251.out⟩,⟨by (with_reducible repeat (first | refine blk_drewN ?_ _ | refine blk_drew ?_ | refine blk_alloc ?_ _));refine blk_far ?_ NB252_251.out _;(with_reducible repeat (first | refine blk_drewN ?_ _ | refine blk_drew ?_ | refine blk_alloc ?_ _));exact BK252.out⟩,⟨hk HK⟩,⟨hn HB⟩⟩
                          ·rw [if_neg c133] at H
                           exact absurd H (by simp)
                         ·rw [if_neg c132] at H
                          exact absurd H (by simp)
                        ·rw [if_neg c131] at H
                         exact absurd H (by simp)
                       ·rw [if_neg c129] at H
                        have c129b0:decide (x16_7 < (wrap64 (t264+t266)))=false:=decide_eq_false c129
                        clear c129
                        have H':=Aside0.mk H
                        clear H
                        go_wp2
                        go_roundg k7
                        case measure=>have:=HJ5.out;have:=HJ17.out;have:=HK3.out;have:=HJ28.out;have:=HJ71.out;have:=HJ88.out;have:=HK7.out;omega
                        case rel=>exact ⟨(x252000_7),(t284),(t285),(x253001_3),(x253002_3),(u252000),H',⟨by have:=HJ5.out;have:=HJ17.out;have:=HK3.out;have:=HJ28.out;have:=HJ71.out;have:=HJ88.out;have:=HK7.out;omega⟩,⟨rr HO_252000⟩,⟨bk BK251⟩,⟨bk BK252⟩,⟨hk HK⟩,⟨hn HB⟩⟩
                  ·rw [if_neg c97] at H
                   have c97b0:(t285 == 0)=false:=beq_eq_false_iff_ne.mpr c97
                   have c97b1:(t285 != 0)=true:=bne_iff_ne.mpr c97
                   simp only [Option.some.injEq,Prod.mk.injEq] at H
                   obtain ⟨rfl,rfl,rfl⟩:=H
                   have hnb139:=NB251_252.out
                   have hnc139:=NB252_251.out
                   obtain ⟨hcz140_0,hcz140_1,hcz140_2⟩:=cc3 BK251
                   obtain ⟨hfz140_0,hfz140_1,hfz140_2⟩:=ff3 BK251
                   go_wp2_with (first | ((with_reducible refine gate_callee (f:=70) rfl ?_);refine goesQ (some 103) Try.func70 #[.int .i64 t272] ?_;(with_reducible refine (celluloidref05_Distance.calls kj88 t272 t278 t279 _ A95.out).mono ?_);rintro e w' ⟨rfl,⟨nd,rfl⟩⟩;refine ⟨_,rfl,?_⟩;(try (rw [drewN_self wc];generalize hq_:World.drewN wc _=wc;have n0_:Aside0 (Kd.R (Kd.int .u8) 5 wc w0.heap.size (fun k_=>(P1_0_ k_ ∨ w.heap.size≤k_)) (.slice Ao81 t273.length co81) t273):=⟨by rw [← hq_];exact (rr HO_252000)⟩;have n1_:Aside0 (wc.heap[gb251]?=some (.cells #[.slice Ao81 t273.length co81,.int .i64 t276,.int .i64 x252002_88] 115 (0,0))):=⟨by rw [← hq_];exact (bk BK251)⟩;have n2_:Aside0 (wc.heap[gb252]?=some (.cells #[.slice none 0 0,.int .i64 x253001_3,.int .i64 x253002_3] 115 (0,0))):=⟨by rw [← hq_];exact (bk BK252)⟩;have n3_:Aside0 (Kept w wc (fun k_=>P1_0_ k_)):=⟨by rw [← hq_];exact (hk HK)⟩;have n4_:Aside0 (Below w0.heap.size w0 wc):=⟨by rw [← hq_];exact (hn HB)⟩;clear HO_252000 BK251 BK252 HK HB hq_;have HO_252000:=n0_;have BK251:=n1_;have BK252:=n2_;have HK:=n3_;have HB:=n4_;clear n0_ n1_ n2_ n3_ n4_));have hczD_0:wc.cell? ⟨gb251,0,none⟩=some (.slice Ao81 t273.length co81):=(blk_cell BK251.out 0).trans rfl;have hczD_1:wc.cell? ⟨gb251,1,none⟩=some (.int .i64 t276):=(blk_cell BK251.out 1).trans rfl;have hczD_2:wc.cell? ⟨gb251,2,none⟩=some (.int .i64 x252002_88):=(blk_cell BK251.out 2).trans rfl;have hfzD_0:=blk_frozen BK251.out 0;have hfzD_1:=blk_frozen BK251.out 1;have hfzD_2:=blk_frozen BK251.out 2) | ((with_reducible refine gate_callee (f:=73) rfl ?_);refine goesQ (some 110) Try.func73 #[.string a0,.agg #[.slice Ao81 t273.length co81,.int .i64 t276,.int .i64 x252002_88],.int .i64 t279] ?_;(with_reducible refine (celluloidref05_number.calls kj88 a0 (fun k_=>some k_=(.slice Ao81 t273.length co81:Value).ownBlock) (.slice Ao81 t273.length co81) t273 t276 x252002_88 t279 t280 t281 t284 t285 w0 _ (hn HB) (Kd.R_tight rfl HO_252000.out) A96.out).mono ?_);rintro e w141 ⟨v282,rfl,ho0,hb,hkp⟩;refine ⟨_,rfl,?_⟩;have n0_:=kb BK251 HO_252000 hkp;have n1_:=kb BK252 HO_252000 hkp;have n2_:=kr HO_252000 HK ho0;have n3_:=kt HK HO_252000 hkp;have n4_:=Aside0.mk hb;clear BK251 BK252 HK HB HO_252000;have BK251:=n0_;have BK252:=n1_;have HO283:=n2_;have HK:=n3_;have HB:=n4_;clear n0_ n1_ n2_ n3_ n4_;(try clear hb);(try clear hkp);(try clear ho0);obtain ⟨Ao142,co142,eo142⟩:=Kd.R_slice HO283.out;subst eo142;obtain ⟨hcz143_0,hcz143_1,hcz143_2⟩:=cc3 BK251;obtain ⟨hfz143_0,hfz143_1,hfz143_2⟩:=ff3 BK251) | ((with_reducible refine gate_store (t:=115) (p:=6) rfl ?_);refine stQ 115 6 ((((w141.setCell ⟨gb251,0,none⟩ (.slice Ao142 t281.length co142)).setCell ⟨gb251,1,none⟩ (.int .i64 t284)).setCell ⟨gb251,2,none⟩ (.int .i64 t285))) ?_;intro w144 hw;have n0_:=sR hw HO283 BK251;have n1_:=sP hw BK251;have n2_:=sF hw BK252 NB252_251;have n3_:=sK hw HK GW251;have n4_:=sB hw HB GE251;clear hw HO283 BK251 BK252 HK HB;have HO283:=n0_;have BK251:=n1_;have BK252:=n2_;have HK:=n3_;have HB:=n4_;clear n0_ n1_ n2_ n3_ n4_;obtain ⟨hcz145_0,hcz145_1,hcz145_2⟩:=cc3 BK251;obtain ⟨hfz145_0,hfz145_1,hfz145_2⟩:=ff3 BK251;obtain ⟨hcz146_0,hcz146_1,hcz146_2⟩:=cc3 BK252;obtain ⟨hfz146_0,hfz146_1,hfz146_2⟩:=ff3 BK252) | ((with_reducible refine gate_store (t:=115) (p:=10) rfl ?_);refine stQ 115 10 ((((w144.setCell ⟨gb252,0,none⟩ (.slice Ao142 t281.length co142)).setCell ⟨gb252,1,none⟩ (.int .i64 t284)).setCell ⟨gb252,2,none⟩ (.int .i64 t285))) ?_;intro w147 hw;have n0_:=sR hw HO283 BK252;have n1_:=sF hw BK251 NB251_252;have n2_:=sP hw BK252;have n3_:=sK hw HK GW252;have n4_:=sB hw HB GE252;clear hw HO283 BK251 BK252 HK HB;have HO283:=n0_;have BK251:=n1_;have BK252:=n2_;have HK:=n3_;have HB:=n4_;clear n0_ n1_ n2_ n3_ n4_))
                   refine bodyPost_ret (results_cell_row rfl _ _ gb252 115 #[.slice Ao142 t281.length co142,.int .i64 t284,.int .i64 t285] (0,0) _ rfl (bk BK252) Try.underlying115 rfl (by kernel_rfl)) rfl ?_
                   exact ⟨_,by first | rfl | (simp [errW_none,errW_some] <;> rfl) | (simp [*,errW_none,errW_some] <;> rfl),rr HO283,hn HB,hk HK⟩
                 ·rw [if_neg c94] at H
                  have c94b0:(x252002_88 == 0)=false:=beq_eq_false_iff_ne.mpr c94
                  have c94b1:(x252002_88 != 0)=true:=bne_iff_ne.mpr c94
                  simp only [Option.some.injEq,Prod.mk.injEq] at H
                  obtain ⟨rfl,rfl,rfl⟩:=H
                  have hnb148:=NB251_252.out
                  have hnc148:=NB252_251.out
                  obtain ⟨hcz149_0,hcz149_1,hcz149_2⟩:=cc3 BK251
                  obtain ⟨hfz149_0,hfz149_1,hfz149_2⟩:=ff3 BK251
                  obtain ⟨hcz150_0,hcz150_1,hcz150_2⟩:=cc3 BK252
                  obtain ⟨hfz150_0,hfz150_1,hfz150_2⟩:=ff3 BK252
                  go_wp2_with (first | ((with_reducible refine gate_store (t:=115) (p:=10) rfl ?_);refine stQ 115 10 ((((wc.setCell ⟨gb252,0,none⟩ (.slice Ao81 t273.length co81)).setCell ⟨gb252,1,none⟩ (.int .i64 t276)).setCell ⟨gb252,2,none⟩ (.int .i64 x252002_88))) ?_;intro w151 hw;have n0_:=sR hw HO_252000 BK252;have n1_:=sF hw BK251 NB251_252;have n2_:=sP hw BK252;have n3_:=sK hw HK GW252;have n4_:=sB hw HB GE252;clear hw HO_252000 BK251 BK252 HK HB;have HO_252000:=n0_;have BK251:=n1_;have BK252:=n2_;have HK:=n3_;have HB:=n4_;clear n0_ n1_ n2_ n3_ n4_))
                  refine bodyPost_ret (results_cell_row rfl _ _ gb252 115 #[.slice Ao81 t273.length co81,.int .i64 t276,.int .i64 x252002_88] (0,0) _ rfl (bk BK252) Try.underlying115 rfl (by kernel_rfl)) rfl ?_
                  exact ⟨_,by first | rfl | (simp [errW_none,errW_some] <;> rfl) | (simp [*,errW_none,errW_some] <;> rfl),rr HO_252000,hn HB,hk HK⟩
       ·rw [if_neg c27] at H
        have c27b0:(x252002_3 == 0)=false:=beq_eq_false_iff_ne.mpr c27
        have c27b1:(x252002_3 != 0)=true:=bne_iff_ne.mpr c27
        simp only [Option.some.injEq,Prod.mk.injEq] at H
        obtain ⟨rfl,rfl,rfl⟩:=H
        have hnb152:=NB251_252.out
        have hnc152:=NB252_251.out
        obtain ⟨hcz153_0,hcz153_1,hcz153_2⟩:=cc3 BK251
        obtain ⟨hfz153_0,hfz153_1,hfz153_2⟩:=ff3 BK251
        obtain ⟨Ao154,co154,eo154⟩:=Kd.R_slice HO_252000.out
        subst eo154
        obtain ⟨hcz155_0,hcz155_1,hcz155_2⟩:=cc3 BK252
        obtain ⟨hfz155_0,hfz155_1,hfz155_2⟩:=ff3 BK252
        go_wp2_with (first | ((with_reducible refine gate_store (t:=115) (p:=10) rfl ?_);refine stQ 115 10 ((((wr.setCell ⟨gb252,0,none⟩ (.slice Ao154 x252000_3.length co154)).setCell ⟨gb252,1,none⟩ (.int .i64 x252001_3)).setCell ⟨gb252,2,none⟩ (.int .i64 x252002_3))) ?_;intro w156 hw;have n0_:=sR hw HO_252000 BK252;have n1_:=sF hw BK251 NB251_252;have n2_:=sP hw BK252;have n3_:=sK hw HK GW252;have n4_:=sB hw HB GE252;clear hw HO_252000 BK251 BK252 HK HB;have HO_252000:=n0_;have BK251:=n1_;have BK252:=n2_;have HK:=n3_;have HB:=n4_;clear n0_ n1_ n2_ n3_ n4_))
        refine bodyPost_ret (results_cell_row rfl _ _ gb252 115 #[.slice Ao154 x252000_3.length co154,.int .i64 x252001_3,.int .i64 x252002_3] (0,0) _ rfl (bk BK252) Try.underlying115 rfl (by kernel_rfl)) rfl ?_
        exact ⟨_,by first | rfl | (simp [errW_none,errW_some] <;> rfl) | (simp [*,errW_none,errW_some] <;> rfl),rr HO_252000,hn HB,hk HK⟩
end Go.Proofs.Ytpbhkdamkbopkaa.GInfr
namespace Go.Proofs.Ytpbhkdamkbopkaa.GInfr
open Go.RowKit Go.Proofs.YtpbhkdamkbopkaaW.PrintWords Go.Proofs.YtpbhkdamkbopkaaW.PrintLast Go.Proofs.YtpbhkdamkbopkaaW.PrintMore Go.Proofs.Ytpbhkdamkbopkaa.HuM
attribute [local go_sem] max2_int min2_int max_two min_two max_three min_three max_four min_four
set_option linter.unusedVariables false
set_option linter.unusedSimpArgs false
mutual
def celluloidref05_lengths.j0:Nat → ByteArray → Int → Int → Int → Bool → List Int → Int → Int → Option (List Int × List Int × List Int × Int × Int)
 |0,_,_,_,_,_,_,_,_=>none
 |k+1,x0,x7,x8,x9,x47,x291000,x291001,x291002=>if x47=true then (celluloidref05_lengths.j1 k x0 x7 x8 x9 x291000 x291001 3) else (celluloidref05_lengths.j1 k x0 x7 x8 x9 x291000 x291001 x291002)
def celluloidref05_lengths.j1:Nat → ByteArray → Int → Int → Int → List Int → Int → Int → Option (List Int × List Int × List Int × Int × Int)
 |0,_,_,_,_,_,_,_=>none
 |k+1,x0,x7,x8,x9,x291000,x291001,x291002=>if 19≤35184372088832 then (celluloidref05_lengths.l0 k x0 x7 x8 x9 (List.replicate 19 0) (([16,17,18,0,8,7,9,6,10,5,11,4,12,3,13,2,14,1,15]:List Int)) 0 x291000 x291001 x291002) else (none)
def celluloidref05_lengths.l0:Nat → ByteArray → Int → Int → Int → List Int → List Int → Int → List Int → Int → Int → Option (List Int × List Int × List Int × Int × Int)
 |0,_,_,_,_,_,_,_,_,_,_=>none
 |k+1,x0,x7,x8,x9,x10,x11,x12,x291000,x291001,x291002=>if x12 < (wrap64 (x9+4)) then (if 0≤x12 then (if x12 < (x11.length:Int) then ((celluloidref05_number.f k x0 x291000 x291001 x291002 3).bind fun bt317=>(if 0≤(rd x11 x12) then (if (rd x11 x12) < (x10.length:Int) then (celluloidref05_lengths.l0 k x0 x7 x8 x9 (x10.set ((rd x11 x12):Int).toNat bt317.1) x11 (wrap64 (x12+1)) bt317.2.1 bt317.2.2.1 bt317.2.2.2) else (none)) else (none))) else (none)) else (none)) else (if x291002=0 then ((celluloidref04_Error.f k x10).bind fun t324=>(celluloidref05_lengths.j3 k x0 x7 x8 x10 x291000 x291001 t324)) else (celluloidref05_lengths.j3 k x0 x7 x8 x10 x291000 x291001 x291002))
def celluloidref05_lengths.j3:Nat → ByteArray → Int → Int → List Int → List Int → Int → Int → Option (List Int × List Int × List Int × Int × Int)
 |0,_,_,_,_,_,_,_=>none
 |k+1,x0,x7,x8,x10,x291000,x291001,x291002=>celluloidref05_lengths.l1 k x0 x7 x10 ([]:List Int) (wrap64 ((wrap64 (x7+x8))+258)) x291000 x291001 x291002
def celluloidref05_lengths.j8:Nat → Int → List Int → Int → List Int → Int → Int → Option (List Int × List Int × List Int × Int × Int)
 |0,_,_,_,_,_,_=>none
 |k+1,x7,x13,x14,x291000,x291001,x291002=>if x291002=0 then (if (x13.length:Int)=x14 then (if 256 < (x13.length:Int) then (celluloidref05_lengths.j9 k x7 x13 ((rd x13 256) == 0) x291000 x291001 x291002) else (none)) else (celluloidref05_lengths.j9 k x7 x13 true x291000 x291001 x291002)) else (celluloidref05_lengths.j9 k x7 x13 false x291000 x291001 x291002)
def celluloidref05_lengths.j9:Nat → Int → List Int → Bool → List Int → Int → Int → Option (List Int × List Int × List Int × Int × Int)
 |0,_,_,_,_,_,_=>none
 |k+1,x7,x13,x169,x291000,x291001,x291002=>if x169=true then (if 3=0 then (if 0≤(wrap64 (x7+257)) then (if (wrap64 (x7+257)) < (x13.length:Int) then (some (x13,(([wrap64 (x7+257)]:List Int)),x291000,x291001,3)) else (none)) else (none)) else (some (([]:List Int),([]:List Int),x291000,x291001,3))) else (if x291002=0 then (if 0≤(wrap64 (x7+257)) then (if (wrap64 (x7+257)) < (x13.length:Int) then (some (x13,(([wrap64 (x7+257)]:List Int)),x291000,x291001,x291002)) else (none)) else (none)) else (some (([]:List Int),([]:List Int),x291000,x291001,x291002)))
def celluloidref05_lengths.l1:Nat → ByteArray → Int → List Int → List Int → Int → List Int → Int → Int → Option (List Int × List Int × List Int × Int × Int)
 |0,_,_,_,_,_,_,_,_=>none
 |k+1,x0,x7,x10,x13,x14,x291000,x291001,x291002=>if x291002=0 then (celluloidref05_lengths.j5 k x0 x7 x10 x13 x14 (decide ((x13.length:Int) < x14)) x291000 x291001 x291002) else (celluloidref05_lengths.j5 k x0 x7 x10 x13 x14 false x291000 x291001 x291002)
def celluloidref05_lengths.j5:Nat → ByteArray → Int → List Int → List Int → Int → Bool → List Int → Int → Int → Option (List Int × List Int × List Int × Int × Int)
 |0,_,_,_,_,_,_,_,_,_=>none
 |k+1,x0,x7,x10,x13,x14,x87,x291000,x291001,x291002=>if x87=true then ((celluloidref05_symbol.f k x0 x291000 x291001 x291002 x10).bind fun bt325=>(if bt325.2.2.2=0 then (if bt325.1 < 16 then (if x13.length < 17592186044416 then (celluloidref05_lengths.l1 k x0 x7 x10 (x13 ++ [bt325.1]) x14 bt325.2.1 bt325.2.2.1 bt325.2.2.2) else (none)) else (if bt325.1=16 then (if (x13.length:Int)=0 then (some (([]:List Int),([]:List Int),bt325.2.1,bt325.2.2.1,3)) else (if 0≤(wrap64 ((x13.length:Int) - 1)) then (if (wrap64 ((x13.length:Int) - 1)) < (x13.length:Int) then ((celluloidref05_number.f k x0 bt325.2.1 bt325.2.2.1 bt325.2.2.2 2).bind fun bt335=>(celluloidref05_lengths.j6 k x0 x7 x10 x13 x14 (rd x13 (wrap64 ((x13.length:Int) - 1))) (wrap64 (bt335.1+3)) bt335.2.1 bt335.2.2.1 bt335.2.2.2)) else (none)) else (none))) else (if bt325.1=17 then ((celluloidref05_number.f k x0 bt325.2.1 bt325.2.2.1 bt325.2.2.2 3).bind fun bt341=>(celluloidref05_lengths.j6 k x0 x7 x10 x13 x14 0 (wrap64 (bt341.1+3)) bt341.2.1 bt341.2.2.1 bt341.2.2.2)) else (if bt325.1=18 then ((celluloidref05_number.f k x0 bt325.2.1 bt325.2.2.1 bt325.2.2.2 7).bind fun bt347=>(celluloidref05_lengths.j6 k x0 x7 x10 x13 x14 0 (wrap64 (bt347.1+11)) bt347.2.1 bt347.2.2.1 bt347.2.2.2)) else (celluloidref05_lengths.j6 k x0 x7 x10 x13 x14 0 0 bt325.2.1 bt325.2.2.1 bt325.2.2.2))))) else (celluloidref05_lengths.j8 k x7 x13 x14 bt325.2.1 bt325.2.2.1 bt325.2.2.2))) else (celluloidref05_lengths.j8 k x7 x13 x14 x291000 x291001 x291002)
def celluloidref05_lengths.j6:Nat → ByteArray → Int → List Int → List Int → Int → Int → Int → List Int → Int → Int → Option (List Int × List Int × List Int × Int × Int)
 |0,_,_,_,_,_,_,_,_,_,_=>none
 |k+1,x0,x7,x10,x13,x14,x16,x17,x291000,x291001,x291002=>celluloidref05_lengths.l2 k x0 x7 x10 x13 x14 x16 x17 0 x291000 x291001 x291002
def celluloidref05_lengths.l2:Nat → ByteArray → Int → List Int → List Int → Int → Int → Int → Int → List Int → Int → Int → Option (List Int × List Int × List Int × Int × Int)
 |0,_,_,_,_,_,_,_,_,_,_,_=>none
 |k+1,x0,x7,x10,x13,x14,x16,x17,x18,x291000,x291001,x291002=>if x18 < x17 then (if x13.length < 17592186044416 then (celluloidref05_lengths.l2 k x0 x7 x10 (x13 ++ [x16]) x14 x16 x17 (wrap64 (x18+1)) x291000 x291001 x291002) else (none)) else (celluloidref05_lengths.l1 k x0 x7 x10 x13 x14 x291000 x291001 x291002)
end
def celluloidref05_lengths.f (k:Nat) (a0:ByteArray) (l1_0:List Int) (a1_1:Int) (a1_2:Int):Option (List Int × List Int × List Int × Int × Int):=(celluloidref05_number.f k a0 l1_0 a1_1 a1_2 5).bind fun bt292=>((celluloidref05_number.f k a0 bt292.2.1 bt292.2.2.1 bt292.2.2.2 5).bind fun bt298=>((celluloidref05_number.f k a0 bt298.2.1 bt298.2.2.1 bt298.2.2.2 4).bind fun bt304=>(if bt304.2.2.2=0 then (if bt292.1 > 29 then (celluloidref05_lengths.j0 k a0 bt292.1 bt298.1 bt304.1 true bt304.2.1 bt304.2.2.1 bt304.2.2.2) else (celluloidref05_lengths.j0 k a0 bt292.1 bt298.1 bt304.1 (decide (bt298.1 > 29)) bt304.2.1 bt304.2.2.1 bt304.2.2.2)) else (celluloidref05_lengths.j0 k a0 bt292.1 bt298.1 bt304.1 false bt304.2.1 bt304.2.2.1 bt304.2.2.2))))
def celluloidref05_lengths.T12:Bool × List (List Nat × List Nat):=(true,[([],[]),([],[]),([],[]),([1,2],[1,2]),([3],[3]),([],[]),([],[]),([5,6],[5,6]),([7],[7]),([8],[8]),([8],[8]),([0,4,0,1,2,3,4,5,6,7,8,9],[0,4]),([11,9,7,0,1,2,3,4,5,6,7,8,9],[9,11]),([10,12,0,1,2,3,4,5,6,7,8,9,10,11,12],[10])])
def celluloidref05_lengths.B12:List Nat:=[0,0,0,6,14,0,0,96,224,480,480,1023,3071,8191]
theorem celluloidref05_lengths.tab12:rtab .any (opsOf Try.f76 12)=celluloidref05_lengths.T12:=by kernel_rfl
theorem celluloidref05_lengths.bits12:waitsOk celluloidref05_lengths.T12.2 celluloidref05_lengths.B12=true:=by kernel_rfl
end Go.Proofs.Ytpbhkdamkbopkaa.GInfr
namespace Go.Proofs.Ytpbhkdamkbopkaa.LenP
open Go.RowKit Go.Proofs.YtpbhkdamkbopkaaW.PrintWords Go.Proofs.YtpbhkdamkbopkaaW.PrintLast Go.Proofs.YtpbhkdamkbopkaaW.PrintMore
/-- The row r1,cut at r2's number;the state r3,r4,r5. -/
def LenP (P:Nat → Prop) (w0 w:World) (r1 r2 r3:List Int) (r4 r5:Int) (e:Ending) (w':World):Prop :=
 ∃ (A B:Option Addr) (ca cb:Nat) (v:Value),e=.returned (.tuple #[.slice A (r1.take (r2.headD 0).toNat).length ca,.slice B (r1.drop (r2.headD 0).toNat).length cb,.agg #[v,.int .i64 r4,.int .i64 r5]])
  ∧ Kd.R (Kd.int .u8) 5 w' w0.heap.size (fun k_=>(P k_ ∨ w.heap.size≤k_)) v r3∧Below w0.heap.size w0 w'∧Kept w w' (fun k_=>P k_)
  ∧ (∀ W_,Kept w' W_ (fun k_=>some k_=v.ownBlock) → Kd.C (Kd.int .i64) W_ A (r1.take (r2.headD 0).toNat).length (r1.take (r2.headD 0).toNat))
  ∧ (∀ W_,Kept w' W_ (fun k_=>some k_=v.ownBlock) → Kd.C (Kd.int .i64) W_ B (r1.drop (r2.headD 0).toNat).length (r1.drop (r2.headD 0).toNat))
  ∧ (r1.take (r2.headD 0).toNat).length≤ca∧(r1.drop (r2.headD 0).toNat).length≤cb
theorem kept_at {w W W':World} {m:Nat} {S:Nat → Prop} (hq:W.drewN m=W') (h:Kept w W S):Kept w W' S:=by subst hq;exact Kept.drewN h m
theorem c_drop {W_:World} {A:Option Addr} {l:List Int} (h:Kd.C (Kd.int .i64) W_ A l.length l) (n c:Nat) (hi:n≤l.length) (hc:l.length≤c):Kd.C (Kd.int .i64) W_ (if c=n then A else A.map (·.add n)) (l.length - n) (l.drop n) :=
 Kd.C_of_reads ((Kd.reads_of_C (d:=0) h).drop_ n hi hc)
theorem LenP.nil {P : Nat → Prop} {w0 w w' : World} {r3 : List Int} {r4 r5 : Int} {v : Value} {e : Ending} (he : e = .returned (.tuple #[.slice none 0 0, .slice none 0 0, .agg #[v, .int .i64 r4, .int .i64 r5]]))
  (h1:Kd.R (Kd.int .u8) 5 w' w0.heap.size (fun k_=>(P k_ ∨ w.heap.size≤k_)) v r3) (h2:Below w0.heap.size w0 w') (h3:Kept w w' (fun k_=>P k_)):LenP P w0 w [] [] r3 r4 r5 e w' :=
 ⟨none,none,0,0,v,he,h1,h2,h3,fun W_ _=>Kd.C_nil _ W_,fun W_ _=>Kd.C_nil _ W_,Nat.le_refl _,Nat.le_refl _⟩
theorem LenP.nil' {P : Nat → Prop} {w0 w w' : World} {r3 : List Int} {r4 r5 : Int} {v : Value} {e : Ending} (h : e = .returned (.tuple #[.slice none 0 0, .slice none 0 0, .agg #[v, .int .i64 r4, .int .i64 r5]])
  ∧ Kd.R (Kd.int .u8) 5 w' w0.heap.size (fun k_=>(P k_ ∨ w.heap.size≤k_)) v r3∧Below w0.heap.size w0 w'∧Kept w w' (fun k_=>P k_)):LenP P w0 w [] [] r3 r4 r5 e w':=.nil h.1 h.2.1 h.2.2.1 h.2.2.2
theorem LenP.cut {P : Nat → Prop} {w0 w w' : World} {l r3 : List Int} {r4 r5 : Int} {v : Value} {e : Ending} {g c n : Nat} {ok : Nat → Prop} (hn : n < l.length)
  (hr:Kd.R (Kd.int .i64) 3 w' w0.heap.size ok (.slice (some ⟨g,0,none⟩) l.length c) l)
  (he:e=.returned (.tuple #[.slice (some ⟨g,0,none⟩) n c,.slice (some ⟨g,n,none⟩) (l.length - n) (c - n),.agg #[v,.int .i64 r4,.int .i64 r5]]))
  (h1:Kd.R (Kd.int .u8) 5 w' w0.heap.size (fun k_=>(P k_ ∨ w.heap.size≤k_)) v r3) (h2:Below w0.heap.size w0 w') (h3:Kept w w' (fun k_=>P k_)):LenP P w0 w l [(n:Int)] r3 r4 r5 e w':=by
 have hc:l.length≤c:=(Kd.R_reads' hr).2.1
 have hC:∀ W_,Kept w' W_ (fun k_=>some k_=v.ownBlock) → Kd.C (Kd.int .i64) W_ (some ⟨g,0,none⟩) l.length l:=fun W_ hk=>(Kd.R_reads' (Kd.R_keptB (Kd.R_apart' hr (Kd.R_typed h1) (by decide)) hk (fun k_ hk_ hs_=>hk_.2 hs_))).2.2
 have e1:(([(n:Int)]:List Int).headD 0).toNat=n:=rfl
 have l1:(l.take n).length=n:=by rw [List.length_take];omega
 have l2:(l.drop n).length=l.length - n:=List.length_drop
 refine ⟨some ⟨g,0,none⟩,some ⟨g,n,none⟩,c,c - n,v,?_,h1,h2,h3,?_,?_,?_,?_⟩
 ·rw [e1,l1,l2];exact he
 ·intro W_ hk
  rw [e1,l1]
  exact Kd.C_of_reads ((Kd.reads_of_C (d:=0) (hC W_ hk)).take_ n (by omega))
 ·intro W_ hk
  rw [e1,l2]
  have h:=c_drop (hC W_ hk) n c (by omega) hc
  rw [if_neg (by omega:¬ c=n)] at h
  by_cases hn0:n=0
  ·subst hn0;simpa [Addr.add] using h
  ·simpa [Addr.add,hn0] using h
 ·rw [e1,l1];omega
 ·rw [e1,l2];omega
end Go.Proofs.Ytpbhkdamkbopkaa.LenP
