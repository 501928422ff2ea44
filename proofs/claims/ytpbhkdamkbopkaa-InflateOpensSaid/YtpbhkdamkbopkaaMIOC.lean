/- Parts of the proof, glued by a program of this session (wip/tools/claimfit.py). -/
import Derived.Test.YtpbhkdamkbopkaaMIOB
namespace Go.Proofs.Ytpbhkdamkbopkaa.GHuff
open Go.RowKit Go.Proofs.YtpbhkdamkbopkaaW.PrintWords Go.Proofs.YtpbhkdamkbopkaaW.PrintLast Go.Proofs.YtpbhkdamkbopkaaW.PrintMore Go.Proofs.Ytpbhkdamkbopkaa.Ext
attribute [local go_sem] max2_int min2_int max_two min_two max_three min_three max_four min_four
set_option linter.unusedVariables false
set_option linter.unusedSimpArgs false
mutual
def celluloidref04_Next.l0:Nat → List Int → ByteArray → Int → List Int → Int → Int → Option (Int × Int × Int)
 |0,_,_,_,_,_,_=>none
 |k+1,x0,x1,x2,x9,x10,x11=>if x11 < 16 then (celluloidref04_Next.l1 k x0 x1 x2 x9 x10 x11 false 0) else (some (0,0,4))
def celluloidref04_Next.l1:Nat → List Int → ByteArray → Int → List Int → Int → Int → Bool → Int → Option (Int × Int × Int)
 |0,_,_,_,_,_,_,_,_=>none
 |k+1,x0,x1,x2,x9,x10,x11,x12,x13=>if x13 < (x0.length:Int) then (if 0≤x13 then (if (rd x0 x13) < x11 then (celluloidref04_Next.j2 k x0 x1 x2 x9 x10 x11 x12 x13 true) else (celluloidref04_Next.j2 k x0 x1 x2 x9 x10 x11 x12 x13 ((rd x0 x13) == 0))) else (none)) else (if x12=true then ((celluloidref04_Bit.f k x1 (wrap64 (x2+x11))).bind fun t161=>(if t161 < 0 then (some (0,0,2)) else (celluloidref04_Next.l0 k x0 x1 x2 x9 (wrap64 ((wrap64 (2*x10))+t161)) (wrap64 (x11+1))))) else (some (0,0,4)))
def celluloidref04_Next.j2:Nat → List Int → ByteArray → Int → List Int → Int → Int → Bool → Int → Bool → Option (Int × Int × Int)
 |0,_,_,_,_,_,_,_,_,_=>none
 |k+1,x0,x1,x2,x9,x10,x11,x12,x13,x43=>if x43=true then (celluloidref04_Next.l1 k x0 x1 x2 x9 x10 x11 x12 (wrap64 (x13+1))) else (if 0≤x13 then (if x13 < (x9.length:Int) then (celluloidref04_Next.l2 k x0 x1 x2 x9 x10 x11 x12 x13 (rd x9 x13) x11) else (none)) else (none))
def celluloidref04_Next.l2:Nat → List Int → ByteArray → Int → List Int → Int → Int → Bool → Int → Int → Int → Option (Int × Int × Int)
 |0,_,_,_,_,_,_,_,_,_,_=>none
 |k+1,x0,x1,x2,x9,x10,x11,x12,x13,x14,x15=>if 0≤x13 then (if x13 < (x0.length:Int) then (if x15 < (rd x0 x13) then (celluloidref04_Next.l2 k x0 x1 x2 x9 x10 x11 x12 x13 (wrap64 (Int.tdiv x14 2)) (wrap64 (x15+1))) else (if x14=x10 then (if (rd x0 x13)=x11 then (some (x13,wrap64 (x2+x11),0)) else (celluloidref04_Next.l1 k x0 x1 x2 x9 x10 x11 true (wrap64 (x13+1)))) else (celluloidref04_Next.l1 k x0 x1 x2 x9 x10 x11 x12 (wrap64 (x13+1))))) else (none)) else (none)
end
def celluloidref04_Next.f (k:Nat) (l0:List Int) (a1:ByteArray) (a2:Int):Option (Int × Int × Int):=if a2 < 0 then (some (0,0,1)) else ((celluloidref04_Codes.f k l0).bind fun t153=>(celluloidref04_Next.l0 k l0 a1 a2 t153 0 0))
set_option maxHeartbeats 8000000 in
set_option maxRecDepth 100000 in
theorem celluloidref04_Next.calls (k : Nat) (A0 : Option Addr) (c0 : Nat) (l0 : List Int) (a1 : ByteArray) (a2 : Int) (r1 : Int) (r2 : Int) (r3 : Int) (w : World) (hr0 : Kd.C (Kd.int .i64) w A0 l0.length l0) (hc0 : l0.length ≤ c0) (h : celluloidref04_Next.f k l0 a1 a2 = some (r1, r2, r3)) :
  Calls Try.prog 31 #[.slice A0 l0.length c0,.string a1,.int .i64 a2] w fun e w'=>e=.returned (.tuple #[.int .i64 r1,.int .i64 r2,.int .i64 r3])∧Below w.heap.size w w':=by
 have HR0:=Aside0.mk hr0
 have HC0:=Aside0.mk hc0
 clear hr0 hc0
 have HB:=Aside0.mk (Below.refl w.heap.size w)
 have H:(if a2 < 0 then (some (0,0,1)) else ((celluloidref04_Codes.f k l0).bind fun t153=>(celluloidref04_Next.l0 k l0 a1 a2 t153 0 0)))=some (r1,r2,r3):=h
 clear h
 by_cases c4:a2 < 0
 ·rw [if_pos c4] at H
  have c4b0:decide (a2 < 0)=true:=decide_eq_true c4
  clear c4
  simp only [Option.some.injEq,Prod.mk.injEq] at H
  obtain ⟨rfl,rfl,rfl⟩:=H
  go_enter Try.func31,Try.ntmps31
  go_wp2
  go_ret3
  exact ⟨by first | rfl | (simp [errW_none,errW_some] <;> rfl) | (simp [*,errW_none,errW_some] <;> rfl),by repeat (first | (with_reducible first | exact HB.out | apply below_alloc | apply pw_below_drewN | apply below_drew1) | exact HB.out)⟩
 ·rw [if_neg c4] at H
  have c4b0:decide (a2 < 0)=false:=decide_eq_false c4
  clear c4
  replace H:=Option.bind_eq_some_iff.mp H
  obtain ⟨t153,A50,H⟩:=H
  replace H:(celluloidref04_Next.l0 k l0 a1 a2 t153 0 0)=some (r1,r2,r3):=H
  have A5:=Aside0.mk A50
  clear A50
  have H':=Aside0.mk H
  clear H
  go_enter Try.func31,Try.ntmps31
  go_wp2_with (first | ((with_reducible refine gate_callee (f:=29) rfl ?_);refine goesL_ (some 20) rfl rfl Try.func29 (by kernel_rfl) rfl #[.slice A0 l0.length c0] rfl (by (try simp only [List.map_toArray,List.map_cons,List.map_nil]);first | done | rfl | (simp only [List.length_drop,List.length_take];rfl)) ?_;(with_reducible refine (celluloidref04_Codes.calls k _ _ l0 t153 _ ?side1 ?side2 A5.out).mono ?_);(case side1=>repeat (first | exact HR0.out | (with_reducible refine Kd.C_alloc ?_ _) | (with_reducible refine Kd.C_drewN ?_ _) | (with_reducible refine Kd.C_drew ?_)));(case side2=>exact HC0.out);rintro e w6 ⟨v154,rfl,ho0,hb⟩;refine ⟨_,rfl,?_⟩;have n0_:=Aside0.mk (Kd.R_lower ho0 (below_size (by repeat (first | (with_reducible first | exact HB.out | apply below_alloc | apply pw_below_drewN | apply below_drew1) | exact HB.out))));have n1_:=Aside0.mk (below_step (by repeat (first | (with_reducible first | exact HB.out | apply below_alloc | apply pw_below_drewN | apply below_drew1) | exact HB.out)) hb);clear HB;have HO155:=n0_;have HB:=n1_;clear n0_ n1_;(try clear hb);(try clear hb2);(try clear hk);(try clear hi);(try clear ho0)))
  go_loopg [10,11] k (fun kq v10 v11 w'=>∃ (x10_1:Int) (x11_1:Int),v10=.int .i64 x10_1∧v11=.int .i64 x11_1∧Aside0 (celluloidref04_Next.l0 kq l0 a1 a2 t153 x10_1 x11_1=some (r1,r2,r3))∧Aside0 (kq≤k)∧Aside0 (Kd.R (Kd.int .i64) 3 w' w.heap.size (fun _=>True) v154 t153)∧Aside0 (Below w.heap.size w w'))
  case atStart=>exact ⟨(0),(0),(by first | rfl | (simp;done) | (simp [*];done)),(by first | rfl | (simp;done) | (simp [*];done)),H',⟨Nat.le_refl _⟩,⟨by (with_reducible repeat (first | apply Kd.R_alloc | apply Kd.R_drewN | apply Kd.R_drew));exact HO155.out⟩,⟨by repeat (first | (with_reducible first | exact HB.out | apply below_alloc | apply pw_below_drewN | apply below_drew1) | exact HB.out)⟩⟩
  case round =>
   clear H'
   clear c4b0
   obtain ⟨x10_1,x11_1,rfl,rfl,HA,HK1,HO_9,HB⟩:=hrel
   cases gk with
   |zero=>exact absurd HA.out (by simp [celluloidref04_Next.l0])
   |succ k1 =>
    have H:=HA.out
    clear HA
    simp only [celluloidref04_Next.l0] at H
    by_cases c7:x11_1 < 16
    ·rw [if_pos c7] at H
     have c7b0:decide (x11_1 < 16)=true:=decide_eq_true c7
     clear c7
     have H':=Aside0.mk H
     clear H
     go_wp2
     go_loopg [12,13] k1 (fun kq v12 v13 w'=>∃ (x12_2:Bool) (x13_2:Int),v12=.bool x12_2∧v13=.int .i64 x13_2∧Aside0 (celluloidref04_Next.l1 kq l0 a1 a2 t153 x10_1 x11_1 x12_2 x13_2=some (r1,r2,r3))∧Aside0 (kq≤k1)∧Aside0 (Kd.R (Kd.int .i64) 3 w' w.heap.size (fun _=>True) v154 t153)∧Aside0 (Below w.heap.size w w'))
     case atStart=>exact ⟨(false),(0),(by first | rfl | (simp;done) | (simp [*];done)),(by first | rfl | (simp;done) | (simp [*];done)),H',⟨Nat.le_refl _⟩,⟨by (with_reducible repeat (first | apply Kd.R_alloc | apply Kd.R_drewN | apply Kd.R_drew));exact HO_9.out⟩,⟨by repeat (first | (with_reducible first | exact HB.out | apply below_alloc | apply pw_below_drewN | apply below_drew1) | exact HB.out)⟩⟩
     case round =>
      clear H'
      clear c7b0
      obtain ⟨x12_2,x13_2,rfl,rfl,HA,HK2,HO_9,HB⟩:=hrel
      cases gk with
      |zero=>exact absurd HA.out (by simp [celluloidref04_Next.l1])
      |succ k2 =>
       have H:=HA.out
       clear HA
       simp only [celluloidref04_Next.l1] at H
       by_cases c8:x13_2 < (l0.length:Int)
       ·rw [if_pos c8] at H
        have c8b0:decide (x13_2 < (l0.length:Int))=true:=decide_eq_true c8
        clear c8
        have HC9:=Aside0.mk H
        clear H
        go_upto_region 12 with (fail)
        go_cut [43] (fun v43 wc=>∃ (kq:Nat) (x43_8:Bool),v43=.bool x43_8∧Aside0 (celluloidref04_Next.j2 kq l0 a1 a2 t153 x10_1 x11_1 x12_2 x13_2 x43_8=some (r1,r2,r3))∧Aside0 (kq≤k2)∧Aside0 (Kd.R (Kd.int .i64) 3 wc w.heap.size (fun _=>True) v154 t153)∧Aside0 (Below w.heap.size w wc))
        case first =>
         have H:=HC9.out
         clear HC9
         by_cases c10:0≤x13_2
         ·rw [if_pos c10] at H
          have c10b0:decide (0≤x13_2)=true:=decide_eq_true c10
          clear c10
          (first | rw [c10b0] | (simp only [i64_w,i32_w];rw [c10b0]) | skip)
          by_cases c11:(rd l0 x13_2) < x11_1
          ·rw [if_pos c11] at H
           have c11b0:decide ((rd l0 x13_2) < x11_1)=true:=decide_eq_true c11
           clear c11
           have H':=Aside0.mk H
           clear H
           have p156:0≤(x13_2:Int):=of_decide_eq_true (by first | (with_reducible assumption) | assumption)
           have q156:x13_2 < (l0.length:Int):=of_decide_eq_true (by first | (with_reducible assumption) | assumption)
           obtain ⟨ad156,e156,hx156_0⟩:=Kd.at_int HR0.out x13_2 p156 q156
           cases e156
           replace hx156_0:=(HB.out.cell (World.block_lt_of_cell? w _ hx156_0)).trans hx156_0
           replace p156:=eq_true p156
           replace q156:=eq_true q156
           go_wp2
           go_meet
           case rel=>exact ⟨_,(true),(by first | rfl | (simp;done) | (simp [*];done)),H',⟨by have:=HK1.out;have:=HK2.out;first | omega | exact Nat.le_refl _⟩,⟨by (with_reducible repeat (first | apply Kd.R_alloc | apply Kd.R_drewN | apply Kd.R_drew));exact HO_9.out⟩,⟨by repeat (first | (with_reducible first | exact HB.out | apply below_alloc | apply pw_below_drewN | apply below_drew1) | exact HB.out)⟩⟩
          ·rw [if_neg c11] at H
           have c11b0:decide ((rd l0 x13_2) < x11_1)=false:=decide_eq_false c11
           clear c11
           have H':=Aside0.mk H
           clear H
           have p156:0≤(x13_2:Int):=of_decide_eq_true (by first | (with_reducible assumption) | assumption)
           have q156:x13_2 < (l0.length:Int):=of_decide_eq_true (by first | (with_reducible assumption) | assumption)
           obtain ⟨ad156,e156,hx156_0⟩:=Kd.at_int HR0.out x13_2 p156 q156
           cases e156
           replace hx156_0:=(HB.out.cell (World.block_lt_of_cell? w _ hx156_0)).trans hx156_0
           replace p156:=eq_true p156
           replace q156:=eq_true q156
           have p157:0≤(x13_2:Int):=of_decide_eq_true (by first | (with_reducible assumption) | assumption)
           have q157:x13_2 < (l0.length:Int):=of_decide_eq_true (by first | (with_reducible assumption) | assumption)
           obtain ⟨ad157,e157,hx157_0⟩:=Kd.at_int HR0.out x13_2 p157 q157
           obtain rfl:ad156=ad157:=(by injection e157)
           replace hx157_0:=(HB.out.cell (World.block_lt_of_cell? w _ hx157_0)).trans hx157_0
           replace p157:=eq_true p157
           replace q157:=eq_true q157
           go_wp2
           go_meet
           case rel=>exact ⟨_,(((rd l0 x13_2) == 0)),(by first | rfl | (simp;done) | (simp [*];done)),H',⟨by have:=HK1.out;have:=HK2.out;first | omega | exact Nat.le_refl _⟩,⟨by (with_reducible repeat (first | apply Kd.R_alloc | apply Kd.R_drewN | apply Kd.R_drew));exact HO_9.out⟩,⟨by repeat (first | (with_reducible first | exact HB.out | apply below_alloc | apply pw_below_drewN | apply below_drew1) | exact HB.out)⟩⟩
         ·rw [if_neg c10] at H
          exact absurd H (by simp)
        case rest =>
         clear HC9
         clear c8b0
         obtain ⟨kq,x43_8,rfl,HA,HJ8,HO_9,HB⟩:=hcut
         cases kq with
         |zero=>exact absurd HA.out (by simp [celluloidref04_Next.j2])
         |succ kj8 =>
          have H:=HA.out
          clear HA
          simp only [celluloidref04_Next.j2] at H
          by_cases c12:x43_8=true
          ·subst c12
           have H1:(celluloidref04_Next.l1 kj8 l0 a1 a2 t153 x10_1 x11_1 x12_2 (wrap64 (x13_2+1)))=some (r1,r2,r3):=by rw [if_pos rfl] at H;exact H
           clear H
           have H:=H1
           clear H1
           have H':=Aside0.mk H
           clear H
           go_wp2
           go_roundg kj8
           case measure=>have:=HK1.out;have:=HK2.out;have:=HJ8.out;omega
           case rel=>exact ⟨(x12_2),(wrap64 (x13_2+1)),(by first | rfl | (simp;done) | (simp [*];done)),(by first | rfl | (simp;done) | (simp [*];done)),H',⟨by have:=HK1.out;have:=HK2.out;have:=HJ8.out;omega⟩,⟨by (with_reducible repeat (first | apply Kd.R_alloc | apply Kd.R_drewN | apply Kd.R_drew));exact HO_9.out⟩,⟨by repeat (first | (with_reducible first | exact HB.out | apply below_alloc | apply pw_below_drewN | apply below_drew1) | exact HB.out)⟩⟩
          ·replace c12:=Bool.eq_false_iff.mpr c12
           subst c12
           have H1:(if 0≤x13_2 then (if x13_2 < (t153.length:Int) then (celluloidref04_Next.l2 kj8 l0 a1 a2 t153 x10_1 x11_1 x12_2 x13_2 (rd t153 x13_2) x11_1) else (none)) else (none))=some (r1,r2,r3):=by rw [if_neg (show ¬ (false=true) by decide)] at H;exact H
           clear H
           have H:=H1
           clear H1
           by_cases c13:0≤x13_2
           ·rw [if_pos c13] at H
            have c13b0:decide (0≤x13_2)=true:=decide_eq_true c13
            clear c13
            by_cases c14:x13_2 < (t153.length:Int)
            ·rw [if_pos c14] at H
             have c14b0:decide (x13_2 < (t153.length:Int))=true:=decide_eq_true c14
             clear c14
             have H':=Aside0.mk H
             clear H
             obtain ⟨Ao15,co15,eo15⟩:=Kd.R_slice HO_9.out
             subst eo15
             have p158:0≤(x13_2:Int):=of_decide_eq_true (by first | (with_reducible assumption) | assumption)
             have q158:x13_2 < (t153.length:Int):=of_decide_eq_true (by first | (with_reducible assumption) | assumption)
             obtain ⟨ad158,e158,hx158_0⟩:=Kd.at_int (Kd.R_reads' HO_9.out).2.2 x13_2 p158 q158
             cases e158
             replace p158:=eq_true p158
             replace q158:=eq_true q158
             go_wp2
             go_loopg [14,15] kj8 (fun kq v14 v15 w'=>∃ (x14_4:Int) (x15_4:Int),v14=.int .i64 x14_4∧v15=.int .i64 x15_4∧Aside0 (celluloidref04_Next.l2 kq l0 a1 a2 t153 x10_1 x11_1 x12_2 x13_2 x14_4 x15_4=some (r1,r2,r3))∧Aside0 (kq≤kj8)∧Aside0 (Kd.R (Kd.int .i64) 3 w' w.heap.size (fun _=>True) (.slice (some ad158) t153.length co15) t153)∧Aside0 (Below w.heap.size w w'))
             case atStart=>exact ⟨(rd t153 x13_2),(x11_1),(by first | rfl | (simp;done) | (simp [*];done)),(by first | rfl | (simp;done) | (simp [*];done)),H',⟨Nat.le_refl _⟩,⟨by (with_reducible repeat (first | apply Kd.R_alloc | apply Kd.R_drewN | apply Kd.R_drew));exact HO_9.out⟩,⟨by repeat (first | (with_reducible first | exact HB.out | apply below_alloc | apply pw_below_drewN | apply below_drew1) | exact HB.out)⟩⟩
             case round =>
              clear H'
              clear c13b0 c14b0 hx158_0 p158 q158
              obtain ⟨x14_4,x15_4,rfl,rfl,HA,HK4,HO_9,HB⟩:=hrel
              cases gk with
              |zero=>exact absurd HA.out (by simp [celluloidref04_Next.l2])
              |succ k4 =>
               have H:=HA.out
               clear HA
               simp only [celluloidref04_Next.l2] at H
               by_cases c16:0≤x13_2
               ·rw [if_pos c16] at H
                have c16b0:decide (0≤x13_2)=true:=decide_eq_true c16
                clear c16
                by_cases c17:x13_2 < (l0.length:Int)
                ·rw [if_pos c17] at H
                 have c17b0:decide (x13_2 < (l0.length:Int))=true:=decide_eq_true c17
                 clear c17
                 by_cases c18:x15_4 < (rd l0 x13_2)
                 ·rw [if_pos c18] at H
                  have c18b0:decide (x15_4 < (rd l0 x13_2))=true:=decide_eq_true c18
                  clear c18
                  have H':=Aside0.mk H
                  clear H
                  have p159:0≤(x13_2:Int):=of_decide_eq_true (by first | (with_reducible assumption) | assumption)
                  have q159:x13_2 < (l0.length:Int):=of_decide_eq_true (by first | (with_reducible assumption) | assumption)
                  obtain ⟨ad159,e159,hx159_0⟩:=Kd.at_int HR0.out x13_2 p159 q159
                  cases e159
                  replace hx159_0:=(HB.out.cell (World.block_lt_of_cell? w _ hx159_0)).trans hx159_0
                  replace p159:=eq_true p159
                  replace q159:=eq_true q159
                  go_wp2
                  go_roundg k4
                  case measure=>have:=HK1.out;have:=HK2.out;have:=HJ8.out;have:=HK4.out;omega
                  case rel=>exact ⟨(wrap64 (Int.tdiv x14_4 2)),(wrap64 (x15_4+1)),(by first | rfl | (simp;done) | (simp [*];done)),(by first | rfl | (simp;done) | (simp [*];done)),H',⟨by have:=HK1.out;have:=HK2.out;have:=HJ8.out;have:=HK4.out;omega⟩,⟨by (with_reducible repeat (first | apply Kd.R_alloc | apply Kd.R_drewN | apply Kd.R_drew));exact HO_9.out⟩,⟨by repeat (first | (with_reducible first | exact HB.out | apply below_alloc | apply pw_below_drewN | apply below_drew1) | exact HB.out)⟩⟩
                 ·rw [if_neg c18] at H
                  have c18b0:decide (x15_4 < (rd l0 x13_2))=false:=decide_eq_false c18
                  clear c18
                  by_cases c19:x14_4=x10_1
                  ·rw [if_pos c19] at H
                   have c19b0:(x14_4 == x10_1)=true:=beq_iff_eq.mpr c19
                   have c19b1:(x14_4 != x10_1)=false:=bne_eq_false_iff_eq.mpr c19
                   clear c19
                   by_cases c20:(rd l0 x13_2)=x11_1
                   ·rw [if_pos c20] at H
                    have c20b0:((rd l0 x13_2) == x11_1)=true:=beq_iff_eq.mpr c20
                    have c20b1:((rd l0 x13_2) != x11_1)=false:=bne_eq_false_iff_eq.mpr c20
                    clear c20
                    simp only [Option.some.injEq,Prod.mk.injEq] at H
                    obtain ⟨rfl,rfl,rfl⟩:=H
                    have p159:0≤(x13_2:Int):=of_decide_eq_true (by first | (with_reducible assumption) | assumption)
                    have q159:x13_2 < (l0.length:Int):=of_decide_eq_true (by first | (with_reducible assumption) | assumption)
                    obtain ⟨ad159,e159,hx159_0⟩:=Kd.at_int HR0.out x13_2 p159 q159
                    cases e159
                    replace hx159_0:=(HB.out.cell (World.block_lt_of_cell? w _ hx159_0)).trans hx159_0
                    replace p159:=eq_true p159
                    replace q159:=eq_true q159
                    have p160:0≤(x13_2:Int):=of_decide_eq_true (by first | (with_reducible assumption) | assumption)
                    have q160:x13_2 < (l0.length:Int):=of_decide_eq_true (by first | (with_reducible assumption) | assumption)
                    obtain ⟨ad160,e160,hx160_0⟩:=Kd.at_int HR0.out x13_2 p160 q160
                    obtain rfl:ad159=ad160:=(by injection e160)
                    replace hx160_0:=(HB.out.cell (World.block_lt_of_cell? w _ hx160_0)).trans hx160_0
                    replace p160:=eq_true p160
                    replace q160:=eq_true q160
                    go_wp2
                    go_ret3
                    exact ⟨by first | rfl | (simp [errW_none,errW_some] <;> rfl) | (simp [*,errW_none,errW_some] <;> rfl),by repeat (first | (with_reducible first | exact HB.out | apply below_alloc | apply pw_below_drewN | apply below_drew1) | exact HB.out)⟩
                   ·rw [if_neg c20] at H
                    have c20b0:((rd l0 x13_2) == x11_1)=false:=beq_eq_false_iff_ne.mpr c20
                    have c20b1:((rd l0 x13_2) != x11_1)=true:=bne_iff_ne.mpr c20
                    have H':=Aside0.mk H
                    clear H
                    have p159:0≤(x13_2:Int):=of_decide_eq_true (by first | (with_reducible assumption) | assumption)
                    have q159:x13_2 < (l0.length:Int):=of_decide_eq_true (by first | (with_reducible assumption) | assumption)
                    obtain ⟨ad159,e159,hx159_0⟩:=Kd.at_int HR0.out x13_2 p159 q159
                    cases e159
                    replace hx159_0:=(HB.out.cell (World.block_lt_of_cell? w _ hx159_0)).trans hx159_0
                    replace p159:=eq_true p159
                    replace q159:=eq_true q159
                    have p160:0≤(x13_2:Int):=of_decide_eq_true (by first | (with_reducible assumption) | assumption)
                    have q160:x13_2 < (l0.length:Int):=of_decide_eq_true (by first | (with_reducible assumption) | assumption)
                    obtain ⟨ad160,e160,hx160_0⟩:=Kd.at_int HR0.out x13_2 p160 q160
                    obtain rfl:ad159=ad160:=(by injection e160)
                    replace hx160_0:=(HB.out.cell (World.block_lt_of_cell? w _ hx160_0)).trans hx160_0
                    replace p160:=eq_true p160
                    replace q160:=eq_true q160
                    go_wp2
                    go_roundg k4
                    case measure=>have:=HK1.out;have:=HK2.out;have:=HJ8.out;have:=HK4.out;omega
                    case rel=>exact ⟨(true),(wrap64 (x13_2+1)),(by first | rfl | (simp;done) | (simp [*];done)),(by first | rfl | (simp;done) | (simp [*];done)),H',⟨by have:=HK1.out;have:=HK2.out;have:=HJ8.out;have:=HK4.out;omega⟩,⟨by (with_reducible repeat (first | apply Kd.R_alloc | apply Kd.R_drewN | apply Kd.R_drew));exact HO_9.out⟩,⟨by repeat (first | (with_reducible first | exact HB.out | apply below_alloc | apply pw_below_drewN | apply below_drew1) | exact HB.out)⟩⟩
                  ·rw [if_neg c19] at H
                   have c19b0:(x14_4 == x10_1)=false:=beq_eq_false_iff_ne.mpr c19
                   have c19b1:(x14_4 != x10_1)=true:=bne_iff_ne.mpr c19
                   have H':=Aside0.mk H
                   clear H
                   have p159:0≤(x13_2:Int):=of_decide_eq_true (by first | (with_reducible assumption) | assumption)
                   have q159:x13_2 < (l0.length:Int):=of_decide_eq_true (by first | (with_reducible assumption) | assumption)
                   obtain ⟨ad159,e159,hx159_0⟩:=Kd.at_int HR0.out x13_2 p159 q159
                   cases e159
                   replace hx159_0:=(HB.out.cell (World.block_lt_of_cell? w _ hx159_0)).trans hx159_0
                   replace p159:=eq_true p159
                   replace q159:=eq_true q159
                   go_wp2
                   go_roundg k4
                   case measure=>have:=HK1.out;have:=HK2.out;have:=HJ8.out;have:=HK4.out;omega
                   case rel=>exact ⟨(x12_2),(wrap64 (x13_2+1)),(by first | rfl | (simp;done) | (simp [*];done)),(by first | rfl | (simp;done) | (simp [*];done)),H',⟨by have:=HK1.out;have:=HK2.out;have:=HJ8.out;have:=HK4.out;omega⟩,⟨by (with_reducible repeat (first | apply Kd.R_alloc | apply Kd.R_drewN | apply Kd.R_drew));exact HO_9.out⟩,⟨by repeat (first | (with_reducible first | exact HB.out | apply below_alloc | apply pw_below_drewN | apply below_drew1) | exact HB.out)⟩⟩
                ·rw [if_neg c17] at H
                 exact absurd H (by simp)
               ·rw [if_neg c16] at H
                exact absurd H (by simp)
            ·rw [if_neg c14] at H
             exact absurd H (by simp)
           ·rw [if_neg c13] at H
            exact absurd H (by simp)
       ·rw [if_neg c8] at H
        have c8b0:decide (x13_2 < (l0.length:Int))=false:=decide_eq_false c8
        clear c8
        by_cases c21:x12_2=true
        ·subst c21
         have H1:((celluloidref04_Bit.f k2 a1 (wrap64 (a2+x11_1))).bind fun t161=>(if t161 < 0 then (some (0,0,2)) else (celluloidref04_Next.l0 k2 l0 a1 a2 t153 (wrap64 ((wrap64 (2*x10_1))+t161)) (wrap64 (x11_1+1)))))=some (r1,r2,r3):=by rw [if_pos rfl] at H;exact H
         clear H
         have H:=H1
         clear H1
         replace H:=Option.bind_eq_some_iff.mp H
         obtain ⟨t161,A220,H⟩:=H
         replace H:(if t161 < 0 then (some (0,0,2)) else (celluloidref04_Next.l0 k2 l0 a1 a2 t153 (wrap64 ((wrap64 (2*x10_1))+t161)) (wrap64 (x11_1+1))))=some (r1,r2,r3):=H
         have A22:=Aside0.mk A220
         clear A220
         by_cases c23:t161 < 0
         ·rw [if_pos c23] at H
          have c23b0:decide (t161 < 0)=true:=decide_eq_true c23
          clear c23
          simp only [Option.some.injEq,Prod.mk.injEq] at H
          obtain ⟨rfl,rfl,rfl⟩:=H
          go_wp2_with (first | ((with_reducible refine gate_callee (f:=35) rfl ?_);refine goesL_ (some 78) rfl rfl Try.func35 (by kernel_rfl) rfl #[.string a1,.int .i64 (wrap64 (a2+x11_1))] rfl (by (try simp only [List.map_toArray,List.map_cons,List.map_nil]);first | done | rfl | (simp only [List.length_drop,List.length_take];rfl)) ?_;(with_reducible refine (celluloidref04_Bit.calls k2 a1 (wrap64 (a2+x11_1)) t161 _ A22.out).mono ?_);rintro e w' ⟨rfl,⟨nd,rfl⟩⟩;refine ⟨_,rfl,?_⟩))
          go_ret3
          exact ⟨by first | rfl | (simp [errW_none,errW_some] <;> rfl) | (simp [*,errW_none,errW_some] <;> rfl),by repeat (first | (with_reducible first | exact HB.out | apply below_alloc | apply pw_below_drewN | apply below_drew1) | exact HB.out)⟩
         ·rw [if_neg c23] at H
          have c23b0:decide (t161 < 0)=false:=decide_eq_false c23
          clear c23
          have H':=Aside0.mk H
          clear H
          go_wp2_with (first | ((with_reducible refine gate_callee (f:=35) rfl ?_);refine goesL_ (some 78) rfl rfl Try.func35 (by kernel_rfl) rfl #[.string a1,.int .i64 (wrap64 (a2+x11_1))] rfl (by (try simp only [List.map_toArray,List.map_cons,List.map_nil]);first | done | rfl | (simp only [List.length_drop,List.length_take];rfl)) ?_;(with_reducible refine (celluloidref04_Bit.calls k2 a1 (wrap64 (a2+x11_1)) t161 _ A22.out).mono ?_);rintro e w' ⟨rfl,⟨nd,rfl⟩⟩;refine ⟨_,rfl,?_⟩))
          go_roundg k2
          case measure=>have:=HK1.out;have:=HK2.out;omega
          case rel=>exact ⟨(wrap64 ((wrap64 (2*x10_1))+t161)),(wrap64 (x11_1+1)),(by first | rfl | (simp;done) | (simp [*];done)),(by first | rfl | (simp;done) | (simp [*];done)),H',⟨by have:=HK1.out;have:=HK2.out;omega⟩,⟨by (with_reducible repeat (first | apply Kd.R_alloc | apply Kd.R_drewN | apply Kd.R_drew));exact HO_9.out⟩,⟨by repeat (first | (with_reducible first | exact HB.out | apply below_alloc | apply pw_below_drewN | apply below_drew1) | exact HB.out)⟩⟩
        ·replace c21:=Bool.eq_false_iff.mpr c21
         subst c21
         have H1:(some (0,0,4))=some (r1,r2,r3):=by rw [if_neg (show ¬ (false=true) by decide)] at H;exact H
         clear H
         have H:=H1
         clear H1
         simp only [Option.some.injEq,Prod.mk.injEq] at H
         obtain ⟨rfl,rfl,rfl⟩:=H
         go_wp2
         go_ret3
         exact ⟨by first | rfl | (simp [errW_none,errW_some] <;> rfl) | (simp [*,errW_none,errW_some] <;> rfl),by repeat (first | (with_reducible first | exact HB.out | apply below_alloc | apply pw_below_drewN | apply below_drew1) | exact HB.out)⟩
    ·rw [if_neg c7] at H
     have c7b0:decide (x11_1 < 16)=false:=decide_eq_false c7
     clear c7
     simp only [Option.some.injEq,Prod.mk.injEq] at H
     obtain ⟨rfl,rfl,rfl⟩:=H
     go_wp2
     go_ret3
     exact ⟨by first | rfl | (simp [errW_none,errW_some] <;> rfl) | (simp [*,errW_none,errW_some] <;> rfl),by repeat (first | (with_reducible first | exact HB.out | apply below_alloc | apply pw_below_drewN | apply below_drew1) | exact HB.out)⟩
end Go.Proofs.Ytpbhkdamkbopkaa.GHuff
namespace Go.Proofs.Ytpbhkdamkbopkaa.GHuff
open Go.RowKit Go.Proofs.YtpbhkdamkbopkaaW.PrintWords Go.Proofs.YtpbhkdamkbopkaaW.PrintLast Go.Proofs.YtpbhkdamkbopkaaW.PrintMore Go.Proofs.Ytpbhkdamkbopkaa.Ext
attribute [local go_sem] max2_int min2_int max_two min_two max_three min_three max_four min_four
set_option linter.unusedVariables false
set_option linter.unusedSimpArgs false
mutual
def huff_Bits.j0:Nat → ByteArray → Int → Int → Bool → Option (Int × Int × Int)
 |0,_,_,_,_=>none
 |k+1,x0,x1,x2,x13=>if x13=true then (some (0,0,1)) else (if x1 > (wrap64 ((wrap64 (8*(x0.size:Int))) - x2)) then (some (0,0,2)) else (huff_Bits.l0 k x0 x1 x2 0 x2 0))
def huff_Bits.l0:Nat → ByteArray → Int → Int → Int → Int → Int → Option (Int × Int × Int)
 |0,_,_,_,_,_,_=>none
 |k+1,x0,x1,x2,x9,x32,x33=>if x33 < x32 then ((huff_Bit.f x0 (wrap64 (x1+x33))).bind fun bt226=>(if 0≤x33 then (huff_Bits.l0 k x0 x1 x2 (Go.bits .or .i64 x9 (shl .i64 bt226.1 x33)) x32 (wrap64 (x33+1))) else (none))) else (some (x9,wrap64 (x1+x2),0))
end
def huff_Bits.f (k:Nat) (a0:ByteArray) (a1:Int) (a2:Int):Option (Int × Int × Int):=if a1 < 0 then (huff_Bits.j0 k a0 a1 a2 true) else (if a2 < 0 then (huff_Bits.j0 k a0 a1 a2 true) else (huff_Bits.j0 k a0 a1 a2 (decide (a2 > 16))))
set_option maxHeartbeats 8000000 in
set_option maxRecDepth 100000 in
theorem huff_Bits.calls (k : Nat) (a0 : ByteArray) (a1 : Int) (a2 : Int) (r1 : Int) (r2 : Int) (r3 : Int) (w : World) (h : huff_Bits.f k a0 a1 a2 = some (r1, r2, r3)) :
  Calls Try.prog 32 #[.string a0,.int .i64 a1,.int .i64 a2] w fun e w'=>e=.returned (.tuple #[.int .i64 r1,.int .i64 r2,.int .i64 r3])∧Drawn0 w w':=by
 have H:(if a1 < 0 then (huff_Bits.j0 k a0 a1 a2 true) else (if a2 < 0 then (huff_Bits.j0 k a0 a1 a2 true) else (huff_Bits.j0 k a0 a1 a2 (decide (a2 > 16)))))=some (r1,r2,r3):=h
 clear h
 have HC4:=Aside0.mk H
 clear H
 go_enter Try.func32,Try.ntmps32
 go_upto_region 1 with (fail)
 go_cut [13] (fun v13 wc=>∃ (kq:Nat) (x13_3:Bool),v13=.bool x13_3∧Aside0 (huff_Bits.j0 kq a0 a1 a2 x13_3=some (r1,r2,r3))∧Aside0 (kq≤k)∧Drawn0 w wc)
 case first =>
  have H:=HC4.out
  clear HC4
  by_cases c5:a1 < 0
  ·rw [if_pos c5] at H
   have c5b0:decide (a1 < 0)=true:=decide_eq_true c5
   clear c5
   (first | rw [c5b0] | (simp only [i64_w,i32_w];rw [c5b0]) | skip)
   have H':=Aside0.mk H
   clear H
   go_wp2
   go_meet
   case rel=>exact ⟨_,(true),(by first | rfl | (simp;done) | (simp [*];done)),H',⟨by first | omega | exact Nat.le_refl _⟩,by repeat (first | exact Drawn0.refl _ | apply Drawn0.step)⟩
  ·rw [if_neg c5] at H
   have c5b0:decide (a1 < 0)=false:=decide_eq_false c5
   clear c5
   (first | rw [c5b0] | (simp only [i64_w,i32_w];rw [c5b0]) | skip)
   by_cases c6:a2 < 0
   ·rw [if_pos c6] at H
    have c6b0:decide (a2 < 0)=true:=decide_eq_true c6
    clear c6
    have H':=Aside0.mk H
    clear H
    go_wp2
    go_meet
    case rel=>exact ⟨_,(true),(by first | rfl | (simp;done) | (simp [*];done)),H',⟨by first | omega | exact Nat.le_refl _⟩,by repeat (first | exact Drawn0.refl _ | apply Drawn0.step)⟩
   ·rw [if_neg c6] at H
    have c6b0:decide (a2 < 0)=false:=decide_eq_false c6
    clear c6
    have H':=Aside0.mk H
    clear H
    go_wp2
    go_meet
    case rel=>exact ⟨_,(decide (a2 > 16)),(by first | rfl | (simp;done) | (simp [*];done)),H',⟨by first | omega | exact Nat.le_refl _⟩,by repeat (first | exact Drawn0.refl _ | apply Drawn0.step)⟩
 case rest =>
  clear HC4
  try clear p2
  try clear c3
  try clear c5
  try clear c5b0
  try clear c6
  try clear c6b0
  obtain ⟨kq,x13_3,rfl,HA,HJ3,⟨mc3,rfl⟩⟩:=hcut
  cases kq with
  |zero=>exact absurd HA.out (by simp [huff_Bits.j0])
  |succ kj3 =>
   have H:=HA.out
   clear HA
   simp only [huff_Bits.j0] at H
   by_cases c7:x13_3=true
   ·subst c7
    have H1:(some (0,0,1))=some (r1,r2,r3):=by rw [if_pos rfl] at H;exact H
    clear H
    have H:=H1
    clear H1
    simp only [Option.some.injEq,Prod.mk.injEq] at H
    obtain ⟨rfl,rfl,rfl⟩:=H
    go_wp2
    go_ret3
    exact ⟨by first | rfl | (simp;done) | (simp [*];done),by repeat (first | exact Drawn0.refl _ | apply Drawn0.step)⟩
   ·replace c7:=Bool.eq_false_iff.mpr c7
    subst c7
    have H1:(if a1 > (wrap64 ((wrap64 (8*(a0.size:Int))) - a2)) then (some (0,0,2)) else (huff_Bits.l0 kj3 a0 a1 a2 0 a2 0))=some (r1,r2,r3):=by rw [if_neg (show ¬ (false=true) by decide)] at H;exact H
    clear H
    have H:=H1
    clear H1
    by_cases c8:a1 > (wrap64 ((wrap64 (8*(a0.size:Int))) - a2))
    ·rw [if_pos c8] at H
     have c8b0:decide ((wrap64 ((wrap64 (8*(a0.size:Int))) - a2)) < a1)=true:=decide_eq_true c8
     clear c8
     simp only [Option.some.injEq,Prod.mk.injEq] at H
     obtain ⟨rfl,rfl,rfl⟩:=H
     go_wp2
     go_ret3
     exact ⟨by first | rfl | (simp;done) | (simp [*];done),by repeat (first | exact Drawn0.refl _ | apply Drawn0.step)⟩
    ·rw [if_neg c8] at H
     have c8b0:decide ((wrap64 ((wrap64 (8*(a0.size:Int))) - a2)) < a1)=false:=decide_eq_false c8
     clear c8
     have H':=Aside0.mk H
     clear H
     go_wp2
     go_loopg [9,33] kj3 (fun kq v9 v33 w'=>∃ (x9_2:Int) (x33_2:Int),v9=.int .i64 x9_2∧v33=.int .i64 x33_2∧Aside0 (huff_Bits.l0 kq a0 a1 a2 x9_2 a2 x33_2=some (r1,r2,r3))∧Aside0 (kq≤kj3)∧Drawn0 w w')
     case atStart=>exact ⟨(0),(0),(by first | rfl | (simp;done) | (simp [*];done)),(by first | rfl | (simp;done) | (simp [*];done)),H',⟨Nat.le_refl _⟩,by repeat (first | exact Drawn0.refl _ | apply Drawn0.step)⟩
     case round =>
      clear H'
      try clear p2
      try clear c3
      try clear c5
      try clear c5b0
      try clear c6
      try clear c6b0
      try clear p6
      try clear c7
      try clear c8
      try clear c8b0
      try clear p2
      obtain ⟨x9_2,x33_2,rfl,rfl,HA,HK2,⟨m2,rfl⟩⟩:=hrel
      cases gk with
      |zero=>exact absurd HA.out (by simp [huff_Bits.l0])
      |succ k2 =>
       have H:=HA.out
       clear HA
       simp only [huff_Bits.l0] at H
       by_cases c9:x33_2 < a2
       ·rw [if_pos c9] at H
        have c9b0:decide (x33_2 < a2)=true:=decide_eq_true c9
        clear c9
        replace H:=Option.bind_eq_some_iff.mp H
        obtain ⟨⟨t226,t227⟩,A100,H⟩:=H
        replace H:(if 0≤x33_2 then (huff_Bits.l0 k2 a0 a1 a2 (Go.bits .or .i64 x9_2 (shl .i64 t226 x33_2)) a2 (wrap64 (x33_2+1))) else (none))=some (r1,r2,r3):=H
        have A10:=Aside0.mk A100
        clear A100
        by_cases c11:0≤x33_2
        ·rw [if_pos c11] at H
         have c11b0:=eq_true c11
         have c11b1:decide (0≤x33_2)=true:=decide_eq_true c11
         clear c11
         obtain ⟨ji12,hji12⟩:∃ j_:Int,(shl .i64 t226 x33_2)=j_:=⟨_,rfl⟩
         replace H:(huff_Bits.l0 k2 a0 a1 a2 (Go.bits .or .i64 x9_2 (ji12)) a2 (wrap64 (x33_2+1)))=some (r1,r2,r3):=by first | (rw [hji12] at H;exact H) | (simp only [hji12] at H ⊢;exact H)
         (try rw [hji12] at A10)
         have hji12_:(IntKind.i64.wrap (t226*2 ^ min x33_2.toNat 64))=ji12:=hji12
         have hji12z:x33_2≤64 → (IntKind.i64.wrap (t226*2 ^ x33_2.toNat))=ji12:=shl_small hji12
         have hji12y:(wrap64 (t226*2 ^ min x33_2.toNat 64))=ji12:=(i64_w _).symm.trans hji12_
         have hji12x:x33_2≤64 → (wrap64 (t226*2 ^ x33_2.toNat))=ji12:=fun h_=>(i64_w _).symm.trans (hji12z h_)
         have H':=Aside0.mk H
         clear H
         go_wp2_with (first | ((with_reducible refine gate_callee (f:=34) rfl ?_);refine goesL_ (some 41) rfl rfl Try.func34 (by kernel_rfl) rfl #[.string a0,.int .i64 (wrap64 (a1+x33_2))] rfl (by (try simp only [List.map_toArray,List.map_cons,List.map_nil]);first | done | rfl | (simp only [List.length_drop,List.length_take];rfl)) ?_;(with_reducible refine (huff_Bit.calls a0 (wrap64 (a1+x33_2)) t226 t227 _ A10.out).mono ?_);rintro e w' ⟨rfl,⟨nd,rfl⟩⟩;refine ⟨_,rfl,?_⟩))
         go_roundg k2
         case measure=>have:=HJ3.out;have:=HK2.out;omega
         case rel=>exact ⟨(Go.bits .or .i64 x9_2 (ji12)),(wrap64 (x33_2+1)),(by first | rfl | (simp;done) | (simp only [← hji12] <;> (first | rfl | simp)) | (simp [*];done)),(by first | rfl | (simp;done) | (simp [*];done)),H',⟨by have:=HJ3.out;have:=HK2.out;omega⟩,by repeat (first | exact Drawn0.refl _ | apply Drawn0.step)⟩
        ·rw [if_neg c11] at H
         exact absurd H (by simp)
       ·rw [if_neg c9] at H
        have c9b0:decide (x33_2 < a2)=false:=decide_eq_false c9
        clear c9
        simp only [Option.some.injEq,Prod.mk.injEq] at H
        obtain ⟨rfl,rfl,rfl⟩:=H
        go_wp2
        go_ret3
        exact ⟨by first | rfl | (simp;done) | (simp [*];done),by repeat (first | exact Drawn0.refl _ | apply Drawn0.step)⟩
end Go.Proofs.Ytpbhkdamkbopkaa.GHuff
namespace Go.Proofs.Ytpbhkdamkbopkaa.GHuff
open Go.RowKit Go.Proofs.YtpbhkdamkbopkaaW.PrintWords Go.Proofs.YtpbhkdamkbopkaaW.PrintLast Go.Proofs.YtpbhkdamkbopkaaW.PrintMore Go.Proofs.Ytpbhkdamkbopkaa.Ext
attribute [local go_sem] max2_int min2_int max_two min_two max_three min_three max_four min_four
set_option linter.unusedVariables false
set_option linter.unusedSimpArgs false
mutual
def celluloidref04_Bits.j0:Nat → ByteArray → Int → Int → Bool → Option (Int × Int × Int)
 |0,_,_,_,_=>none
 |k+1,x0,x1,x2,x22=>if x22=true then (some (0,0,1)) else (celluloidref04_Bits.l0 k x0 x1 x2 0 1 0)
def celluloidref04_Bits.l0:Nat → ByteArray → Int → Int → Int → Int → Int → Option (Int × Int × Int)
 |0,_,_,_,_,_,_=>none
 |k+1,x0,x1,x2,x9,x10,x11=>if x11 < x2 then ((celluloidref04_Bit.f k x0 (wrap64 (x1+x11))).bind fun t228=>(if t228 < 0 then (some (0,0,2)) else (celluloidref04_Bits.l0 k x0 x1 x2 (wrap64 (x9+(wrap64 (x10*t228)))) (wrap64 (x10*2)) (wrap64 (x11+1))))) else (if x2=0 then (if x1 > (wrap64 (8*(x0.size:Int))) then (some (0,0,2)) else (some (x9,wrap64 (x1+x2),0))) else (some (x9,wrap64 (x1+x2),0)))
end
def celluloidref04_Bits.f (k:Nat) (a0:ByteArray) (a1:Int) (a2:Int):Option (Int × Int × Int):=if a1 < 0 then (celluloidref04_Bits.j0 k a0 a1 a2 true) else (if a2 < 0 then (celluloidref04_Bits.j0 k a0 a1 a2 true) else (celluloidref04_Bits.j0 k a0 a1 a2 (decide (a2 > 16))))
set_option maxHeartbeats 8000000 in
set_option maxRecDepth 100000 in
theorem celluloidref04_Bits.calls (k : Nat) (a0 : ByteArray) (a1 : Int) (a2 : Int) (r1 : Int) (r2 : Int) (r3 : Int) (w : World) (h : celluloidref04_Bits.f k a0 a1 a2 = some (r1, r2, r3)) :
  Calls Try.prog 33 #[.string a0,.int .i64 a1,.int .i64 a2] w fun e w'=>e=.returned (.tuple #[.int .i64 r1,.int .i64 r2,.int .i64 r3])∧Drawn0 w w':=by
 have H:(if a1 < 0 then (celluloidref04_Bits.j0 k a0 a1 a2 true) else (if a2 < 0 then (celluloidref04_Bits.j0 k a0 a1 a2 true) else (celluloidref04_Bits.j0 k a0 a1 a2 (decide (a2 > 16)))))=some (r1,r2,r3):=h
 clear h
 have HC4:=Aside0.mk H
 clear H
 go_enter Try.func33,Try.ntmps33
 go_upto_region 1 with (fail)
 go_cut [22] (fun v22 wc=>∃ (kq:Nat) (x22_3:Bool),v22=.bool x22_3∧Aside0 (celluloidref04_Bits.j0 kq a0 a1 a2 x22_3=some (r1,r2,r3))∧Aside0 (kq≤k)∧Drawn0 w wc)
 case first =>
  have H:=HC4.out
  clear HC4
  by_cases c5:a1 < 0
  ·rw [if_pos c5] at H
   have c5b0:decide (a1 < 0)=true:=decide_eq_true c5
   clear c5
   (first | rw [c5b0] | (simp only [i64_w,i32_w];rw [c5b0]) | skip)
   have H':=Aside0.mk H
   clear H
   go_wp2
   go_meet
   case rel=>exact ⟨_,(true),(by first | rfl | (simp;done) | (simp [*];done)),H',⟨by first | omega | exact Nat.le_refl _⟩,by repeat (first | exact Drawn0.refl _ | apply Drawn0.step)⟩
  ·rw [if_neg c5] at H
   have c5b0:decide (a1 < 0)=false:=decide_eq_false c5
   clear c5
   (first | rw [c5b0] | (simp only [i64_w,i32_w];rw [c5b0]) | skip)
   by_cases c6:a2 < 0
   ·rw [if_pos c6] at H
    have c6b0:decide (a2 < 0)=true:=decide_eq_true c6
    clear c6
    have H':=Aside0.mk H
    clear H
    go_wp2
    go_meet
    case rel=>exact ⟨_,(true),(by first | rfl | (simp;done) | (simp [*];done)),H',⟨by first | omega | exact Nat.le_refl _⟩,by repeat (first | exact Drawn0.refl _ | apply Drawn0.step)⟩
   ·rw [if_neg c6] at H
    have c6b0:decide (a2 < 0)=false:=decide_eq_false c6
    clear c6
    have H':=Aside0.mk H
    clear H
    go_wp2
    go_meet
    case rel=>exact ⟨_,(decide (a2 > 16)),(by first | rfl | (simp;done) | (simp [*];done)),H',⟨by first | omega | exact Nat.le_refl _⟩,by repeat (first | exact Drawn0.refl _ | apply Drawn0.step)⟩
 case rest =>
  clear HC4
  try clear p2
  try clear c3
  try clear c5
  try clear c5b0
  try clear c6
  try clear c6b0
  obtain ⟨kq,x22_3,rfl,HA,HJ3,⟨mc3,rfl⟩⟩:=hcut
  cases kq with
  |zero=>exact absurd HA.out (by simp [celluloidref04_Bits.j0])
  |succ kj3 =>
   have H:=HA.out
   clear HA
   simp only [celluloidref04_Bits.j0] at H
   by_cases c7:x22_3=true
   ·subst c7
    have H1:(some (0,0,1))=some (r1,r2,r3):=by rw [if_pos rfl] at H;exact H
    clear H
    have H:=H1
    clear H1
    simp only [Option.some.injEq,Prod.mk.injEq] at H
    obtain ⟨rfl,rfl,rfl⟩:=H
    go_wp2
    go_ret3
    exact ⟨by first | rfl | (simp;done) | (simp [*];done),by repeat (first | exact Drawn0.refl _ | apply Drawn0.step)⟩
   ·replace c7:=Bool.eq_false_iff.mpr c7
    subst c7
    have H1:(celluloidref04_Bits.l0 kj3 a0 a1 a2 0 1 0)=some (r1,r2,r3):=by rw [if_neg (show ¬ (false=true) by decide)] at H;exact H
    clear H
    have H:=H1
    clear H1
    have H':=Aside0.mk H
    clear H
    go_wp2
    go_loopg [9,10,11] kj3 (fun kq v9 v10 v11 w'=>∃ (x9_2:Int) (x10_2:Int) (x11_2:Int),v9=.int .i64 x9_2∧v10=.int .i64 x10_2∧v11=.int .i64 x11_2∧Aside0 (celluloidref04_Bits.l0 kq a0 a1 a2 x9_2 x10_2 x11_2=some (r1,r2,r3))∧Aside0 (kq≤kj3)∧Drawn0 w w')
    case atStart=>exact ⟨(0),(1),(0),(by first | rfl | (simp;done) | (simp [*];done)),(by first | rfl | (simp;done) | (simp [*];done)),(by first | rfl | (simp;done) | (simp [*];done)),H',⟨Nat.le_refl _⟩,by repeat (first | exact Drawn0.refl _ | apply Drawn0.step)⟩
    case round =>
     clear H'
     try clear p2
     try clear c3
     try clear c5
     try clear c5b0
     try clear c6
     try clear c6b0
     try clear c7
     try clear p2
     obtain ⟨x9_2,x10_2,x11_2,rfl,rfl,rfl,HA,HK2,⟨m2,rfl⟩⟩:=hrel
     cases gk with
     |zero=>exact absurd HA.out (by simp [celluloidref04_Bits.l0])
     |succ k2 =>
      have H:=HA.out
      clear HA
      simp only [celluloidref04_Bits.l0] at H
      by_cases c8:x11_2 < a2
      ·rw [if_pos c8] at H
       have c8b0:decide (x11_2 < a2)=true:=decide_eq_true c8
       clear c8
       replace H:=Option.bind_eq_some_iff.mp H
       obtain ⟨t228,A90,H⟩:=H
       replace H:(if t228 < 0 then (some (0,0,2)) else (celluloidref04_Bits.l0 k2 a0 a1 a2 (wrap64 (x9_2+(wrap64 (x10_2*t228)))) (wrap64 (x10_2*2)) (wrap64 (x11_2+1))))=some (r1,r2,r3):=H
       have A9:=Aside0.mk A90
       clear A90
       by_cases c10:t228 < 0
       ·rw [if_pos c10] at H
        have c10b0:decide (t228 < 0)=true:=decide_eq_true c10
        clear c10
        simp only [Option.some.injEq,Prod.mk.injEq] at H
        obtain ⟨rfl,rfl,rfl⟩:=H
        go_wp2_with (first | ((with_reducible refine gate_callee (f:=35) rfl ?_);refine goesL_ (some 32) rfl rfl Try.func35 (by kernel_rfl) rfl #[.string a0,.int .i64 (wrap64 (a1+x11_2))] rfl (by (try simp only [List.map_toArray,List.map_cons,List.map_nil]);first | done | rfl | (simp only [List.length_drop,List.length_take];rfl)) ?_;(with_reducible refine (celluloidref04_Bit.calls k2 a0 (wrap64 (a1+x11_2)) t228 _ A9.out).mono ?_);rintro e w' ⟨rfl,⟨nd,rfl⟩⟩;refine ⟨_,rfl,?_⟩))
        go_ret3
        exact ⟨by first | rfl | (simp;done) | (simp [*];done),by repeat (first | exact Drawn0.refl _ | apply Drawn0.step)⟩
       ·rw [if_neg c10] at H
        have c10b0:decide (t228 < 0)=false:=decide_eq_false c10
        clear c10
        have H':=Aside0.mk H
        clear H
        go_wp2_with (first | ((with_reducible refine gate_callee (f:=35) rfl ?_);refine goesL_ (some 32) rfl rfl Try.func35 (by kernel_rfl) rfl #[.string a0,.int .i64 (wrap64 (a1+x11_2))] rfl (by (try simp only [List.map_toArray,List.map_cons,List.map_nil]);first | done | rfl | (simp only [List.length_drop,List.length_take];rfl)) ?_;(with_reducible refine (celluloidref04_Bit.calls k2 a0 (wrap64 (a1+x11_2)) t228 _ A9.out).mono ?_);rintro e w' ⟨rfl,⟨nd,rfl⟩⟩;refine ⟨_,rfl,?_⟩))
        go_roundg k2
        case measure=>have:=HJ3.out;have:=HK2.out;omega
        case rel=>exact ⟨(wrap64 (x9_2+(wrap64 (x10_2*t228)))),(wrap64 (x10_2*2)),(wrap64 (x11_2+1)),(by first | rfl | (simp;done) | (simp [*];done)),(by first | rfl | (simp;done) | (simp [*];done)),(by first | rfl | (simp;done) | (simp [*];done)),H',⟨by have:=HJ3.out;have:=HK2.out;omega⟩,by repeat (first | exact Drawn0.refl _ | apply Drawn0.step)⟩
      ·rw [if_neg c8] at H
       have c8b0:decide (x11_2 < a2)=false:=decide_eq_false c8
       clear c8
       by_cases c11:a2=0
       ·rw [if_pos c11] at H
        have c11b0:(a2 == 0)=true:=beq_iff_eq.mpr c11
        have c11b1:(a2 != 0)=false:=bne_eq_false_iff_eq.mpr c11
        clear c11
        by_cases c12:a1 > (wrap64 (8*(a0.size:Int)))
        ·rw [if_pos c12] at H
         have c12b0:decide ((wrap64 (8*(a0.size:Int))) < a1)=true:=decide_eq_true c12
         clear c12
         simp only [Option.some.injEq,Prod.mk.injEq] at H
         obtain ⟨rfl,rfl,rfl⟩:=H
         go_wp2
         go_ret3
         exact ⟨by first | rfl | (simp;done) | (simp [*];done),by repeat (first | exact Drawn0.refl _ | apply Drawn0.step)⟩
        ·rw [if_neg c12] at H
         have c12b0:decide ((wrap64 (8*(a0.size:Int))) < a1)=false:=decide_eq_false c12
         clear c12
         simp only [Option.some.injEq,Prod.mk.injEq] at H
         obtain ⟨rfl,rfl,rfl⟩:=H
         go_wp2
         go_ret3
         exact ⟨by first | rfl | (simp;done) | (simp [*];done),by repeat (first | exact Drawn0.refl _ | apply Drawn0.step)⟩
       ·rw [if_neg c11] at H
        have c11b0:(a2 == 0)=false:=beq_eq_false_iff_ne.mpr c11
        have c11b1:(a2 != 0)=true:=bne_iff_ne.mpr c11
        simp only [Option.some.injEq,Prod.mk.injEq] at H
        obtain ⟨rfl,rfl,rfl⟩:=H
        go_wp2
        go_ret3
        exact ⟨by first | rfl | (simp;done) | (simp [*];done),by repeat (first | exact Drawn0.refl _ | apply Drawn0.step)⟩
end Go.Proofs.Ytpbhkdamkbopkaa.GHuff
namespace Go.Proofs.Ytpbhkdamkbopkaa.HuM
open Go.RowKit Go.Proofs.YtpbhkdamkbopkaaW.PrintWords Go.Proofs.YtpbhkdamkbopkaaW.PrintLast Go.Proofs.YtpbhkdamkbopkaaW.PrintMore
abbrev celluloidref04_Error.f:=GHuff.celluloidref04_Error.f
abbrev celluloidref04_Bit.f:=GHuff.celluloidref04_Bit.f
abbrev celluloidref04_Bits.f:=GHuff.celluloidref04_Bits.f
abbrev celluloidref04_Next.f:=GHuff.celluloidref04_Next.f
theorem celluloidref04_Error.calls (k : Nat) (A0 : Option Addr) (c0 : Nat) (l0 : List Int) (r : Int) (w : World) (hr0 : Kd.C (Kd.int .i64) w A0 l0.length l0) (hc0 : l0.length ≤ c0) (h : celluloidref04_Error.f k l0 = some r) :
  Calls Try.prog 28 #[.slice A0 l0.length c0] w fun e w'=>e=.returned (.int .i64 r)∧Below w.heap.size w w' :=
 (GHuff.celluloidref04_Error.calls k A0 c0 l0 r w hr0 hc0 h).mono fun _ _ h=>⟨h.1,h.2.below⟩
theorem celluloidref04_Bit.calls (k : Nat) (a0 : ByteArray) (a1 : Int) (r : Int) (w : World) (h : celluloidref04_Bit.f k a0 a1 = some r) :
  Calls Try.prog 35 #[.string a0,.int .i64 a1] w fun e w'=>e=.returned (.int .i64 r)∧Below w.heap.size w w' :=
 (GHuff.celluloidref04_Bit.calls k a0 a1 r w h).mono fun _ _ h=>⟨h.1,h.2.below⟩
theorem celluloidref04_Bits.calls (k : Nat) (a0 : ByteArray) (a1 : Int) (a2 : Int) (r1 : Int) (r2 : Int) (r3 : Int) (w : World) (h : celluloidref04_Bits.f k a0 a1 a2 = some (r1, r2, r3)) :
  Calls Try.prog 33 #[.string a0,.int .i64 a1,.int .i64 a2] w fun e w'=>e=.returned (.tuple #[.int .i64 r1,.int .i64 r2,.int .i64 r3])∧Below w.heap.size w w' :=
 (GHuff.celluloidref04_Bits.calls k a0 a1 a2 r1 r2 r3 w h).mono fun _ _ h=>⟨h.1,h.2.below⟩
theorem celluloidref04_Next.calls (k : Nat) (A0 : Option Addr) (c0 : Nat) (l0 : List Int) (a1 : ByteArray) (a2 : Int) (r1 : Int) (r2 : Int) (r3 : Int) (w : World) (hr0 : Kd.C (Kd.int .i64) w A0 l0.length l0) (hc0 : l0.length ≤ c0) (h : celluloidref04_Next.f k l0 a1 a2 = some (r1, r2, r3)) :
  Calls Try.prog 31 #[.slice A0 l0.length c0,.string a1,.int .i64 a2] w fun e w'=>e=.returned (.tuple #[.int .i64 r1,.int .i64 r2,.int .i64 r3])∧Below w.heap.size w w' :=
 GHuff.celluloidref04_Next.calls k A0 c0 l0 a1 a2 r1 r2 r3 w hr0 hc0 h
end Go.Proofs.Ytpbhkdamkbopkaa.HuM
namespace Go.Proofs.Ytpbhkdamkbopkaa.GInfr
open Go.RowKit Go.Proofs.YtpbhkdamkbopkaaW.PrintWords Go.Proofs.YtpbhkdamkbopkaaW.PrintLast Go.Proofs.YtpbhkdamkbopkaaW.PrintMore Go.Proofs.Ytpbhkdamkbopkaa.HuM
attribute [local go_sem] max2_int min2_int max_two min_two max_three min_three max_four min_four
set_option linter.unusedVariables false
set_option linter.unusedSimpArgs false
def errW:Option Int → Value
 |none=>.nilIface
 |some c=>.iface 0 (.int .i64 c)
theorem errW_none:errW none=.nilIface:=rfl
theorem errW_some (c:Int):errW (some c)=.iface 0 (.int .i64 c):=rfl
theorem info3:(Try.prog.info? 3).map (fun i=>(i.zero,i.size,i.bytes))=some (some (.int .i64 0),1,8):=by kernel_rfl
theorem info5:(Try.prog.info? 5).map (fun i=>(i.zero,i.size,i.bytes))=some (some (.int .u8 0),1,1):=by kernel_rfl
end Go.Proofs.Ytpbhkdamkbopkaa.GInfr
namespace Go.Proofs.Ytpbhkdamkbopkaa.GInfr
open Go.Proofs.Ytpbhkdamkbopkaa.Sq
open Go.RowKit Go.Proofs.YtpbhkdamkbopkaaW.PrintWords Go.Proofs.YtpbhkdamkbopkaaW.PrintLast Go.Proofs.YtpbhkdamkbopkaaW.PrintMore Go.Proofs.Ytpbhkdamkbopkaa.HuM
attribute [local go_sem] max2_int min2_int max_two min_two max_three min_three max_four min_four
set_option linter.unusedVariables false
set_option linter.unusedSimpArgs false
mutual
def celluloidref05_Plain.l0:Nat → List Int → Int → Option (List Int × List Int)
 |0,_,_=>none
 |k+1,x2,x4=>if x4 < 288 then (if x4 > 143 then (celluloidref05_Plain.j1 k x2 x4 8 (decide (x4 < 256))) else (celluloidref05_Plain.j1 k x2 x4 8 false)) else (celluloidref05_Plain.l1 k x2 ([]:List Int) 0)
def celluloidref05_Plain.j1:Nat → List Int → Int → Int → Bool → Option (List Int × List Int)
 |0,_,_,_,_=>none
 |k+1,x2,x4,x5,x16=>if x16=true then (if x4 > 255 then (if x4 < 280 then (if x2.length < 17592186044416 then (celluloidref05_Plain.l0 k (x2 ++ [7]) (wrap64 (x4+1))) else (none)) else (if x2.length < 17592186044416 then (celluloidref05_Plain.l0 k (x2 ++ [9]) (wrap64 (x4+1))) else (none))) else (if x2.length < 17592186044416 then (celluloidref05_Plain.l0 k (x2 ++ [9]) (wrap64 (x4+1))) else (none))) else (if x4 > 255 then (if x4 < 280 then (if x2.length < 17592186044416 then (celluloidref05_Plain.l0 k (x2 ++ [7]) (wrap64 (x4+1))) else (none)) else (if x2.length < 17592186044416 then (celluloidref05_Plain.l0 k (x2 ++ [x5]) (wrap64 (x4+1))) else (none))) else (if x2.length < 17592186044416 then (celluloidref05_Plain.l0 k (x2 ++ [x5]) (wrap64 (x4+1))) else (none)))
def celluloidref05_Plain.l1:Nat → List Int → List Int → Int → Option (List Int × List Int)
 |0,_,_,_=>none
 |k+1,x2,x3,x6=>if x6 < 32 then (if x3.length < 17592186044416 then (celluloidref05_Plain.l1 k x2 (x3 ++ [5]) (wrap64 (x6+1))) else (none)) else (some (x2,x3))
end
def celluloidref05_Plain.f (k:Nat) :Option (List Int × List Int):=celluloidref05_Plain.l0 k ([]:List Int) 0
theorem celluloidref05_Plain.mono_l:∀ k,(∀ y0 y1,LeO (celluloidref05_Plain.l0 k y0 y1) (celluloidref05_Plain.l0 (k+1) y0 y1))∧(∀ y0 y1 y2 y3,LeO (celluloidref05_Plain.j1 k y0 y1 y2 y3) (celluloidref05_Plain.j1 (k+1) y0 y1 y2 y3))∧(∀ y0 y1 y2,LeO (celluloidref05_Plain.l1 k y0 y1 y2) (celluloidref05_Plain.l1 (k+1) y0 y1 y2))
 |0=>⟨fun _ _ r h=>by simp [celluloidref05_Plain.l0] at h,fun _ _ _ _ r h=>by simp [celluloidref05_Plain.j1] at h,fun _ _ _ r h=>by simp [celluloidref05_Plain.l1] at h⟩
 |k+1=>by
  obtain ⟨ih0,ih1,ih2⟩:=celluloidref05_Plain.mono_l k
  refine ⟨?_,?_,?_⟩
  ·intro y0 y1
   unfold celluloidref05_Plain.l0
   repeat' first
   |(with_reducible exact ih0 _ _)
   |(with_reducible exact ih1 _ _ _ _)
   |(with_reducible exact ih2 _ _ _)
   |(with_reducible exact LeO.refl _)
   |(with_reducible exact LeO.none _)
   |(with_reducible refine LeO.ite ?_ ?_)
   |(with_reducible refine LeO.bind ?_ (fun _=>?_))
   |exact ih0 _ _
   |exact ih1 _ _ _ _
   |exact ih2 _ _ _
   |exact LeO.none _
   |refine LeO.ite ?_ ?_
   |refine LeO.bind ?_ (fun _=>?_)
  ·intro y0 y1 y2 y3
   unfold celluloidref05_Plain.j1
   repeat' first
   |(with_reducible exact ih0 _ _)
   |(with_reducible exact ih1 _ _ _ _)
   |(with_reducible exact ih2 _ _ _)
   |(with_reducible exact LeO.refl _)
   |(with_reducible exact LeO.none _)
   |(with_reducible refine LeO.ite ?_ ?_)
   |(with_reducible refine LeO.bind ?_ (fun _=>?_))
   |exact ih0 _ _
   |exact ih1 _ _ _ _
   |exact ih2 _ _ _
   |exact LeO.none _
   |refine LeO.ite ?_ ?_
   |refine LeO.bind ?_ (fun _=>?_)
  ·intro y0 y1 y2
   unfold celluloidref05_Plain.l1
   repeat' first
   |(with_reducible exact ih0 _ _)
   |(with_reducible exact ih1 _ _ _ _)
   |(with_reducible exact ih2 _ _ _)
   |(with_reducible exact LeO.refl _)
   |(with_reducible exact LeO.none _)
   |(with_reducible refine LeO.ite ?_ ?_)
   |(with_reducible refine LeO.bind ?_ (fun _=>?_))
   |exact ih0 _ _
   |exact ih1 _ _ _ _
   |exact ih2 _ _ _
   |exact LeO.none _
   |refine LeO.ite ?_ ?_
   |refine LeO.bind ?_ (fun _=>?_)
theorem celluloidref05_Plain.mono:∀ k,LeO (celluloidref05_Plain.f k ) (celluloidref05_Plain.f (k+1) ):=by
 intro  k
 obtain ⟨ih0,ih1,ih2⟩:=celluloidref05_Plain.mono_l k
 unfold celluloidref05_Plain.f
 repeat' first
   |(with_reducible exact ih0 _ _)
   |(with_reducible exact ih1 _ _ _ _)
   |(with_reducible exact ih2 _ _ _)
   |(with_reducible exact LeO.refl _)
   |(with_reducible exact LeO.none _)
   |(with_reducible refine LeO.ite ?_ ?_)
   |(with_reducible refine LeO.bind ?_ (fun _=>?_))
   |exact ih0 _ _
   |exact ih1 _ _ _ _
   |exact ih2 _ _ _
   |exact LeO.none _
   |refine LeO.ite ?_ ?_
   |refine LeO.bind ?_ (fun _=>?_)
set_option maxHeartbeats 8000000 in
set_option maxRecDepth 100000 in
theorem celluloidref05_Plain.calls (k : Nat)  (r1 : List Int) (r2 : List Int) (w : World) (h : celluloidref05_Plain.f k  = some (r1, r2)) :
  Calls Try.prog 66 #[] w fun e w'=>∃ v0_ v1_:Value,e=.returned (.tuple #[v0_,v1_])∧Kd.R (Kd.int .i64) 3 w' w.heap.size (fun k_=>some k_ ≠ (v1_:Value).ownBlock) v0_ r1∧Kd.R (Kd.int .i64) 3 w' w.heap.size (fun k_=>some k_ ≠ (v0_:Value).ownBlock) v1_ r2∧Below w.heap.size w w':=by
 have HB:=Aside0.mk (Below.refl w.heap.size w)
 have H:(celluloidref05_Plain.l0 k ([]:List Int) 0)=some (r1,r2):=h
 clear h
 have H':=Aside0.mk H
 clear H
 go_enter Try.func66,Try.ntmps66
 go_wp2
 go_loopg [2,4] k (fun kq v2 v4 w'=>∃ (x2_1:List Int) (x4_1:Int),v4=.int .i64 x4_1∧Aside0 (celluloidref05_Plain.l0 kq x2_1 x4_1=some (r1,r2))∧Aside0 (kq≤k)∧Aside0 (Kd.R (Kd.int .i64) 3 w' w.heap.size (fun _=>True) v2 x2_1)∧Aside0 (Below w.heap.size w w'))
 case atStart=>exact ⟨(([]:List Int)),(0),(by first | rfl | (simp;done) | (simp [*];done)),H',⟨Nat.le_refl _⟩,⟨by first | exact Kd.R_nil _ _ _ _ _ | exact Kd.N_nil _ _ _ _ _ | exact Kd.V_nil _ _ _ _ _ | exact Kd.Q_nil _ _ _ _ _ | exact Kd.S_nil _ _ _ _ _⟩,⟨hn HB⟩⟩
 case round =>
  clear H'
  obtain ⟨x2_1,x4_1,rfl,HA,HK1,HO_2,HB⟩:=hrel
  cases gk with
  |zero=>exact absurd HA.out (by simp [celluloidref05_Plain.l0])
  |succ k1 =>
   have H:=HA.out
   clear HA
   simp only [celluloidref05_Plain.l0] at H
   by_cases c1:x4_1 < 288
   ·rw [if_pos c1] at H
    have c1b0:decide (x4_1 < 288)=true:=decide_eq_true c1
    clear c1
    have HC2:=Aside0.mk H
    clear H
    go_upto_region 6 with (fail)
    go_cut [16] (fun v16 wc=>∃ (kq:Nat) (x16_1:Bool),v16=.bool x16_1∧Aside0 (celluloidref05_Plain.j1 kq x2_1 x4_1 8 x16_1=some (r1,r2))∧Aside0 (kq≤k1)∧Aside0 (Kd.R (Kd.int .i64) 3 wc w.heap.size (fun _=>True) u2 x2_1)∧Aside0 (Below w.heap.size w wc))
    case first =>
     have H:=HC2.out
     clear HC2
     by_cases c3:x4_1 > 143
     ·rw [if_pos c3] at H
      have c3b0:decide (143 < x4_1)=true:=decide_eq_true c3
      clear c3
      (first | rw [c3b0] | (simp only [i64_w,i32_w];rw [c3b0]) | skip)
      have H':=Aside0.mk H
      clear H
      go_wp2
      go_meet
      case rel=>exact ⟨_,(decide (x4_1 < 256)),(by first | rfl | (simp;done) | (simp [*];done)),H',⟨by have:=HK1.out;first | omega | exact Nat.le_refl _⟩,⟨by (with_reducible repeat (first | apply Kd.R_alloc | apply Kd.R_drewN | apply Kd.R_drew));exact HO_2.out⟩,⟨hn HB⟩⟩
     ·rw [if_neg c3] at H
      have c3b0:decide (143 < x4_1)=false:=decide_eq_false c3
      clear c3
      (first | rw [c3b0] | (simp only [i64_w,i32_w];rw [c3b0]) | skip)
      have H':=Aside0.mk H
      clear H
      go_wp2
      go_meet
      case rel=>exact ⟨_,(false),(by first | rfl | (simp;done) | (simp [*];done)),H',⟨by have:=HK1.out;first | omega | exact Nat.le_refl _⟩,⟨by (with_reducible repeat (first | apply Kd.R_alloc | apply Kd.R_drewN | apply Kd.R_drew));exact HO_2.out⟩,⟨hn HB⟩⟩
    case rest =>
     clear HC2
     try clear c1
     try clear c1b0
     try clear p2
     try clear c3
     try clear c3b0
     obtain ⟨kq,x16_1,rfl,HA,HJ1,HO_2,HB⟩:=hcut
     cases kq with
     |zero=>exact absurd HA.out (by simp [celluloidref05_Plain.j1])
     |succ kj1 =>
      have H:=HA.out
      clear HA
      simp only [celluloidref05_Plain.j1] at H
      by_cases c4:x16_1=true
      ·subst c4
       have H1:(if x4_1 > 255 then (if x4_1 < 280 then (if x2_1.length < 17592186044416 then (celluloidref05_Plain.l0 kj1 (x2_1 ++ [7]) (wrap64 (x4_1+1))) else (none)) else (if x2_1.length < 17592186044416 then (celluloidref05_Plain.l0 kj1 (x2_1 ++ [9]) (wrap64 (x4_1+1))) else (none))) else (if x2_1.length < 17592186044416 then (celluloidref05_Plain.l0 kj1 (x2_1 ++ [9]) (wrap64 (x4_1+1))) else (none)))=some (r1,r2):=by rw [if_pos rfl] at H;exact H
       clear H
       have H:=H1
       clear H1
       by_cases c5:x4_1 > 255
       ·rw [if_pos c5] at H
        have c5b0:decide (255 < x4_1)=true:=decide_eq_true c5
        clear c5
        by_cases c6:x4_1 < 280
        ·rw [if_pos c6] at H
         have c6b0:decide (x4_1 < 280)=true:=decide_eq_true c6
         clear c6
         by_cases c7:x2_1.length < 17592186044416
         ·rw [if_pos c7] at H
          have LMc7:=Aside0.mk c7
          clear c7
          obtain ⟨y201,hy201⟩:∃ y_:List Int,y_=(x2_1 ++ [7]):=⟨_,rfl⟩
          replace H:(celluloidref05_Plain.l0 kj1 y201 (wrap64 (x4_1+1)))=some (r1,r2):=by first | (rw [hy201];with_reducible exact H) | (have H2_:=(Option.bind_some _ _).symm.trans H;rw [hy201];with_reducible exact H2_) | (have H2_:=(Option.bind_some _ _).symm.trans H;with_reducible exact H2_) | with_reducible exact H | (rw [hy201];exact H) | exact H
          have Ny201:=Aside0.mk hy201
          clear hy201
          have H':=Aside0.mk H
          clear H
          go_wp2_with (first | ((with_reducible refine gate_builtin (b:=.append) (xs:=#[.tmp 23,.tmp 25]) rfl ?_);at_builtin;refine Kd.R_append (Kd.int .i64) (w0:=w) w.heap.size rfl (.tmp 23) (.tmp 25) 22 3 (.int .i64 0) 8 rfl Try.underlying22 info3 rfl (by decide) (by omega) u2 x2_1 7 [.int .i64 7] (fun _=>True) (fun _=>False) rfl rfl ?aP (fun _ hk=>hk.elim) ?aF ?aO ?aB ?aS ?aL ?_;(case aP=>exact rfl);(case aB=>exact (hn HB));(case aF=>exact (fun _ _=>trivial));(case aO=>exact (by (with_reducible repeat (first | apply Kd.R_alloc | apply Kd.R_drewN | apply Kd.R_drew));exact HO_2.out));(case aS=>exact (below_size (hn HB)));(case aL=>have:=LMc7.out;omega);intro v202 w8 ho hb hg hat;rw [← Ny201.out] at ho;have n0_:=Aside0.mk (hb);have n1_:=Aside0.mk (ho);clear HB;clear HO_2;have HB:=n0_;have HO203:=n1_;clear n0_ n1_;clear ho hb hg hat))
          go_roundg kj1
          case measure=>have:=HK1.out;have:=HJ1.out;omega
          case rel=>exact ⟨(y201),(wrap64 (x4_1+1)),(by first | rfl | (simp;done) | (simp [*];done)),H',⟨by have:=HK1.out;have:=HJ1.out;omega⟩,⟨by (with_reducible repeat (first | apply Kd.R_alloc | apply Kd.R_drewN | apply Kd.R_drew));exact HO203.out⟩,⟨hn HB⟩⟩
         ·rw [if_neg c7] at H
          exact absurd H (by simp)
        ·rw [if_neg c6] at H
         have c6b0:decide (x4_1 < 280)=false:=decide_eq_false c6
         clear c6
         by_cases c9:x2_1.length < 17592186044416
         ·rw [if_pos c9] at H
          have LMc9:=Aside0.mk c9
          clear c9
          obtain ⟨y204,hy204⟩:∃ y_:List Int,y_=(x2_1 ++ [9]):=⟨_,rfl⟩
          replace H:(celluloidref05_Plain.l0 kj1 y204 (wrap64 (x4_1+1)))=some (r1,r2):=by first | (rw [hy204];with_reducible exact H) | (have H2_:=(Option.bind_some _ _).symm.trans H;rw [hy204];with_reducible exact H2_) | (have H2_:=(Option.bind_some _ _).symm.trans H;with_reducible exact H2_) | with_reducible exact H | (rw [hy204];exact H) | exact H
          have Ny204:=Aside0.mk hy204
          clear hy204
          have H':=Aside0.mk H
          clear H
          go_wp2_with (first | ((with_reducible refine gate_builtin (b:=.append) (xs:=#[.tmp 23,.tmp 25]) rfl ?_);at_builtin;refine Kd.R_append (Kd.int .i64) (w0:=w) w.heap.size rfl (.tmp 23) (.tmp 25) 22 3 (.int .i64 0) 8 rfl Try.underlying22 info3 rfl (by decide) (by omega) u2 x2_1 9 [.int .i64 9] (fun _=>True) (fun _=>False) rfl rfl ?aP (fun _ hk=>hk.elim) ?aF ?aO ?aB ?aS ?aL ?_;(case aP=>exact rfl);(case aB=>exact (hn HB));(case aF=>exact (fun _ _=>trivial));(case aO=>exact (by (with_reducible repeat (first | apply Kd.R_alloc | apply Kd.R_drewN | apply Kd.R_drew));exact HO_2.out));(case aS=>exact (below_size (hn HB)));(case aL=>have:=LMc9.out;omega);intro v205 w10 ho hb hg hat;rw [← Ny204.out] at ho;have n0_:=Aside0.mk (hb);have n1_:=Aside0.mk (ho);clear HB;clear HO_2;have HB:=n0_;have HO206:=n1_;clear n0_ n1_;clear ho hb hg hat))
          go_roundg kj1
          case measure=>have:=HK1.out;have:=HJ1.out;omega
          case rel=>exact ⟨(y204),(wrap64 (x4_1+1)),(by first | rfl | (simp;done) | (simp [*];done)),H',⟨by have:=HK1.out;have:=HJ1.out;omega⟩,⟨by (with_reducible repeat (first | apply Kd.R_alloc | apply Kd.R_drewN | apply Kd.R_drew));exact HO206.out⟩,⟨hn HB⟩⟩
         ·rw [if_neg c9] at H
          exact absurd H (by simp)
       ·rw [if_neg c5] at H
        have c5b0:decide (255 < x4_1)=false:=decide_eq_false c5
        clear c5
        by_cases c11:x2_1.length < 17592186044416
        ·rw [if_pos c11] at H
         have LMc11:=Aside0.mk c11
         clear c11
         obtain ⟨y207,hy207⟩:∃ y_:List Int,y_=(x2_1 ++ [9]):=⟨_,rfl⟩
         replace H:(celluloidref05_Plain.l0 kj1 y207 (wrap64 (x4_1+1)))=some (r1,r2):=by first | (rw [hy207];with_reducible exact H) | (have H2_:=(Option.bind_some _ _).symm.trans H;rw [hy207];with_reducible exact H2_) | (have H2_:=(Option.bind_some _ _).symm.trans H;with_reducible exact H2_) | with_reducible exact H | (rw [hy207];exact H) | exact H
         have Ny207:=Aside0.mk hy207
         clear hy207
         have H':=Aside0.mk H
         clear H
         go_wp2_with (first | ((with_reducible refine gate_builtin (b:=.append) (xs:=#[.tmp 23,.tmp 25]) rfl ?_);at_builtin;refine Kd.R_append (Kd.int .i64) (w0:=w) w.heap.size rfl (.tmp 23) (.tmp 25) 22 3 (.int .i64 0) 8 rfl Try.underlying22 info3 rfl (by decide) (by omega) u2 x2_1 9 [.int .i64 9] (fun _=>True) (fun _=>False) rfl rfl ?aP (fun _ hk=>hk.elim) ?aF ?aO ?aB ?aS ?aL ?_;(case aP=>exact rfl);(case aB=>exact (hn HB));(case aF=>exact (fun _ _=>trivial));(case aO=>exact (by (with_reducible repeat (first | apply Kd.R_alloc | apply Kd.R_drewN | apply Kd.R_drew));exact HO_2.out));(case aS=>exact (below_size (hn HB)));(case aL=>have:=LMc11.out;omega);intro v208 w12 ho hb hg hat;rw [← Ny207.out] at ho;have n0_:=Aside0.mk (hb);have n1_:=Aside0.mk (ho);clear HB;clear HO_2;have HB:=n0_;have HO209:=n1_;clear n0_ n1_;clear ho hb hg hat))
         go_roundg kj1
         case measure=>have:=HK1.out;have:=HJ1.out;omega
         case rel=>exact ⟨(y207),(wrap64 (x4_1+1)),(by first | rfl | (simp;done) | (simp [*];done)),H',⟨by have:=HK1.out;have:=HJ1.out;omega⟩,⟨by (with_reducible repeat (first | apply Kd.R_alloc | apply Kd.R_drewN | apply Kd.R_drew));exact HO209.out⟩,⟨hn HB⟩⟩
        ·rw [if_neg c11] at H
         exact absurd H (by simp)
      ·replace c4:=Bool.eq_false_iff.mpr c4
       subst c4
       have H1:(if x4_1 > 255 then (if x4_1 < 280 then (if x2_1.length < 17592186044416 then (celluloidref05_Plain.l0 kj1 (x2_1 ++ [7]) (wrap64 (x4_1+1))) else (none)) else (if x2_1.length < 17592186044416 then (celluloidref05_Plain.l0 kj1 (x2_1 ++ [8]) (wrap64 (x4_1+1))) else (none))) else (if x2_1.length < 17592186044416 then (celluloidref05_Plain.l0 kj1 (x2_1 ++ [8]) (wrap64 (x4_1+1))) else (none)))=some (r1,r2):=by rw [if_neg (show ¬ (false=true) by decide)] at H;exact H
       clear H
       have H:=H1
       clear H1
       by_cases c13:x4_1 > 255
       ·rw [if_pos c13] at H
        have c13b0:decide (255 < x4_1)=true:=decide_eq_true c13
        clear c13
        by_cases c14:x4_1 < 280
        ·rw [if_pos c14] at H
         have c14b0:decide (x4_1 < 280)=true:=decide_eq_true c14
         clear c14
         by_cases c15:x2_1.length < 17592186044416
         ·rw [if_pos c15] at H
          have LMc15:=Aside0.mk c15
          clear c15
          obtain ⟨y210,hy210⟩:∃ y_:List Int,y_=(x2_1 ++ [7]):=⟨_,rfl⟩
          replace H:(celluloidref05_Plain.l0 kj1 y210 (wrap64 (x4_1+1)))=some (r1,r2):=by first | (rw [hy210];with_reducible exact H) | (have H2_:=(Option.bind_some _ _).symm.trans H;rw [hy210];with_reducible exact H2_) | (have H2_:=(Option.bind_some _ _).symm.trans H;with_reducible exact H2_) | with_reducible exact H | (rw [hy210];exact H) | exact H
          have Ny210:=Aside0.mk hy210
          clear hy210
          have H':=Aside0.mk H
          clear H
          go_wp2_with (first | ((with_reducible refine gate_builtin (b:=.append) (xs:=#[.tmp 23,.tmp 25]) rfl ?_);at_builtin;refine Kd.R_append (Kd.int .i64) (w0:=w) w.heap.size rfl (.tmp 23) (.tmp 25) 22 3 (.int .i64 0) 8 rfl Try.underlying22 info3 rfl (by decide) (by omega) u2 x2_1 7 [.int .i64 7] (fun _=>True) (fun _=>False) rfl rfl ?aP (fun _ hk=>hk.elim) ?aF ?aO ?aB ?aS ?aL ?_;(case aP=>exact rfl);(case aB=>exact (hn HB));(case aF=>exact (fun _ _=>trivial));(case aO=>exact (by (with_reducible repeat (first | apply Kd.R_alloc | apply Kd.R_drewN | apply Kd.R_drew));exact HO_2.out));(case aS=>exact (below_size (hn HB)));(case aL=>have:=LMc15.out;omega);intro v211 w16 ho hb hg hat;rw [← Ny210.out] at ho;have n0_:=Aside0.mk (hb);have n1_:=Aside0.mk (ho);clear HB;clear HO_2;have HB:=n0_;have HO212:=n1_;clear n0_ n1_;clear ho hb hg hat))
          go_roundg kj1
          case measure=>have:=HK1.out;have:=HJ1.out;omega
          case rel=>exact ⟨(y210),(wrap64 (x4_1+1)),(by first | rfl | (simp;done) | (simp [*];done)),H',⟨by have:=HK1.out;have:=HJ1.out;omega⟩,⟨by (with_reducible repeat (first | apply Kd.R_alloc | apply Kd.R_drewN | apply Kd.R_drew));exact HO212.out⟩,⟨hn HB⟩⟩
         ·rw [if_neg c15] at H
          exact absurd H (by simp)
        ·rw [if_neg c14] at H
         have c14b0:decide (x4_1 < 280)=false:=decide_eq_false c14
         clear c14
         by_cases c17:x2_1.length < 17592186044416
         ·rw [if_pos c17] at H
          have LMc17:=Aside0.mk c17
          clear c17
          obtain ⟨y213,hy213⟩:∃ y_:List Int,y_=(x2_1 ++ [8]):=⟨_,rfl⟩
          replace H:(celluloidref05_Plain.l0 kj1 y213 (wrap64 (x4_1+1)))=some (r1,r2):=by first | (rw [hy213];with_reducible exact H) | (have H2_:=(Option.bind_some _ _).symm.trans H;rw [hy213];with_reducible exact H2_) | (have H2_:=(Option.bind_some _ _).symm.trans H;with_reducible exact H2_) | with_reducible exact H | (rw [hy213];exact H) | exact H
          have Ny213:=Aside0.mk hy213
          clear hy213
          have H':=Aside0.mk H
          clear H
          go_wp2_with (first | ((with_reducible refine gate_builtin (b:=.append) (xs:=#[.tmp 23,.tmp 25]) rfl ?_);at_builtin;refine Kd.R_append (Kd.int .i64) (w0:=w) w.heap.size rfl (.tmp 23) (.tmp 25) 22 3 (.int .i64 0) 8 rfl Try.underlying22 info3 rfl (by decide) (by omega) u2 x2_1 8 [.int .i64 8] (fun _=>True) (fun _=>False) rfl rfl ?aP (fun _ hk=>hk.elim) ?aF ?aO ?aB ?aS ?aL ?_;(case aP=>exact rfl);(case aB=>exact (hn HB));(case aF=>exact (fun _ _=>trivial));(case aO=>exact (by (with_reducible repeat (first | apply Kd.R_alloc | apply Kd.R_drewN | apply Kd.R_drew));exact HO_2.out));(case aS=>exact (below_size (hn HB)));(case aL=>have:=LMc17.out;omega);intro v214 w18 ho hb hg hat;rw [← Ny213.out] at ho;have n0_:=Aside0.mk (hb);have n1_:=Aside0.mk (ho);clear HB;clear HO_2;have HB:=n0_;have HO215:=n1_;clear n0_ n1_;clear ho hb hg hat))
          go_roundg kj1
          case measure=>have:=HK1.out;have:=HJ1.out;omega
          case rel=>exact ⟨(y213),(wrap64 (x4_1+1)),(by first | rfl | (simp;done) | (simp [*];done)),H',⟨by have:=HK1.out;have:=HJ1.out;omega⟩,⟨by (with_reducible repeat (first | apply Kd.R_alloc | apply Kd.R_drewN | apply Kd.R_drew));exact HO215.out⟩,⟨hn HB⟩⟩
         ·rw [if_neg c17] at H
          exact absurd H (by simp)
       ·rw [if_neg c13] at H
        have c13b0:decide (255 < x4_1)=false:=decide_eq_false c13
        clear c13
        by_cases c19:x2_1.length < 17592186044416
        ·rw [if_pos c19] at H
         have LMc19:=Aside0.mk c19
         clear c19
         obtain ⟨y216,hy216⟩:∃ y_:List Int,y_=(x2_1 ++ [8]):=⟨_,rfl⟩
         replace H:(celluloidref05_Plain.l0 kj1 y216 (wrap64 (x4_1+1)))=some (r1,r2):=by first | (rw [hy216];with_reducible exact H) | (have H2_:=(Option.bind_some _ _).symm.trans H;rw [hy216];with_reducible exact H2_) | (have H2_:=(Option.bind_some _ _).symm.trans H;with_reducible exact H2_) | with_reducible exact H | (rw [hy216];exact H) | exact H
         have Ny216:=Aside0.mk hy216
         clear hy216
         have H':=Aside0.mk H
         clear H
         go_wp2_with (first | ((with_reducible refine gate_builtin (b:=.append) (xs:=#[.tmp 23,.tmp 25]) rfl ?_);at_builtin;refine Kd.R_append (Kd.int .i64) (w0:=w) w.heap.size rfl (.tmp 23) (.tmp 25) 22 3 (.int .i64 0) 8 rfl Try.underlying22 info3 rfl (by decide) (by omega) u2 x2_1 8 [.int .i64 8] (fun _=>True) (fun _=>False) rfl rfl ?aP (fun _ hk=>hk.elim) ?aF ?aO ?aB ?aS ?aL ?_;(case aP=>exact rfl);(case aB=>exact (hn HB));(case aF=>exact (fun _ _=>trivial));(case aO=>exact (by (with_reducible repeat (first | apply Kd.R_alloc | apply Kd.R_drewN | apply Kd.R_drew));exact HO_2.out));(case aS=>exact (below_size (hn HB)));(case aL=>have:=LMc19.out;omega);intro v217 w20 ho hb hg hat;rw [← Ny216.out] at ho;have n0_:=Aside0.mk (hb);have n1_:=Aside0.mk (ho);clear HB;clear HO_2;have HB:=n0_;have HO218:=n1_;clear n0_ n1_;clear ho hb hg hat))
         go_roundg kj1
         case measure=>have:=HK1.out;have:=HJ1.out;omega
         case rel=>exact ⟨(y216),(wrap64 (x4_1+1)),(by first | rfl | (simp;done) | (simp [*];done)),H',⟨by have:=HK1.out;have:=HJ1.out;omega⟩,⟨by (with_reducible repeat (first | apply Kd.R_alloc | apply Kd.R_drewN | apply Kd.R_drew));exact HO218.out⟩,⟨hn HB⟩⟩
        ·rw [if_neg c19] at H
         exact absurd H (by simp)
   ·rw [if_neg c1] at H
    have c1b0:decide (x4_1 < 288)=false:=decide_eq_false c1
    clear c1
    have H':=Aside0.mk H
    clear H
    go_wp2
    go_loopg [3,6] k1 (fun kq v3 v6 w'=>∃ (x3_2:List Int) (x6_2:Int),v6=.int .i64 x6_2∧Aside0 (celluloidref05_Plain.l1 kq x2_1 x3_2 x6_2=some (r1,r2))∧Aside0 (kq≤k1)∧Aside0 (Kd.R (Kd.int .i64) 3 w' w.heap.size (fun k_=>some k_ ≠ (v3:Value).ownBlock) u2 x2_1)∧Aside0 (Kd.R (Kd.int .i64) 3 w' w.heap.size (fun k_=>some k_ ≠ (u2:Value).ownBlock) v3 x3_2)∧Aside0 (Below w.heap.size w w'))
    case atStart=>exact ⟨(([]:List Int)),(0),(by first | rfl | (simp;done) | (simp [*];done)),H',⟨Nat.le_refl _⟩,⟨by (with_reducible repeat (first | apply Kd.R_alloc | apply Kd.R_drewN | apply Kd.R_drew));exact Kd.R_mono HO_2.out (fun _ hk=>(by simp [Value.ownBlock]))⟩,⟨by first | exact Kd.R_nil _ _ _ _ _ | exact Kd.N_nil _ _ _ _ _ | exact Kd.V_nil _ _ _ _ _ | exact Kd.Q_nil _ _ _ _ _ | exact Kd.S_nil _ _ _ _ _⟩,⟨hn HB⟩⟩
    case round =>
     clear H'
     try clear c1
     try clear c1b0
     try clear p2
     try clear c3
     try clear c3b0
     try clear c4
     try clear c5
     try clear c5b0
     try clear c6
     try clear c6b0
     try clear p6
     try clear c7
     try clear c9
     try clear c11
     try clear c13
     try clear c13b0
     try clear c14
     try clear c14b0
     try clear c15
     try clear c17
     try clear c19
     try clear p2
     obtain ⟨x3_2,x6_2,rfl,HA,HK2,HO_2,HO_3,HB⟩:=hrel
     cases gk with
     |zero=>exact absurd HA.out (by simp [celluloidref05_Plain.l1])
     |succ k2 =>
      have H:=HA.out
      clear HA
      simp only [celluloidref05_Plain.l1] at H
      by_cases c21:x6_2 < 32
      ·rw [if_pos c21] at H
       have c21b0:decide (x6_2 < 32)=true:=decide_eq_true c21
       clear c21
       by_cases c22:x3_2.length < 17592186044416
       ·rw [if_pos c22] at H
        have LMc22:=Aside0.mk c22
        clear c22
        obtain ⟨y219,hy219⟩:∃ y_:List Int,y_=(x3_2 ++ [5]):=⟨_,rfl⟩
        replace H:(celluloidref05_Plain.l1 k2 x2_1 y219 (wrap64 (x6_2+1)))=some (r1,r2):=by first | (rw [hy219];with_reducible exact H) | (have H2_:=(Option.bind_some _ _).symm.trans H;rw [hy219];with_reducible exact H2_) | (have H2_:=(Option.bind_some _ _).symm.trans H;with_reducible exact H2_) | with_reducible exact H | (rw [hy219];exact H) | exact H
        have Ny219:=Aside0.mk hy219
        clear hy219
        have H':=Aside0.mk H
        clear H
        go_wp2_with (first | ((with_reducible refine gate_builtin (b:=.append) (xs:=#[.tmp 31,.tmp 32]) rfl ?_);at_builtin;refine Kd.R_append (Kd.int .i64) (w0:=w) w.heap.size rfl (.tmp 31) (.tmp 32) 22 3 (.int .i64 0) 8 rfl Try.underlying22 info3 rfl (by decide) (by omega) u3 x3_2 5 [.int .i64 5] (fun k_=>some k_ ≠ (u2:Value).ownBlock) (fun _=>False) rfl rfl ?aP (fun _ hk=>hk.elim) ?aF ?aO ?aB ?aS ?aL ?_;(case aP=>exact rfl);(case aB=>exact (hn HB));(case aF=>exact (fun k_ hk=>Kd.fresh' (Kd.R_lt (by (with_reducible repeat (first | apply Kd.R_alloc | apply Kd.R_drewN | apply Kd.R_drew));exact HO_2.out)) k_ hk));(case aO=>exact (by (with_reducible repeat (first | apply Kd.R_alloc | apply Kd.R_drewN | apply Kd.R_drew));exact HO_3.out));(case aS=>exact (below_size (hn HB)));(case aL=>have:=LMc22.out;omega);intro v220 w23 ho hb hg hat;rw [← Ny219.out] at ho;have n0_:=Aside0.mk (Kd.R_after (ok:=(fun _=>True)) (by (with_reducible repeat (first | apply Kd.R_alloc | apply Kd.R_drewN | apply Kd.R_drew));exact Kd.R_mono HO_2.out (fun _ hk=>⟨trivial,hk⟩)) hg hat);have n1_:=Aside0.mk (hb);have n2_:=Aside0.mk (ho);clear HO_2;clear HB;clear HO_3;have HO_2:=n0_;have HB:=n1_;have HO221:=n2_;clear n0_ n1_ n2_;clear ho hb hg hat))
        go_roundg k2
        case measure=>have:=HK1.out;have:=HK2.out;omega
        case rel=>exact ⟨(y219),(wrap64 (x6_2+1)),(by first | rfl | (simp;done) | (simp [*];done)),H',⟨by have:=HK1.out;have:=HK2.out;omega⟩,⟨by (with_reducible repeat (first | apply Kd.R_alloc | apply Kd.R_drewN | apply Kd.R_drew));exact Kd.R_mono HO_2.out (fun _ hk=>hk.2)⟩,⟨by (with_reducible repeat (first | apply Kd.R_alloc | apply Kd.R_drewN | apply Kd.R_drew));exact HO221.out⟩,⟨hn HB⟩⟩
       ·rw [if_neg c22] at H
        exact absurd H (by simp)
      ·rw [if_neg c21] at H
       have c21b0:decide (x6_2 < 32)=false:=decide_eq_false c21
       clear c21
       simp only [Option.some.injEq,Prod.mk.injEq] at H
       obtain ⟨rfl,rfl⟩:=H
       go_wp2
       go_ret2
       exact ⟨_,_,by first | rfl | (simp [errW_none,errW_some] <;> rfl) | (simp [*,errW_none,errW_some] <;> rfl),by (with_reducible repeat (first | apply Kd.R_alloc | apply Kd.R_drewN | apply Kd.R_drew));exact HO_2.out,by (with_reducible repeat (first | apply Kd.R_alloc | apply Kd.R_drewN | apply Kd.R_drew));exact HO_3.out,hn HB⟩
def celluloidref05_number.f (k:Nat) (a0:ByteArray) (l1_0:List Int) (a1_1:Int) (a1_2:Int) (a2:Int):Option (Int × List Int × Int × Int):=if a1_2=0 then ((celluloidref04_Bits.f k a0 a1_1 a2).bind fun bt224=>(some (bt224.1,l1_0,bt224.2.1,bt224.2.2))) else (some (0,l1_0,a1_1,a1_2))
set_option maxHeartbeats 8000000 in
set_option maxRecDepth 100000 in
theorem celluloidref05_number.calls (k : Nat) (a0 : ByteArray) (P1_0_ : Nat → Prop) (u9000_ : Value) (l1_0 : List Int) (a1_1 : Int) (a1_2 : Int) (a2 : Int) (r1 : Int) (r2 : List Int) (r3 : Int) (r4 : Int) (w0 w : World) (hB : Below w0.heap.size w0 w) (ho1_0 : Kd.R (Kd.int .u8) 5 w w0.heap.size P1_0_ u9000_ l1_0) (h : celluloidref05_number.f k a0 l1_0 a1_1 a1_2 a2 = some (r1, r2, r3, r4)) :
  Calls Try.prog 73 #[.string a0,.agg #[u9000_,.int .i64 a1_1,.int .i64 a1_2],.int .i64 a2] w fun e w'=>∃ v1_:Value,e=.returned (.tuple #[.int .i64 r1,.agg #[v1_,.int .i64 r3,.int .i64 r4]])∧Kd.R (Kd.int .u8) 5 w' w0.heap.size (fun k_=>(P1_0_ k_ ∨ w.heap.size≤k_)) v1_ r2∧Below w0.heap.size w0 w'∧Kept w w' (fun k_=>P1_0_ k_):=by
 have hu115:=Try.underlying115
 have HO1_0:=Aside0.mk (show Kd.R (Kd.int .u8) 5 w w0.heap.size (fun k_=>(P1_0_ k_ ∨ w.heap.size≤k_)) u9000_ l1_0 from Kd.R_mono ho1_0 (fun k_ hk=>(.inl hk)))
 have HK:=Aside0.mk (Kept.refl w (fun k_=>P1_0_ k_))
 have HW0:=Aside0.mk hB.size
 have HB:=Aside0.mk hB
 clear hB
 have H:(if a1_2=0 then ((celluloidref04_Bits.f k a0 a1_1 a2).bind fun bt224=>(some (bt224.1,l1_0,bt224.2.1,bt224.2.2))) else (some (0,l1_0,a1_1,a1_2)))=some (r1,r2,r3,r4):=h
 clear h
 by_cases c4:a1_2=0
 ·rw [if_pos c4] at H
  have c4b0:(a1_2 == 0)=true:=beq_iff_eq.mpr c4
  have c4b1:(a1_2 != 0)=false:=bne_eq_false_iff_eq.mpr c4
  clear c4
  replace H:=Option.bind_eq_some_iff.mp H
  obtain ⟨⟨t224,t225,t226⟩,A50,H⟩:=H
  replace H:(some (t224,l1_0,t225,t226))=some (r1,r2,r3,r4):=H
  have A5:=Aside0.mk A50
  clear A50
  simp only [Option.some.injEq,Prod.mk.injEq] at H
  obtain ⟨rfl,rfl,rfl,rfl⟩:=H
  obtain ⟨Ao6,co6,eo6⟩:=Kd.R_slice HO1_0.out
  subst eo6
  go_enter Try.func73,Try.ntmps73
  try go_wp2_with (first | ((with_reducible refine gate_dst (N:=4) rfl ?_);refine boxQ 4 #[.slice Ao6 l1_0.length co6,.int .i64 a1_1,.int .i64 a1_2] 115 ?_;intro gb222 hg w7 hbox hb;have n0_:=rk HO1_0 hb;have n1_:=Aside0.mk (Kept.below (S:=(fun k_=>P1_0_ k_)) (by repeat (first | (with_reducible first | exact HK.out | apply Kept.alloc | apply Kept.drewN | apply Kept.drew) | exact HK.out)) hb);have n2_:=hs HB hb;have n3_:=Aside0.mk (hbox);have n4_:=Aside0.mk ((by rw [hg];exact (by first | exact HK.out.1 | exact (show Kept w _ (fun k_=>P1_0_ k_) from by repeat (first | (with_reducible first | exact HK.out | apply Kept.alloc | apply Kept.drewN | apply Kept.drew) | exact HK.out)).1):w.heap.size≤gb222));have n5_:=gs HB hg;clear HO1_0;clear HK;clear HB;have HO1_0:=n0_;have HK:=n1_;have HB:=n2_;have BK222:=n3_;have GW222:=n4_;have GE222:=n5_;clear n0_ n1_ n2_ n3_ n4_ n5_;clear hb hbox hg) | ((with_reducible refine gate_dst (N:=7) rfl ?_);refine boxQ 7 #[.slice none 0 0,.int .i64 0,.int .i64 0] 115 ?_;intro gb223 hg w8 hbox hb;have n0_:=rk HO1_0 hb;have n1_:=bb BK222 hb;have n2_:=Aside0.mk (Kept.below (S:=(fun k_=>P1_0_ k_)) (by repeat (first | (with_reducible first | exact HK.out | apply Kept.alloc | apply Kept.drewN | apply Kept.drew | refine Kept.setCell ?_ (.inr GW222.out) _) | exact HK.out)) hb);have n3_:=hs HB hb;have n4_:=Aside0.mk (hbox);have n5_:=Aside0.mk ((by rw [hg];exact (by first | exact HK.out.1 | exact (show Kept w _ (fun k_=>P1_0_ k_) from by repeat (first | (with_reducible first | exact HK.out | apply Kept.alloc | apply Kept.drewN | apply Kept.drew | refine Kept.setCell ?_ (.inr GW222.out) _) | exact HK.out)).1):w.heap.size≤gb223));have n6_:=gs HB hg;have n7_:=nl BK222 hg;have n8_:=ng BK222 hg;clear HO1_0;clear BK222;clear HK;clear HB;have HO1_0:=n0_;have BK222:=n1_;have HK:=n2_;have HB:=n3_;have BK223:=n4_;have GW223:=n5_;have GE223:=n6_;have NB222_223:=n7_;have NB223_222:=n8_;clear n0_ n1_ n2_ n3_ n4_ n5_ n6_ n7_ n8_;clear hb hbox hg;have hnb9:=NB222_223.out;have hnc9:=NB223_222.out;obtain ⟨hcz10_0,hcz10_1,hcz10_2⟩:=cc3 BK222;obtain ⟨hfz10_0,hfz10_1,hfz10_2⟩:=ff3 BK222) | ((with_reducible refine gate_callee (f:=33) rfl ?_);refine goesQ (some 20) Try.func33 #[.string a0,.int .i64 a1_1,.int .i64 a2] ?_;(with_reducible refine (celluloidref04_Bits.calls k a0 a1_1 a2 t224 t225 t226 _ A5.out).mono ?_);rintro e w11 ⟨rfl,hb⟩;refine ⟨_,rfl,?_⟩;have n0_:=rk HO1_0 hb;have n1_:=bb BK222 hb;have n2_:=bb BK223 hb;have n3_:=Aside0.mk (Kept.below (S:=(fun k_=>P1_0_ k_)) (by repeat (first | (with_reducible first | exact HK.out | apply Kept.alloc | apply Kept.drewN | apply Kept.drew | refine Kept.setCell ?_ (.inr GW222.out) _ | refine Kept.setCell ?_ (.inr GW223.out) _) | exact HK.out)) hb);have n4_:=hs HB hb;clear HO1_0;clear BK222;clear BK223;clear HK;clear HB;have HO1_0:=n0_;have BK222:=n1_;have BK223:=n2_;have HK:=n3_;have HB:=n4_;clear n0_ n1_ n2_ n3_ n4_;(try clear hb);obtain ⟨hcz12_0,hcz12_1,hcz12_2⟩:=cc3 BK222;obtain ⟨hfz12_0,hfz12_1,hfz12_2⟩:=ff3 BK222))
  have n0_:Aside0 (Kd.R (Kd.int .u8) 5 ((w11.setCell ⟨gb222,1,none⟩ (.int .i64 t225)).setCell ⟨gb222,2,none⟩ (.int .i64 t226)) w0.heap.size (fun k_=>(P1_0_ k_ ∨ w.heap.size≤k_)) (.slice Ao6 l1_0.length co6) l1_0):=⟨by (with_reducible repeat (first | apply Kd.R_alloc | apply Kd.R_drewN | apply Kd.R_drew));exact Kd.R_mono (Kd.R_far (p:=⟨gb222,2,none⟩) (Kd.R_far (p:=⟨gb222,1,none⟩) (Kd.R_types HO1_0.out BK222.out (by decide)) (fun _ hk=>hk.2) (.int .i64 t225)) (fun _ hk=>hk.2) (.int .i64 t226)) (fun _ hk=>hk.1)⟩
  have n1_:Aside0 (((w11.setCell ⟨gb222,1,none⟩ (.int .i64 t225)).setCell ⟨gb222,2,none⟩ (.int .i64 t226)).heap[gb222]?=some (.cells #[.slice Ao6 l1_0.length co6,.int .i64 t225,.int .i64 t226] 115 (0,0))):=⟨by (with_reducible repeat (first | refine blk_drewN ?_ _ | refine blk_drew ?_ | refine blk_alloc ?_ _));refine blk_put (cs:=#[.slice Ao6 l1_0.length co6,.int .i64 t225,.int .i64 a1_2]) ?_ 2 _ rfl;(with_reducible repeat (first | refine blk_drewN ?_ _ | refine blk_drew ?_ | refine blk_alloc ?_ _));refine blk_put (cs:=#[.slice Ao6 l1_0.length co6,.int .i64 a1_1,.int .i64 a1_2]) ?_ 1 _ rfl;(with_reducible repeat (first | refine blk_drewN ?_ _ | refine blk_drew ?_ | refine blk_alloc ?_ _));exact BK222.out⟩
  have n2_:Aside0 (((w11.setCell ⟨gb222,1,none⟩ (.int .i64 t225)).setCell ⟨gb222,2,none⟩ (.int .i64 t226)).heap[gb223]?=some (.cells #[.slice none 0 0,.int .i64 0,.int .i64 0] 115 (0,0))):=⟨by (with_reducible repeat (first | refine blk_drewN ?_ _ | refine blk_drew ?_ | refine blk_alloc ?_ _));refine blk_far ?_ NB223_222.out _;(with_reducible repeat (first | refine blk_drewN ?_ _ | refine blk_drew ?_ | refine blk_alloc ?_ _));refine blk_far ?_ NB223_222.out _;(with_reducible repeat (first | refine blk_drewN ?_ _ | refine blk_drew ?_ | refine blk_alloc ?_ _));exact BK223.out⟩
  have n3_:Aside0 (Kept w ((w11.setCell ⟨gb222,1,none⟩ (.int .i64 t225)).setCell ⟨gb222,2,none⟩ (.int .i64 t226)) (fun k_=>P1_0_ k_)):=⟨by repeat (first | (with_reducible first | exact HK.out | apply Kept.alloc | apply Kept.drewN | apply Kept.drew | refine Kept.setCell ?_ (.inr GW222.out) _ | refine Kept.setCell ?_ (.inr GW223.out) _) | exact HK.out)⟩
  have n4_:Aside0 (Below w0.heap.size w0 ((w11.setCell ⟨gb222,1,none⟩ (.int .i64 t225)).setCell ⟨gb222,2,none⟩ (.int .i64 t226))):=⟨hn HB⟩
  (try clear HO1_0)
  (try clear BK222)
  (try clear BK223)
  (try clear HK)
  (try clear HB)
  generalize ((w11.setCell ⟨gb222,1,none⟩ (.int .i64 t225)).setCell ⟨gb222,2,none⟩ (.int .i64 t226))=w13 at n0_ n1_ n2_ n3_ n4_ ⊢
  have HO1_0:=n0_
  have BK222:=n1_
  have BK223:=n2_
  have HK:=n3_
  have HB:=n4_
  clear n0_ n1_ n2_ n3_ n4_
  have n0_:=Aside0.mk (Kd.R_drew HO1_0.out)
  have n1_:=Aside0.mk (blk_drew BK222.out)
  have n2_:=Aside0.mk (blk_drew BK223.out)
  have n3_:=Aside0.mk (Kept.drew HK.out)
  have n4_:=Aside0.mk (below_drew1 HB.out)
  clear HO1_0
  clear BK222
  clear BK223
  clear HK
  clear HB
  have HO1_0:=n0_
  have BK222:=n1_
  have BK223:=n2_
  have HK:=n3_
  have HB:=n4_
  clear n0_ n1_ n2_ n3_ n4_
  refine start_ (n:=4) (S:=fun w'=>w'.cell? ⟨gb222,0,none⟩=some (.slice Ao6 l1_0.length co6)∧w'.cell? ⟨gb222,1,none⟩=some (.int .i64 t225)∧w'.cell? ⟨gb222,2,none⟩=some (.int .i64 t226)) (ds:=[]) #[false,false,false,false] (by kernel_rfl) rfl rfl ⟨(blk_cell BK222.out 0).trans rfl,(blk_cell BK222.out 1).trans rfl,(blk_cell BK222.out 2).trans rfl⟩ (fun hHeld=>?_)
  generalize w13.drew=w14 at HO1_0 BK222 BK223 HK HB hHeld ⊢
  refine pureQ 0 (some 28) (tk 1 3) (by kernel_rfl) ?_
  refine pureQ 2 (some 6) #[true,false,true,false] (by kernel_rfl) ?_
  refine take_ (i:=1) (N:=some 29) (v:=?_) (a':=?_) (tk 3 1) rfl rfl (by kernel_rfl) (fun _ _ _ h=>h) (Or.inl ⟨by rfl,?_⟩) hHeld ?_ ?_
  rotate_left
  ·rintro w' ⟨s0,s1,s2⟩
   go_simp
   with_reducible rfl
  rotate_left
  ·simp only [Act.put,List.setIfInBounds_toArray,List.set_cons_zero,List.set_cons_succ,i64_w,i32_w]
   rfl
  refine one_ (i:=3) (N:=none) (tk 4 0) rfl rfl (by kernel_rfl) (by decide) (fun K hK=>?_)
  have hs15:w14.cell? ⟨gb223,0,none⟩=some (.slice none 0 0):=(blk_cell BK223.out 0).trans rfl
  have hfs15:=blk_frozen BK223.out 0
  have hns15_0:=NB222_223.out
  have hms15_0:=NB223_222.out
  have hs16:w14.cell? ⟨gb223,1,none⟩=some (.int .i64 0):=(blk_cell BK223.out 1).trans rfl
  have hfs16:=blk_frozen BK223.out 1
  have hns16_0:=NB222_223.out
  have hms16_0:=NB223_222.out
  have hs17:w14.cell? ⟨gb223,2,none⟩=some (.int .i64 0):=(blk_cell BK223.out 2).trans rfl
  have hfs17:=blk_frozen BK223.out 2
  have hns17_0:=NB222_223.out
  have hms17_0:=NB223_222.out
  refine skip_ (w1:=?_) (by rfl) rfl ?_ ?_
  rotate_left
  ·go_simp
   rfl
  refine hK.out _ _ ⟨((cell_far (p:=⟨gb223,_,none⟩) NB222_223.out _).trans (((cell_far (p:=⟨gb223,_,none⟩) NB222_223.out _).trans (((cell_far (p:=⟨gb223,_,none⟩) NB222_223.out _).trans (hHeld.1)))))),((cell_far (p:=⟨gb223,_,none⟩) NB222_223.out _).trans (((cell_far (p:=⟨gb223,_,none⟩) NB222_223.out _).trans (((cell_far (p:=⟨gb223,_,none⟩) NB222_223.out _).trans (hHeld.2.1)))))),((cell_far (p:=⟨gb223,_,none⟩) NB222_223.out _).trans (((cell_far (p:=⟨gb223,_,none⟩) NB222_223.out _).trans (((cell_far (p:=⟨gb223,_,none⟩) NB222_223.out _).trans (hHeld.2.2))))))⟩ (fun hHeld=>?_)
  clear hK K
  refine done_ (by kernel_rfl) ?_
  try go_wp2
  refine bodyPost_ret (results_tc rfl _ _ gb223 115 #[.slice Ao6 l1_0.length co6,.int .i64 t225,.int .i64 t226] (0,0) _ rfl (bq BK223) Try.underlying115 rfl (by kernel_rfl)) rfl ?_
  exact ⟨_,by first | rfl | (simp [errW_none,errW_some] <;> rfl) | (simp [*,errW_none,errW_some] <;> rfl),by (with_reducible repeat (first | apply Kd.R_alloc | apply Kd.R_drewN | apply Kd.R_drew));exact Kd.R_mono (Kd.R_far (p:=⟨gb223,2,none⟩) (Kd.R_far (p:=⟨gb223,1,none⟩) (Kd.R_far (p:=⟨gb223,0,none⟩) (Kd.R_types HO1_0.out BK223.out (by decide)) (fun _ hk=>hk.2) (.slice Ao6 l1_0.length co6)) (fun _ hk=>hk.2) (.int .i64 t225)) (fun _ hk=>hk.2) (.int .i64 t226)) (fun _ hk=>hk.1),hn HB,by repeat (first | (with_reducible first | exact HK.out | apply Kept.alloc | apply Kept.drewN | apply Kept.drew | refine Kept.setCell ?_ (.inr GW222.out) _ | refine Kept.setCell ?_ (.inr GW223.out) _) | exact HK.out)⟩
 ·rw [if_neg c4] at H
  have c4b0:(a1_2 == 0)=false:=beq_eq_false_iff_ne.mpr c4
  have c4b1:(a1_2 != 0)=true:=bne_iff_ne.mpr c4
  simp only [Option.some.injEq,Prod.mk.injEq] at H
  obtain ⟨rfl,rfl,rfl,rfl⟩:=H
  obtain ⟨Ao18,co18,eo18⟩:=Kd.R_slice HO1_0.out
  subst eo18
  go_enter Try.func73,Try.ntmps73
  try go_wp2_with (first | ((with_reducible refine gate_dst (N:=4) rfl ?_);refine boxQ 4 #[.slice Ao18 l1_0.length co18,.int .i64 a1_1,.int .i64 a1_2] 115 ?_;intro gb222 hg w19 hbox hb;have n0_:=rk HO1_0 hb;have n1_:=Aside0.mk (Kept.below (S:=(fun k_=>P1_0_ k_)) (by repeat (first | (with_reducible first | exact HK.out | apply Kept.alloc | apply Kept.drewN | apply Kept.drew) | exact HK.out)) hb);have n2_:=hs HB hb;have n3_:=Aside0.mk (hbox);have n4_:=Aside0.mk ((by rw [hg];exact (by first | exact HK.out.1 | exact (show Kept w _ (fun k_=>P1_0_ k_) from by repeat (first | (with_reducible first | exact HK.out | apply Kept.alloc | apply Kept.drewN | apply Kept.drew) | exact HK.out)).1):w.heap.size≤gb222));have n5_:=gs HB hg;clear HO1_0;clear HK;clear HB;have HO1_0:=n0_;have HK:=n1_;have HB:=n2_;have BK222:=n3_;have GW222:=n4_;have GE222:=n5_;clear n0_ n1_ n2_ n3_ n4_ n5_;clear hb hbox hg) | ((with_reducible refine gate_dst (N:=7) rfl ?_);refine boxQ 7 #[.slice none 0 0,.int .i64 0,.int .i64 0] 115 ?_;intro gb223 hg w20 hbox hb;have n0_:=rk HO1_0 hb;have n1_:=bb BK222 hb;have n2_:=Aside0.mk (Kept.below (S:=(fun k_=>P1_0_ k_)) (by repeat (first | (with_reducible first | exact HK.out | apply Kept.alloc | apply Kept.drewN | apply Kept.drew | refine Kept.setCell ?_ (.inr GW222.out) _) | exact HK.out)) hb);have n3_:=hs HB hb;have n4_:=Aside0.mk (hbox);have n5_:=Aside0.mk ((by rw [hg];exact (by first | exact HK.out.1 | exact (show Kept w _ (fun k_=>P1_0_ k_) from by repeat (first | (with_reducible first | exact HK.out | apply Kept.alloc | apply Kept.drewN | apply Kept.drew | refine Kept.setCell ?_ (.inr GW222.out) _) | exact HK.out)).1):w.heap.size≤gb223));have n6_:=gs HB hg;have n7_:=nl BK222 hg;have n8_:=ng BK222 hg;clear HO1_0;clear BK222;clear HK;clear HB;have HO1_0:=n0_;have BK222:=n1_;have HK:=n2_;have HB:=n3_;have BK223:=n4_;have GW223:=n5_;have GE223:=n6_;have NB222_223:=n7_;have NB223_222:=n8_;clear n0_ n1_ n2_ n3_ n4_ n5_ n6_ n7_ n8_;clear hb hbox hg;have hnb21:=NB222_223.out;have hnc21:=NB223_222.out;obtain ⟨hcz22_0,hcz22_1,hcz22_2⟩:=cc3 BK222;obtain ⟨hfz22_0,hfz22_1,hfz22_2⟩:=ff3 BK222))
  have n0_:=Aside0.mk (Kd.R_drew HO1_0.out)
  have n1_:=Aside0.mk (blk_drew BK222.out)
  have n2_:=Aside0.mk (blk_drew BK223.out)
  have n3_:=Aside0.mk (Kept.drew HK.out)
  have n4_:=Aside0.mk (below_drew1 HB.out)
  clear HO1_0
  clear BK222
  clear BK223
  clear HK
  clear HB
  have HO1_0:=n0_
  have BK222:=n1_
  have BK223:=n2_
  have HK:=n3_
  have HB:=n4_
  clear n0_ n1_ n2_ n3_ n4_
  refine start_ (n:=3) (S:=fun w'=>w'.cell? ⟨gb222,0,none⟩=some (.slice Ao18 l1_0.length co18)∧w'.cell? ⟨gb222,1,none⟩=some (.int .i64 a1_1)∧w'.cell? ⟨gb222,2,none⟩=some (.int .i64 a1_2)) (ds:=[]) #[false,false,false] (by kernel_rfl) rfl rfl ⟨(blk_cell BK222.out 0).trans rfl,(blk_cell BK222.out 1).trans rfl,(blk_cell BK222.out 2).trans rfl⟩ (fun hHeld=>?_)
  generalize w20.drew=w23 at HO1_0 BK222 BK223 HK HB hHeld ⊢
  refine pureQ 1 (some 6) #[false,true,false] (by kernel_rfl) ?_
  refine take_ (i:=0) (N:=some 14) (v:=?_) (a':=?_) (tk 2 1) rfl rfl (by kernel_rfl) (fun _ _ _ h=>h) (Or.inl ⟨by rfl,?_⟩) hHeld ?_ ?_
  rotate_left
  ·rintro w' ⟨s0,s1,s2⟩
   go_simp
   with_reducible rfl
  rotate_left
  ·simp only [Act.put,List.setIfInBounds_toArray,List.set_cons_zero,List.set_cons_succ,i64_w,i32_w]
   rfl
  refine one_ (i:=2) (N:=none) (tk 3 0) rfl rfl (by kernel_rfl) (by decide) (fun K hK=>?_)
  have hs24:w23.cell? ⟨gb223,0,none⟩=some (.slice none 0 0):=(blk_cell BK223.out 0).trans rfl
  have hfs24:=blk_frozen BK223.out 0
  have hns24_0:=NB222_223.out
  have hms24_0:=NB223_222.out
  have hs25:w23.cell? ⟨gb223,1,none⟩=some (.int .i64 0):=(blk_cell BK223.out 1).trans rfl
  have hfs25:=blk_frozen BK223.out 1
  have hns25_0:=NB222_223.out
  have hms25_0:=NB223_222.out
  have hs26:w23.cell? ⟨gb223,2,none⟩=some (.int .i64 0):=(blk_cell BK223.out 2).trans rfl
  have hfs26:=blk_frozen BK223.out 2
  have hns26_0:=NB222_223.out
  have hms26_0:=NB223_222.out
  refine skip_ (w1:=?_) (by rfl) rfl ?_ ?_
  rotate_left
  ·go_simp
   rfl
  refine hK.out _ _ ⟨((cell_far (p:=⟨gb223,_,none⟩) NB222_223.out _).trans (((cell_far (p:=⟨gb223,_,none⟩) NB222_223.out _).trans (((cell_far (p:=⟨gb223,_,none⟩) NB222_223.out _).trans (hHeld.1)))))),((cell_far (p:=⟨gb223,_,none⟩) NB222_223.out _).trans (((cell_far (p:=⟨gb223,_,none⟩) NB222_223.out _).trans (((cell_far (p:=⟨gb223,_,none⟩) NB222_223.out _).trans (hHeld.2.1)))))),((cell_far (p:=⟨gb223,_,none⟩) NB222_223.out _).trans (((cell_far (p:=⟨gb223,_,none⟩) NB222_223.out _).trans (((cell_far (p:=⟨gb223,_,none⟩) NB222_223.out _).trans (hHeld.2.2))))))⟩ (fun hHeld=>?_)
  clear hK K
  refine done_ (by kernel_rfl) ?_
  try go_wp2
  refine bodyPost_ret (results_tc rfl _ _ gb223 115 #[.slice Ao18 l1_0.length co18,.int .i64 a1_1,.int .i64 a1_2] (0,0) _ rfl (bq BK223) Try.underlying115 rfl (by kernel_rfl)) rfl ?_
  exact ⟨_,by first | rfl | (simp [errW_none,errW_some] <;> rfl) | (simp [*,errW_none,errW_some] <;> rfl),by (with_reducible repeat (first | apply Kd.R_alloc | apply Kd.R_drewN | apply Kd.R_drew));exact Kd.R_mono (Kd.R_far (p:=⟨gb223,2,none⟩) (Kd.R_far (p:=⟨gb223,1,none⟩) (Kd.R_far (p:=⟨gb223,0,none⟩) (Kd.R_types HO1_0.out BK223.out (by decide)) (fun _ hk=>hk.2) (.slice Ao18 l1_0.length co18)) (fun _ hk=>hk.2) (.int .i64 a1_1)) (fun _ hk=>hk.2) (.int .i64 a1_2)) (fun _ hk=>hk.1),hn HB,by repeat (first | (with_reducible first | exact HK.out | apply Kept.alloc | apply Kept.drewN | apply Kept.drew | refine Kept.setCell ?_ (.inr GW222.out) _ | refine Kept.setCell ?_ (.inr GW223.out) _) | exact HK.out)⟩
end Go.Proofs.Ytpbhkdamkbopkaa.GInfr
namespace Go.Proofs.Ytpbhkdamkbopkaa.GInfr
open Go.Proofs.Ytpbhkdamkbopkaa.Sq
open Go.RowKit Go.Proofs.YtpbhkdamkbopkaaW.PrintWords Go.Proofs.YtpbhkdamkbopkaaW.PrintLast Go.Proofs.YtpbhkdamkbopkaaW.PrintMore Go.Proofs.Ytpbhkdamkbopkaa.HuM
attribute [local go_sem] max2_int min2_int max_two min_two max_three min_three max_four min_four
set_option linter.unusedVariables false
set_option linter.unusedSimpArgs false
mutual
def celluloidref05_stored.l0:Nat → ByteArray → Int → List Int → Int → Int → Option (List Int × Int × Int)
 |0,_,_,_,_,_=>none
 |k+1,x0,x2,x228000,x228001,x228002=>if (Int.tmod x228001 8)=0 then ((celluloidref05_number.f k x0 x228000 x228001 x228002 16).bind fun bt229=>((celluloidref05_number.f k x0 bt229.2.1 bt229.2.2.1 bt229.2.2.2 16).bind fun bt235=>(if bt235.2.2.2=0 then (if (wrap64 (bt229.1+bt235.1))=65535 then (celluloidref05_stored.l1 k x0 x2 bt229.1 0 bt235.2.1 bt235.2.2.1 bt235.2.2.2) else (some (bt235.2.1,bt235.2.2.1,3))) else (some (bt235.2.1,bt235.2.2.1,bt235.2.2.2))))) else (celluloidref05_stored.l0 k x0 x2 x228000 (wrap64 (x228001+1)) x228002)
def celluloidref05_stored.l1:Nat → ByteArray → Int → Int → Int → List Int → Int → Int → Option (List Int × Int × Int)
 |0,_,_,_,_,_,_,_=>none
 |k+1,x0,x2,x7,x9,x228000,x228001,x228002=>if x9 < 16 then ((celluloidref04_Bit.f k x0 (wrap64 ((wrap64 (x228001 - 32))+x9))).bind fun t241=>((celluloidref04_Bit.f k x0 (wrap64 ((wrap64 (x228001 - 16))+x9))).bind fun t242=>(if t241=t242 then (some (x228000,x228001,3)) else (celluloidref05_stored.l1 k x0 x2 x7 (wrap64 (x9+1)) x228000 x228001 x228002)))) else (if (wrap64 ((x228000.length:Int)+x7)) > x2 then (some (x228000,x228001,7)) else (if (wrap64 ((wrap64 (Int.tdiv x228001 8))+x7)) > (x0.size:Int) then (some (x228000,x228001,2)) else (celluloidref05_stored.l2 k x0 x7 (wrap64 (Int.tdiv x228001 8)) 0 x228000 x228001 x228002)))
def celluloidref05_stored.l2:Nat → ByteArray → Int → Int → Int → List Int → Int → Int → Option (List Int × Int × Int)
 |0,_,_,_,_,_,_,_=>none
 |k+1,x0,x7,x10,x11,x228000,x228001,x228002=>if x11 < x7 then (if 0≤(wrap64 (x10+x11)) then (if (wrap64 (x10+x11)) < (x0.size:Int) then (if x228000.length < 140737488355328 then (celluloidref05_stored.l2 k x0 x7 x10 (wrap64 (x11+1)) (x228000 ++ [bt x0 (wrap64 (x10+x11))]) x228001 x228002) else (none)) else (none)) else (none)) else (some (x228000,wrap64 (8*(wrap64 (x10+x7))),x228002))
end
def celluloidref05_stored.f (k:Nat) (a0:ByteArray) (l1_0:List Int) (a1_1:Int) (a1_2:Int) (a2:Int):Option (List Int × Int × Int):=celluloidref05_stored.l0 k a0 a2 l1_0 a1_1 a1_2
def celluloidref05_stored.T14:Bool × List (List Nat × List Nat):=(true,[([],[]),([],[]),([1],[1]),([2],[2]),([],[]),([3,4],[3,4]),([0,5],[0,5]),([],[]),([],[]),([8],[8]),([9],[9]),([],[]),([10,11],[10,11]),([7,12,6],[7,12]),([6,13],[6,13])])
def celluloidref05_stored.B14:List Nat:=[0,0,2,6,0,30,63,0,0,256,768,0,3840,8191,16383]
theorem celluloidref05_stored.tab14:rtab .any (opsOf Try.f74 14)=celluloidref05_stored.T14:=by kernel_rfl
theorem celluloidref05_stored.bits14:waitsOk celluloidref05_stored.T14.2 celluloidref05_stored.B14=true:=by kernel_rfl
def celluloidref05_stored.T27:Bool × List (List Nat × List Nat):=(true,[([],[]),([0],[0]),([],[]),([],[]),([],[]),([3,4],[3,4]),([2,5],[2,5]),([6],[6]),([1,7],[1,7]),([0,1,2,3,4,5,6,7,8],[]),([9,8,8,0,1,2,3,4,5,6,7,8],[8,9])])
def celluloidref05_stored.B27:List Nat:=[0,1,0,0,0,24,60,124,255,511,1023]
theorem celluloidref05_stored.tab27:rtab .any (opsOf Try.f74 27)=celluloidref05_stored.T27:=by kernel_rfl
theorem celluloidref05_stored.bits27:waitsOk celluloidref05_stored.T27.2 celluloidref05_stored.B27=true:=by kernel_rfl
set_option maxHeartbeats 8000000 in
set_option maxRecDepth 100000 in
theorem celluloidref05_stored.calls (k : Nat) (a0 : ByteArray) (P1_0_ : Nat → Prop) (u9000_ : Value) (l1_0 : List Int) (a1_1 : Int) (a1_2 : Int) (a2 : Int) (r1 : List Int) (r2 : Int) (r3 : Int) (w0 w : World) (hB : Below w0.heap.size w0 w) (ho1_0 : Kd.R (Kd.int .u8) 5 w w0.heap.size P1_0_ u9000_ l1_0) (h : celluloidref05_stored.f k a0 l1_0 a1_1 a1_2 a2 = some (r1, r2, r3)) :
  Calls Try.prog 74 #[.string a0,.agg #[u9000_,.int .i64 a1_1,.int .i64 a1_2],.int .i64 a2] w fun e w'=>∃ v0_:Value,e=.returned (.agg #[v0_,.int .i64 r2,.int .i64 r3])∧Kd.R (Kd.int .u8) 5 w' w0.heap.size (fun k_=>(P1_0_ k_ ∨ w.heap.size≤k_)) v0_ r1∧Below w0.heap.size w0 w'∧Kept w w' (fun k_=>P1_0_ k_):=by
 have hu115:=Try.underlying115
 have HO1_0:=Aside0.mk (show Kd.R (Kd.int .u8) 5 w w0.heap.size (fun k_=>(P1_0_ k_ ∨ w.heap.size≤k_)) u9000_ l1_0 from Kd.R_mono ho1_0 (fun k_ hk=>(.inl hk)))
 have HK:=Aside0.mk (Kept.refl w (fun k_=>P1_0_ k_))
 have HW0:=Aside0.mk hB.size
 have HB:=Aside0.mk hB
 clear hB
 have H:(celluloidref05_stored.l0 k a0 a2 l1_0 a1_1 a1_2)=some (r1,r2,r3):=h
 clear h
 have H':=Aside0.mk H
 clear H
 obtain ⟨Ao4,co4,eo4⟩:=Kd.R_slice HO1_0.out
 subst eo4
 go_enter Try.func74,Try.ntmps74
 go_wp2_with (first | ((with_reducible refine gate_dst (N:=4) rfl ?_);refine boxQ 4 #[.slice Ao4 l1_0.length co4,.int .i64 a1_1,.int .i64 a1_2] 115 ?_;intro gb227 hg w5 hbox hb;have n0_:=rk HO1_0 hb;have n1_:=Aside0.mk (Kept.below (S:=(fun k_=>P1_0_ k_)) (hk HK) hb);have n2_:=hs HB hb;have n3_:=Aside0.mk hbox;have n4_:=Aside0.mk ((by rw [hg];exact hz HK:w.heap.size≤gb227));have n5_:=gs HB hg;clear HO1_0 HK HB;have HO1_0:=n0_;have HK:=n1_;have HB:=n2_;have BK227:=n3_;have GW227:=n4_;have GE227:=n5_;clear n0_ n1_ n2_ n3_ n4_ n5_;clear hb hbox hg) | ((with_reducible refine gate_dst (N:=6) rfl ?_);refine boxQ 6 #[.slice none 0 0,.int .i64 0,.int .i64 0] 115 ?_;intro gb228 hg w6 hbox hb;have n0_:=rk HO1_0 hb;have n1_:=bb BK227 hb;have n2_:=Aside0.mk (Kept.below (S:=(fun k_=>P1_0_ k_)) (hk HK) hb);have n3_:=hs HB hb;have n4_:=Aside0.mk hbox;have n5_:=Aside0.mk ((by rw [hg];exact hz HK:w.heap.size≤gb228));have n6_:=gs HB hg;have n7_:=nl BK227 hg;have n8_:=ng BK227 hg;clear HO1_0 BK227 HK HB;have HO1_0:=n0_;have BK227:=n1_;have HK:=n2_;have HB:=n3_;have BK228:=n4_;have GW228:=n5_;have GE228:=n6_;have NB227_228:=n7_;have NB228_227:=n8_;clear n0_ n1_ n2_ n3_ n4_ n5_ n6_ n7_ n8_;clear hb hbox hg))
 simp only [Act.put,List.setIfInBounds_toArray,List.set_cons_zero,List.set_cons_succ]
 go_loopg [] k (fun kq w'=>∃ (x228001_1:Int),Aside0 (celluloidref05_stored.l0 kq a0 a2 l1_0 x228001_1 a1_2=some (r1,r2,r3))∧Aside0 (kq≤k)∧Aside0 (Kd.R (Kd.int .u8) 5 w' w0.heap.size (fun k_=>(P1_0_ k_ ∨ w.heap.size≤k_)) (.slice Ao4 l1_0.length co4) l1_0)∧Aside0 (w'.heap[gb227]?=some (.cells #[(.slice Ao4 l1_0.length co4),.int .i64 x228001_1,.int .i64 a1_2] 115 (0,0)))∧Aside0 (w'.heap[gb228]?=some (.cells #[(.slice none 0 0),.int .i64 0,.int .i64 0] 115 (0,0)))∧Aside0 (Kept w w' (fun k_=>P1_0_ k_))∧Aside0 (Below w0.heap.size w0 w'))
 case atStart=>exact ⟨(a1_1),H',⟨Nat.le_refl _⟩,⟨rr HO1_0⟩,⟨bk BK227⟩,⟨bk BK228⟩,⟨hk HK⟩,⟨hn HB⟩⟩
 case round =>
  clear H'
  obtain ⟨x228001_1,HA,HK1,HO_228000,BK227,BK228,HK,HB⟩:=hrel
  cases gk with
  |zero=>exact absurd HA.out (by simp [celluloidref05_stored.l0])
  |succ k1 =>
   have H:=HA.out
   clear HA
   simp only [celluloidref05_stored.l0] at H
   by_cases c7:(Int.tmod x228001_1 8)=0
   ·rw [if_pos c7] at H
    have c7b0:((Int.tmod x228001_1 8) == 0)=true:=beq_iff_eq.mpr c7
    have c7b1:((Int.tmod x228001_1 8) != 0)=false:=bne_eq_false_iff_eq.mpr c7
    clear c7
    replace H:=Option.bind_eq_some_iff.mp H
    obtain ⟨⟨t229,t230,t233,t234⟩,A80,H⟩:=H
    replace H:((celluloidref05_number.f k1 a0 t230 t233 t234 16).bind fun bt235=>(if bt235.2.2.2=0 then (if (wrap64 (t229+bt235.1))=65535 then (celluloidref05_stored.l1 k1 a0 a2 t229 0 bt235.2.1 bt235.2.2.1 bt235.2.2.2) else (some (bt235.2.1,bt235.2.2.1,3))) else (some (bt235.2.1,bt235.2.2.1,bt235.2.2.2))))=some (r1,r2,r3):=H
    have A8:=Aside0.mk A80
    clear A80
    replace H:=Option.bind_eq_some_iff.mp H
    obtain ⟨⟨t235,t236,t239,t240⟩,A90,H⟩:=H
    replace H:(if t240=0 then (if (wrap64 (t229+t235))=65535 then (celluloidref05_stored.l1 k1 a0 a2 t229 0 t236 t239 t240) else (some (t236,t239,3))) else (some (t236,t239,t240)))=some (r1,r2,r3):=H
    have A9:=Aside0.mk A90
    clear A90
    by_cases c10:t240=0
    ·rw [if_pos c10] at H
     have c10b0:(t240 == 0)=true:=beq_iff_eq.mpr c10
     have c10b1:(t240 != 0)=false:=bne_eq_false_iff_eq.mpr c10
     clear c10
     by_cases c11:(wrap64 (t229+t235))=65535
     ·rw [if_pos c11] at H
      have c11b0:((wrap64 (t229+t235)) == 65535)=true:=beq_iff_eq.mpr c11
      have c11b1:((wrap64 (t229+t235)) != 65535)=false:=bne_eq_false_iff_eq.mpr c11
      clear c11
      have H':=Aside0.mk H
      clear H
      have hnb12:=NB227_228.out
      have hnc12:=NB228_227.out
      obtain ⟨hcz13_0,hcz13_1,hcz13_2⟩:=cc3 BK227
      obtain ⟨hfz13_0,hfz13_1,hfz13_2⟩:=ff3 BK227
      go_wp2_with (first | ((with_reducible refine gate_callee (f:=73) rfl ?_);refine goesQ (some 23) Try.func73 #[.string a0,.agg #[.slice Ao4 l1_0.length co4,.int .i64 x228001_1,.int .i64 a1_2],.int .i64 16] ?_;(with_reducible refine (celluloidref05_number.calls k1 a0 (fun k_=>some k_=(.slice Ao4 l1_0.length co4:Value).ownBlock) (.slice Ao4 l1_0.length co4) l1_0 x228001_1 a1_2 16 t229 t230 t233 t234 w0 _ (hn HB) (Kd.R_tight rfl HO_228000.out) A8.out).mono ?_);rintro e w14 ⟨v231,rfl,ho0,hb,hkp⟩;refine ⟨_,rfl,?_⟩;have n0_:=kb BK227 HO_228000 hkp;have n1_:=kb BK228 HO_228000 hkp;have n2_:=kr HO_228000 HK ho0;have n3_:=kt HK HO_228000 hkp;have n4_:=Aside0.mk hb;clear BK227 BK228 HK HB HO_228000;have BK227:=n0_;have BK228:=n1_;have HO232:=n2_;have HK:=n3_;have HB:=n4_;clear n0_ n1_ n2_ n3_ n4_;(try clear hb);(try clear hkp);(try clear ho0);obtain ⟨Ao15,co15,eo15⟩:=Kd.R_slice HO232.out;subst eo15;obtain ⟨hcz16_0,hcz16_1,hcz16_2⟩:=cc3 BK227;obtain ⟨hfz16_0,hfz16_1,hfz16_2⟩:=ff3 BK227) | ((with_reducible refine gate_store (t:=115) (p:=4) rfl ?_);refine stQ 115 4 ((((w14.setCell ⟨gb227,0,none⟩ (.slice Ao15 t230.length co15)).setCell ⟨gb227,1,none⟩ (.int .i64 t233)).setCell ⟨gb227,2,none⟩ (.int .i64 t234))) ?_;intro w17 hw;have n0_:=sR hw HO232 BK227;have n1_:=sP hw BK227;have n2_:=sF hw BK228 NB228_227;have n3_:=sK hw HK GW227;have n4_:=sB hw HB GE227;clear hw HO232 BK227 BK228 HK HB;have HO232:=n0_;have BK227:=n1_;have BK228:=n2_;have HK:=n3_;have HB:=n4_;clear n0_ n1_ n2_ n3_ n4_;obtain ⟨hcz18_0,hcz18_1,hcz18_2⟩:=cc3 BK227;obtain ⟨hfz18_0,hfz18_1,hfz18_2⟩:=ff3 BK227) | ((with_reducible refine gate_callee (f:=73) rfl ?_);refine goesQ (some 29) Try.func73 #[.string a0,.agg #[.slice Ao15 t230.length co15,.int .i64 t233,.int .i64 t234],.int .i64 16] ?_;(with_reducible refine (celluloidref05_number.calls k1 a0 (fun k_=>some k_=(.slice Ao15 t230.length co15:Value).ownBlock) (.slice Ao15 t230.length co15) t230 t233 t234 16 t235 t236 t239 t240 w0 _ (hn HB) (Kd.R_tight rfl HO232.out) A9.out).mono ?_);rintro e w19 ⟨v237,rfl,ho0,hb,hkp⟩;refine ⟨_,rfl,?_⟩;have n0_:=kb BK227 HO232 hkp;have n1_:=kb BK228 HO232 hkp;have n2_:=kr HO232 HK ho0;have n3_:=kt HK HO232 hkp;have n4_:=Aside0.mk hb;clear BK227 BK228 HK HB HO232;have BK227:=n0_;have BK228:=n1_;have HO238:=n2_;have HK:=n3_;have HB:=n4_;clear n0_ n1_ n2_ n3_ n4_;(try clear hb);(try clear hkp);(try clear ho0);obtain ⟨Ao20,co20,eo20⟩:=Kd.R_slice HO238.out;subst eo20;obtain ⟨hcz21_0,hcz21_1,hcz21_2⟩:=cc3 BK227;obtain ⟨hfz21_0,hfz21_1,hfz21_2⟩:=ff3 BK227) | ((with_reducible refine gate_store (t:=115) (p:=4) rfl ?_);refine stQ 115 4 ((((w19.setCell ⟨gb227,0,none⟩ (.slice Ao20 t236.length co20)).setCell ⟨gb227,1,none⟩ (.int .i64 t239)).setCell ⟨gb227,2,none⟩ (.int .i64 t240))) ?_;intro w22 hw;have n0_:=sR hw HO238 BK227;have n1_:=sP hw BK227;have n2_:=sF hw BK228 NB228_227;have n3_:=sK hw HK GW227;have n4_:=sB hw HB GE227;clear hw HO238 BK227 BK228 HK HB;have HO238:=n0_;have BK227:=n1_;have BK228:=n2_;have HK:=n3_;have HB:=n4_;clear n0_ n1_ n2_ n3_ n4_;obtain ⟨hcz23_0,hcz23_1,hcz23_2⟩:=cc3 BK227;obtain ⟨hfz23_0,hfz23_1,hfz23_2⟩:=ff3 BK227))
      go_loopg [9] k1 (fun kq v9 w'=>∃ (x9_2:Int) (x228002_2:Int) (x229001_2:Int) (x229002_2:Int),v9=.int .i64 x9_2∧Aside0 (celluloidref05_stored.l1 kq a0 a2 t229 x9_2 t236 t239 x228002_2=some (r1,r2,r3))∧Aside0 (kq≤k1)∧Aside0 (Kd.R (Kd.int .u8) 5 w' w0.heap.size (fun k_=>(P1_0_ k_ ∨ w.heap.size≤k_)) (.slice Ao20 t236.length co20) t236)∧Aside0 (w'.heap[gb227]?=some (.cells #[(.slice Ao20 t236.length co20),.int .i64 t239,.int .i64 x228002_2] 115 (0,0)))∧Aside0 (w'.heap[gb228]?=some (.cells #[(.slice none 0 0),.int .i64 x229001_2,.int .i64 x229002_2] 115 (0,0)))∧Aside0 (Kept w w' (fun k_=>P1_0_ k_))∧Aside0 (Below w0.heap.size w0 w'))
      case atStart=>exact ⟨(0),(t240),(0),(0),(by first | rfl | (simp;done) | (simp [*];done)),H',⟨Nat.le_refl _⟩,⟨rr HO238⟩,⟨bk BK227⟩,⟨bk BK228⟩,⟨hk HK⟩,⟨hn HB⟩⟩
      case round =>
       clear H'
       clear c7b0 c7b1 c10b0 c10b1 c11b0 c11b1 hcz13_0 hcz13_1 hcz13_2 hcz16_0 hcz16_1 hcz16_2 hcz18_0 hcz18_1 hcz18_2 hcz21_0 hcz21_1 hcz21_2 hcz23_0 hcz23_1 hcz23_2 hfz13_0 hfz13_1 hfz13_2 hfz16_0 hfz16_1 hfz16_2 hfz18_0 hfz18_1 hfz18_2 hfz21_0 hfz21_1 hfz21_2 hfz23_0 hfz23_1 hfz23_2
       obtain ⟨x9_2,x228002_2,x229001_2,x229002_2,rfl,HA,HK2,HO_228000,BK227,BK228,HK,HB⟩:=hrel
       cases gk with
       |zero=>exact absurd HA.out (by simp [celluloidref05_stored.l1])
       |succ k2 =>
        have H:=HA.out
        clear HA
        simp only [celluloidref05_stored.l1] at H
        by_cases c24:x9_2 < 16
        ·rw [if_pos c24] at H
         have c24b0:decide (x9_2 < 16)=true:=decide_eq_true c24
         clear c24
         replace H:=Option.bind_eq_some_iff.mp H
         obtain ⟨t241,A250,H⟩:=H
         replace H:((celluloidref04_Bit.f k2 a0 (wrap64 ((wrap64 (t239 - 16))+x9_2))).bind fun t242=>(if t241=t242 then (some (t236,t239,3)) else (celluloidref05_stored.l1 k2 a0 a2 t229 (wrap64 (x9_2+1)) t236 t239 x228002_2)))=some (r1,r2,r3):=H
         have A25:=Aside0.mk A250
         clear A250
         replace H:=Option.bind_eq_some_iff.mp H
         obtain ⟨t242,A260,H⟩:=H
         replace H:(if t241=t242 then (some (t236,t239,3)) else (celluloidref05_stored.l1 k2 a0 a2 t229 (wrap64 (x9_2+1)) t236 t239 x228002_2))=some (r1,r2,r3):=H
         have A26:=Aside0.mk A260
         clear A260
         by_cases c27:t241=t242
         ·rw [if_pos c27] at H
          have c27b0:(t241 == t242)=true:=beq_iff_eq.mpr c27
          have c27b1:(t241 != t242)=false:=bne_eq_false_iff_eq.mpr c27
          clear c27
          simp only [Option.some.injEq,Prod.mk.injEq] at H
          obtain ⟨rfl,rfl,rfl⟩:=H
          try go_wp2
          have n0_:=Aside0.mk (Kd.R_drew HO_228000.out)
          have n1_:=Aside0.mk (blk_drew BK227.out)
          have n2_:=Aside0.mk (blk_drew BK228.out)
          have n3_:=Aside0.mk (Kept.drew HK.out)
          have n4_:=Aside0.mk (below_drew1 HB.out)
          clear HO_228000
          clear BK227
          clear BK228
          clear HK
          clear HB
          have HO_228000:=n0_
          have BK227:=n1_
          have BK228:=n2_
          have HK:=n3_
          have HB:=n4_
          clear n0_ n1_ n2_ n3_ n4_
          refine start_ (n:=15) (S:=fun w'=>w'.cell? ⟨gb227,0,none⟩=some (.slice Ao20 t236.length co20)∧w'.cell? ⟨gb227,1,none⟩=some (.int .i64 t239)∧w'.cell? ⟨gb227,2,none⟩=some (.int .i64 x228002_2)) (ds:=[]) #[false,false,false,false,false,false,false,false,false,false,false,false,false,false,false] (by kernel_rfl) rfl rfl ⟨(blk_cell BK227.out 0).trans rfl,(blk_cell BK227.out 1).trans rfl,(blk_cell BK227.out 2).trans rfl⟩ (fun hHeld=>?_);refine with_tabW celluloidref05_stored.tab14 celluloidref05_stored.bits14 (fun HT_ HW_=>?_)
          generalize wr.drew=w28 at HO_228000 BK227 BK228 HK HB hHeld ⊢
          refine pureQ 0 (some 46) (tk 1 14) (any_of HT_.out (by kernel_rfl)) ?_
          refine pureQ 1 (some 47) (tk 2 13) (any_of HT_.out (by kernel_rfl)) ?_
          refine pureQ 4 (some 50) #[true,true,false,false,true,false,false,false,false,false,false,false,false,false,false] (any_of HT_.out (by kernel_rfl)) ?_
          refine pureQ 7 (some 53) #[true,true,false,false,true,false,false,true,false,false,false,false,false,false,false] (any_of HT_.out (by kernel_rfl)) ?_
          refine pureQ 8 (some 54) #[true,true,false,false,true,false,false,true,true,false,false,false,false,false,false] (any_of HT_.out (by kernel_rfl)) ?_
          refine pureQ 11 (some 57) #[true,true,false,false,true,false,false,true,true,false,false,true,false,false,false] (any_of HT_.out (by kernel_rfl)) ?_
          refine take_ (i:=2) (N:=some 48) (v:=?_) (a':=?_) #[true,true,true,false,true,false,false,true,true,false,false,true,false,false,false] rfl rfl (take_ofW HT_.out HW_.out (by kernel_rfl)) (fun _ _ _ h=>h) (Or.inl ⟨by rfl,?_⟩) hHeld ?_ ?_
          rotate_left
          ·rintro w' ⟨s0,s1,s2⟩
           go_simp
           with_reducible rfl
          rotate_left
          ·simp only [Act.put,List.setIfInBounds_toArray,List.set_cons_zero,List.set_cons_succ,i64_w,i32_w]
           rfl
          refine pureQ 3 (some 49) #[true,true,true,true,true,false,false,true,true,false,false,true,false,false,false] (any_of HT_.out (by kernel_rfl)) ?_
          refine pureQ 5 (some 51) #[true,true,true,true,true,true,false,true,true,false,false,true,false,false,false] (any_of HT_.out (by kernel_rfl)) ?_
          refine take_ (i:=9) (N:=some 55) (v:=?_) (a':=?_) #[true,true,true,true,true,true,false,true,true,true,false,true,false,false,false] rfl rfl (take_ofW HT_.out HW_.out (by kernel_rfl)) (fun _ _ _ h=>h) (Or.inl ⟨by rfl,?_⟩) hHeld ?_ ?_
          rotate_left
          ·rintro w' ⟨s0,s1,s2⟩
           go_simp
           with_reducible rfl
          rotate_left
          ·simp only [Act.put,List.setIfInBounds_toArray,List.set_cons_zero,List.set_cons_succ,i64_w,i32_w]
           rfl
          refine pureQ 10 (some 56) #[true,true,true,true,true,true,false,true,true,true,true,true,false,false,false] (any_of HT_.out (by kernel_rfl)) ?_
          refine pureQ 12 (some 58) #[true,true,true,true,true,true,false,true,true,true,true,true,true,false,false] (any_of HT_.out (by kernel_rfl)) ?_
          refine one_ (i:=6) (N:=some 52) (tk 13 2) rfl rfl (one_of HT_.out (by kernel_rfl)) (by decide) (fun K hK=>?_)
          refine goes_ Try.func35 (by kernel_rfl) rfl #[.string a0,.int .i64 (wrap64 ((wrap64 (t239 - 32))+x9_2))] (by rfl) rfl rfl (by (try simp only [List.map_toArray,List.map_cons,List.map_nil]);first | done | rfl | (simp only [List.length_drop,List.length_take];rfl)) ?_
          with_reducible refine (celluloidref04_Bit.calls k2 a0 (wrap64 ((wrap64 (t239 - 32))+x9_2)) t241 _ A25.out).mono ?_
          rintro e w29 ⟨rfl,hb⟩
          refine ⟨_,rfl,?_⟩
          have n0_:=rk HO_228000 hb
          have n1_:=bb BK227 hb
          have n2_:=bb BK228 hb
          have n3_:=Aside0.mk (Kept.below (S:=(fun k_=>P1_0_ k_)) (hk HK) hb)
          have n4_:=hs HB hb
          clear HO_228000
          clear BK227
          clear BK228
          clear HK
          clear HB
          have HO_228000:=n0_
          have BK227:=n1_
          have BK228:=n2_
          have HK:=n3_
          have HB:=n4_
          clear n0_ n1_ n2_ n3_ n4_
          (try clear hb)
          (try clear hb2)
          (try clear hk)
          (try clear hi)
          refine hK.out _ _ ⟨(blk_cell BK227.out 0).trans rfl,(blk_cell BK227.out 1).trans rfl,(blk_cell BK227.out 2).trans rfl⟩ (fun hHeld=>?_)
          clear hK K
          refine norm_ (a':=?_) ?_ ?_
          rotate_left
          ·show Act.put _ (some 52) _=_
           simp only [Act.put,List.setIfInBounds_toArray,List.set_cons_zero,List.set_cons_succ,i64_w,i32_w]
           rfl
          refine one_ (i:=13) (N:=some 59) (tk 14 1) rfl rfl (one_of HT_.out (by kernel_rfl)) (by decide) (fun K hK=>?_)
          refine goes_ Try.func35 (by kernel_rfl) rfl #[.string a0,.int .i64 (wrap64 ((wrap64 (t239 - 16))+x9_2))] (by rfl) rfl rfl (by (try simp only [List.map_toArray,List.map_cons,List.map_nil]);first | done | rfl | (simp only [List.length_drop,List.length_take];rfl)) ?_
          with_reducible refine (celluloidref04_Bit.calls k2 a0 (wrap64 ((wrap64 (t239 - 16))+x9_2)) t242 _ A26.out).mono ?_
          rintro e w30 ⟨rfl,hb⟩
          refine ⟨_,rfl,?_⟩
          have n0_:=rk HO_228000 hb
          have n1_:=bb BK227 hb
          have n2_:=bb BK228 hb
          have n3_:=Aside0.mk (Kept.below (S:=(fun k_=>P1_0_ k_)) (hk HK) hb)
          have n4_:=hs HB hb
          clear HO_228000
          clear BK227
          clear BK228
          clear HK
          clear HB
          have HO_228000:=n0_
          have BK227:=n1_
          have BK228:=n2_
          have HK:=n3_
          have HB:=n4_
          clear n0_ n1_ n2_ n3_ n4_
          (try clear hb)
          (try clear hb2)
          (try clear hk)
          (try clear hi)
          refine hK.out _ _ ⟨(blk_cell BK227.out 0).trans rfl,(blk_cell BK227.out 1).trans rfl,(blk_cell BK227.out 2).trans rfl⟩ (fun hHeld=>?_)
          clear hK K
          refine norm_ (a':=?_) ?_ ?_
          rotate_left
          ·show Act.put _ (some 59) _=_
           simp only [Act.put,List.setIfInBounds_toArray,List.set_cons_zero,List.set_cons_succ,i64_w,i32_w]
           rfl
          refine pureQ 14 (some 60) (tk 15 0) (any_of HT_.out (by kernel_rfl)) ?_
          refine done_ (done_of HT_.out (by kernel_rfl)) ?_
          have hnb31:=NB227_228.out
          have hnc31:=NB228_227.out
          obtain ⟨hcz32_0,hcz32_1,hcz32_2⟩:=cc3 BK227
          obtain ⟨hfz32_0,hfz32_1,hfz32_2⟩:=ff3 BK227
          try go_wp2_with (first | ((with_reducible refine gate_store (t:=3) (p:=61) rfl ?_);refine stQ 3 61 ((w30.setCell ⟨gb227,2,none⟩ (.int .i64 3))) ?_;intro w33 hw;have n0_:=sR hw HO_228000 BK227;have n1_:=sP2 hw BK227;have n2_:=sF hw BK228 NB228_227;have n3_:=sK hw HK GW227;have n4_:=sB hw HB GE227;clear hw HO_228000 BK227 BK228 HK HB;have HO_228000:=n0_;have BK227:=n1_;have BK228:=n2_;have HK:=n3_;have HB:=n4_;clear n0_ n1_ n2_ n3_ n4_;obtain ⟨hcz34_0,hcz34_1,hcz34_2⟩:=cc3 BK227;obtain ⟨hfz34_0,hfz34_1,hfz34_2⟩:=ff3 BK227;obtain ⟨hcz35_0,hcz35_1,hcz35_2⟩:=cc3 BK228;obtain ⟨hfz35_0,hfz35_1,hfz35_2⟩:=ff3 BK228) | ((with_reducible refine gate_store (t:=115) (p:=6) rfl ?_);refine stQ 115 6 ((((w33.setCell ⟨gb228,0,none⟩ (.slice Ao20 t236.length co20)).setCell ⟨gb228,1,none⟩ (.int .i64 t239)).setCell ⟨gb228,2,none⟩ (.int .i64 3))) ?_;intro w36 hw;have n0_:=sR hw HO_228000 BK228;have n1_:=sF hw BK227 NB227_228;have n2_:=sP hw BK228;have n3_:=sK hw HK GW228;have n4_:=sB hw HB GE228;clear hw HO_228000 BK227 BK228 HK HB;have HO_228000:=n0_;have BK227:=n1_;have BK228:=n2_;have HK:=n3_;have HB:=n4_;clear n0_ n1_ n2_ n3_ n4_))
          refine bodyPost_ret (results_cell_row rfl _ _ gb228 115 #[.slice Ao20 t236.length co20,.int .i64 t239,.int .i64 3] (0,0) _ rfl (bk BK228) Try.underlying115 rfl (by kernel_rfl)) rfl ?_
          exact ⟨_,by first | rfl | (simp [errW_none,errW_some] <;> rfl) | (simp [*,errW_none,errW_some] <;> rfl),rr HO_228000,hn HB,hk HK⟩
         ·rw [if_neg c27] at H
          have c27b0:(t241 == t242)=false:=beq_eq_false_iff_ne.mpr c27
          have c27b1:(t241 != t242)=true:=bne_iff_ne.mpr c27
          have H':=Aside0.mk H
          clear H
          try go_wp2
          have n0_:=Aside0.mk (Kd.R_drew HO_228000.out)
          have n1_:=Aside0.mk (blk_drew BK227.out)
          have n2_:=Aside0.mk (blk_drew BK228.out)
          have n3_:=Aside0.mk (Kept.drew HK.out)
          have n4_:=Aside0.mk (below_drew1 HB.out)
          clear HO_228000
          clear BK227
          clear BK228
          clear HK
          clear HB
          have HO_228000:=n0_
          have BK227:=n1_
          have BK228:=n2_
          have HK:=n3_
          have HB:=n4_
          clear n0_ n1_ n2_ n3_ n4_
          refine start_ (n:=15) (S:=fun w'=>w'.cell? ⟨gb227,0,none⟩=some (.slice Ao20 t236.length co20)∧w'.cell? ⟨gb227,1,none⟩=some (.int .i64 t239)∧w'.cell? ⟨gb227,2,none⟩=some (.int .i64 x228002_2)) (ds:=[]) #[false,false,false,false,false,false,false,false,false,false,false,false,false,false,false] (by kernel_rfl) rfl rfl ⟨(blk_cell BK227.out 0).trans rfl,(blk_cell BK227.out 1).trans rfl,(blk_cell BK227.out 2).trans rfl⟩ (fun hHeld=>?_);refine with_tabW celluloidref05_stored.tab14 celluloidref05_stored.bits14 (fun HT_ HW_=>?_)
          generalize wr.drew=w37 at HO_228000 BK227 BK228 HK HB hHeld ⊢
          refine pureQ 0 (some 46) (tk 1 14) (any_of HT_.out (by kernel_rfl)) ?_
          refine pureQ 1 (some 47) (tk 2 13) (any_of HT_.out (by kernel_rfl)) ?_
          refine pureQ 4 (some 50) #[true,true,false,false,true,false,false,false,false,false,false,false,false,false,false] (any_of HT_.out (by kernel_rfl)) ?_
          refine pureQ 7 (some 53) #[true,true,false,false,true,false,false,true,false,false,false,false,false,false,false] (any_of HT_.out (by kernel_rfl)) ?_
          refine pureQ 8 (some 54) #[true,true,false,false,true,false,false,true,true,false,false,false,false,false,false] (any_of HT_.out (by kernel_rfl)) ?_
          refine pureQ 11 (some 57) #[true,true,false,false,true,false,false,true,true,false,false,true,false,false,false] (any_of HT_.out (by kernel_rfl)) ?_
          refine take_ (i:=2) (N:=some 48) (v:=?_) (a':=?_) #[true,true,true,false,true,false,false,true,true,false,false,true,false,false,false] rfl rfl (take_ofW HT_.out HW_.out (by kernel_rfl)) (fun _ _ _ h=>h) (Or.inl ⟨by rfl,?_⟩) hHeld ?_ ?_
          rotate_left
          ·rintro w' ⟨s0,s1,s2⟩
           go_simp
           with_reducible rfl
          rotate_left
          ·simp only [Act.put,List.setIfInBounds_toArray,List.set_cons_zero,List.set_cons_succ,i64_w,i32_w]
           rfl
          refine pureQ 3 (some 49) #[true,true,true,true,true,false,false,true,true,false,false,true,false,false,false] (any_of HT_.out (by kernel_rfl)) ?_
          refine pureQ 5 (some 51) #[true,true,true,true,true,true,false,true,true,false,false,true,false,false,false] (any_of HT_.out (by kernel_rfl)) ?_
          refine take_ (i:=9) (N:=some 55) (v:=?_) (a':=?_) #[true,true,true,true,true,true,false,true,true,true,false,true,false,false,false] rfl rfl (take_ofW HT_.out HW_.out (by kernel_rfl)) (fun _ _ _ h=>h) (Or.inl ⟨by rfl,?_⟩) hHeld ?_ ?_
          rotate_left
          ·rintro w' ⟨s0,s1,s2⟩
           go_simp
           with_reducible rfl
          rotate_left
          ·simp only [Act.put,List.setIfInBounds_toArray,List.set_cons_zero,List.set_cons_succ,i64_w,i32_w]
           rfl
          refine pureQ 10 (some 56) #[true,true,true,true,true,true,false,true,true,true,true,true,false,false,false] (any_of HT_.out (by kernel_rfl)) ?_
          refine pureQ 12 (some 58) #[true,true,true,true,true,true,false,true,true,true,true,true,true,false,false] (any_of HT_.out (by kernel_rfl)) ?_
          refine one_ (i:=6) (N:=some 52) (tk 13 2) rfl rfl (one_of HT_.out (by kernel_rfl)) (by decide) (fun K hK=>?_)
          refine goes_ Try.func35 (by kernel_rfl) rfl #[.string a0,.int .i64 (wrap64 ((wrap64 (t239 - 32))+x9_2))] (by rfl) rfl rfl (by (try simp only [List.map_toArray,List.map_cons,List.map_nil]);first | done | rfl | (simp only [List.length_drop,List.length_take];rfl)) ?_
          with_reducible refine (celluloidref04_Bit.calls k2 a0 (wrap64 ((wrap64 (t239 - 32))+x9_2)) t241 _ A25.out).mono ?_
          rintro e w38 ⟨rfl,hb⟩
          refine ⟨_,rfl,?_⟩
          have n0_:=rk HO_228000 hb
          have n1_:=bb BK227 hb
          have n2_:=bb BK228 hb
          have n3_:=Aside0.mk (Kept.below (S:=(fun k_=>P1_0_ k_)) (hk HK) hb)
          have n4_:=hs HB hb
          clear HO_228000
          clear BK227
          clear BK228
          clear HK
          clear HB
          have HO_228000:=n0_
          have BK227:=n1_
          have BK228:=n2_
          have HK:=n3_
          have HB:=n4_
          clear n0_ n1_ n2_ n3_ n4_
          (try clear hb)
          (try clear hb2)
          (try clear hk)
          (try clear hi)
          refine hK.out _ _ ⟨(blk_cell BK227.out 0).trans rfl,(blk_cell BK227.out 1).trans rfl,(blk_cell BK227.out 2).trans rfl⟩ (fun hHeld=>?_)
          clear hK K
          refine norm_ (a':=?_) ?_ ?_
          rotate_left
          ·show Act.put _ (some 52) _=_
           simp only [Act.put,List.setIfInBounds_toArray,List.set_cons_zero,List.set_cons_succ,i64_w,i32_w]
           rfl
          refine one_ (i:=13) (N:=some 59) (tk 14 1) rfl rfl (one_of HT_.out (by kernel_rfl)) (by decide) (fun K hK=>?_)
          refine goes_ Try.func35 (by kernel_rfl) rfl #[.string a0,.int .i64 (wrap64 ((wrap64 (t239 - 16))+x9_2))] (by rfl) rfl rfl (by (try simp only [List.map_toArray,List.map_cons,List.map_nil]);first | done | rfl | (simp only [List.length_drop,List.length_take];rfl)) ?_
          with_reducible refine (celluloidref04_Bit.calls k2 a0 (wrap64 ((wrap64 (t239 - 16))+x9_2)) t242 _ A26.out).mono ?_
          rintro e w39 ⟨rfl,hb⟩
          refine ⟨_,rfl,?_⟩
          have n0_:=rk HO_228000 hb
          have n1_:=bb BK227 hb
          have n2_:=bb BK228 hb
          have n3_:=Aside0.mk (Kept.below (S:=(fun k_=>P1_0_ k_)) (hk HK) hb)
          have n4_:=hs HB hb
          clear HO_228000
          clear BK227
          clear BK228
          clear HK
          clear HB
          have HO_228000:=n0_
          have BK227:=n1_
          have BK228:=n2_
          have HK:=n3_
          have HB:=n4_
          clear n0_ n1_ n2_ n3_ n4_
          (try clear hb)
          (try clear hb2)
          (try clear hk)
          (try clear hi)
          refine hK.out _ _ ⟨(blk_cell BK227.out 0).trans rfl,(blk_cell BK227.out 1).trans rfl,(blk_cell BK227.out 2).trans rfl⟩ (fun hHeld=>?_)
          clear hK K
          refine norm_ (a':=?_) ?_ ?_
          rotate_left
          ·show Act.put _ (some 59) _=_
           simp only [Act.put,List.setIfInBounds_toArray,List.set_cons_zero,List.set_cons_succ,i64_w,i32_w]
           rfl
          refine pureQ 14 (some 60) (tk 15 0) (any_of HT_.out (by kernel_rfl)) ?_
          refine done_ (done_of HT_.out (by kernel_rfl)) ?_
          try go_wp2
          go_roundg k2
          case measure=>have:=HK1.out;have:=HK2.out;omega
          case rel=>exact ⟨(wrap64 (x9_2+1)),(x228002_2),(x229001_2),(x229002_2),(by first | rfl | (simp;done) | (simp [*];done)),H',⟨by have:=HK1.out;have:=HK2.out;omega⟩,⟨rr HO_228000⟩,⟨bk BK227⟩,⟨bk BK228⟩,⟨hk HK⟩,⟨hn HB⟩⟩
        ·rw [if_neg c24] at H
         have c24b0:decide (x9_2 < 16)=false:=decide_eq_false c24
         clear c24
         by_cases c40:(wrap64 ((t236.length:Int)+t229)) > a2
         ·rw [if_pos c40] at H
          have c40b0:decide (a2 < (wrap64 ((t236.length:Int)+t229)))=true:=decide_eq_true c40
          clear c40
          simp only [Option.some.injEq,Prod.mk.injEq] at H
          obtain ⟨rfl,rfl,rfl⟩:=H
          have hnb41:=NB227_228.out
          have hnc41:=NB228_227.out
          obtain ⟨hcz42_0,hcz42_1,hcz42_2⟩:=cc3 BK227
          obtain ⟨hfz42_0,hfz42_1,hfz42_2⟩:=ff3 BK227
          go_wp2_with (first | ((with_reducible refine gate_store (t:=3) (p:=70) rfl ?_);refine stQ 3 70 ((wr.setCell ⟨gb227,2,none⟩ (.int .i64 7))) ?_;intro w43 hw;have n0_:=sR hw HO_228000 BK227;have n1_:=sP2 hw BK227;have n2_:=sF hw BK228 NB228_227;have n3_:=sK hw HK GW227;have n4_:=sB hw HB GE227;clear hw HO_228000 BK227 BK228 HK HB;have HO_228000:=n0_;have BK227:=n1_;have BK228:=n2_;have HK:=n3_;have HB:=n4_;clear n0_ n1_ n2_ n3_ n4_;obtain ⟨hcz44_0,hcz44_1,hcz44_2⟩:=cc3 BK227;obtain ⟨hfz44_0,hfz44_1,hfz44_2⟩:=ff3 BK227;obtain ⟨hcz45_0,hcz45_1,hcz45_2⟩:=cc3 BK228;obtain ⟨hfz45_0,hfz45_1,hfz45_2⟩:=ff3 BK228) | ((with_reducible refine gate_store (t:=115) (p:=6) rfl ?_);refine stQ 115 6 ((((w43.setCell ⟨gb228,0,none⟩ (.slice Ao20 t236.length co20)).setCell ⟨gb228,1,none⟩ (.int .i64 t239)).setCell ⟨gb228,2,none⟩ (.int .i64 7))) ?_;intro w46 hw;have n0_:=sR hw HO_228000 BK228;have n1_:=sF hw BK227 NB227_228;have n2_:=sP hw BK228;have n3_:=sK hw HK GW228;have n4_:=sB hw HB GE228;clear hw HO_228000 BK227 BK228 HK HB;have HO_228000:=n0_;have BK227:=n1_;have BK228:=n2_;have HK:=n3_;have HB:=n4_;clear n0_ n1_ n2_ n3_ n4_))
          refine bodyPost_ret (results_cell_row rfl _ _ gb228 115 #[.slice Ao20 t236.length co20,.int .i64 t239,.int .i64 7] (0,0) _ rfl (bk BK228) Try.underlying115 rfl (by kernel_rfl)) rfl ?_
          exact ⟨_,by first | rfl | (simp [errW_none,errW_some] <;> rfl) | (simp [*,errW_none,errW_some] <;> rfl),rr HO_228000,hn HB,hk HK⟩
         ·rw [if_neg c40] at H
          have c40b0:decide (a2 < (wrap64 ((t236.length:Int)+t229)))=false:=decide_eq_false c40
          clear c40
          by_cases c47:(wrap64 ((wrap64 (Int.tdiv t239 8))+t229)) > (a0.size:Int)
          ·rw [if_pos c47] at H
           have c47b0:decide ((a0.size:Int) < (wrap64 ((wrap64 (Int.tdiv t239 8))+t229)))=true:=decide_eq_true c47
           clear c47
           simp only [Option.some.injEq,Prod.mk.injEq] at H
           obtain ⟨rfl,rfl,rfl⟩:=H
           have hnb48:=NB227_228.out
           have hnc48:=NB228_227.out
           obtain ⟨hcz49_0,hcz49_1,hcz49_2⟩:=cc3 BK227
           obtain ⟨hfz49_0,hfz49_1,hfz49_2⟩:=ff3 BK227
           go_wp2_with (first | ((with_reducible refine gate_store (t:=3) (p:=81) rfl ?_);refine stQ 3 81 ((wr.setCell ⟨gb227,2,none⟩ (.int .i64 2))) ?_;intro w50 hw;have n0_:=sR hw HO_228000 BK227;have n1_:=sP2 hw BK227;have n2_:=sF hw BK228 NB228_227;have n3_:=sK hw HK GW227;have n4_:=sB hw HB GE227;clear hw HO_228000 BK227 BK228 HK HB;have HO_228000:=n0_;have BK227:=n1_;have BK228:=n2_;have HK:=n3_;have HB:=n4_;clear n0_ n1_ n2_ n3_ n4_;obtain ⟨hcz51_0,hcz51_1,hcz51_2⟩:=cc3 BK227;obtain ⟨hfz51_0,hfz51_1,hfz51_2⟩:=ff3 BK227;obtain ⟨hcz52_0,hcz52_1,hcz52_2⟩:=cc3 BK228;obtain ⟨hfz52_0,hfz52_1,hfz52_2⟩:=ff3 BK228) | ((with_reducible refine gate_store (t:=115) (p:=6) rfl ?_);refine stQ 115 6 ((((w50.setCell ⟨gb228,0,none⟩ (.slice Ao20 t236.length co20)).setCell ⟨gb228,1,none⟩ (.int .i64 t239)).setCell ⟨gb228,2,none⟩ (.int .i64 2))) ?_;intro w53 hw;have n0_:=sR hw HO_228000 BK228;have n1_:=sF hw BK227 NB227_228;have n2_:=sP hw BK228;have n3_:=sK hw HK GW228;have n4_:=sB hw HB GE228;clear hw HO_228000 BK227 BK228 HK HB;have HO_228000:=n0_;have BK227:=n1_;have BK228:=n2_;have HK:=n3_;have HB:=n4_;clear n0_ n1_ n2_ n3_ n4_))
           refine bodyPost_ret (results_cell_row rfl _ _ gb228 115 #[.slice Ao20 t236.length co20,.int .i64 t239,.int .i64 2] (0,0) _ rfl (bk BK228) Try.underlying115 rfl (by kernel_rfl)) rfl ?_
           exact ⟨_,by first | rfl | (simp [errW_none,errW_some] <;> rfl) | (simp [*,errW_none,errW_some] <;> rfl),rr HO_228000,hn HB,hk HK⟩
          ·rw [if_neg c47] at H
           have c47b0:decide ((a0.size:Int) < (wrap64 ((wrap64 (Int.tdiv t239 8))+t229)))=false:=decide_eq_false c47
           clear c47
           have H':=Aside0.mk H
           clear H
           have hnb54:=NB227_228.out
           have hnc54:=NB228_227.out
           obtain ⟨hcz55_0,hcz55_1,hcz55_2⟩:=cc3 BK227
           obtain ⟨hfz55_0,hfz55_1,hfz55_2⟩:=ff3 BK227
           go_wp2
           go_loopg [11] k2 (fun kq v11 w'=>∃ (x11_3:Int) (x228000_3:List Int) (u228000:Value),v11=.int .i64 x11_3∧Aside0 (celluloidref05_stored.l2 kq a0 t229 (wrap64 (Int.tdiv t239 8)) x11_3 x228000_3 t239 x228002_2=some (r1,r2,r3))∧Aside0 (kq≤k2)∧Aside0 (Kd.R (Kd.int .u8) 5 w' w0.heap.size (fun k_=>(P1_0_ k_ ∨ w.heap.size≤k_)) u228000 x228000_3)∧Aside0 (w'.heap[gb227]?=some (.cells #[u228000,.int .i64 t239,.int .i64 x228002_2] 115 (0,0)))∧Aside0 (w'.heap[gb228]?=some (.cells #[(.slice none 0 0),.int .i64 x229001_2,.int .i64 x229002_2] 115 (0,0)))∧Aside0 (Kept w w' (fun k_=>P1_0_ k_))∧Aside0 (Below w0.heap.size w0 w'))
           case atStart=>exact ⟨(0),(t236),(.slice Ao20 t236.length co20),(by first | rfl | (simp;done) | (simp [*];done)),H',⟨Nat.le_refl _⟩,⟨rr HO_228000⟩,⟨bk BK227⟩,⟨bk BK228⟩,⟨hk HK⟩,⟨hn HB⟩⟩
           case round =>
            clear H'
            clear c24b0 c40b0 c47b0 hcz55_0 hcz55_1 hcz55_2 hfz55_0 hfz55_1 hfz55_2
            obtain ⟨x11_3,x228000_3,u228000,rfl,HA,HK3,HO_228000,BK227,BK228,HK,HB⟩:=hrel
            cases gk with
            |zero=>exact absurd HA.out (by simp [celluloidref05_stored.l2])
            |succ k3 =>
             have H:=HA.out
             clear HA
             simp only [celluloidref05_stored.l2] at H
             by_cases c56:x11_3 < t229
             ·rw [if_pos c56] at H
              have c56b0:decide (x11_3 < t229)=true:=decide_eq_true c56
              clear c56
              obtain ⟨ji57,hji57⟩:∃ j_:Int,(wrap64 ((wrap64 (Int.tdiv t239 8))+x11_3))=j_:=⟨_,rfl⟩
              replace H:(if 0≤(ji57) then (if (ji57) < (a0.size:Int) then (if x228000_3.length < 140737488355328 then (celluloidref05_stored.l2 k3 a0 t229 (wrap64 (Int.tdiv t239 8)) (wrap64 (x11_3+1)) (x228000_3 ++ [bt a0 (ji57)]) t239 x228002_2) else (none)) else (none)) else (none))=some (r1,r2,r3):=by first | (rw [hji57] at H;exact H) | (simp only [hji57] at H ⊢;exact H)
              have hji57w:(IntKind.i64.wrap ((wrap64 (Int.tdiv t239 8))+x11_3))=ji57:=(i64_w _).trans hji57
              by_cases c58:0≤(ji57)
              ·rw [if_pos c58] at H
               have c58b0:decide (0≤(ji57))=true:=decide_eq_true c58
               clear c58
               by_cases c59:(ji57) < (a0.size:Int)
               ·rw [if_pos c59] at H
                have c59b0:decide ((ji57) < (a0.size:Int))=true:=decide_eq_true c59
                clear c59
                by_cases c61:x228000_3.length < 140737488355328
                ·rw [if_pos c61] at H
                 have LMc61:=Aside0.mk c61
                 clear c61
                 obtain ⟨y243,hy243⟩:∃ y_:List Int,y_=(x228000_3 ++ [bt a0 (ji57)]):=⟨_,rfl⟩
                 replace H:(celluloidref05_stored.l2 k3 a0 t229 (wrap64 (Int.tdiv t239 8)) (wrap64 (x11_3+1)) y243 t239 x228002_2)=some (r1,r2,r3):=by first | (rw [hy243];with_reducible exact H) | (have H2_:=(Option.bind_some _ _).symm.trans H;rw [hy243];with_reducible exact H2_) | (have H2_:=(Option.bind_some _ _).symm.trans H;with_reducible exact H2_) | with_reducible exact H | (rw [hy243];exact H) | exact H
                 have Ny243:=Aside0.mk hy243
                 clear hy243
                 have H':=Aside0.mk H
                 clear H
                 try go_wp2
                 have n0_:=Aside0.mk (Kd.R_drew HO_228000.out)
                 have n1_:=Aside0.mk (blk_drew BK227.out)
                 have n2_:=Aside0.mk (blk_drew BK228.out)
                 have n3_:=Aside0.mk (Kept.drew HK.out)
                 have n4_:=Aside0.mk (below_drew1 HB.out)
                 clear HO_228000
                 clear BK227
                 clear BK228
                 clear HK
                 clear HB
                 have HO_228000:=n0_
                 have BK227:=n1_
                 have BK228:=n2_
                 have HK:=n3_
                 have HB:=n4_
                 clear n0_ n1_ n2_ n3_ n4_
                 have p60:0≤((ji57):Int):=of_decide_eq_true (by first | (with_reducible assumption) | assumption)
                 have q60:(ji57) < (a0.size:Int):=of_decide_eq_true (by first | (with_reducible assumption) | assumption)
                 have hx60:=bt_at a0 (ji57)
                 replace p60:=eq_true p60
                 replace q60:=eq_true q60
                 refine start_ (n:=11) (S:=fun w'=>w'.cell? ⟨gb227,0,none⟩=some (u228000)∧w'.cell? ⟨gb227,1,none⟩=some (.int .i64 t239)∧w'.cell? ⟨gb227,2,none⟩=some (.int .i64 x228002_2)) (ds:=[10]) #[false,false,false,false,false,false,false,false,false,false,false] (by kernel_rfl) rfl rfl ⟨(blk_cell BK227.out 0).trans rfl,(blk_cell BK227.out 1).trans rfl,(blk_cell BK227.out 2).trans rfl⟩ (fun hHeld=>?_);refine with_tabW celluloidref05_stored.tab27 celluloidref05_stored.bits27 (fun HT_ HW_=>?_)
                 generalize wr.drew=w62 at HO_228000 BK227 BK228 HK HB hHeld ⊢
                 refine pureQ 0 (some 88) (tk 1 10) (any_of HT_.out (by kernel_rfl)) ?_
                 refine pureQ 2 (some 90) #[true,false,true,false,false,false,false,false,false,false,false] (any_of HT_.out (by kernel_rfl)) ?_
                 refine pureQ 3 (some 91) #[true,false,true,true,false,false,false,false,false,false,false] (any_of HT_.out (by kernel_rfl)) ?_
                 refine pureQ 4 (some 92) #[true,false,true,true,true,false,false,false,false,false,false] (any_of HT_.out (by kernel_rfl)) ?_
                 refine pureQ 5 (some 93) #[true,false,true,true,true,true,false,false,false,false,false] (any_of HT_.out (by kernel_rfl)) ?_
                 refine take_ (i:=1) (N:=some 89) (v:=?_) (a':=?_) (tk 6 5) rfl rfl (take_ofW HT_.out HW_.out (by kernel_rfl)) (fun _ _ _ h=>h) (Or.inl ⟨by rfl,?_⟩) hHeld ?_ ?_
                 rotate_left
                 ·rintro w' ⟨s0,s1,s2⟩
                  go_simp
                  with_reducible rfl
                 rotate_left
                 ·simp only [Act.put,List.setIfInBounds_toArray,List.set_cons_zero,List.set_cons_succ,i64_w,i32_w]
                  rfl
                 refine take_ (i:=6) (N:=some 94) (v:=?_) (a':=?_) (tk 7 4) rfl rfl (take_ofW HT_.out HW_.out (by kernel_rfl)) (fun _ _ _ h=>h) (Or.inl ⟨by rfl,?_⟩) hHeld ?_ ?_
                 rotate_left
                 ·rintro w' ⟨s0,s1,s2⟩
                  go_simp
                  with_reducible rfl
                 rotate_left
                 ·simp only [Act.put,List.setIfInBounds_toArray,List.set_cons_zero,List.set_cons_succ,i64_w,i32_w]
                  rfl
                 refine one_ (i:=7) (N:=some 95) (tk 8 3) rfl rfl (one_of HT_.out (by kernel_rfl)) (by decide) (fun K hK=>?_)
                 refine value_ (w1:=?_) (v:=?_) (by rfl) rfl ?_ ?_
                 rotate_left 2
                 ·go_simp
                  constructor
                  ·rfl
                  ·rfl
                 refine hK.out _ _ ⟨(blk_cell (blk_alloc BK227.out _) 0).trans rfl,(blk_cell (blk_alloc BK227.out _) 1).trans rfl,(blk_cell (blk_alloc BK227.out _) 2).trans rfl⟩ (fun hHeld=>?_)
                 clear hK K
                 refine norm_ (a':=?_) ?_ ?_
                 rotate_left
                 ·show Act.put _ (some 95) _=_
                  simp only [Act.put,List.setIfInBounds_toArray,List.set_cons_zero,List.set_cons_succ,i64_w,i32_w]
                  rfl
                 refine one_ (i:=8) (N:=some 96) (tk 9 2) rfl rfl (one_of HT_.out (by kernel_rfl)) (by decide) (fun K hK=>?_)
                 refine Kd.R_append_step (Kd.int .u8) (w0:=w0) w0.heap.size (by rfl) (.tmp 89) (.tmp 95) 40 5 (.int .u8 0) 1 rfl Try.underlying40 info5 rfl (by decide) (by omega) u228000 x228000_3 (bt a0 (ji57)) [.int .u8 (bt a0 (ji57))] (fun k_=>(P1_0_ k_ ∨ w.heap.size≤k_)) (fun _=>False) rfl rfl ?aP (fun _ hk=>hk.elim) ?aF ?aO ?aB ?aS ?aL ?_
                 (case aP=>exact rfl)
                 (case aB=>exact (hn HB))
                 (case aF=>exact (fun k_ hk=>(.inr (Nat.le_trans (by first | exact HK.out.1 | exact (show Kept w _ (fun k_=>P1_0_ k_) from by repeat (first | (with_reducible first | exact HK.out | apply Kept.alloc | apply Kept.drewN | apply Kept.drew | refine Kept.setCell ?_ (.inr GW227.out) _ | refine Kept.setCell ?_ (.inr GW228.out) _) | exact HK.out)).1) hk))))
                 (case aO=>exact (rr HO_228000))
                 (case aS=>exact (below_size (hn HB)))
                 (case aL=>have:=LMc61.out;omega)
                 intro v244 w63 ho hb hg hat
                 rw [← Ny243.out] at ho
                 have n0_:=Aside0.mk (blk_grown (g:=gb227) (o:=.cells #[u228000,.int .i64 t239,.int .i64 x228002_2] 115 (0,0)) (bk BK227) hg (Kd.R_ne HO_228000.out BK227.out (by decide)))
                 have n1_:=Aside0.mk (blk_grown (g:=gb228) (o:=.cells #[.slice none 0 0,.int .i64 x229001_2,.int .i64 x229002_2] 115 (0,0)) (bk BK228) hg (Kd.R_ne HO_228000.out BK228.out (by decide)))
                 have n2_:=Aside0.mk hb
                 have n3_:=Aside0.mk (Kept.of_grown (S:=(fun k_=>P1_0_ k_)) hg (hk HK) (fun k_ e_=>(HO_228000.out.1 k_ e_)))
                 have n4_:=Aside0.mk ho
                 clear BK227
                 clear BK228
                 clear HB
                 clear HK
                 clear HO_228000
                 have BK227:=n0_
                 have BK228:=n1_
                 have HB:=n2_
                 have HK:=n3_
                 have HO245:=n4_
                 clear n0_ n1_ n2_ n3_ n4_
                 clear ho hb hg hat
                 obtain ⟨Ao64,co64,eo64⟩:=Kd.R_slice HO245.out
                 (first | subst eo64 | (injection eo64 with f1_ f2_ f3_;have f4_:=f1_.symm;have f5_:=f3_.symm;clear f1_ f2_ f3_;subst f4_;subst f5_))
                 refine hK.out _ _ ⟨(blk_cell BK227.out 0).trans rfl,(blk_cell BK227.out 1).trans rfl,(blk_cell BK227.out 2).trans rfl⟩ (fun hHeld=>?_)
                 clear hK K
                 refine norm_ (a':=?_) ?_ ?_
                 rotate_left
                 ·show Act.put _ (some 96) _=_
                  simp only [Act.put,List.setIfInBounds_toArray,List.set_cons_zero,List.set_cons_succ,i64_w,i32_w]
                  rfl
                 refine pureQ 9 (some 97) (tk 10 1) (any_of HT_.out (by kernel_rfl)) ?_
                 refine last_ (i:=10) (N:=none) #[true,true,true,true,true,true,true,true,true,true,true] rfl rfl (one_of HT_.out (by kernel_rfl)) (by decide) (fun K hK=>?_)
                 have hs65:w63.cell? ⟨gb227,0,none⟩=some (u228000):=(blk_cell BK227.out 0).trans rfl
                 have hfs65:=blk_frozen BK227.out 0
                 have hns65_1:=NB228_227.out
                 have hms65_1:=NB227_228.out
                 refine skip_ (w1:=?_) (by rfl) rfl ?_ ?_
                 rotate_left
                 ·go_simp
                  rfl
                 refine hK.out _ _ ?_
                 clear hK K
                 refine done_ (done_of HT_.out (by kernel_rfl)) ?_
                 try go_wp2
                 go_roundg k3
                 case measure=>have:=HK1.out;have:=HK2.out;have:=HK3.out;omega
                 case rel=>exact ⟨(wrap64 (x11_3+1)),(y243),(.slice Ao64 y243.length co64),(by first | rfl | (simp;done) | (simp [*];done)),H',⟨by have:=HK1.out;have:=HK2.out;have:=HK3.out;omega⟩,⟨by (with_reducible repeat (first | apply Kd.R_alloc | apply Kd.R_drewN | apply Kd.R_drew));exact Kd.R_mono (Kd.R_far (p:=⟨gb227,0,none⟩) (Kd.R_types HO245.out BK227.out (by decide)) (fun _ hk=>hk.2) (.slice Ao64 y243.length co64)) (fun _ hk=>hk.1)⟩,⟨by (with_reducible repeat (first | refine blk_drewN ?_ _ | refine blk_drew ?_ | refine blk_alloc ?_ _));refine blk_put (cs:=#[u228000,.int .i64 t239,.int .i64 x228002_2]) ?_ 0 _ rfl;(with_reducible repeat (first | refine blk_drewN ?_ _ | refine blk_drew ?_ | refine blk_alloc ?_ _));exact BK227.out⟩,⟨by (with_reducible repeat (first | refine blk_drewN ?_ _ | refine blk_drew ?_ | refine blk_alloc ?_ _));refine blk_far ?_ NB228_227.out _;(with_reducible repeat (first | refine blk_drewN ?_ _ | refine blk_drew ?_ | refine blk_alloc ?_ _));exact BK228.out⟩,⟨hk HK⟩,⟨hn HB⟩⟩
                ·rw [if_neg c61] at H
                 exact absurd H (by simp)
               ·rw [if_neg c59] at H
                exact absurd H (by simp)
              ·rw [if_neg c58] at H
               exact absurd H (by simp)
             ·rw [if_neg c56] at H
              have c56b0:decide (x11_3 < t229)=false:=decide_eq_false c56
              clear c56
              simp only [Option.some.injEq,Prod.mk.injEq] at H
              obtain ⟨rfl,rfl,rfl⟩:=H
              have hnb66:=NB227_228.out
              have hnc66:=NB228_227.out
              obtain ⟨hcz67_0,hcz67_1,hcz67_2⟩:=cc3 BK227
              obtain ⟨hfz67_0,hfz67_1,hfz67_2⟩:=ff3 BK227
              go_wp2_with (first | ((with_reducible refine gate_store (t:=3) (p:=102) rfl ?_);refine store_event (t:=3) (p:=102) (v:=?vo_w68) (w1:=(wr.setCell ⟨gb227,1,none⟩ (.int .i64 (wrap64 (8*(wrap64 ((wrap64 (Int.tdiv t239 8))+t229))))))) ?hg ?ho ?hn ?hr ?_;(case ho=>rfl);(case hg=>rfl);(case hn=>rfl);(case hr=>first | (go_simp;done) | (go_simp;rfl));intro w68 hw;have n0_:Aside0 (Kd.R (Kd.int .u8) 5 w68 w0.heap.size (fun k_=>(P1_0_ k_ ∨ w.heap.size≤k_)) u228000 x228000_3):=⟨(by rw [hw];exact (by (with_reducible repeat (first | apply Kd.R_alloc | apply Kd.R_drewN | apply Kd.R_drew));exact Kd.R_mono (Kd.R_far (p:=⟨gb227,1,none⟩) (Kd.R_types HO_228000.out BK227.out (by decide)) (fun _ hk=>hk.2) (.int .i64 (wrap64 (8*(wrap64 ((wrap64 (Int.tdiv t239 8))+t229)))))) (fun _ hk=>hk.1)))⟩;have n1_:Aside0 (w68.heap[gb227]?=some (.cells #[u228000,.int .i64 (wrap64 (8*(wrap64 ((wrap64 (Int.tdiv t239 8))+t229)))),.int .i64 x228002_2] 115 (0,0))):=⟨(by rw [hw];exact (bq BK227))⟩;have n2_:Aside0 (w68.heap[gb228]?=some (.cells #[.slice none 0 0,.int .i64 x229001_2,.int .i64 x229002_2] 115 (0,0))):=⟨(by rw [hw];exact (bq BK228))⟩;have n3_:Aside0 (Kept w w68 (fun k_=>P1_0_ k_)):=⟨(by rw [hw];exact (hk HK))⟩;have n4_:Aside0 (Below w0.heap.size w0 w68):=⟨(by rw [hw];exact (hn HB))⟩;clear hw HO_228000 BK227 BK228 HK HB;have HO_228000:=n0_;have BK227:=n1_;have BK228:=n2_;have HK:=n3_;have HB:=n4_;clear n0_ n1_ n2_ n3_ n4_;obtain ⟨hcz69_0,hcz69_1,hcz69_2⟩:=cc3 BK227;obtain ⟨hfz69_0,hfz69_1,hfz69_2⟩:=ff3 BK227;obtain ⟨Ao70,co70,eo70⟩:=Kd.R_slice HO_228000.out;subst eo70;obtain ⟨hcz71_0,hcz71_1,hcz71_2⟩:=cc3 BK228;obtain ⟨hfz71_0,hfz71_1,hfz71_2⟩:=ff3 BK228) | ((with_reducible refine gate_store (t:=115) (p:=6) rfl ?_);refine store_event (t:=115) (p:=6) (v:=?vo_w72) (w1:=(((w68.setCell ⟨gb228,0,none⟩ (.slice Ao70 x228000_3.length co70)).setCell ⟨gb228,1,none⟩ (.int .i64 (wrap64 (8*(wrap64 ((wrap64 (Int.tdiv t239 8))+t229)))))).setCell ⟨gb228,2,none⟩ (.int .i64 x228002_2))) ?hg ?ho ?hn ?hr ?_;(case ho=>rfl);(case hg=>rfl);(case hn=>rfl);(case hr=>first | (go_simp;done) | (go_simp;rfl));intro w72 hw;have n0_:Aside0 (Kd.R (Kd.int .u8) 5 w72 w0.heap.size (fun k_=>(P1_0_ k_ ∨ w.heap.size≤k_)) (.slice Ao70 x228000_3.length co70) x228000_3):=⟨(by rw [hw];exact (by (with_reducible repeat (first | apply Kd.R_alloc | apply Kd.R_drewN | apply Kd.R_drew));exact Kd.R_mono (Kd.R_far (p:=⟨gb228,2,none⟩) (Kd.R_far (p:=⟨gb228,1,none⟩) (Kd.R_far (p:=⟨gb228,0,none⟩) (Kd.R_types HO_228000.out BK228.out (by decide)) (fun _ hk=>hk.2) (.slice Ao70 x228000_3.length co70)) (fun _ hk=>hk.2) (.int .i64 (wrap64 (8*(wrap64 ((wrap64 (Int.tdiv t239 8))+t229)))))) (fun _ hk=>hk.2) (.int .i64 x228002_2)) (fun _ hk=>hk.1)))⟩;have n1_:Aside0 (w72.heap[gb227]?=some (.cells #[.slice Ao70 x228000_3.length co70,.int .i64 (wrap64 (8*(wrap64 ((wrap64 (Int.tdiv t239 8))+t229)))),.int .i64 x228002_2] 115 (0,0))):=⟨(by rw [hw];exact (bq BK227))⟩;have n2_:Aside0 (w72.heap[gb228]?=some (.cells #[.slice Ao70 x228000_3.length co70,.int .i64 (wrap64 (8*(wrap64 ((wrap64 (Int.tdiv t239 8))+t229)))),.int .i64 x228002_2] 115 (0,0))):=⟨(by rw [hw];exact (bq BK228))⟩;have n3_:Aside0 (Kept w w72 (fun k_=>P1_0_ k_)):=⟨(by rw [hw];exact (hk HK))⟩;have n4_:Aside0 (Below w0.heap.size w0 w72):=⟨(by rw [hw];exact (hn HB))⟩;clear hw HO_228000 BK227 BK228 HK HB;have HO_228000:=n0_;have BK227:=n1_;have BK228:=n2_;have HK:=n3_;have HB:=n4_;clear n0_ n1_ n2_ n3_ n4_))
              refine bodyPost_ret (results_cell_row rfl _ _ gb228 115 #[.slice Ao70 x228000_3.length co70,.int .i64 (wrap64 (8*(wrap64 ((wrap64 (Int.tdiv t239 8))+t229)))),.int .i64 x228002_2] (0,0) _ rfl (bk BK228) Try.underlying115 rfl (by kernel_rfl)) rfl ?_
              exact ⟨_,by first | rfl | (simp [errW_none,errW_some] <;> rfl) | (simp [*,errW_none,errW_some] <;> rfl),rr HO_228000,hn HB,hk HK⟩
     ·rw [if_neg c11] at H
      have c11b0:((wrap64 (t229+t235)) == 65535)=false:=beq_eq_false_iff_ne.mpr c11
      have c11b1:((wrap64 (t229+t235)) != 65535)=true:=bne_iff_ne.mpr c11
      simp only [Option.some.injEq,Prod.mk.injEq] at H
      obtain ⟨rfl,rfl,rfl⟩:=H
      have hnb73:=NB227_228.out
      have hnc73:=NB228_227.out
      obtain ⟨hcz74_0,hcz74_1,hcz74_2⟩:=cc3 BK227
      obtain ⟨hfz74_0,hfz74_1,hfz74_2⟩:=ff3 BK227
      go_wp2_with (first | ((with_reducible refine gate_callee (f:=73) rfl ?_);refine goesQ (some 23) Try.func73 #[.string a0,.agg #[.slice Ao4 l1_0.length co4,.int .i64 x228001_1,.int .i64 a1_2],.int .i64 16] ?_;(with_reducible refine (celluloidref05_number.calls k1 a0 (fun k_=>some k_=(.slice Ao4 l1_0.length co4:Value).ownBlock) (.slice Ao4 l1_0.length co4) l1_0 x228001_1 a1_2 16 t229 t230 t233 t234 w0 _ (hn HB) (Kd.R_tight rfl HO_228000.out) A8.out).mono ?_);rintro e w75 ⟨v231,rfl,ho0,hb,hkp⟩;refine ⟨_,rfl,?_⟩;have n0_:=kb BK227 HO_228000 hkp;have n1_:=kb BK228 HO_228000 hkp;have n2_:=kr HO_228000 HK ho0;have n3_:=kt HK HO_228000 hkp;have n4_:=Aside0.mk hb;clear BK227 BK228 HK HB HO_228000;have BK227:=n0_;have BK228:=n1_;have HO232:=n2_;have HK:=n3_;have HB:=n4_;clear n0_ n1_ n2_ n3_ n4_;(try clear hb);(try clear hkp);(try clear ho0);obtain ⟨Ao76,co76,eo76⟩:=Kd.R_slice HO232.out;subst eo76;obtain ⟨hcz77_0,hcz77_1,hcz77_2⟩:=cc3 BK227;obtain ⟨hfz77_0,hfz77_1,hfz77_2⟩:=ff3 BK227) | ((with_reducible refine gate_store (t:=115) (p:=4) rfl ?_);refine stQ 115 4 ((((w75.setCell ⟨gb227,0,none⟩ (.slice Ao76 t230.length co76)).setCell ⟨gb227,1,none⟩ (.int .i64 t233)).setCell ⟨gb227,2,none⟩ (.int .i64 t234))) ?_;intro w78 hw;have n0_:=sR hw HO232 BK227;have n1_:=sP hw BK227;have n2_:=sF hw BK228 NB228_227;have n3_:=sK hw HK GW227;have n4_:=sB hw HB GE227;clear hw HO232 BK227 BK228 HK HB;have HO232:=n0_;have BK227:=n1_;have BK228:=n2_;have HK:=n3_;have HB:=n4_;clear n0_ n1_ n2_ n3_ n4_;obtain ⟨hcz79_0,hcz79_1,hcz79_2⟩:=cc3 BK227;obtain ⟨hfz79_0,hfz79_1,hfz79_2⟩:=ff3 BK227) | ((with_reducible refine gate_callee (f:=73) rfl ?_);refine goesQ (some 29) Try.func73 #[.string a0,.agg #[.slice Ao76 t230.length co76,.int .i64 t233,.int .i64 t234],.int .i64 16] ?_;(with_reducible refine (celluloidref05_number.calls k1 a0 (fun k_=>some k_=(.slice Ao76 t230.length co76:Value).ownBlock) (.slice Ao76 t230.length co76) t230 t233 t234 16 t235 t236 t239 t240 w0 _ (hn HB) (Kd.R_tight rfl HO232.out) A9.out).mono ?_);rintro e w80 ⟨v237,rfl,ho0,hb,hkp⟩;refine ⟨_,rfl,?_⟩;have n0_:=kb BK227 HO232 hkp;have n1_:=kb BK228 HO232 hkp;have n2_:=kr HO232 HK ho0;have n3_:=kt HK HO232 hkp;have n4_:=Aside0.mk hb;clear BK227 BK228 HK HB HO232;have BK227:=n0_;have BK228:=n1_;have HO238:=n2_;have HK:=n3_;have HB:=n4_;clear n0_ n1_ n2_ n3_ n4_;(try clear hb);(try clear hkp);(try clear ho0);obtain ⟨Ao81,co81,eo81⟩:=Kd.R_slice HO238.out;subst eo81;obtain ⟨hcz82_0,hcz82_1,hcz82_2⟩:=cc3 BK227;obtain ⟨hfz82_0,hfz82_1,hfz82_2⟩:=ff3 BK227) | ((with_reducible refine gate_store (t:=115) (p:=4) rfl ?_);refine stQ 115 4 ((((w80.setCell ⟨gb227,0,none⟩ (.slice Ao81 t236.length co81)).setCell ⟨gb227,1,none⟩ (.int .i64 t239)).setCell ⟨gb227,2,none⟩ (.int .i64 t240))) ?_;intro w83 hw;have n0_:=sR hw HO238 BK227;have n1_:=sP hw BK227;have n2_:=sF hw BK228 NB228_227;have n3_:=sK hw HK GW227;have n4_:=sB hw HB GE227;clear hw HO238 BK227 BK228 HK HB;have HO238:=n0_;have BK227:=n1_;have BK228:=n2_;have HK:=n3_;have HB:=n4_;clear n0_ n1_ n2_ n3_ n4_;obtain ⟨hcz84_0,hcz84_1,hcz84_2⟩:=cc3 BK227;obtain ⟨hfz84_0,hfz84_1,hfz84_2⟩:=ff3 BK227) | ((with_reducible refine gate_store (t:=3) (p:=40) rfl ?_);refine stQ 3 40 ((w83.setCell ⟨gb227,2,none⟩ (.int .i64 3))) ?_;intro w85 hw;have n0_:=sR hw HO238 BK227;have n1_:=sP2 hw BK227;have n2_:=sF hw BK228 NB228_227;have n3_:=sK hw HK GW227;have n4_:=sB hw HB GE227;clear hw HO238 BK227 BK228 HK HB;have HO238:=n0_;have BK227:=n1_;have BK228:=n2_;have HK:=n3_;have HB:=n4_;clear n0_ n1_ n2_ n3_ n4_;obtain ⟨hcz86_0,hcz86_1,hcz86_2⟩:=cc3 BK227;obtain ⟨hfz86_0,hfz86_1,hfz86_2⟩:=ff3 BK227;obtain ⟨hcz87_0,hcz87_1,hcz87_2⟩:=cc3 BK228;obtain ⟨hfz87_0,hfz87_1,hfz87_2⟩:=ff3 BK228) | ((with_reducible refine gate_store (t:=115) (p:=6) rfl ?_);refine stQ 115 6 ((((w85.setCell ⟨gb228,0,none⟩ (.slice Ao81 t236.length co81)).setCell ⟨gb228,1,none⟩ (.int .i64 t239)).setCell ⟨gb228,2,none⟩ (.int .i64 3))) ?_;intro w88 hw;have n0_:=sR hw HO238 BK228;have n1_:=sF hw BK227 NB227_228;have n2_:=sP hw BK228;have n3_:=sK hw HK GW228;have n4_:=sB hw HB GE228;clear hw HO238 BK227 BK228 HK HB;have HO238:=n0_;have BK227:=n1_;have BK228:=n2_;have HK:=n3_;have HB:=n4_;clear n0_ n1_ n2_ n3_ n4_))
      refine bodyPost_ret (results_cell_row rfl _ _ gb228 115 #[.slice Ao81 t236.length co81,.int .i64 t239,.int .i64 3] (0,0) _ rfl (bk BK228) Try.underlying115 rfl (by kernel_rfl)) rfl ?_
      exact ⟨_,by first | rfl | (simp [errW_none,errW_some] <;> rfl) | (simp [*,errW_none,errW_some] <;> rfl),rr HO238,hn HB,hk HK⟩
    ·rw [if_neg c10] at H
     have c10b0:(t240 == 0)=false:=beq_eq_false_iff_ne.mpr c10
     have c10b1:(t240 != 0)=true:=bne_iff_ne.mpr c10
     simp only [Option.some.injEq,Prod.mk.injEq] at H
     obtain ⟨rfl,rfl,rfl⟩:=H
     have hnb89:=NB227_228.out
     have hnc89:=NB228_227.out
     obtain ⟨hcz90_0,hcz90_1,hcz90_2⟩:=cc3 BK227
     obtain ⟨hfz90_0,hfz90_1,hfz90_2⟩:=ff3 BK227
     go_wp2_with (first | ((with_reducible refine gate_callee (f:=73) rfl ?_);refine goesQ (some 23) Try.func73 #[.string a0,.agg #[.slice Ao4 l1_0.length co4,.int .i64 x228001_1,.int .i64 a1_2],.int .i64 16] ?_;(with_reducible refine (celluloidref05_number.calls k1 a0 (fun k_=>some k_=(.slice Ao4 l1_0.length co4:Value).ownBlock) (.slice Ao4 l1_0.length co4) l1_0 x228001_1 a1_2 16 t229 t230 t233 t234 w0 _ (hn HB) (Kd.R_tight rfl HO_228000.out) A8.out).mono ?_);rintro e w91 ⟨v231,rfl,ho0,hb,hkp⟩;refine ⟨_,rfl,?_⟩;have n0_:=kb BK227 HO_228000 hkp;have n1_:=kb BK228 HO_228000 hkp;have n2_:=kr HO_228000 HK ho0;have n3_:=kt HK HO_228000 hkp;have n4_:=Aside0.mk hb;clear BK227 BK228 HK HB HO_228000;have BK227:=n0_;have BK228:=n1_;have HO232:=n2_;have HK:=n3_;have HB:=n4_;clear n0_ n1_ n2_ n3_ n4_;(try clear hb);(try clear hkp);(try clear ho0);obtain ⟨Ao92,co92,eo92⟩:=Kd.R_slice HO232.out;subst eo92;obtain ⟨hcz93_0,hcz93_1,hcz93_2⟩:=cc3 BK227;obtain ⟨hfz93_0,hfz93_1,hfz93_2⟩:=ff3 BK227) | ((with_reducible refine gate_store (t:=115) (p:=4) rfl ?_);refine stQ 115 4 ((((w91.setCell ⟨gb227,0,none⟩ (.slice Ao92 t230.length co92)).setCell ⟨gb227,1,none⟩ (.int .i64 t233)).setCell ⟨gb227,2,none⟩ (.int .i64 t234))) ?_;intro w94 hw;have n0_:=sR hw HO232 BK227;have n1_:=sP hw BK227;have n2_:=sF hw BK228 NB228_227;have n3_:=sK hw HK GW227;have n4_:=sB hw HB GE227;clear hw HO232 BK227 BK228 HK HB;have HO232:=n0_;have BK227:=n1_;have BK228:=n2_;have HK:=n3_;have HB:=n4_;clear n0_ n1_ n2_ n3_ n4_;obtain ⟨hcz95_0,hcz95_1,hcz95_2⟩:=cc3 BK227;obtain ⟨hfz95_0,hfz95_1,hfz95_2⟩:=ff3 BK227) | ((with_reducible refine gate_callee (f:=73) rfl ?_);refine goesQ (some 29) Try.func73 #[.string a0,.agg #[.slice Ao92 t230.length co92,.int .i64 t233,.int .i64 t234],.int .i64 16] ?_;(with_reducible refine (celluloidref05_number.calls k1 a0 (fun k_=>some k_=(.slice Ao92 t230.length co92:Value).ownBlock) (.slice Ao92 t230.length co92) t230 t233 t234 16 t235 t236 t239 t240 w0 _ (hn HB) (Kd.R_tight rfl HO232.out) A9.out).mono ?_);rintro e w96 ⟨v237,rfl,ho0,hb,hkp⟩;refine ⟨_,rfl,?_⟩;have n0_:=kb BK227 HO232 hkp;have n1_:=kb BK228 HO232 hkp;have n2_:=kr HO232 HK ho0;have n3_:=kt HK HO232 hkp;have n4_:=Aside0.mk hb;clear BK227 BK228 HK HB HO232;have BK227:=n0_;have BK228:=n1_;have HO238:=n2_;have HK:=n3_;have HB:=n4_;clear n0_ n1_ n2_ n3_ n4_;(try clear hb);(try clear hkp);(try clear ho0);obtain ⟨Ao97,co97,eo97⟩:=Kd.R_slice HO238.out;subst eo97;obtain ⟨hcz98_0,hcz98_1,hcz98_2⟩:=cc3 BK227;obtain ⟨hfz98_0,hfz98_1,hfz98_2⟩:=ff3 BK227) | ((with_reducible refine gate_store (t:=115) (p:=4) rfl ?_);refine stQ 115 4 ((((w96.setCell ⟨gb227,0,none⟩ (.slice Ao97 t236.length co97)).setCell ⟨gb227,1,none⟩ (.int .i64 t239)).setCell ⟨gb227,2,none⟩ (.int .i64 t240))) ?_;intro w99 hw;have n0_:=sR hw HO238 BK227;have n1_:=sP hw BK227;have n2_:=sF hw BK228 NB228_227;have n3_:=sK hw HK GW227;have n4_:=sB hw HB GE227;clear hw HO238 BK227 BK228 HK HB;have HO238:=n0_;have BK227:=n1_;have BK228:=n2_;have HK:=n3_;have HB:=n4_;clear n0_ n1_ n2_ n3_ n4_;obtain ⟨hcz100_0,hcz100_1,hcz100_2⟩:=cc3 BK227;obtain ⟨hfz100_0,hfz100_1,hfz100_2⟩:=ff3 BK227;obtain ⟨hcz101_0,hcz101_1,hcz101_2⟩:=cc3 BK228;obtain ⟨hfz101_0,hfz101_1,hfz101_2⟩:=ff3 BK228) | ((with_reducible refine gate_store (t:=115) (p:=6) rfl ?_);refine stQ 115 6 ((((w99.setCell ⟨gb228,0,none⟩ (.slice Ao97 t236.length co97)).setCell ⟨gb228,1,none⟩ (.int .i64 t239)).setCell ⟨gb228,2,none⟩ (.int .i64 t240))) ?_;intro w102 hw;have n0_:=sR hw HO238 BK228;have n1_:=sF hw BK227 NB227_228;have n2_:=sP hw BK228;have n3_:=sK hw HK GW228;have n4_:=sB hw HB GE228;clear hw HO238 BK227 BK228 HK HB;have HO238:=n0_;have BK227:=n1_;have BK228:=n2_;have HK:=n3_;have HB:=n4_;clear n0_ n1_ n2_ n3_ n4_))
     refine bodyPost_ret (results_cell_row rfl _ _ gb228 115 #[.slice Ao97 t236.length co97,.int .i64 t239,.int .i64 t240] (0,0) _ rfl (bk BK228) Try.underlying115 rfl (by kernel_rfl)) rfl ?_
     exact ⟨_,by first | rfl | (simp [errW_none,errW_some] <;> rfl) | (simp [*,errW_none,errW_some] <;> rfl),rr HO238,hn HB,hk HK⟩
   ·rw [if_neg c7] at H
    have c7b0:((Int.tmod x228001_1 8) == 0)=false:=beq_eq_false_iff_ne.mpr c7
    have c7b1:((Int.tmod x228001_1 8) != 0)=true:=bne_iff_ne.mpr c7
    have H':=Aside0.mk H
    clear H
    have hnb103:=NB227_228.out
    have hnc103:=NB228_227.out
    obtain ⟨hcz104_0,hcz104_1,hcz104_2⟩:=cc3 BK227
    obtain ⟨hfz104_0,hfz104_1,hfz104_2⟩:=ff3 BK227
    go_wp2_with (first | ((with_reducible refine gate_store (t:=3) (p:=19) rfl ?_);refine stQ 3 19 ((wr.setCell ⟨gb227,1,none⟩ (.int .i64 (wrap64 (x228001_1+1))))) ?_;intro w105 hw;have n0_:=sR hw HO_228000 BK227;have n1_:=sP1 hw BK227;have n2_:=sF hw BK228 NB228_227;have n3_:=sK hw HK GW227;have n4_:=sB hw HB GE227;clear hw HO_228000 BK227 BK228 HK HB;have HO_228000:=n0_;have BK227:=n1_;have BK228:=n2_;have HK:=n3_;have HB:=n4_;clear n0_ n1_ n2_ n3_ n4_))
    go_roundg k1
    case measure=>have:=HK1.out;omega
    case rel=>exact ⟨(wrap64 (x228001_1+1)),H',⟨by have:=HK1.out;omega⟩,⟨rr HO_228000⟩,⟨bk BK227⟩,⟨bk BK228⟩,⟨hk HK⟩,⟨hn HB⟩⟩
end Go.Proofs.Ytpbhkdamkbopkaa.GInfr
namespace Go.Proofs.Ytpbhkdamkbopkaa.GInfr
open Go.Proofs.Ytpbhkdamkbopkaa.Sq
open Go.RowKit Go.Proofs.YtpbhkdamkbopkaaW.PrintWords Go.Proofs.YtpbhkdamkbopkaaW.PrintLast Go.Proofs.YtpbhkdamkbopkaaW.PrintMore Go.Proofs.Ytpbhkdamkbopkaa.HuM
attribute [local go_sem] max2_int min2_int max_two min_two max_three min_three max_four min_four
set_option linter.unusedVariables false
set_option linter.unusedSimpArgs false
def celluloidref05_Length.l0:Nat → Int → Int → Int → Option (Int × Int)
 |0,_,_,_=>none
 |k+1,x5,x6,x7=>if x7 < x5 then (celluloidref05_Length.l0 k x5 (wrap64 (x6*2)) (wrap64 (x7+1))) else (some (wrap64 (x6+3),x5))
def celluloidref05_Length.f (k:Nat) (a0:Int):Option (Int × Int):=if (wrap64 (a0 - 257)) < 8 then (some (wrap64 ((wrap64 (a0 - 257))+3),0)) else (if (wrap64 (a0 - 257))=28 then (some (258,0)) else (celluloidref05_Length.l0 k (wrap64 ((wrap64 (Int.tdiv (wrap64 (a0 - 257)) 4)) - 1)) (wrap64 (4+(Int.tmod (wrap64 (a0 - 257)) 4))) 0))
theorem celluloidref05_Length.mono_l:∀ k,(∀ y0 y1 y2,LeO (celluloidref05_Length.l0 k y0 y1 y2) (celluloidref05_Length.l0 (k+1) y0 y1 y2))
 |0=>fun _ _ _ r h=>by simp [celluloidref05_Length.l0] at h
 |k+1=>by
  have ih0:=celluloidref05_Length.mono_l k
  ·intro y0 y1 y2
   unfold celluloidref05_Length.l0
   repeat' first
   |(with_reducible exact ih0 _ _ _)
   |(with_reducible exact LeO.refl _)
   |(with_reducible exact LeO.none _)
   |(with_reducible refine LeO.ite ?_ ?_)
   |(with_reducible refine LeO.bind ?_ (fun _=>?_))
   |exact ih0 _ _ _
   |exact LeO.none _
   |refine LeO.ite ?_ ?_
   |refine LeO.bind ?_ (fun _=>?_)
theorem celluloidref05_Length.mono:∀ a0 k,LeO (celluloidref05_Length.f k a0) (celluloidref05_Length.f (k+1) a0):=by
 intro a0 k
 have ih0:=celluloidref05_Length.mono_l k
 unfold celluloidref05_Length.f
 repeat' first
   |(with_reducible exact ih0 _ _ _)
   |(with_reducible exact LeO.refl _)
   |(with_reducible exact LeO.none _)
   |(with_reducible refine LeO.ite ?_ ?_)
   |(with_reducible refine LeO.bind ?_ (fun _=>?_))
   |exact ih0 _ _ _
   |exact LeO.none _
   |refine LeO.ite ?_ ?_
   |refine LeO.bind ?_ (fun _=>?_)
set_option maxHeartbeats 8000000 in
set_option maxRecDepth 100000 in
theorem celluloidref05_Length.calls (k : Nat) (a0 : Int) (r1 : Int) (r2 : Int) (w : World) (h : celluloidref05_Length.f k a0 = some (r1, r2)) :
  Calls Try.prog 68 #[.int .i64 a0] w fun e w'=>e=.returned (.tuple #[.int .i64 r1,.int .i64 r2])∧Drawn0 w w':=by
 have H:(if (wrap64 (a0 - 257)) < 8 then (some (wrap64 ((wrap64 (a0 - 257))+3),0)) else (if (wrap64 (a0 - 257))=28 then (some (258,0)) else (celluloidref05_Length.l0 k (wrap64 ((wrap64 (Int.tdiv (wrap64 (a0 - 257)) 4)) - 1)) (wrap64 (4+(Int.tmod (wrap64 (a0 - 257)) 4))) 0)))=some (r1,r2):=h
 clear h
 by_cases c2:(wrap64 (a0 - 257)) < 8
 ·rw [if_pos c2] at H
  have c2b0:decide ((wrap64 (a0 - 257)) < 8)=true:=decide_eq_true c2
  clear c2
  simp only [Option.some.injEq,Prod.mk.injEq] at H
  obtain ⟨rfl,rfl⟩:=H
  go_enter Try.func68,Try.ntmps68
  go_wp2
  go_ret2
  exact ⟨by first | rfl | (simp;done) | (simp [*];done),by repeat (first | exact Drawn0.refl _ | apply Drawn0.step)⟩
 ·rw [if_neg c2] at H
  have c2b0:decide ((wrap64 (a0 - 257)) < 8)=false:=decide_eq_false c2
  clear c2
  by_cases c3:(wrap64 (a0 - 257))=28
  ·rw [if_pos c3] at H
   have c3b0:((wrap64 (a0 - 257)) == 28)=true:=beq_iff_eq.mpr c3
   have c3b1:((wrap64 (a0 - 257)) != 28)=false:=bne_eq_false_iff_eq.mpr c3
   clear c3
   simp only [Option.some.injEq,Prod.mk.injEq] at H
   obtain ⟨rfl,rfl⟩:=H
   go_enter Try.func68,Try.ntmps68
   go_wp2
   go_ret2
   exact ⟨by first | rfl | (simp;done) | (simp [*];done),by repeat (first | exact Drawn0.refl _ | apply Drawn0.step)⟩
  ·rw [if_neg c3] at H
   have c3b0:((wrap64 (a0 - 257)) == 28)=false:=beq_eq_false_iff_ne.mpr c3
   have c3b1:((wrap64 (a0 - 257)) != 28)=true:=bne_iff_ne.mpr c3
   have H':=Aside0.mk H
   clear H
   go_enter Try.func68,Try.ntmps68
   go_wp2
   go_loopg [6,7] k (fun kq v6 v7 w'=>∃ (x6_1:Int) (x7_1:Int),v6=.int .i64 x6_1∧v7=.int .i64 x7_1∧Aside0 (celluloidref05_Length.l0 kq (wrap64 ((wrap64 (Int.tdiv (wrap64 (a0 - 257)) 4)) - 1)) x6_1 x7_1=some (r1,r2))∧Aside0 (kq≤k)∧Drawn0 w w')
   case atStart=>exact ⟨(wrap64 (4+(Int.tmod (wrap64 (a0 - 257)) 4))),(0),(by first | rfl | (simp;done) | (simp [*];done)),(by first | rfl | (simp;done) | (simp [*];done)),H',⟨Nat.le_refl _⟩,by repeat (first | exact Drawn0.refl _ | apply Drawn0.step)⟩
   case round =>
    clear H'
    try clear c2
    try clear c2b0
    try clear p2
    try clear c3
    try clear c3b0
    try clear c3b1
    obtain ⟨x6_1,x7_1,rfl,rfl,HA,HK1,⟨m1,rfl⟩⟩:=hrel
    cases gk with
    |zero=>exact absurd HA.out (by simp [celluloidref05_Length.l0])
    |succ k1 =>
     have H:=HA.out
     clear HA
     simp only [celluloidref05_Length.l0] at H
     by_cases c4:x7_1 < (wrap64 ((wrap64 (Int.tdiv (wrap64 (a0 - 257)) 4)) - 1))
     ·rw [if_pos c4] at H
      have c4b0:decide (x7_1 < (wrap64 ((wrap64 (Int.tdiv (wrap64 (a0 - 257)) 4)) - 1)))=true:=decide_eq_true c4
      clear c4
      have H':=Aside0.mk H
      clear H
      go_wp2
      go_roundg k1
      case measure=>have:=HK1.out;omega
      case rel=>exact ⟨(wrap64 (x6_1*2)),(wrap64 (x7_1+1)),(by first | rfl | (simp;done) | (simp [*];done)),(by first | rfl | (simp;done) | (simp [*];done)),H',⟨by have:=HK1.out;omega⟩,by repeat (first | exact Drawn0.refl _ | apply Drawn0.step)⟩
     ·rw [if_neg c4] at H
      have c4b0:decide (x7_1 < (wrap64 ((wrap64 (Int.tdiv (wrap64 (a0 - 257)) 4)) - 1)))=false:=decide_eq_false c4
      clear c4
      simp only [Option.some.injEq,Prod.mk.injEq] at H
      obtain ⟨rfl,rfl⟩:=H
      go_wp2
      go_ret2
      exact ⟨by first | rfl | (simp;done) | (simp [*];done),by repeat (first | exact Drawn0.refl _ | apply Drawn0.step)⟩
def celluloidref05_Distance.l0:Nat → Int → Int → Int → Option (Int × Int)
 |0,_,_,_=>none
 |k+1,x4,x5,x6=>if x6 < x4 then (celluloidref05_Distance.l0 k x4 (wrap64 (x5*2)) (wrap64 (x6+1))) else (some (wrap64 (x5+1),x4))
def celluloidref05_Distance.f (k:Nat) (a0:Int):Option (Int × Int):=if a0 < 4 then (some (wrap64 (a0+1),0)) else (celluloidref05_Distance.l0 k (wrap64 ((wrap64 (Int.tdiv a0 2)) - 1)) (wrap64 (2+(Int.tmod a0 2))) 0)
theorem celluloidref05_Distance.mono_l:∀ k,(∀ y0 y1 y2,LeO (celluloidref05_Distance.l0 k y0 y1 y2) (celluloidref05_Distance.l0 (k+1) y0 y1 y2))
 |0=>fun _ _ _ r h=>by simp [celluloidref05_Distance.l0] at h
 |k+1=>by
  have ih0:=celluloidref05_Distance.mono_l k
  ·intro y0 y1 y2
   unfold celluloidref05_Distance.l0
   repeat' first
   |(with_reducible exact ih0 _ _ _)
   |(with_reducible exact LeO.refl _)
   |(with_reducible exact LeO.none _)
   |(with_reducible refine LeO.ite ?_ ?_)
   |(with_reducible refine LeO.bind ?_ (fun _=>?_))
   |exact ih0 _ _ _
   |exact LeO.none _
   |refine LeO.ite ?_ ?_
   |refine LeO.bind ?_ (fun _=>?_)
theorem celluloidref05_Distance.mono:∀ a0 k,LeO (celluloidref05_Distance.f k a0) (celluloidref05_Distance.f (k+1) a0):=by
 intro a0 k
 have ih0:=celluloidref05_Distance.mono_l k
 unfold celluloidref05_Distance.f
 repeat' first
   |(with_reducible exact ih0 _ _ _)
   |(with_reducible exact LeO.refl _)
   |(with_reducible exact LeO.none _)
   |(with_reducible refine LeO.ite ?_ ?_)
   |(with_reducible refine LeO.bind ?_ (fun _=>?_))
   |exact ih0 _ _ _
   |exact LeO.none _
   |refine LeO.ite ?_ ?_
   |refine LeO.bind ?_ (fun _=>?_)
set_option maxHeartbeats 8000000 in
set_option maxRecDepth 100000 in
theorem celluloidref05_Distance.calls (k : Nat) (a0 : Int) (r1 : Int) (r2 : Int) (w : World) (h : celluloidref05_Distance.f k a0 = some (r1, r2)) :
  Calls Try.prog 70 #[.int .i64 a0] w fun e w'=>e=.returned (.tuple #[.int .i64 r1,.int .i64 r2])∧Drawn0 w w':=by
 have H:(if a0 < 4 then (some (wrap64 (a0+1),0)) else (celluloidref05_Distance.l0 k (wrap64 ((wrap64 (Int.tdiv a0 2)) - 1)) (wrap64 (2+(Int.tmod a0 2))) 0))=some (r1,r2):=h
 clear h
 by_cases c2:a0 < 4
 ·rw [if_pos c2] at H
  have c2b0:decide (a0 < 4)=true:=decide_eq_true c2
  clear c2
  simp only [Option.some.injEq,Prod.mk.injEq] at H
  obtain ⟨rfl,rfl⟩:=H
  go_enter Try.func70,Try.ntmps70
  go_wp2
  go_ret2
  exact ⟨by first | rfl | (simp;done) | (simp [*];done),by repeat (first | exact Drawn0.refl _ | apply Drawn0.step)⟩
 ·rw [if_neg c2] at H
  have c2b0:decide (a0 < 4)=false:=decide_eq_false c2
  clear c2
  have H':=Aside0.mk H
  clear H
  go_enter Try.func70,Try.ntmps70
  go_wp2
  go_loopg [5,6] k (fun kq v5 v6 w'=>∃ (x5_1:Int) (x6_1:Int),v5=.int .i64 x5_1∧v6=.int .i64 x6_1∧Aside0 (celluloidref05_Distance.l0 kq (wrap64 ((wrap64 (Int.tdiv a0 2)) - 1)) x5_1 x6_1=some (r1,r2))∧Aside0 (kq≤k)∧Drawn0 w w')
  case atStart=>exact ⟨(wrap64 (2+(Int.tmod a0 2))),(0),(by first | rfl | (simp;done) | (simp [*];done)),(by first | rfl | (simp;done) | (simp [*];done)),H',⟨Nat.le_refl _⟩,by repeat (first | exact Drawn0.refl _ | apply Drawn0.step)⟩
  case round =>
   clear H'
   try clear c2
   try clear c2b0
   try clear p2
   obtain ⟨x5_1,x6_1,rfl,rfl,HA,HK1,⟨m1,rfl⟩⟩:=hrel
   cases gk with
   |zero=>exact absurd HA.out (by simp [celluloidref05_Distance.l0])
   |succ k1 =>
    have H:=HA.out
    clear HA
    simp only [celluloidref05_Distance.l0] at H
    by_cases c3:x6_1 < (wrap64 ((wrap64 (Int.tdiv a0 2)) - 1))
    ·rw [if_pos c3] at H
     have c3b0:decide (x6_1 < (wrap64 ((wrap64 (Int.tdiv a0 2)) - 1)))=true:=decide_eq_true c3
     clear c3
     have H':=Aside0.mk H
     clear H
     go_wp2
     go_roundg k1
     case measure=>have:=HK1.out;omega
     case rel=>exact ⟨(wrap64 (x5_1*2)),(wrap64 (x6_1+1)),(by first | rfl | (simp;done) | (simp [*];done)),(by first | rfl | (simp;done) | (simp [*];done)),H',⟨by have:=HK1.out;omega⟩,by repeat (first | exact Drawn0.refl _ | apply Drawn0.step)⟩
    ·rw [if_neg c3] at H
     have c3b0:decide (x6_1 < (wrap64 ((wrap64 (Int.tdiv a0 2)) - 1)))=false:=decide_eq_false c3
     clear c3
     simp only [Option.some.injEq,Prod.mk.injEq] at H
     obtain ⟨rfl,rfl⟩:=H
     go_wp2
     go_ret2
     exact ⟨by first | rfl | (simp;done) | (simp [*];done),by repeat (first | exact Drawn0.refl _ | apply Drawn0.step)⟩
def celluloidref05_symbol.f (k:Nat) (a0:ByteArray) (l1_0:List Int) (a1_1:Int) (a1_2:Int) (l2:List Int):Option (Int × List Int × Int × Int):=if a1_2=0 then ((celluloidref04_Next.f k l2 a0 a1_1).bind fun bt248=>(some (bt248.1,l1_0,bt248.2.1,bt248.2.2))) else (some (0,l1_0,a1_1,a1_2))
set_option maxHeartbeats 8000000 in
set_option maxRecDepth 100000 in
theorem celluloidref05_symbol.calls (k : Nat) (a0 : ByteArray) (P1_0_ : Nat → Prop) (u9000_ : Value) (l1_0 : List Int) (a1_1 : Int) (a1_2 : Int) (A2 : Option Addr) (c2 : Nat) (l2 : List Int) (r1 : Int) (r2 : List Int) (r3 : Int) (r4 : Int) (w0 w : World) (hB : Below w0.heap.size w0 w) (ho1_0 : Kd.R (Kd.int .u8) 5 w w0.heap.size P1_0_ u9000_ l1_0) (hr2 : ∀ W_, Kept w W_ (fun k_ => P1_0_ k_) → Kd.C (Kd.int .i64) W_ A2 l2.length l2) (hc2 : l2.length ≤ c2) (h : celluloidref05_symbol.f k a0 l1_0 a1_1 a1_2 l2 = some (r1, r2, r3, r4)) :
  Calls Try.prog 101 #[.string a0,.agg #[u9000_,.int .i64 a1_1,.int .i64 a1_2],.slice A2 l2.length c2] w fun e w'=>∃ v1_:Value,e=.returned (.tuple #[.int .i64 r1,.agg #[v1_,.int .i64 r3,.int .i64 r4]])∧Kd.R (Kd.int .u8) 5 w' w0.heap.size (fun k_=>(P1_0_ k_ ∨ w.heap.size≤k_)) v1_ r2∧Below w0.heap.size w0 w'∧Kept w w' (fun k_=>P1_0_ k_):=by
 have hu115:=Try.underlying115
 have HO1_0:=Aside0.mk (show Kd.R (Kd.int .u8) 5 w w0.heap.size (fun k_=>(P1_0_ k_ ∨ w.heap.size≤k_)) u9000_ l1_0 from Kd.R_mono ho1_0 (fun k_ hk=>(.inl hk)))
 have HR2:=Aside0.mk hr2
 have HC2:=Aside0.mk hc2
 clear hr2 hc2
 have HK:=Aside0.mk (Kept.refl w (fun k_=>P1_0_ k_))
 have HW0:=Aside0.mk hB.size
 have HB:=Aside0.mk hB
 clear hB
 have H:(if a1_2=0 then ((celluloidref04_Next.f k l2 a0 a1_1).bind fun bt248=>(some (bt248.1,l1_0,bt248.2.1,bt248.2.2))) else (some (0,l1_0,a1_1,a1_2)))=some (r1,r2,r3,r4):=h
 clear h
 by_cases c4:a1_2=0
 ·rw [if_pos c4] at H
  have c4b0:(a1_2 == 0)=true:=beq_iff_eq.mpr c4
  have c4b1:(a1_2 != 0)=false:=bne_eq_false_iff_eq.mpr c4
  clear c4
  replace H:=Option.bind_eq_some_iff.mp H
  obtain ⟨⟨t248,t249,t250⟩,A50,H⟩:=H
  replace H:(some (t248,l1_0,t249,t250))=some (r1,r2,r3,r4):=H
  have A5:=Aside0.mk A50
  clear A50
  simp only [Option.some.injEq,Prod.mk.injEq] at H
  obtain ⟨rfl,rfl,rfl,rfl⟩:=H
  obtain ⟨Ao6,co6,eo6⟩:=Kd.R_slice HO1_0.out
  subst eo6
  go_enter Try.func101,Try.ntmps101
  try go_wp2_with (first | ((with_reducible refine gate_dst (N:=4) rfl ?_);refine boxQ 4 #[.slice Ao6 l1_0.length co6,.int .i64 a1_1,.int .i64 a1_2] 115 ?_;intro gb246 hg w7 hbox hb;have n0_:=rk HO1_0 hb;have n1_:=Aside0.mk (Kept.below (S:=(fun k_=>P1_0_ k_)) (by repeat (first | (with_reducible first | exact HK.out | apply Kept.alloc | apply Kept.drewN | apply Kept.drew) | exact HK.out)) hb);have n2_:=hs HB hb;have n3_:=Aside0.mk (hbox);have n4_:=Aside0.mk ((by rw [hg];exact (by first | exact HK.out.1 | exact (show Kept w _ (fun k_=>P1_0_ k_) from by repeat (first | (with_reducible first | exact HK.out | apply Kept.alloc | apply Kept.drewN | apply Kept.drew) | exact HK.out)).1):w.heap.size≤gb246));have n5_:=gs HB hg;clear HO1_0;clear HK;clear HB;have HO1_0:=n0_;have HK:=n1_;have HB:=n2_;have BK246:=n3_;have GW246:=n4_;have GE246:=n5_;clear n0_ n1_ n2_ n3_ n4_ n5_;clear hb hbox hg) | ((with_reducible refine gate_dst (N:=7) rfl ?_);refine boxQ 7 #[.slice none 0 0,.int .i64 0,.int .i64 0] 115 ?_;intro gb247 hg w8 hbox hb;have n0_:=rk HO1_0 hb;have n1_:=bb BK246 hb;have n2_:=Aside0.mk (Kept.below (S:=(fun k_=>P1_0_ k_)) (by repeat (first | (with_reducible first | exact HK.out | apply Kept.alloc | apply Kept.drewN | apply Kept.drew | refine Kept.setCell ?_ (.inr GW246.out) _) | exact HK.out)) hb);have n3_:=hs HB hb;have n4_:=Aside0.mk (hbox);have n5_:=Aside0.mk ((by rw [hg];exact (by first | exact HK.out.1 | exact (show Kept w _ (fun k_=>P1_0_ k_) from by repeat (first | (with_reducible first | exact HK.out | apply Kept.alloc | apply Kept.drewN | apply Kept.drew | refine Kept.setCell ?_ (.inr GW246.out) _) | exact HK.out)).1):w.heap.size≤gb247));have n6_:=gs HB hg;have n7_:=nl BK246 hg;have n8_:=ng BK246 hg;clear HO1_0;clear BK246;clear HK;clear HB;have HO1_0:=n0_;have BK246:=n1_;have HK:=n2_;have HB:=n3_;have BK247:=n4_;have GW247:=n5_;have GE247:=n6_;have NB246_247:=n7_;have NB247_246:=n8_;clear n0_ n1_ n2_ n3_ n4_ n5_ n6_ n7_ n8_;clear hb hbox hg;have hnb9:=NB246_247.out;have hnc9:=NB247_246.out;obtain ⟨hcz10_0,hcz10_1,hcz10_2⟩:=cc3 BK246;obtain ⟨hfz10_0,hfz10_1,hfz10_2⟩:=ff3 BK246) | ((with_reducible refine gate_callee (f:=31) rfl ?_);refine goesQ (some 20) Try.func31 #[.slice A2 l2.length c2,.string a0,.int .i64 a1_1] ?_;(with_reducible refine (celluloidref04_Next.calls k _ _ l2 a0 a1_1 t248 t249 t250 _ ?side1 ?side2 A5.out).mono ?_);(case side1=>exact Kd.C_kept_now HR2.out (by repeat (first | (with_reducible first | exact HK.out | apply Kept.alloc | apply Kept.drewN | apply Kept.drew | refine Kept.setCell ?_ (.inr GW246.out) _ | refine Kept.setCell ?_ (.inr GW247.out) _) | exact HK.out)));(case side2=>exact HC2.out);rintro e w11 ⟨rfl,hb⟩;refine ⟨_,rfl,?_⟩;have n0_:=rk HO1_0 hb;have n1_:=bb BK246 hb;have n2_:=bb BK247 hb;have n3_:=Aside0.mk (Kept.below (S:=(fun k_=>P1_0_ k_)) (by repeat (first | (with_reducible first | exact HK.out | apply Kept.alloc | apply Kept.drewN | apply Kept.drew | refine Kept.setCell ?_ (.inr GW246.out) _ | refine Kept.setCell ?_ (.inr GW247.out) _) | exact HK.out)) hb);have n4_:=hs HB hb;clear HO1_0;clear BK246;clear BK247;clear HK;clear HB;have HO1_0:=n0_;have BK246:=n1_;have BK247:=n2_;have HK:=n3_;have HB:=n4_;clear n0_ n1_ n2_ n3_ n4_;(try clear hb);obtain ⟨hcz12_0,hcz12_1,hcz12_2⟩:=cc3 BK246;obtain ⟨hfz12_0,hfz12_1,hfz12_2⟩:=ff3 BK246))
  have n0_:Aside0 (Kd.R (Kd.int .u8) 5 ((w11.setCell ⟨gb246,1,none⟩ (.int .i64 t249)).setCell ⟨gb246,2,none⟩ (.int .i64 t250)) w0.heap.size (fun k_=>(P1_0_ k_ ∨ w.heap.size≤k_)) (.slice Ao6 l1_0.length co6) l1_0):=⟨by (with_reducible repeat (first | apply Kd.R_alloc | apply Kd.R_drewN | apply Kd.R_drew));exact Kd.R_mono (Kd.R_far (p:=⟨gb246,2,none⟩) (Kd.R_far (p:=⟨gb246,1,none⟩) (Kd.R_types HO1_0.out BK246.out (by decide)) (fun _ hk=>hk.2) (.int .i64 t249)) (fun _ hk=>hk.2) (.int .i64 t250)) (fun _ hk=>hk.1)⟩
  have n1_:Aside0 (((w11.setCell ⟨gb246,1,none⟩ (.int .i64 t249)).setCell ⟨gb246,2,none⟩ (.int .i64 t250)).heap[gb246]?=some (.cells #[.slice Ao6 l1_0.length co6,.int .i64 t249,.int .i64 t250] 115 (0,0))):=⟨by (with_reducible repeat (first | refine blk_drewN ?_ _ | refine blk_drew ?_ | refine blk_alloc ?_ _));refine blk_put (cs:=#[.slice Ao6 l1_0.length co6,.int .i64 t249,.int .i64 a1_2]) ?_ 2 _ rfl;(with_reducible repeat (first | refine blk_drewN ?_ _ | refine blk_drew ?_ | refine blk_alloc ?_ _));refine blk_put (cs:=#[.slice Ao6 l1_0.length co6,.int .i64 a1_1,.int .i64 a1_2]) ?_ 1 _ rfl;(with_reducible repeat (first | refine blk_drewN ?_ _ | refine blk_drew ?_ | refine blk_alloc ?_ _));exact BK246.out⟩
  have n2_:Aside0 (((w11.setCell ⟨gb246,1,none⟩ (.int .i64 t249)).setCell ⟨gb246,2,none⟩ (.int .i64 t250)).heap[gb247]?=some (.cells #[.slice none 0 0,.int .i64 0,.int .i64 0] 115 (0,0))):=⟨by (with_reducible repeat (first | refine blk_drewN ?_ _ | refine blk_drew ?_ | refine blk_alloc ?_ _));refine blk_far ?_ NB247_246.out _;(with_reducible repeat (first | refine blk_drewN ?_ _ | refine blk_drew ?_ | refine blk_alloc ?_ _));refine blk_far ?_ NB247_246.out _;(with_reducible repeat (first | refine blk_drewN ?_ _ | refine blk_drew ?_ | refine blk_alloc ?_ _));exact BK247.out⟩
  have n3_:Aside0 (Kept w ((w11.setCell ⟨gb246,1,none⟩ (.int .i64 t249)).setCell ⟨gb246,2,none⟩ (.int .i64 t250)) (fun k_=>P1_0_ k_)):=⟨by repeat (first | (with_reducible first | exact HK.out | apply Kept.alloc | apply Kept.drewN | apply Kept.drew | refine Kept.setCell ?_ (.inr GW246.out) _ | refine Kept.setCell ?_ (.inr GW247.out) _) | exact HK.out)⟩
  have n4_:Aside0 (Below w0.heap.size w0 ((w11.setCell ⟨gb246,1,none⟩ (.int .i64 t249)).setCell ⟨gb246,2,none⟩ (.int .i64 t250))):=⟨hn HB⟩
  (try clear HO1_0)
  (try clear BK246)
  (try clear BK247)
  (try clear HK)
  (try clear HB)
  generalize ((w11.setCell ⟨gb246,1,none⟩ (.int .i64 t249)).setCell ⟨gb246,2,none⟩ (.int .i64 t250))=w13 at n0_ n1_ n2_ n3_ n4_ ⊢
  have HO1_0:=n0_
  have BK246:=n1_
  have BK247:=n2_
  have HK:=n3_
  have HB:=n4_
  clear n0_ n1_ n2_ n3_ n4_
  have n0_:=Aside0.mk (Kd.R_drew HO1_0.out)
  have n1_:=Aside0.mk (blk_drew BK246.out)
  have n2_:=Aside0.mk (blk_drew BK247.out)
  have n3_:=Aside0.mk (Kept.drew HK.out)
  have n4_:=Aside0.mk (below_drew1 HB.out)
  clear HO1_0
  clear BK246
  clear BK247
  clear HK
  clear HB
  have HO1_0:=n0_
  have BK246:=n1_
  have BK247:=n2_
  have HK:=n3_
  have HB:=n4_
  clear n0_ n1_ n2_ n3_ n4_
  refine start_ (n:=4) (S:=fun w'=>w'.cell? ⟨gb246,0,none⟩=some (.slice Ao6 l1_0.length co6)∧w'.cell? ⟨gb246,1,none⟩=some (.int .i64 t249)∧w'.cell? ⟨gb246,2,none⟩=some (.int .i64 t250)) (ds:=[]) #[false,false,false,false] (by kernel_rfl) rfl rfl ⟨(blk_cell BK246.out 0).trans rfl,(blk_cell BK246.out 1).trans rfl,(blk_cell BK246.out 2).trans rfl⟩ (fun hHeld=>?_)
  generalize w13.drew=w14 at HO1_0 BK246 BK247 HK HB hHeld ⊢
  refine pureQ 0 (some 28) (tk 1 3) (by kernel_rfl) ?_
  refine pureQ 2 (some 6) #[true,false,true,false] (by kernel_rfl) ?_
  refine take_ (i:=1) (N:=some 29) (v:=?_) (a':=?_) (tk 3 1) rfl rfl (by kernel_rfl) (fun _ _ _ h=>h) (Or.inl ⟨by rfl,?_⟩) hHeld ?_ ?_
  rotate_left
  ·rintro w' ⟨s0,s1,s2⟩
   go_simp
   with_reducible rfl
  rotate_left
  ·simp only [Act.put,List.setIfInBounds_toArray,List.set_cons_zero,List.set_cons_succ,i64_w,i32_w]
   rfl
  refine one_ (i:=3) (N:=none) (tk 4 0) rfl rfl (by kernel_rfl) (by decide) (fun K hK=>?_)
  have hs15:w14.cell? ⟨gb247,0,none⟩=some (.slice none 0 0):=(blk_cell BK247.out 0).trans rfl
  have hfs15:=blk_frozen BK247.out 0
  have hns15_0:=NB246_247.out
  have hms15_0:=NB247_246.out
  have hs16:w14.cell? ⟨gb247,1,none⟩=some (.int .i64 0):=(blk_cell BK247.out 1).trans rfl
  have hfs16:=blk_frozen BK247.out 1
  have hns16_0:=NB246_247.out
  have hms16_0:=NB247_246.out
  have hs17:w14.cell? ⟨gb247,2,none⟩=some (.int .i64 0):=(blk_cell BK247.out 2).trans rfl
  have hfs17:=blk_frozen BK247.out 2
  have hns17_0:=NB246_247.out
  have hms17_0:=NB247_246.out
  refine skip_ (w1:=?_) (by rfl) rfl ?_ ?_
  rotate_left
  ·go_simp
   rfl
  refine hK.out _ _ ⟨((cell_far (p:=⟨gb247,_,none⟩) NB246_247.out _).trans (((cell_far (p:=⟨gb247,_,none⟩) NB246_247.out _).trans (((cell_far (p:=⟨gb247,_,none⟩) NB246_247.out _).trans (hHeld.1)))))),((cell_far (p:=⟨gb247,_,none⟩) NB246_247.out _).trans (((cell_far (p:=⟨gb247,_,none⟩) NB246_247.out _).trans (((cell_far (p:=⟨gb247,_,none⟩) NB246_247.out _).trans (hHeld.2.1)))))),((cell_far (p:=⟨gb247,_,none⟩) NB246_247.out _).trans (((cell_far (p:=⟨gb247,_,none⟩) NB246_247.out _).trans (((cell_far (p:=⟨gb247,_,none⟩) NB246_247.out _).trans (hHeld.2.2))))))⟩ (fun hHeld=>?_)
  clear hK K
  refine done_ (by kernel_rfl) ?_
  try go_wp2
  refine bodyPost_ret (results_tc rfl _ _ gb247 115 #[.slice Ao6 l1_0.length co6,.int .i64 t249,.int .i64 t250] (0,0) _ rfl (bq BK247) Try.underlying115 rfl (by kernel_rfl)) rfl ?_
  exact ⟨_,by first | rfl | (simp [errW_none,errW_some] <;> rfl) | (simp [*,errW_none,errW_some] <;> rfl),by (with_reducible repeat (first | apply Kd.R_alloc | apply Kd.R_drewN | apply Kd.R_drew));exact Kd.R_mono (Kd.R_far (p:=⟨gb247,2,none⟩) (Kd.R_far (p:=⟨gb247,1,none⟩) (Kd.R_far (p:=⟨gb247,0,none⟩) (Kd.R_types HO1_0.out BK247.out (by decide)) (fun _ hk=>hk.2) (.slice Ao6 l1_0.length co6)) (fun _ hk=>hk.2) (.int .i64 t249)) (fun _ hk=>hk.2) (.int .i64 t250)) (fun _ hk=>hk.1),hn HB,by repeat (first | (with_reducible first | exact HK.out | apply Kept.alloc | apply Kept.drewN | apply Kept.drew | refine Kept.setCell ?_ (.inr GW246.out) _ | refine Kept.setCell ?_ (.inr GW247.out) _) | exact HK.out)⟩
 ·rw [if_neg c4] at H
  have c4b0:(a1_2 == 0)=false:=beq_eq_false_iff_ne.mpr c4
  have c4b1:(a1_2 != 0)=true:=bne_iff_ne.mpr c4
  simp only [Option.some.injEq,Prod.mk.injEq] at H
  obtain ⟨rfl,rfl,rfl,rfl⟩:=H
  obtain ⟨Ao18,co18,eo18⟩:=Kd.R_slice HO1_0.out
  subst eo18
  go_enter Try.func101,Try.ntmps101
  try go_wp2_with (first | ((with_reducible refine gate_dst (N:=4) rfl ?_);refine boxQ 4 #[.slice Ao18 l1_0.length co18,.int .i64 a1_1,.int .i64 a1_2] 115 ?_;intro gb246 hg w19 hbox hb;have n0_:=rk HO1_0 hb;have n1_:=Aside0.mk (Kept.below (S:=(fun k_=>P1_0_ k_)) (by repeat (first | (with_reducible first | exact HK.out | apply Kept.alloc | apply Kept.drewN | apply Kept.drew) | exact HK.out)) hb);have n2_:=hs HB hb;have n3_:=Aside0.mk (hbox);have n4_:=Aside0.mk ((by rw [hg];exact (by first | exact HK.out.1 | exact (show Kept w _ (fun k_=>P1_0_ k_) from by repeat (first | (with_reducible first | exact HK.out | apply Kept.alloc | apply Kept.drewN | apply Kept.drew) | exact HK.out)).1):w.heap.size≤gb246));have n5_:=gs HB hg;clear HO1_0;clear HK;clear HB;have HO1_0:=n0_;have HK:=n1_;have HB:=n2_;have BK246:=n3_;have GW246:=n4_;have GE246:=n5_;clear n0_ n1_ n2_ n3_ n4_ n5_;clear hb hbox hg) | ((with_reducible refine gate_dst (N:=7) rfl ?_);refine boxQ 7 #[.slice none 0 0,.int .i64 0,.int .i64 0] 115 ?_;intro gb247 hg w20 hbox hb;have n0_:=rk HO1_0 hb;have n1_:=bb BK246 hb;have n2_:=Aside0.mk (Kept.below (S:=(fun k_=>P1_0_ k_)) (by repeat (first | (with_reducible first | exact HK.out | apply Kept.alloc | apply Kept.drewN | apply Kept.drew | refine Kept.setCell ?_ (.inr GW246.out) _) | exact HK.out)) hb);have n3_:=hs HB hb;have n4_:=Aside0.mk (hbox);have n5_:=Aside0.mk ((by rw [hg];exact (by first | exact HK.out.1 | exact (show Kept w _ (fun k_=>P1_0_ k_) from by repeat (first | (with_reducible first | exact HK.out | apply Kept.alloc | apply Kept.drewN | apply Kept.drew | refine Kept.setCell ?_ (.inr GW246.out) _) | exact HK.out)).1):w.heap.size≤gb247));have n6_:=gs HB hg;have n7_:=nl BK246 hg;have n8_:=ng BK246 hg;clear HO1_0;clear BK246;clear HK;clear HB;have HO1_0:=n0_;have BK246:=n1_;have HK:=n2_;have HB:=n3_;have BK247:=n4_;have GW247:=n5_;have GE247:=n6_;have NB246_247:=n7_;have NB247_246:=n8_;clear n0_ n1_ n2_ n3_ n4_ n5_ n6_ n7_ n8_;clear hb hbox hg;have hnb21:=NB246_247.out;have hnc21:=NB247_246.out;obtain ⟨hcz22_0,hcz22_1,hcz22_2⟩:=cc3 BK246;obtain ⟨hfz22_0,hfz22_1,hfz22_2⟩:=ff3 BK246))
  have n0_:=Aside0.mk (Kd.R_drew HO1_0.out)
  have n1_:=Aside0.mk (blk_drew BK246.out)
  have n2_:=Aside0.mk (blk_drew BK247.out)
  have n3_:=Aside0.mk (Kept.drew HK.out)
  have n4_:=Aside0.mk (below_drew1 HB.out)
  clear HO1_0
  clear BK246
  clear BK247
  clear HK
  clear HB
  have HO1_0:=n0_
  have BK246:=n1_
  have BK247:=n2_
  have HK:=n3_
  have HB:=n4_
  clear n0_ n1_ n2_ n3_ n4_
  refine start_ (n:=3) (S:=fun w'=>w'.cell? ⟨gb246,0,none⟩=some (.slice Ao18 l1_0.length co18)∧w'.cell? ⟨gb246,1,none⟩=some (.int .i64 a1_1)∧w'.cell? ⟨gb246,2,none⟩=some (.int .i64 a1_2)) (ds:=[]) #[false,false,false] (by kernel_rfl) rfl rfl ⟨(blk_cell BK246.out 0).trans rfl,(blk_cell BK246.out 1).trans rfl,(blk_cell BK246.out 2).trans rfl⟩ (fun hHeld=>?_)
  generalize w20.drew=w23 at HO1_0 BK246 BK247 HK HB hHeld ⊢
  refine pureQ 1 (some 6) #[false,true,false] (by kernel_rfl) ?_
  refine take_ (i:=0) (N:=some 14) (v:=?_) (a':=?_) (tk 2 1) rfl rfl (by kernel_rfl) (fun _ _ _ h=>h) (Or.inl ⟨by rfl,?_⟩) hHeld ?_ ?_
  rotate_left
  ·rintro w' ⟨s0,s1,s2⟩
   go_simp
   with_reducible rfl
  rotate_left
  ·simp only [Act.put,List.setIfInBounds_toArray,List.set_cons_zero,List.set_cons_succ,i64_w,i32_w]
   rfl
  refine one_ (i:=2) (N:=none) (tk 3 0) rfl rfl (by kernel_rfl) (by decide) (fun K hK=>?_)
  have hs24:w23.cell? ⟨gb247,0,none⟩=some (.slice none 0 0):=(blk_cell BK247.out 0).trans rfl
  have hfs24:=blk_frozen BK247.out 0
  have hns24_0:=NB246_247.out
  have hms24_0:=NB247_246.out
  have hs25:w23.cell? ⟨gb247,1,none⟩=some (.int .i64 0):=(blk_cell BK247.out 1).trans rfl
  have hfs25:=blk_frozen BK247.out 1
  have hns25_0:=NB246_247.out
  have hms25_0:=NB247_246.out
  have hs26:w23.cell? ⟨gb247,2,none⟩=some (.int .i64 0):=(blk_cell BK247.out 2).trans rfl
  have hfs26:=blk_frozen BK247.out 2
  have hns26_0:=NB246_247.out
  have hms26_0:=NB247_246.out
  refine skip_ (w1:=?_) (by rfl) rfl ?_ ?_
  rotate_left
  ·go_simp
   rfl
  refine hK.out _ _ ⟨((cell_far (p:=⟨gb247,_,none⟩) NB246_247.out _).trans (((cell_far (p:=⟨gb247,_,none⟩) NB246_247.out _).trans (((cell_far (p:=⟨gb247,_,none⟩) NB246_247.out _).trans (hHeld.1)))))),((cell_far (p:=⟨gb247,_,none⟩) NB246_247.out _).trans (((cell_far (p:=⟨gb247,_,none⟩) NB246_247.out _).trans (((cell_far (p:=⟨gb247,_,none⟩) NB246_247.out _).trans (hHeld.2.1)))))),((cell_far (p:=⟨gb247,_,none⟩) NB246_247.out _).trans (((cell_far (p:=⟨gb247,_,none⟩) NB246_247.out _).trans (((cell_far (p:=⟨gb247,_,none⟩) NB246_247.out _).trans (hHeld.2.2))))))⟩ (fun hHeld=>?_)
  clear hK K
  refine done_ (by kernel_rfl) ?_
  try go_wp2
  refine bodyPost_ret (results_tc rfl _ _ gb247 115 #[.slice Ao18 l1_0.length co18,.int .i64 a1_1,.int .i64 a1_2] (0,0) _ rfl (bq BK247) Try.underlying115 rfl (by kernel_rfl)) rfl ?_
  exact ⟨_,by first | rfl | (simp [errW_none,errW_some] <;> rfl) | (simp [*,errW_none,errW_some] <;> rfl),by (with_reducible repeat (first | apply Kd.R_alloc | apply Kd.R_drewN | apply Kd.R_drew));exact Kd.R_mono (Kd.R_far (p:=⟨gb247,2,none⟩) (Kd.R_far (p:=⟨gb247,1,none⟩) (Kd.R_far (p:=⟨gb247,0,none⟩) (Kd.R_types HO1_0.out BK247.out (by decide)) (fun _ hk=>hk.2) (.slice Ao18 l1_0.length co18)) (fun _ hk=>hk.2) (.int .i64 a1_1)) (fun _ hk=>hk.2) (.int .i64 a1_2)) (fun _ hk=>hk.1),hn HB,by repeat (first | (with_reducible first | exact HK.out | apply Kept.alloc | apply Kept.drewN | apply Kept.drew | refine Kept.setCell ?_ (.inr GW246.out) _ | refine Kept.setCell ?_ (.inr GW247.out) _) | exact HK.out)⟩
mutual
def celluloidref05_codes.j0:Nat → ByteArray → Int → List Int → List Int → List Int → Int → Int → Option (List Int × Int × Int)
 |0,_,_,_,_,_,_,_=>none
 |k+1,x0,x2,x3,x4,x252000,x252001,x252002=>if x252002=0 then ((celluloidref04_Error.f k x4).bind fun t254=>(celluloidref05_codes.j1 k x0 x2 x3 x4 x252000 x252001 t254)) else (celluloidref05_codes.j1 k x0 x2 x3 x4 x252000 x252001 x252002)
def celluloidref05_codes.j1:Nat → ByteArray → Int → List Int → List Int → List Int → Int → Int → Option (List Int × Int × Int)
 |0,_,_,_,_,_,_,_=>none
 |k+1,x0,x2,x3,x4,x252000,x252001,x252002=>celluloidref05_codes.l0 k x0 x2 x3 x4 x252000 x252001 x252002
def celluloidref05_codes.l0:Nat → ByteArray → Int → List Int → List Int → List Int → Int → Int → Option (List Int × Int × Int)
 |0,_,_,_,_,_,_,_=>none
 |k+1,x0,x2,x3,x4,x252000,x252001,x252002=>if x252002=0 then ((celluloidref05_symbol.f k x0 x252000 x252001 x252002 x3).bind fun bt255=>(if bt255.2.2.2=0 then (celluloidref05_codes.j3 k x0 x2 x3 x4 bt255.1 (bt255.1 == 256) bt255.2.1 bt255.2.2.1 bt255.2.2.2) else (celluloidref05_codes.j3 k x0 x2 x3 x4 bt255.1 true bt255.2.1 bt255.2.2.1 bt255.2.2.2))) else (some (x252000,x252001,x252002))
def celluloidref05_codes.j3:Nat → ByteArray → Int → List Int → List Int → Int → Bool → List Int → Int → Int → Option (List Int × Int × Int)
 |0,_,_,_,_,_,_,_,_,_=>none
 |k+1,x0,x2,x3,x4,x11,x45,x252000,x252001,x252002=>if x45=true then (some (x252000,x252001,x252002)) else (if x11 < 256 then (if (x252000.length:Int) ≥ x2 then (some (x252000,x252001,7)) else (if x252000.length < 140737488355328 then (celluloidref05_codes.l0 k x0 x2 x3 x4 (x252000 ++ [(x11) % 256]) x252001 x252002) else (none))) else (if x11 > 285 then (some (x252000,x252001,3)) else ((celluloidref05_Length.f k x11).bind fun bt264=>((celluloidref05_number.f k x0 x252000 x252001 x252002 bt264.2).bind fun bt266=>((celluloidref05_symbol.f k x0 bt266.2.1 bt266.2.2.1 bt266.2.2.2 x4).bind fun bt272=>(if bt272.2.2.2=0 then (celluloidref05_codes.j4 k x0 x2 x3 x4 (wrap64 (bt264.1+bt266.1)) bt272.1 (decide (bt272.1 > 29)) bt272.2.1 bt272.2.2.1 bt272.2.2.2) else (celluloidref05_codes.j4 k x0 x2 x3 x4 (wrap64 (bt264.1+bt266.1)) bt272.1 false bt272.2.1 bt272.2.2.1 bt272.2.2.2)))))))
def celluloidref05_codes.j4:Nat → ByteArray → Int → List Int → List Int → Int → Int → Bool → List Int → Int → Int → Option (List Int × Int × Int)
 |0,_,_,_,_,_,_,_,_,_,_=>none
 |k+1,x0,x2,x3,x4,x11,x12,x95,x252000,x252001,x252002=>if x95=true then (celluloidref05_codes.j5 k x0 x2 x3 x4 x11 x12 x252000 x252001 3) else (celluloidref05_codes.j5 k x0 x2 x3 x4 x11 x12 x252000 x252001 x252002)
def celluloidref05_codes.j5:Nat → ByteArray → Int → List Int → List Int → Int → Int → List Int → Int → Int → Option (List Int × Int × Int)
 |0,_,_,_,_,_,_,_,_,_=>none
 |k+1,x0,x2,x3,x4,x11,x12,x252000,x252001,x252002=>if x252002=0 then ((celluloidref05_Distance.f k x12).bind fun bt278=>((celluloidref05_number.f k x0 x252000 x252001 x252002 bt278.2).bind fun bt280=>(if bt280.2.2.2=0 then (if (wrap64 (bt278.1+bt280.1)) > (bt280.2.1.length:Int) then (some (bt280.2.1,bt280.2.2.1,3)) else (if (wrap64 ((bt280.2.1.length:Int)+x11)) > x2 then (some (bt280.2.1,bt280.2.2.1,7)) else (celluloidref05_codes.l1 k x0 x2 x3 x4 x11 (wrap64 (bt278.1+bt280.1)) 0 bt280.2.1 bt280.2.2.1 bt280.2.2.2))) else (some (bt280.2.1,bt280.2.2.1,bt280.2.2.2))))) else (some (x252000,x252001,x252002))
def celluloidref05_codes.l1:Nat → ByteArray → Int → List Int → List Int → Int → Int → Int → List Int → Int → Int → Option (List Int × Int × Int)
 |0,_,_,_,_,_,_,_,_,_,_=>none
 |k+1,x0,x2,x3,x4,x11,x12,x16,x252000,x252001,x252002=>if x16 < x11 then (if 0≤(wrap64 ((x252000.length:Int) - x12)) then (if (wrap64 ((x252000.length:Int) - x12)) < (x252000.length:Int) then (if x252000.length < 140737488355328 then (celluloidref05_codes.l1 k x0 x2 x3 x4 x11 x12 (wrap64 (x16+1)) (x252000 ++ [rd x252000 (wrap64 ((x252000.length:Int) - x12))]) x252001 x252002) else (none)) else (none)) else (none)) else (celluloidref05_codes.l0 k x0 x2 x3 x4 x252000 x252001 x252002)
end
def celluloidref05_codes.f (k:Nat) (a0:ByteArray) (l1_0:List Int) (a1_1:Int) (a1_2:Int) (a2:Int) (l3:List Int) (l4:List Int):Option (List Int × Int × Int):=if a1_2=0 then ((celluloidref04_Error.f k l3).bind fun t253=>(celluloidref05_codes.j0 k a0 a2 l3 l4 l1_0 a1_1 t253)) else (celluloidref05_codes.j0 k a0 a2 l3 l4 l1_0 a1_1 a1_2)
def celluloidref05_codes.T41:Bool × List (List Nat × List Nat):=(true,[([],[]),([0],[0]),([],[]),([2],[2]),([],[]),([4],[4]),([5],[5]),([],[]),([6,7],[6,7]),([3,8],[3,8]),([9],[9]),([10],[10]),([1,11],[1,11]),([0,1,2,3,4,5,6,7,8,9,10,11,12],[]),([13,12,12,0,1,2,3,4,5,6,7,8,9,10,11,12],[12,13])])
def celluloidref05_codes.B41:List Nat:=[0,1,0,4,0,16,48,0,240,508,1020,2044,4095,8191,16383]
theorem celluloidref05_codes.tab41:rtab .any (opsOf Try.f75 41)=celluloidref05_codes.T41:=by kernel_rfl
theorem celluloidref05_codes.bits41:waitsOk celluloidref05_codes.T41.2 celluloidref05_codes.B41=true:=by kernel_rfl
end Go.Proofs.Ytpbhkdamkbopkaa.GInfr
