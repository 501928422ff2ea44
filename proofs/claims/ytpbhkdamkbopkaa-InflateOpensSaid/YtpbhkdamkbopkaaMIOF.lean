/- Parts of the proof, glued by a program of this session (wip/tools/claimfit.py). -/
import Derived.Test.YtpbhkdamkbopkaaMIOE
namespace Go.Proofs.Ytpbhkdamkbopkaa.GInfr
open Go.Proofs.Ytpbhkdamkbopkaa.Sq
open Go.RowKit Go.Proofs.YtpbhkdamkbopkaaW.PrintWords Go.Proofs.YtpbhkdamkbopkaaW.PrintLast Go.Proofs.YtpbhkdamkbopkaaW.PrintMore Go.Proofs.Ytpbhkdamkbopkaa.HuM Go.Proofs.Ytpbhkdamkbopkaa.LenP
attribute [local go_sem] max2_int min2_int max_two min_two max_three min_three max_four min_four
set_option linter.unusedVariables false
set_option linter.unusedSimpArgs false
/-- A block of the kind 2: its lengths,then its codes. -/
def celluloidref05_lencodes.f (k:Nat) (a0:ByteArray) (l1_0:List Int) (a1_1 a1_2 a2:Int):Option (List Int × Int × Int):=(celluloidref05_lengths.f k a0 l1_0 a1_1 a1_2).bind fun q=>celluloidref05_codes.f k a0 q.2.2.1 q.2.2.2.1 q.2.2.2.2 a2 (q.1.take (q.2.1.headD 0).toNat) (q.1.drop (q.2.1.headD 0).toNat)
/-- What lengths tells,its two cuts named. -/
def LenQ (P:Nat → Prop) (w0 w:World) (la lb r3:List Int) (r4 r5:Int) (e:Ending) (w':World):Prop :=
 ∃ (A B:Option Addr) (ca cb:Nat) (v:Value),e=.returned (.tuple #[.slice A la.length ca,.slice B lb.length cb,.agg #[v,.int .i64 r4,.int .i64 r5]])
  ∧ Kd.R (Kd.int .u8) 5 w' w0.heap.size (fun k_=>(P k_ ∨ w.heap.size≤k_)) v r3∧Below w0.heap.size w0 w'∧Kept w w' (fun k_=>P k_)
  ∧ (∀ W_,Kept w' W_ (fun k_=>some k_=v.ownBlock) → Kd.C (Kd.int .i64) W_ A la.length la)
  ∧ (∀ W_,Kept w' W_ (fun k_=>some k_=v.ownBlock) → Kd.C (Kd.int .i64) W_ B lb.length lb)
  ∧ la.length≤ca∧lb.length≤cb
theorem celluloidref05_lengths.calls2 (k : Nat) (a0 : ByteArray) (P : Nat → Prop) (u : Value) (l1_0 : List Int) (a1_1 a1_2 : Int) (r1 r2 r3 : List Int) (r4 r5 : Int) (la lb : List Int) (w0 w : World) (hB : Below w0.heap.size w0 w) (ho : Kd.R (Kd.int .u8) 5 w w0.heap.size P u l1_0) (h : celluloidref05_lengths.f k a0 l1_0 a1_1 a1_2 = some (r1, r2, r3, r4, r5)) (ha : la = r1.take (r2.headD 0).toNat) (hb : lb = r1.drop (r2.headD 0).toNat) :
  Calls Try.prog 76 #[.string a0,.agg #[u,.int .i64 a1_1,.int .i64 a1_2]] w fun e w'=>LenQ P w0 w la lb r3 r4 r5 e w':=by
 subst ha hb
 exact celluloidref05_lengths.calls k a0 P u l1_0 a1_1 a1_2 r1 r2 r3 r4 r5 w0 w hB ho h
mutual
def celluloidref05_Raw.j0:Nat → ByteArray → Int → Bool → Option (ByteArray × Int × Int)
 |0,_,_,_=>none
 |k+1,x0,x1,x20=>if x20=true then (some ((⟨#[]⟩:ByteArray),0,1)) else (celluloidref05_Raw.l0 k x0 x1 0 ([]:List Int) 0 0)
def celluloidref05_Raw.l0:Nat → ByteArray → Int → Int → List Int → Int → Int → Option (ByteArray × Int × Int)
 |0,_,_,_,_,_,_=>none
 |k+1,x0,x1,x8,x366000,x366001,x366002=>if x8=0 then (celluloidref05_Raw.j2 k x0 x1 (x366002 == 0) x366000 x366001 x366002) else (celluloidref05_Raw.j2 k x0 x1 false x366000 x366001 x366002)
def celluloidref05_Raw.j2:Nat → ByteArray → Int → Bool → List Int → Int → Int → Option (ByteArray × Int × Int)
 |0,_,_,_,_,_,_=>none
 |k+1,x0,x1,x28,x366000,x366001,x366002=>if x28=true then ((celluloidref05_number.f k x0 x366000 x366001 x366002 1).bind fun bt366=>((celluloidref05_number.f k x0 bt366.2.1 bt366.2.2.1 bt366.2.2.2 2).bind fun bt372=>(if bt372.2.2.2=0 then (if bt372.1=0 then ((celluloidref05_stored.f k x0 bt372.2.1 bt372.2.2.1 bt372.2.2.2 x1).bind fun bt378=>(celluloidref05_Raw.j3 k x0 x1 bt366.1 bt372.1 bt378.1 bt378.2.1 bt378.2.2)) else (celluloidref05_Raw.j3 k x0 x1 bt366.1 bt372.1 bt372.2.1 bt372.2.2.1 bt372.2.2.2)) else (some ((⟨#[]⟩:ByteArray),0,bt372.2.2.2))))) else (if x366002=0 then (some (strOfNums x366000,wrap64 (Int.tdiv (wrap64 (x366001+7)) 8),0)) else (some ((⟨#[]⟩:ByteArray),0,x366002)))
def celluloidref05_Raw.j3:Nat → ByteArray → Int → Int → Int → List Int → Int → Int → Option (ByteArray × Int × Int)
 |0,_,_,_,_,_,_,_=>none
 |k+1,x0,x1,x8,x9,x366000,x366001,x366002=>if x9=1 then ((celluloidref05_Plain.f k).bind fun bt383=>((celluloidref05_codes.f k x0 x366000 x366001 x366002 x1 bt383.1 bt383.2).bind fun bt389=>(celluloidref05_Raw.j4 k x0 x1 x8 x9 bt389.1 bt389.2.1 bt389.2.2))) else (celluloidref05_Raw.j4 k x0 x1 x8 x9 x366000 x366001 x366002)
def celluloidref05_Raw.j4:Nat → ByteArray → Int → Int → Int → List Int → Int → Int → Option (ByteArray × Int × Int)
 |0,_,_,_,_,_,_,_=>none
 |k+1,x0,x1,x8,x9,x366000,x366001,x366002=>if x9=2 then ((celluloidref05_lencodes.f k x0 x366000 x366001 x366002 x1).bind fun bt394=>(if x9=3 then (celluloidref05_Raw.l0 k x0 x1 x8 bt394.1 bt394.2.1 3) else (celluloidref05_Raw.l0 k x0 x1 x8 bt394.1 bt394.2.1 bt394.2.2))) else (if x9=3 then (celluloidref05_Raw.l0 k x0 x1 x8 x366000 x366001 3) else (celluloidref05_Raw.l0 k x0 x1 x8 x366000 x366001 x366002))
end
def celluloidref05_Raw.f (k:Nat) (a0:ByteArray) (a1:Int):Option (ByteArray × Int × Int):=if a1 < 0 then (celluloidref05_Raw.j0 k a0 a1 true) else (celluloidref05_Raw.j0 k a0 a1 (decide (a1 > 262144)))
set_option maxHeartbeats 8000000 in
set_option maxRecDepth 100000 in
theorem celluloidref05_Raw.calls (k : Nat) (a0 : ByteArray) (a1 : Int) (r1 : ByteArray) (r2 : Int) (r3 : Int) (w : World) (h : celluloidref05_Raw.f k a0 a1 = some (r1, r2, r3)) :
  Calls Try.prog 45 #[.string a0,.int .i64 a1] w fun e w'=>e=.returned (.tuple #[.string r1,.int .i64 r2,.int .i64 r3])∧Below w.heap.size w w':=by
 have hu115:=Try.underlying115
 have HB:=Aside0.mk (Below.refl w.heap.size w)
 have H:(if a1 < 0 then (celluloidref05_Raw.j0 k a0 a1 true) else (celluloidref05_Raw.j0 k a0 a1 (decide (a1 > 262144))))=some (r1,r2,r3):=h
 clear h
 have HC3:=Aside0.mk H
 clear H
 go_enter Try.func45,Try.ntmps45
 go_upto_region 1 with (fail)
 repeat (go_quiet (fail);go_upto_region 1 with (fail))
 go_cut [20] (fun v20 wc=>∃ (kq:Nat) (x20_2:Bool),v20=.bool x20_2∧Aside0 (celluloidref05_Raw.j0 kq a0 a1 x20_2=some (r1,r2,r3))∧Aside0 (kq≤k)∧Aside0 (Below w.heap.size w wc))
 case first =>
  have H:=HC3.out
  clear HC3
  by_cases c4:a1 < 0
  ·rw [if_pos c4] at H
   have c4b0:decide (a1 < 0)=true:=decide_eq_true c4
   clear c4
   (first | rw [c4b0] | (simp only [i64_w,i32_w];rw [c4b0]) | skip)
   have H':=Aside0.mk H
   clear H
   go_wp2
   repeat (go_quiet (fail);try go_wp2)
   go_meet
   case rel=>exact ⟨_,(true),(by first | rfl | (simp;done) | (simp [*];done)),H',⟨by first | omega | exact Nat.le_refl _⟩,⟨hn HB⟩⟩
  ·rw [if_neg c4] at H
   have c4b0:decide (a1 < 0)=false:=decide_eq_false c4
   clear c4
   (first | rw [c4b0] | (simp only [i64_w,i32_w];rw [c4b0]) | skip)
   have H':=Aside0.mk H
   clear H
   go_wp2
   repeat (go_quiet (fail);try go_wp2)
   go_meet
   case rel=>exact ⟨_,(decide (a1 > 262144)),(by first | rfl | (simp;done) | (simp [*];done)),H',⟨by first | omega | exact Nat.le_refl _⟩,⟨hn HB⟩⟩
 case rest =>
  clear HC3
  obtain ⟨kq,x20_2,rfl,HA,HJ2,HB⟩:=hcut
  cases kq with
  |zero=>exact absurd HA.out (by simp [celluloidref05_Raw.j0])
  |succ kj2 =>
   have H:=HA.out
   clear HA
   simp only [celluloidref05_Raw.j0] at H
   by_cases c5:x20_2=true
   ·subst c5
    have H1:(some ((⟨#[]⟩:ByteArray),0,1))=some (r1,r2,r3):=by rw [if_pos rfl] at H;exact H
    clear H
    have H:=H1
    clear H1
    simp only [Option.some.injEq,Prod.mk.injEq] at H
    obtain ⟨rfl,rfl,rfl⟩:=H
    go_wp2
    repeat (go_quiet (fail);try go_wp2)
    go_ret3
    exact ⟨by first | rfl | (simp [errW_none,errW_some] <;> rfl) | (simp [*,errW_none,errW_some] <;> rfl),hn HB⟩
   ·replace c5:=Bool.eq_false_iff.mpr c5
    subst c5
    have H1:(celluloidref05_Raw.l0 kj2 a0 a1 0 ([]:List Int) 0 0)=some (r1,r2,r3):=by rw [if_neg (show ¬ (false=true) by decide)] at H;exact H
    clear H
    have H:=H1
    clear H1
    have H':=Aside0.mk H
    clear H
    go_wp2_with (first | ((with_reducible refine gate_dst (N:=7) rfl ?_);refine boxQ 7 #[.slice none 0 0,.int .i64 0,.int .i64 0] 115 ?_;intro gb365 hg w6 hbox hb;have n0_:=hs HB hb;have n1_:=Aside0.mk hbox;have n2_:=gs HB hg;have n3_:=gs HB hg;clear HB;have HB:=n0_;have BK365:=n1_;have GW365:=n2_;have GE365:=n3_;clear n0_ n1_ n2_ n3_;clear hb hbox hg;obtain ⟨hcz7_0,hcz7_1,hcz7_2⟩:=cc3 BK365;obtain ⟨hfz7_0,hfz7_1,hfz7_2⟩:=ff3 BK365) | ((with_reducible refine gate_store (t:=115) (p:=7) rfl ?_);(try (rw [drewN_self w6];generalize hq_:World.drewN w6 _=w6;have n0_:=aB hq_ BK365;have n1_:=aW hq_ HB;clear hq_ BK365 HB;have BK365:=n0_;have HB:=n1_;clear n0_ n1_));refine stQ 115 7 ((((w6.setCell ⟨gb365,0,none⟩ (.slice none 0 0)).setCell ⟨gb365,1,none⟩ (.int .i64 0)).setCell ⟨gb365,2,none⟩ (.int .i64 0))) ?_;intro w8 hw;have n0_:=sP hw BK365;have n1_:=sB hw HB GE365;clear hw BK365 HB;have BK365:=n0_;have HB:=n1_;clear n0_ n1_))
    repeat (go_quiet (first | ((with_reducible refine gate_dst (N:=7) rfl ?_);refine boxQ 7 #[.slice none 0 0,.int .i64 0,.int .i64 0] 115 ?_;intro gb365 hg w6 hbox hb;have n0_:=hs HB hb;have n1_:=Aside0.mk hbox;have n2_:=gs HB hg;have n3_:=gs HB hg;clear HB;have HB:=n0_;have BK365:=n1_;have GW365:=n2_;have GE365:=n3_;clear n0_ n1_ n2_ n3_;clear hb hbox hg;obtain ⟨hcz7_0,hcz7_1,hcz7_2⟩:=cc3 BK365;obtain ⟨hfz7_0,hfz7_1,hfz7_2⟩:=ff3 BK365) | ((with_reducible refine gate_store (t:=115) (p:=7) rfl ?_);(try (rw [drewN_self w6];generalize hq_:World.drewN w6 _=w6;have n0_:=aB hq_ BK365;have n1_:=aW hq_ HB;clear hq_ BK365 HB;have BK365:=n0_;have HB:=n1_;clear n0_ n1_));refine stQ 115 7 ((((w6.setCell ⟨gb365,0,none⟩ (.slice none 0 0)).setCell ⟨gb365,1,none⟩ (.int .i64 0)).setCell ⟨gb365,2,none⟩ (.int .i64 0))) ?_;intro w8 hw;have n0_:=sP hw BK365;have n1_:=sB hw HB GE365;clear hw BK365 HB;have BK365:=n0_;have HB:=n1_;clear n0_ n1_));try go_wp2_with (first | ((with_reducible refine gate_dst (N:=7) rfl ?_);refine boxQ 7 #[.slice none 0 0,.int .i64 0,.int .i64 0] 115 ?_;intro gb365 hg w6 hbox hb;have n0_:=hs HB hb;have n1_:=Aside0.mk hbox;have n2_:=gs HB hg;have n3_:=gs HB hg;clear HB;have HB:=n0_;have BK365:=n1_;have GW365:=n2_;have GE365:=n3_;clear n0_ n1_ n2_ n3_;clear hb hbox hg;obtain ⟨hcz7_0,hcz7_1,hcz7_2⟩:=cc3 BK365;obtain ⟨hfz7_0,hfz7_1,hfz7_2⟩:=ff3 BK365) | ((with_reducible refine gate_store (t:=115) (p:=7) rfl ?_);(try (rw [drewN_self w6];generalize hq_:World.drewN w6 _=w6;have n0_:=aB hq_ BK365;have n1_:=aW hq_ HB;clear hq_ BK365 HB;have BK365:=n0_;have HB:=n1_;clear n0_ n1_));refine stQ 115 7 ((((w6.setCell ⟨gb365,0,none⟩ (.slice none 0 0)).setCell ⟨gb365,1,none⟩ (.int .i64 0)).setCell ⟨gb365,2,none⟩ (.int .i64 0))) ?_;intro w8 hw;have n0_:=sP hw BK365;have n1_:=sB hw HB GE365;clear hw BK365 HB;have BK365:=n0_;have HB:=n1_;clear n0_ n1_)))
    go_loopg [8] kj2 (fun kq v8 w'=>∃ (x8_2:Int) (x366000_2:List Int) (x366001_2:Int) (x366002_2:Int) (u366000:Value),v8=.int .i64 x8_2∧Aside0 (celluloidref05_Raw.l0 kq a0 a1 x8_2 x366000_2 x366001_2 x366002_2=some (r1,r2,r3))∧Aside0 (kq≤kj2)∧Aside0 (Kd.R (Kd.int .u8) 5 w' w.heap.size (fun _=>True) u366000 x366000_2)∧Aside0 (w'.heap[gb365]?=some (.cells #[u366000,.int .i64 x366001_2,.int .i64 x366002_2] 115 (0,0)))∧Aside0 (Below w.heap.size w w'))
    case atStart=>exact ⟨(0),(([]:List Int)),(0),(0),(.slice none 0 0),(by first | rfl | (simp;done) | (simp [*];done)),H',⟨Nat.le_refl _⟩,⟨by first | exact Kd.R_nil _ _ _ _ _ | exact Kd.N_nil _ _ _ _ _ | exact Kd.V_nil _ _ _ _ _ | exact Kd.Q_nil _ _ _ _ _ | exact Kd.S_nil _ _ _ _ _⟩,⟨bk BK365⟩,⟨hn HB⟩⟩
    case round =>
     clear H'
     clear hcz7_0 hcz7_1 hcz7_2 hfz7_0 hfz7_1 hfz7_2
     obtain ⟨x8_2,x366000_2,x366001_2,x366002_2,u366000,rfl,HA,HK2,HO_366000,BK365,HB⟩:=hrel
     cases gk with
     |zero=>exact absurd HA.out (by simp [celluloidref05_Raw.l0])
     |succ k2 =>
      have H:=HA.out
      clear HA
      simp only [celluloidref05_Raw.l0] at H
      have HC9:=Aside0.mk H
      clear H
      go_upto_region 5 with (fail)
      repeat (go_quiet (fail);go_upto_region 5 with (fail))
      go_cut [28] (fun v28 wc=>∃ (kq:Nat) (x28_8:Bool),v28=.bool x28_8∧Aside0 (celluloidref05_Raw.j2 kq a0 a1 x28_8 x366000_2 x366001_2 x366002_2=some (r1,r2,r3))∧Aside0 (kq≤k2)∧Aside0 (Kd.R (Kd.int .u8) 5 wc w.heap.size (fun _=>True) u366000 x366000_2)∧Aside0 (wc.heap[gb365]?=some (.cells #[u366000,.int .i64 x366001_2,.int .i64 x366002_2] 115 (0,0)))∧Aside0 (Below w.heap.size w wc))
      case first =>
       have H:=HC9.out
       clear HC9
       by_cases c10:x8_2=0
       ·rw [if_pos c10] at H
        have c10b0:(x8_2 == 0)=true:=beq_iff_eq.mpr c10
        have c10b1:(x8_2 != 0)=false:=bne_eq_false_iff_eq.mpr c10
        clear c10
        (first | rw [c10b0] | (simp only [i64_w,i32_w];rw [c10b0]) | skip)
        have H':=Aside0.mk H
        clear H
        obtain ⟨hcz11_0,hcz11_1,hcz11_2⟩:=cc3 BK365
        obtain ⟨hfz11_0,hfz11_1,hfz11_2⟩:=ff3 BK365
        go_wp2
        repeat (go_quiet (fail);try go_wp2)
        go_meet
        case rel=>exact ⟨_,((x366002_2 == 0)),(by first | rfl | (simp;done) | (simp [*];done)),H',⟨by have:=HJ2.out;have:=HK2.out;first | omega | exact Nat.le_refl _⟩,⟨rr HO_366000⟩,⟨bk BK365⟩,⟨hn HB⟩⟩
       ·rw [if_neg c10] at H
        have c10b0:(x8_2 == 0)=false:=beq_eq_false_iff_ne.mpr c10
        have c10b1:(x8_2 != 0)=true:=bne_iff_ne.mpr c10
        (first | rw [c10b0] | (simp only [i64_w,i32_w];rw [c10b0]) | skip)
        have H':=Aside0.mk H
        clear H
        go_wp2
        repeat (go_quiet (fail);try go_wp2)
        go_meet
        case rel=>exact ⟨_,(false),(by first | rfl | (simp;done) | (simp [*];done)),H',⟨by have:=HJ2.out;have:=HK2.out;first | omega | exact Nat.le_refl _⟩,⟨rr HO_366000⟩,⟨bk BK365⟩,⟨hn HB⟩⟩
      case rest =>
       clear HC9
       obtain ⟨kq,x28_8,rfl,HA,HJ8,HO_366000,BK365,HB⟩:=hcut
       cases kq with
       |zero=>exact absurd HA.out (by simp [celluloidref05_Raw.j2])
       |succ kj8 =>
        have H:=HA.out
        clear HA
        simp only [celluloidref05_Raw.j2] at H
        by_cases c12:x28_8=true
        ·subst c12
         have H1:((celluloidref05_number.f kj8 a0 x366000_2 x366001_2 x366002_2 1).bind fun bt366=>((celluloidref05_number.f kj8 a0 bt366.2.1 bt366.2.2.1 bt366.2.2.2 2).bind fun bt372=>(if bt372.2.2.2=0 then (if bt372.1=0 then ((celluloidref05_stored.f kj8 a0 bt372.2.1 bt372.2.2.1 bt372.2.2.2 a1).bind fun bt378=>(celluloidref05_Raw.j3 kj8 a0 a1 bt366.1 bt372.1 bt378.1 bt378.2.1 bt378.2.2)) else (celluloidref05_Raw.j3 kj8 a0 a1 bt366.1 bt372.1 bt372.2.1 bt372.2.2.1 bt372.2.2.2)) else (some ((⟨#[]⟩:ByteArray),0,bt372.2.2.2)))))=some (r1,r2,r3):=by rw [if_pos rfl] at H;exact H
         clear H
         have H:=H1
         clear H1
         replace H:=Option.bind_eq_some_iff.mp H
         obtain ⟨⟨t366,t367,t370,t371⟩,A130,H⟩:=H
         replace H:((celluloidref05_number.f kj8 a0 t367 t370 t371 2).bind fun bt372=>(if bt372.2.2.2=0 then (if bt372.1=0 then ((celluloidref05_stored.f kj8 a0 bt372.2.1 bt372.2.2.1 bt372.2.2.2 a1).bind fun bt378=>(celluloidref05_Raw.j3 kj8 a0 a1 t366 bt372.1 bt378.1 bt378.2.1 bt378.2.2)) else (celluloidref05_Raw.j3 kj8 a0 a1 t366 bt372.1 bt372.2.1 bt372.2.2.1 bt372.2.2.2)) else (some ((⟨#[]⟩:ByteArray),0,bt372.2.2.2))))=some (r1,r2,r3):=H
         have A13:=Aside0.mk A130
         clear A130
         replace H:=Option.bind_eq_some_iff.mp H
         obtain ⟨⟨t372,t373,t376,t377⟩,A140,H⟩:=H
         replace H:(if t377=0 then (if t372=0 then ((celluloidref05_stored.f kj8 a0 t373 t376 t377 a1).bind fun bt378=>(celluloidref05_Raw.j3 kj8 a0 a1 t366 t372 bt378.1 bt378.2.1 bt378.2.2)) else (celluloidref05_Raw.j3 kj8 a0 a1 t366 t372 t373 t376 t377)) else (some ((⟨#[]⟩:ByteArray),0,t377)))=some (r1,r2,r3):=H
         have A14:=Aside0.mk A140
         clear A140
         by_cases c15:t377=0
         ·rw [if_pos c15] at H
          have c15b0:(t377 == 0)=true:=beq_iff_eq.mpr c15
          have c15b1:(t377 != 0)=false:=bne_eq_false_iff_eq.mpr c15
          clear c15
          have HC16:=Aside0.mk H
          clear H
          obtain ⟨hcz17_0,hcz17_1,hcz17_2⟩:=cc3 BK365
          obtain ⟨hfz17_0,hfz17_1,hfz17_2⟩:=ff3 BK365
          obtain ⟨Ao18,co18,eo18⟩:=Kd.R_slice HO_366000.out
          subst eo18
          go_upto_if 45 with (first | (go_at_call 73;(with_reducible refine (celluloidref05_number.calls kj8 a0 (fun k_=>some k_=(.slice Ao18 x366000_2.length co18:Value).ownBlock) (.slice Ao18 x366000_2.length co18) x366000_2 x366001_2 x366002_2 1 t366 t367 t370 t371 w _ (hn HB) (Kd.R_tight rfl HO_366000.out) A13.out).mono ?_);rintro e w19 ⟨v368,rfl,ho0,hb,hkp⟩;have n0_:=kb BK365 HO_366000 hkp;have n1_:=Aside0.mk (Kd.R_mono (ok':=fun k_=>True) ho0 (fun k_ hk_=>trivial));have n2_:=Aside0.mk hb;clear BK365 HB HO_366000;have BK365:=n0_;have HO369:=n1_;have HB:=n2_;clear n0_ n1_ n2_;(try clear hb);(try clear hkp);(try clear ho0);obtain ⟨Ao20,co20,eo20⟩:=Kd.R_slice HO369.out;subst eo20;obtain ⟨hcz21_0,hcz21_1,hcz21_2⟩:=cc3 BK365;obtain ⟨hfz21_0,hfz21_1,hfz21_2⟩:=ff3 BK365) | ((with_reducible refine gate_store (t:=115) (p:=7) rfl ?_);(try (rw [drewN_self w19];generalize hq_:World.drewN w19 _=w19;have n0_:=aR hq_ HO369;have n1_:=aB hq_ BK365;have n2_:=aW hq_ HB;clear hq_ HO369 BK365 HB;have HO369:=n0_;have BK365:=n1_;have HB:=n2_;clear n0_ n1_ n2_));refine stQ 115 7 ((((w19.setCell ⟨gb365,0,none⟩ (.slice Ao20 t367.length co20)).setCell ⟨gb365,1,none⟩ (.int .i64 t370)).setCell ⟨gb365,2,none⟩ (.int .i64 t371))) ?_;intro w22 hw;have n0_:=sR hw HO369 BK365;have n1_:=sP hw BK365;have n2_:=sB hw HB GE365;clear hw HO369 BK365 HB;have HO369:=n0_;have BK365:=n1_;have HB:=n2_;clear n0_ n1_ n2_;obtain ⟨hcz23_0,hcz23_1,hcz23_2⟩:=cc3 BK365;obtain ⟨hfz23_0,hfz23_1,hfz23_2⟩:=ff3 BK365) | (go_at_call 73;(with_reducible refine (celluloidref05_number.calls kj8 a0 (fun k_=>some k_=(.slice Ao20 t367.length co20:Value).ownBlock) (.slice Ao20 t367.length co20) t367 t370 t371 2 t372 t373 t376 t377 w _ (hn HB) (Kd.R_tight rfl HO369.out) A14.out).mono ?_);rintro e w24 ⟨v374,rfl,ho0,hb,hkp⟩;have n0_:=kb BK365 HO369 hkp;have n1_:=Aside0.mk (Kd.R_mono (ok':=fun k_=>True) ho0 (fun k_ hk_=>trivial));have n2_:=Aside0.mk hb;clear BK365 HB HO369;have BK365:=n0_;have HO375:=n1_;have HB:=n2_;clear n0_ n1_ n2_;(try clear hb);(try clear hkp);(try clear ho0);obtain ⟨Ao25,co25,eo25⟩:=Kd.R_slice HO375.out;subst eo25;obtain ⟨hcz26_0,hcz26_1,hcz26_2⟩:=cc3 BK365;obtain ⟨hfz26_0,hfz26_1,hfz26_2⟩:=ff3 BK365) | ((with_reducible refine gate_store (t:=115) (p:=7) rfl ?_);(try (rw [drewN_self w24];generalize hq_:World.drewN w24 _=w24;have n0_:=aR hq_ HO375;have n1_:=aB hq_ BK365;have n2_:=aW hq_ HB;clear hq_ HO375 BK365 HB;have HO375:=n0_;have BK365:=n1_;have HB:=n2_;clear n0_ n1_ n2_));refine stQ 115 7 ((((w24.setCell ⟨gb365,0,none⟩ (.slice Ao25 t373.length co25)).setCell ⟨gb365,1,none⟩ (.int .i64 t376)).setCell ⟨gb365,2,none⟩ (.int .i64 t377))) ?_;intro w27 hw;have n0_:=sR hw HO375 BK365;have n1_:=sP hw BK365;have n2_:=sB hw HB GE365;clear hw HO375 BK365 HB;have HO375:=n0_;have BK365:=n1_;have HB:=n2_;clear n0_ n1_ n2_;obtain ⟨hcz28_0,hcz28_1,hcz28_2⟩:=cc3 BK365;obtain ⟨hfz28_0,hfz28_1,hfz28_2⟩:=ff3 BK365))
          repeat (go_quiet (first | (go_at_call 73;(with_reducible refine (celluloidref05_number.calls kj8 a0 (fun k_=>some k_=(.slice Ao18 x366000_2.length co18:Value).ownBlock) (.slice Ao18 x366000_2.length co18) x366000_2 x366001_2 x366002_2 1 t366 t367 t370 t371 w _ (hn HB) (Kd.R_tight rfl HO_366000.out) A13.out).mono ?_);rintro e w19 ⟨v368,rfl,ho0,hb,hkp⟩;have n0_:=kb BK365 HO_366000 hkp;have n1_:=Aside0.mk (Kd.R_mono (ok':=fun k_=>True) ho0 (fun k_ hk_=>trivial));have n2_:=Aside0.mk hb;clear BK365 HB HO_366000;have BK365:=n0_;have HO369:=n1_;have HB:=n2_;clear n0_ n1_ n2_;(try clear hb);(try clear hkp);(try clear ho0);obtain ⟨Ao20,co20,eo20⟩:=Kd.R_slice HO369.out;subst eo20;obtain ⟨hcz21_0,hcz21_1,hcz21_2⟩:=cc3 BK365;obtain ⟨hfz21_0,hfz21_1,hfz21_2⟩:=ff3 BK365) | ((with_reducible refine gate_store (t:=115) (p:=7) rfl ?_);(try (rw [drewN_self w19];generalize hq_:World.drewN w19 _=w19;have n0_:=aR hq_ HO369;have n1_:=aB hq_ BK365;have n2_:=aW hq_ HB;clear hq_ HO369 BK365 HB;have HO369:=n0_;have BK365:=n1_;have HB:=n2_;clear n0_ n1_ n2_));refine stQ 115 7 ((((w19.setCell ⟨gb365,0,none⟩ (.slice Ao20 t367.length co20)).setCell ⟨gb365,1,none⟩ (.int .i64 t370)).setCell ⟨gb365,2,none⟩ (.int .i64 t371))) ?_;intro w22 hw;have n0_:=sR hw HO369 BK365;have n1_:=sP hw BK365;have n2_:=sB hw HB GE365;clear hw HO369 BK365 HB;have HO369:=n0_;have BK365:=n1_;have HB:=n2_;clear n0_ n1_ n2_;obtain ⟨hcz23_0,hcz23_1,hcz23_2⟩:=cc3 BK365;obtain ⟨hfz23_0,hfz23_1,hfz23_2⟩:=ff3 BK365) | (go_at_call 73;(with_reducible refine (celluloidref05_number.calls kj8 a0 (fun k_=>some k_=(.slice Ao20 t367.length co20:Value).ownBlock) (.slice Ao20 t367.length co20) t367 t370 t371 2 t372 t373 t376 t377 w _ (hn HB) (Kd.R_tight rfl HO369.out) A14.out).mono ?_);rintro e w24 ⟨v374,rfl,ho0,hb,hkp⟩;have n0_:=kb BK365 HO369 hkp;have n1_:=Aside0.mk (Kd.R_mono (ok':=fun k_=>True) ho0 (fun k_ hk_=>trivial));have n2_:=Aside0.mk hb;clear BK365 HB HO369;have BK365:=n0_;have HO375:=n1_;have HB:=n2_;clear n0_ n1_ n2_;(try clear hb);(try clear hkp);(try clear ho0);obtain ⟨Ao25,co25,eo25⟩:=Kd.R_slice HO375.out;subst eo25;obtain ⟨hcz26_0,hcz26_1,hcz26_2⟩:=cc3 BK365;obtain ⟨hfz26_0,hfz26_1,hfz26_2⟩:=ff3 BK365) | ((with_reducible refine gate_store (t:=115) (p:=7) rfl ?_);(try (rw [drewN_self w24];generalize hq_:World.drewN w24 _=w24;have n0_:=aR hq_ HO375;have n1_:=aB hq_ BK365;have n2_:=aW hq_ HB;clear hq_ HO375 BK365 HB;have HO375:=n0_;have BK365:=n1_;have HB:=n2_;clear n0_ n1_ n2_));refine stQ 115 7 ((((w24.setCell ⟨gb365,0,none⟩ (.slice Ao25 t373.length co25)).setCell ⟨gb365,1,none⟩ (.int .i64 t376)).setCell ⟨gb365,2,none⟩ (.int .i64 t377))) ?_;intro w27 hw;have n0_:=sR hw HO375 BK365;have n1_:=sP hw BK365;have n2_:=sB hw HB GE365;clear hw HO375 BK365 HB;have HO375:=n0_;have BK365:=n1_;have HB:=n2_;clear n0_ n1_ n2_;obtain ⟨hcz28_0,hcz28_1,hcz28_2⟩:=cc3 BK365;obtain ⟨hfz28_0,hfz28_1,hfz28_2⟩:=ff3 BK365));go_upto_if 45 with (first | (go_at_call 73;(with_reducible refine (celluloidref05_number.calls kj8 a0 (fun k_=>some k_=(.slice Ao18 x366000_2.length co18:Value).ownBlock) (.slice Ao18 x366000_2.length co18) x366000_2 x366001_2 x366002_2 1 t366 t367 t370 t371 w _ (hn HB) (Kd.R_tight rfl HO_366000.out) A13.out).mono ?_);rintro e w19 ⟨v368,rfl,ho0,hb,hkp⟩;have n0_:=kb BK365 HO_366000 hkp;have n1_:=Aside0.mk (Kd.R_mono (ok':=fun k_=>True) ho0 (fun k_ hk_=>trivial));have n2_:=Aside0.mk hb;clear BK365 HB HO_366000;have BK365:=n0_;have HO369:=n1_;have HB:=n2_;clear n0_ n1_ n2_;(try clear hb);(try clear hkp);(try clear ho0);obtain ⟨Ao20,co20,eo20⟩:=Kd.R_slice HO369.out;subst eo20;obtain ⟨hcz21_0,hcz21_1,hcz21_2⟩:=cc3 BK365;obtain ⟨hfz21_0,hfz21_1,hfz21_2⟩:=ff3 BK365) | ((with_reducible refine gate_store (t:=115) (p:=7) rfl ?_);(try (rw [drewN_self w19];generalize hq_:World.drewN w19 _=w19;have n0_:=aR hq_ HO369;have n1_:=aB hq_ BK365;have n2_:=aW hq_ HB;clear hq_ HO369 BK365 HB;have HO369:=n0_;have BK365:=n1_;have HB:=n2_;clear n0_ n1_ n2_));refine stQ 115 7 ((((w19.setCell ⟨gb365,0,none⟩ (.slice Ao20 t367.length co20)).setCell ⟨gb365,1,none⟩ (.int .i64 t370)).setCell ⟨gb365,2,none⟩ (.int .i64 t371))) ?_;intro w22 hw;have n0_:=sR hw HO369 BK365;have n1_:=sP hw BK365;have n2_:=sB hw HB GE365;clear hw HO369 BK365 HB;have HO369:=n0_;have BK365:=n1_;have HB:=n2_;clear n0_ n1_ n2_;obtain ⟨hcz23_0,hcz23_1,hcz23_2⟩:=cc3 BK365;obtain ⟨hfz23_0,hfz23_1,hfz23_2⟩:=ff3 BK365) | (go_at_call 73;(with_reducible refine (celluloidref05_number.calls kj8 a0 (fun k_=>some k_=(.slice Ao20 t367.length co20:Value).ownBlock) (.slice Ao20 t367.length co20) t367 t370 t371 2 t372 t373 t376 t377 w _ (hn HB) (Kd.R_tight rfl HO369.out) A14.out).mono ?_);rintro e w24 ⟨v374,rfl,ho0,hb,hkp⟩;have n0_:=kb BK365 HO369 hkp;have n1_:=Aside0.mk (Kd.R_mono (ok':=fun k_=>True) ho0 (fun k_ hk_=>trivial));have n2_:=Aside0.mk hb;clear BK365 HB HO369;have BK365:=n0_;have HO375:=n1_;have HB:=n2_;clear n0_ n1_ n2_;(try clear hb);(try clear hkp);(try clear ho0);obtain ⟨Ao25,co25,eo25⟩:=Kd.R_slice HO375.out;subst eo25;obtain ⟨hcz26_0,hcz26_1,hcz26_2⟩:=cc3 BK365;obtain ⟨hfz26_0,hfz26_1,hfz26_2⟩:=ff3 BK365) | ((with_reducible refine gate_store (t:=115) (p:=7) rfl ?_);(try (rw [drewN_self w24];generalize hq_:World.drewN w24 _=w24;have n0_:=aR hq_ HO375;have n1_:=aB hq_ BK365;have n2_:=aW hq_ HB;clear hq_ HO375 BK365 HB;have HO375:=n0_;have BK365:=n1_;have HB:=n2_;clear n0_ n1_ n2_));refine stQ 115 7 ((((w24.setCell ⟨gb365,0,none⟩ (.slice Ao25 t373.length co25)).setCell ⟨gb365,1,none⟩ (.int .i64 t376)).setCell ⟨gb365,2,none⟩ (.int .i64 t377))) ?_;intro w27 hw;have n0_:=sR hw HO375 BK365;have n1_:=sP hw BK365;have n2_:=sB hw HB GE365;clear hw HO375 BK365 HB;have HO375:=n0_;have BK365:=n1_;have HB:=n2_;clear n0_ n1_ n2_;obtain ⟨hcz28_0,hcz28_1,hcz28_2⟩:=cc3 BK365;obtain ⟨hfz28_0,hfz28_1,hfz28_2⟩:=ff3 BK365)))
          (try simp only [Act.put,List.setIfInBounds_toArray,List.set_cons_zero,List.set_cons_succ])
          go_cut [] (fun wc=>∃ (kq:Nat) (x366000_15:List Int) (x366001_15:Int) (x366002_15:Int) (u366000:Value),Aside0 (celluloidref05_Raw.j3 kq a0 a1 t366 t372 x366000_15 x366001_15 x366002_15=some (r1,r2,r3))∧Aside0 (kq≤kj8)∧Aside0 (Kd.R (Kd.int .u8) 5 wc w.heap.size (fun _=>True) u366000 x366000_15)∧Aside0 (wc.heap[gb365]?=some (.cells #[u366000,.int .i64 x366001_15,.int .i64 x366002_15] 115 (0,0)))∧Aside0 (Below w.heap.size w wc))
          case first =>
           have H:=HC16.out
           clear HC16
           by_cases c29:t372=0
           ·rw [if_pos c29] at H
            have c29b0:(t372 == 0)=true:=beq_iff_eq.mpr c29
            have c29b1:(t372 != 0)=false:=bne_eq_false_iff_eq.mpr c29
            clear c29
            (first | rw [c29b0] | (simp only [i64_w,i32_w];rw [c29b0]) | skip)
            replace H:=Option.bind_eq_some_iff.mp H
            obtain ⟨⟨t378,t381,t382⟩,A300,H⟩:=H
            replace H:(celluloidref05_Raw.j3 kj8 a0 a1 t366 t372 t378 t381 t382)=some (r1,r2,r3):=H
            have A30:=Aside0.mk A300
            clear A300
            have H':=Aside0.mk H
            clear H
            obtain ⟨hcz31_0,hcz31_1,hcz31_2⟩:=cc3 BK365
            obtain ⟨hfz31_0,hfz31_1,hfz31_2⟩:=ff3 BK365
            go_wp2_with (first | (go_at_call 74;(with_reducible refine (celluloidref05_stored.calls kj8 a0 (fun k_=>some k_=(.slice Ao25 t373.length co25:Value).ownBlock) (.slice Ao25 t373.length co25) t373 t376 t377 a1 t378 t381 t382 w _ (hn HB) (Kd.R_tight rfl HO375.out) A30.out).mono ?_);rintro e w32 ⟨v379,rfl,ho0,hb,hkp⟩;have n0_:=kb BK365 HO375 hkp;have n1_:=Aside0.mk (Kd.R_mono (ok':=fun k_=>True) ho0 (fun k_ hk_=>trivial));have n2_:=Aside0.mk hb;clear BK365 HB HO375;have BK365:=n0_;have HO380:=n1_;have HB:=n2_;clear n0_ n1_ n2_;(try clear hb);(try clear hkp);(try clear ho0);obtain ⟨Ao33,co33,eo33⟩:=Kd.R_slice HO380.out;subst eo33;obtain ⟨hcz34_0,hcz34_1,hcz34_2⟩:=cc3 BK365;obtain ⟨hfz34_0,hfz34_1,hfz34_2⟩:=ff3 BK365) | ((with_reducible refine gate_store (t:=115) (p:=7) rfl ?_);(try (rw [drewN_self w32];generalize hq_:World.drewN w32 _=w32;have n0_:=aR hq_ HO380;have n1_:=aB hq_ BK365;have n2_:=aW hq_ HB;clear hq_ HO380 BK365 HB;have HO380:=n0_;have BK365:=n1_;have HB:=n2_;clear n0_ n1_ n2_));refine stQ 115 7 ((((w32.setCell ⟨gb365,0,none⟩ (.slice Ao33 t378.length co33)).setCell ⟨gb365,1,none⟩ (.int .i64 t381)).setCell ⟨gb365,2,none⟩ (.int .i64 t382))) ?_;intro w35 hw;have n0_:=sR hw HO380 BK365;have n1_:=sP hw BK365;have n2_:=sB hw HB GE365;clear hw HO380 BK365 HB;have HO380:=n0_;have BK365:=n1_;have HB:=n2_;clear n0_ n1_ n2_))
            repeat (go_quiet (first | (go_at_call 74;(with_reducible refine (celluloidref05_stored.calls kj8 a0 (fun k_=>some k_=(.slice Ao25 t373.length co25:Value).ownBlock) (.slice Ao25 t373.length co25) t373 t376 t377 a1 t378 t381 t382 w _ (hn HB) (Kd.R_tight rfl HO375.out) A30.out).mono ?_);rintro e w32 ⟨v379,rfl,ho0,hb,hkp⟩;have n0_:=kb BK365 HO375 hkp;have n1_:=Aside0.mk (Kd.R_mono (ok':=fun k_=>True) ho0 (fun k_ hk_=>trivial));have n2_:=Aside0.mk hb;clear BK365 HB HO375;have BK365:=n0_;have HO380:=n1_;have HB:=n2_;clear n0_ n1_ n2_;(try clear hb);(try clear hkp);(try clear ho0);obtain ⟨Ao33,co33,eo33⟩:=Kd.R_slice HO380.out;subst eo33;obtain ⟨hcz34_0,hcz34_1,hcz34_2⟩:=cc3 BK365;obtain ⟨hfz34_0,hfz34_1,hfz34_2⟩:=ff3 BK365) | ((with_reducible refine gate_store (t:=115) (p:=7) rfl ?_);(try (rw [drewN_self w32];generalize hq_:World.drewN w32 _=w32;have n0_:=aR hq_ HO380;have n1_:=aB hq_ BK365;have n2_:=aW hq_ HB;clear hq_ HO380 BK365 HB;have HO380:=n0_;have BK365:=n1_;have HB:=n2_;clear n0_ n1_ n2_));refine stQ 115 7 ((((w32.setCell ⟨gb365,0,none⟩ (.slice Ao33 t378.length co33)).setCell ⟨gb365,1,none⟩ (.int .i64 t381)).setCell ⟨gb365,2,none⟩ (.int .i64 t382))) ?_;intro w35 hw;have n0_:=sR hw HO380 BK365;have n1_:=sP hw BK365;have n2_:=sB hw HB GE365;clear hw HO380 BK365 HB;have HO380:=n0_;have BK365:=n1_;have HB:=n2_;clear n0_ n1_ n2_));try go_wp2_with (first | (go_at_call 74;(with_reducible refine (celluloidref05_stored.calls kj8 a0 (fun k_=>some k_=(.slice Ao25 t373.length co25:Value).ownBlock) (.slice Ao25 t373.length co25) t373 t376 t377 a1 t378 t381 t382 w _ (hn HB) (Kd.R_tight rfl HO375.out) A30.out).mono ?_);rintro e w32 ⟨v379,rfl,ho0,hb,hkp⟩;have n0_:=kb BK365 HO375 hkp;have n1_:=Aside0.mk (Kd.R_mono (ok':=fun k_=>True) ho0 (fun k_ hk_=>trivial));have n2_:=Aside0.mk hb;clear BK365 HB HO375;have BK365:=n0_;have HO380:=n1_;have HB:=n2_;clear n0_ n1_ n2_;(try clear hb);(try clear hkp);(try clear ho0);obtain ⟨Ao33,co33,eo33⟩:=Kd.R_slice HO380.out;subst eo33;obtain ⟨hcz34_0,hcz34_1,hcz34_2⟩:=cc3 BK365;obtain ⟨hfz34_0,hfz34_1,hfz34_2⟩:=ff3 BK365) | ((with_reducible refine gate_store (t:=115) (p:=7) rfl ?_);(try (rw [drewN_self w32];generalize hq_:World.drewN w32 _=w32;have n0_:=aR hq_ HO380;have n1_:=aB hq_ BK365;have n2_:=aW hq_ HB;clear hq_ HO380 BK365 HB;have HO380:=n0_;have BK365:=n1_;have HB:=n2_;clear n0_ n1_ n2_));refine stQ 115 7 ((((w32.setCell ⟨gb365,0,none⟩ (.slice Ao33 t378.length co33)).setCell ⟨gb365,1,none⟩ (.int .i64 t381)).setCell ⟨gb365,2,none⟩ (.int .i64 t382))) ?_;intro w35 hw;have n0_:=sR hw HO380 BK365;have n1_:=sP hw BK365;have n2_:=sB hw HB GE365;clear hw HO380 BK365 HB;have HO380:=n0_;have BK365:=n1_;have HB:=n2_;clear n0_ n1_ n2_)))
            go_meet
            case rel=>exact ⟨_,(t378),(t381),(t382),(.slice Ao33 t378.length co33),H',⟨by have:=HJ2.out;have:=HK2.out;have:=HJ8.out;first | omega | exact Nat.le_refl _⟩,⟨rr HO380⟩,⟨bk BK365⟩,⟨hn HB⟩⟩
           ·rw [if_neg c29] at H
            have c29b0:(t372 == 0)=false:=beq_eq_false_iff_ne.mpr c29
            have c29b1:(t372 != 0)=true:=bne_iff_ne.mpr c29
            (first | rw [c29b0] | (simp only [i64_w,i32_w];rw [c29b0]) | skip)
            have H':=Aside0.mk H
            clear H
            go_wp2
            repeat (go_quiet (fail);try go_wp2)
            go_meet
            case rel=>exact ⟨_,(t373),(t376),(t377),(.slice Ao25 t373.length co25),H',⟨by have:=HJ2.out;have:=HK2.out;have:=HJ8.out;first | omega | exact Nat.le_refl _⟩,⟨rr HO375⟩,⟨bk BK365⟩,⟨hn HB⟩⟩
          case rest =>
           clear HC16
           clear c15b0 c15b1 hcz17_0 hcz17_1 hcz17_2 hcz21_0 hcz21_1 hcz21_2 hcz23_0 hcz23_1 hcz23_2 hcz26_0 hcz26_1 hcz26_2 hcz28_0 hcz28_1 hcz28_2 hfz17_0 hfz17_1 hfz17_2 hfz21_0 hfz21_1 hfz21_2 hfz23_0 hfz23_1 hfz23_2 hfz26_0 hfz26_1 hfz26_2 hfz28_0 hfz28_1 hfz28_2
           obtain ⟨kq,x366000_15,x366001_15,x366002_15,u366000,HA,HJ15,HO_366000,BK365,HB⟩:=hcut
           cases kq with
           |zero=>exact absurd HA.out (by simp [celluloidref05_Raw.j3])
           |succ kj15 =>
            have H:=HA.out
            clear HA
            simp only [celluloidref05_Raw.j3] at H
            have HC36:=Aside0.mk H
            clear H
            go_upto_if 51 with (fail)
            repeat (go_quiet (fail);go_upto_if 51 with (fail))
            go_cut [] (fun wc=>∃ (kq:Nat) (x366000_35:List Int) (x366001_35:Int) (x366002_35:Int) (u366000:Value),Aside0 (celluloidref05_Raw.j4 kq a0 a1 t366 t372 x366000_35 x366001_35 x366002_35=some (r1,r2,r3))∧Aside0 (kq≤kj15)∧Aside0 (Kd.R (Kd.int .u8) 5 wc w.heap.size (fun _=>True) u366000 x366000_35)∧Aside0 (wc.heap[gb365]?=some (.cells #[u366000,.int .i64 x366001_35,.int .i64 x366002_35] 115 (0,0)))∧Aside0 (Below w.heap.size w wc))
            case first =>
             have H:=HC36.out
             clear HC36
             by_cases c37:t372=1
             ·rw [if_pos c37] at H
              have c37b0:(t372 == 1)=true:=beq_iff_eq.mpr c37
              have c37b1:(t372 != 1)=false:=bne_eq_false_iff_eq.mpr c37
              clear c37
              (first | rw [c37b0] | (simp only [i64_w,i32_w];rw [c37b0]) | skip)
              replace H:=Option.bind_eq_some_iff.mp H
              obtain ⟨⟨t383,t384⟩,A380,H⟩:=H
              replace H:((celluloidref05_codes.f kj15 a0 x366000_15 x366001_15 x366002_15 a1 t383 t384).bind fun bt389=>(celluloidref05_Raw.j4 kj15 a0 a1 t366 t372 bt389.1 bt389.2.1 bt389.2.2))=some (r1,r2,r3):=H
              have A38:=Aside0.mk A380
              clear A380
              replace H:=Option.bind_eq_some_iff.mp H
              obtain ⟨⟨t389,t392,t393⟩,A390,H⟩:=H
              replace H:(celluloidref05_Raw.j4 kj15 a0 a1 t366 t372 t389 t392 t393)=some (r1,r2,r3):=H
              have A39:=Aside0.mk A390
              clear A390
              have H':=Aside0.mk H
              clear H
              go_wp2_with (first | (go_at_call 66;(with_reducible refine (celluloidref05_Plain.calls kj15  t383 t384 _ A38.out).mono ?_);rintro e w40 ⟨v385,v387,rfl,ho0,ho1,hb⟩;have n0_:=rk HO_366000 hb;have n1_:=Aside0.mk (Kd.R_lower ho0 (below_size (hn HB)));have n2_:=Aside0.mk (Kd.R_lower ho1 (below_size (hn HB)));have n3_:=bb BK365 hb;have n4_:=hs HB hb;clear HO_366000 BK365 HB;have HO_366000:=n0_;have HO386:=n1_;have HO388:=n2_;have BK365:=n3_;have HB:=n4_;clear n0_ n1_ n2_ n3_ n4_;(try clear hb);(try clear ho0);(try clear ho1);obtain ⟨hcz41_0,hcz41_1,hcz41_2⟩:=cc3 BK365;obtain ⟨hfz41_0,hfz41_1,hfz41_2⟩:=ff3 BK365;obtain ⟨Ao42,co42,eo42⟩:=Kd.R_slice HO_366000.out;subst eo42;obtain ⟨Ao43,co43,eo43⟩:=Kd.R_slice HO386.out;subst eo43;obtain ⟨Ao44,co44,eo44⟩:=Kd.R_slice HO388.out;subst eo44) | (go_at_call 75;(with_reducible refine (celluloidref05_codes.calls kj15 a0 (fun k_=>some k_=(.slice Ao42 x366000_15.length co42:Value).ownBlock) (.slice Ao42 x366000_15.length co42) x366000_15 x366001_15 x366002_15 a1 _ _ t383 _ _ t384 t389 t392 t393 w _ (hn HB) (Kd.R_tight rfl HO_366000.out) ?side3 ?side4 ?side5 ?side6 A39.out).mono ?_);(case side3=>exact Kd.C_kept_own ((Kd.R_apart' HO386.out (Kd.R_typed HO_366000.out) (by decide))) (fun k_ hk_ hs_=>(hk_.2) hs_));(case side4=>exact (Kd.R_reads' HO386.out).2.1);(case side5=>exact Kd.C_kept_own ((Kd.R_apart' HO388.out (Kd.R_typed HO_366000.out) (by decide))) (fun k_ hk_ hs_=>(hk_.2) hs_));(case side6=>exact (Kd.R_reads' HO388.out).2.1);rintro e w45 ⟨v390,rfl,ho0,hb,hkp⟩;have n0_:=kb BK365 HO_366000 hkp;have n1_:=ka HO386 HO_366000 hkp;have n2_:=ka HO388 HO_366000 hkp;have n3_:=Aside0.mk (Kd.R_mono (ok':=fun k_=>True) ho0 (fun k_ hk_=>trivial));have n4_:=Aside0.mk hb;clear BK365 HO386 HO388 HB HO_366000;have BK365:=n0_;have HO386:=n1_;have HO388:=n2_;have HO391:=n3_;have HB:=n4_;clear n0_ n1_ n2_ n3_ n4_;(try clear hb);(try clear hkp);(try clear ho0);obtain ⟨Ao46,co46,eo46⟩:=Kd.R_slice HO391.out;subst eo46;obtain ⟨hcz47_0,hcz47_1,hcz47_2⟩:=cc3 BK365;obtain ⟨hfz47_0,hfz47_1,hfz47_2⟩:=ff3 BK365) | ((with_reducible refine gate_store (t:=115) (p:=7) rfl ?_);(try (rw [drewN_self w45];generalize hq_:World.drewN w45 _=w45;have n0_:=aR hq_ HO386;have n1_:=aR hq_ HO388;have n2_:=aR hq_ HO391;have n3_:=aB hq_ BK365;have n4_:=aW hq_ HB;clear hq_ HO386 HO388 HO391 BK365 HB;have HO386:=n0_;have HO388:=n1_;have HO391:=n2_;have BK365:=n3_;have HB:=n4_;clear n0_ n1_ n2_ n3_ n4_));refine stQ 115 7 ((((w45.setCell ⟨gb365,0,none⟩ (.slice Ao46 t389.length co46)).setCell ⟨gb365,1,none⟩ (.int .i64 t392)).setCell ⟨gb365,2,none⟩ (.int .i64 t393))) ?_;intro w48 hw;have n0_:=sR hw HO386 BK365;have n1_:=sR hw HO388 BK365;have n2_:=sR hw HO391 BK365;have n3_:=sP hw BK365;have n4_:=sB hw HB GE365;clear hw HO386 HO388 HO391 BK365 HB;have HO386:=n0_;have HO388:=n1_;have HO391:=n2_;have BK365:=n3_;have HB:=n4_;clear n0_ n1_ n2_ n3_ n4_))
              repeat (go_quiet (first | (go_at_call 66;(with_reducible refine (celluloidref05_Plain.calls kj15  t383 t384 _ A38.out).mono ?_);rintro e w40 ⟨v385,v387,rfl,ho0,ho1,hb⟩;have n0_:=rk HO_366000 hb;have n1_:=Aside0.mk (Kd.R_lower ho0 (below_size (hn HB)));have n2_:=Aside0.mk (Kd.R_lower ho1 (below_size (hn HB)));have n3_:=bb BK365 hb;have n4_:=hs HB hb;clear HO_366000 BK365 HB;have HO_366000:=n0_;have HO386:=n1_;have HO388:=n2_;have BK365:=n3_;have HB:=n4_;clear n0_ n1_ n2_ n3_ n4_;(try clear hb);(try clear ho0);(try clear ho1);obtain ⟨hcz41_0,hcz41_1,hcz41_2⟩:=cc3 BK365;obtain ⟨hfz41_0,hfz41_1,hfz41_2⟩:=ff3 BK365;obtain ⟨Ao42,co42,eo42⟩:=Kd.R_slice HO_366000.out;subst eo42;obtain ⟨Ao43,co43,eo43⟩:=Kd.R_slice HO386.out;subst eo43;obtain ⟨Ao44,co44,eo44⟩:=Kd.R_slice HO388.out;subst eo44) | (go_at_call 75;(with_reducible refine (celluloidref05_codes.calls kj15 a0 (fun k_=>some k_=(.slice Ao42 x366000_15.length co42:Value).ownBlock) (.slice Ao42 x366000_15.length co42) x366000_15 x366001_15 x366002_15 a1 _ _ t383 _ _ t384 t389 t392 t393 w _ (hn HB) (Kd.R_tight rfl HO_366000.out) ?side3 ?side4 ?side5 ?side6 A39.out).mono ?_);(case side3=>exact Kd.C_kept_own ((Kd.R_apart' HO386.out (Kd.R_typed HO_366000.out) (by decide))) (fun k_ hk_ hs_=>(hk_.2) hs_));(case side4=>exact (Kd.R_reads' HO386.out).2.1);(case side5=>exact Kd.C_kept_own ((Kd.R_apart' HO388.out (Kd.R_typed HO_366000.out) (by decide))) (fun k_ hk_ hs_=>(hk_.2) hs_));(case side6=>exact (Kd.R_reads' HO388.out).2.1);rintro e w45 ⟨v390,rfl,ho0,hb,hkp⟩;have n0_:=kb BK365 HO_366000 hkp;have n1_:=ka HO386 HO_366000 hkp;have n2_:=ka HO388 HO_366000 hkp;have n3_:=Aside0.mk (Kd.R_mono (ok':=fun k_=>True) ho0 (fun k_ hk_=>trivial));have n4_:=Aside0.mk hb;clear BK365 HO386 HO388 HB HO_366000;have BK365:=n0_;have HO386:=n1_;have HO388:=n2_;have HO391:=n3_;have HB:=n4_;clear n0_ n1_ n2_ n3_ n4_;(try clear hb);(try clear hkp);(try clear ho0);obtain ⟨Ao46,co46,eo46⟩:=Kd.R_slice HO391.out;subst eo46;obtain ⟨hcz47_0,hcz47_1,hcz47_2⟩:=cc3 BK365;obtain ⟨hfz47_0,hfz47_1,hfz47_2⟩:=ff3 BK365) | ((with_reducible refine gate_store (t:=115) (p:=7) rfl ?_);(try (rw [drewN_self w45];generalize hq_:World.drewN w45 _=w45;have n0_:=aR hq_ HO386;have n1_:=aR hq_ HO388;have n2_:=aR hq_ HO391;have n3_:=aB hq_ BK365;have n4_:=aW hq_ HB;clear hq_ HO386 HO388 HO391 BK365 HB;have HO386:=n0_;have HO388:=n1_;have HO391:=n2_;have BK365:=n3_;have HB:=n4_;clear n0_ n1_ n2_ n3_ n4_));refine stQ 115 7 ((((w45.setCell ⟨gb365,0,none⟩ (.slice Ao46 t389.length co46)).setCell ⟨gb365,1,none⟩ (.int .i64 t392)).setCell ⟨gb365,2,none⟩ (.int .i64 t393))) ?_;intro w48 hw;have n0_:=sR hw HO386 BK365;have n1_:=sR hw HO388 BK365;have n2_:=sR hw HO391 BK365;have n3_:=sP hw BK365;have n4_:=sB hw HB GE365;clear hw HO386 HO388 HO391 BK365 HB;have HO386:=n0_;have HO388:=n1_;have HO391:=n2_;have BK365:=n3_;have HB:=n4_;clear n0_ n1_ n2_ n3_ n4_));try go_wp2_with (first | (go_at_call 66;(with_reducible refine (celluloidref05_Plain.calls kj15  t383 t384 _ A38.out).mono ?_);rintro e w40 ⟨v385,v387,rfl,ho0,ho1,hb⟩;have n0_:=rk HO_366000 hb;have n1_:=Aside0.mk (Kd.R_lower ho0 (below_size (hn HB)));have n2_:=Aside0.mk (Kd.R_lower ho1 (below_size (hn HB)));have n3_:=bb BK365 hb;have n4_:=hs HB hb;clear HO_366000 BK365 HB;have HO_366000:=n0_;have HO386:=n1_;have HO388:=n2_;have BK365:=n3_;have HB:=n4_;clear n0_ n1_ n2_ n3_ n4_;(try clear hb);(try clear ho0);(try clear ho1);obtain ⟨hcz41_0,hcz41_1,hcz41_2⟩:=cc3 BK365;obtain ⟨hfz41_0,hfz41_1,hfz41_2⟩:=ff3 BK365;obtain ⟨Ao42,co42,eo42⟩:=Kd.R_slice HO_366000.out;subst eo42;obtain ⟨Ao43,co43,eo43⟩:=Kd.R_slice HO386.out;subst eo43;obtain ⟨Ao44,co44,eo44⟩:=Kd.R_slice HO388.out;subst eo44) | (go_at_call 75;(with_reducible refine (celluloidref05_codes.calls kj15 a0 (fun k_=>some k_=(.slice Ao42 x366000_15.length co42:Value).ownBlock) (.slice Ao42 x366000_15.length co42) x366000_15 x366001_15 x366002_15 a1 _ _ t383 _ _ t384 t389 t392 t393 w _ (hn HB) (Kd.R_tight rfl HO_366000.out) ?side3 ?side4 ?side5 ?side6 A39.out).mono ?_);(case side3=>exact Kd.C_kept_own ((Kd.R_apart' HO386.out (Kd.R_typed HO_366000.out) (by decide))) (fun k_ hk_ hs_=>(hk_.2) hs_));(case side4=>exact (Kd.R_reads' HO386.out).2.1);(case side5=>exact Kd.C_kept_own ((Kd.R_apart' HO388.out (Kd.R_typed HO_366000.out) (by decide))) (fun k_ hk_ hs_=>(hk_.2) hs_));(case side6=>exact (Kd.R_reads' HO388.out).2.1);rintro e w45 ⟨v390,rfl,ho0,hb,hkp⟩;have n0_:=kb BK365 HO_366000 hkp;have n1_:=ka HO386 HO_366000 hkp;have n2_:=ka HO388 HO_366000 hkp;have n3_:=Aside0.mk (Kd.R_mono (ok':=fun k_=>True) ho0 (fun k_ hk_=>trivial));have n4_:=Aside0.mk hb;clear BK365 HO386 HO388 HB HO_366000;have BK365:=n0_;have HO386:=n1_;have HO388:=n2_;have HO391:=n3_;have HB:=n4_;clear n0_ n1_ n2_ n3_ n4_;(try clear hb);(try clear hkp);(try clear ho0);obtain ⟨Ao46,co46,eo46⟩:=Kd.R_slice HO391.out;subst eo46;obtain ⟨hcz47_0,hcz47_1,hcz47_2⟩:=cc3 BK365;obtain ⟨hfz47_0,hfz47_1,hfz47_2⟩:=ff3 BK365) | ((with_reducible refine gate_store (t:=115) (p:=7) rfl ?_);(try (rw [drewN_self w45];generalize hq_:World.drewN w45 _=w45;have n0_:=aR hq_ HO386;have n1_:=aR hq_ HO388;have n2_:=aR hq_ HO391;have n3_:=aB hq_ BK365;have n4_:=aW hq_ HB;clear hq_ HO386 HO388 HO391 BK365 HB;have HO386:=n0_;have HO388:=n1_;have HO391:=n2_;have BK365:=n3_;have HB:=n4_;clear n0_ n1_ n2_ n3_ n4_));refine stQ 115 7 ((((w45.setCell ⟨gb365,0,none⟩ (.slice Ao46 t389.length co46)).setCell ⟨gb365,1,none⟩ (.int .i64 t392)).setCell ⟨gb365,2,none⟩ (.int .i64 t393))) ?_;intro w48 hw;have n0_:=sR hw HO386 BK365;have n1_:=sR hw HO388 BK365;have n2_:=sR hw HO391 BK365;have n3_:=sP hw BK365;have n4_:=sB hw HB GE365;clear hw HO386 HO388 HO391 BK365 HB;have HO386:=n0_;have HO388:=n1_;have HO391:=n2_;have BK365:=n3_;have HB:=n4_;clear n0_ n1_ n2_ n3_ n4_)))
              go_meet
              case rel=>exact ⟨_,(t389),(t392),(t393),(.slice Ao46 t389.length co46),H',⟨by have:=HJ2.out;have:=HK2.out;have:=HJ8.out;have:=HJ15.out;first | omega | exact Nat.le_refl _⟩,⟨rr HO391⟩,⟨bk BK365⟩,⟨hn HB⟩⟩
             ·rw [if_neg c37] at H
              have c37b0:(t372 == 1)=false:=beq_eq_false_iff_ne.mpr c37
              have c37b1:(t372 != 1)=true:=bne_iff_ne.mpr c37
              (first | rw [c37b0] | (simp only [i64_w,i32_w];rw [c37b0]) | skip)
              have H':=Aside0.mk H
              clear H
              go_wp2
              repeat (go_quiet (fail);try go_wp2)
              go_meet
              case rel=>exact ⟨_,(x366000_15),(x366001_15),(x366002_15),(u366000),H',⟨by have:=HJ2.out;have:=HK2.out;have:=HJ8.out;have:=HJ15.out;first | omega | exact Nat.le_refl _⟩,⟨rr HO_366000⟩,⟨bk BK365⟩,⟨hn HB⟩⟩
            case rest =>
             clear HC36
             obtain ⟨kq,x366000_35,x366001_35,x366002_35,u366000,HA,HJ35,HO_366000,BK365,HB⟩:=hcut
             cases kq with
             |zero=>exact absurd HA.out (by simp [celluloidref05_Raw.j4])
             |succ kj35 =>
              have H:=HA.out
              clear HA
              simp only [celluloidref05_Raw.j4] at H
              by_cases c49:t372=2
              ·rw [if_pos c49] at H
               have c49b0:(t372 == 2)=true:=beq_iff_eq.mpr c49
               have c49b1:(t372 != 2)=false:=bne_eq_false_iff_eq.mpr c49
               have h2_:=Aside0.mk c49;clear c49
               replace H:=Option.bind_eq_some_iff.mp H
               obtain ⟨⟨t394,t397,t398⟩,A500,H⟩:=H
               replace H:(if t372=3 then (celluloidref05_Raw.l0 kj35 a0 a1 t366 t394 t397 3) else (celluloidref05_Raw.l0 kj35 a0 a1 t366 t394 t397 t398))=some (r1,r2,r3):=H
               have A50:=Aside0.mk A500
               clear A500
               by_cases c51:t372=3
               ·exact absurd (h2_.out.symm.trans c51) (by decide)
               ·rw [if_neg c51] at H
                have c51b0:(t372 == 3)=false:=beq_eq_false_iff_ne.mpr c51
                have c51b1:(t372 != 3)=true:=bne_iff_ne.mpr c51
                have H':=Aside0.mk H
                clear H
                obtain ⟨hcz60_0,hcz60_1,hcz60_2⟩:=cc3 BK365
                obtain ⟨hfz60_0,hfz60_1,hfz60_2⟩:=ff3 BK365
                obtain ⟨Ao61,co61,eo61⟩:=Kd.R_slice HO_366000.out
                subst eo61
                obtain ⟨⟨q1,q2,q3,q4,q5⟩,A76_,A75_⟩:=Option.bind_eq_some_iff.mp (show (celluloidref05_lengths.f kj35 a0 x366000_35 x366001_35 x366002_35).bind _=_ from A50.out)
                have A76:=Aside0.mk A76_
                obtain ⟨la_,hla0_⟩:∃ l_:List Int,l_=q1.take (q2.headD 0).toNat:=⟨_,rfl⟩
                obtain ⟨lb_,hlb0_⟩:∃ l_:List Int,l_=q1.drop (q2.headD 0).toNat:=⟨_,rfl⟩
                replace A75_:=(show celluloidref05_codes.f kj35 a0 q3 q4 q5 a1 (q1.take (q2.headD 0).toNat) (q1.drop (q2.headD 0).toNat)=_ from A75_)
                rw [← hla0_,← hlb0_] at A75_
                have A75:=Aside0.mk A75_
                have hla_:=Aside0.mk hla0_
                have hlb_:=Aside0.mk hlb0_
                clear A76_ A75_ hla0_ hlb0_
                go_wp2_with (first | (go_at_call 76;(with_reducible refine (celluloidref05_lengths.calls2 kj35 a0 (fun k_=>some k_=(.slice Ao61 x366000_35.length co61:Value).ownBlock) (.slice Ao61 x366000_35.length co61) x366000_35 x366001_35 x366002_35 q1 q2 q3 q4 q5 la_ lb_ w _ (hn HB) (Kd.R_tight rfl HO_366000.out) A76.out hla_.out hlb_.out).mono ?_);rintro e w70 ⟨Aa,Ab,ca,cb,v70,rfl,ho0,hb,hkp,hCa,hCb,hca,hcb⟩;have n0_:=kb BK365 HO_366000 hkp;have n1_:=Aside0.mk (Kd.R_mono (ok':=fun k_=>True) ho0 (fun k_ hk_=>trivial));have n2_:=Aside0.mk hb;clear BK365 HB HO_366000;have BK365:=n0_;have HO70:=n1_;have HB:=n2_;clear n0_ n1_ n2_;clear hb hkp ho0;obtain ⟨Ao70,co70,eo70⟩:=Kd.R_slice HO70.out;subst eo70;have HCa:=Aside0.mk hCa;have HCb:=Aside0.mk hCb;have Hca:=Aside0.mk hca;have Hcb:=Aside0.mk hcb;clear hCa hCb hca hcb;have HKa:=Aside0.mk (Kept.refl w70 (fun k_=>some k_=(.slice Ao70 q3.length co70:Value).ownBlock));obtain ⟨hcz70_0,hcz70_1,hcz70_2⟩:=cc3 BK365;obtain ⟨hfz70_0,hfz70_1,hfz70_2⟩:=ff3 BK365) | ((with_reducible refine gate_dst (N:=14) rfl ?_);refine boxQ 14 #[.slice none 0 0,.int .i64 0,.int .i64 0] 115 ?_;intro gb71 hg w71 hbox hb;have n0_:=rk HO70 hb;have n1_:=Aside0.mk (blk_below (bk BK365) hb);have n2_:=Aside0.mk (Kept.below (by repeat (first | (with_reducible first | exact HKa.out | apply Kept.alloc | apply Kept.drewN | apply Kept.drew) | exact HKa.out)) hb);have n3_:=hs HB hb;have n4_:=Aside0.mk hbox;have n5_:=Aside0.mk ((by rw [hg];exact (below_size (hn HB))):w.heap.size≤gb71);have n6_:=Aside0.mk ((by rw [hg];exact (by first | exact HKa.out.1 | exact Nat.le_refl _)):w70.heap.size≤gb71);have n7_:=Aside0.mk ((by rw [hg];exact Nat.ne_of_lt (blk_lt (bk BK365))):gb365 ≠ gb71);clear HO70 BK365 HKa HB;have HO70:=n0_;have BK365:=n1_;have HKa:=n2_;have HB:=n3_;have BK71:=n4_;have GE71:=n5_;have GW71:=n6_;have NB71:=n7_;clear n0_ n1_ n2_ n3_ n4_ n5_ n6_ n7_;clear hb hbox hg;obtain ⟨hcz71_0,hcz71_1,hcz71_2⟩:=cc3 BK71;obtain ⟨hfz71_0,hfz71_1,hfz71_2⟩:=ff3 BK71) | ((with_reducible refine gate_store (t:=115) (p:=14) rfl ?_);(try (rw [drewN_self w71];generalize hq_:World.drewN w71 _=w71;have n0_:=aR hq_ HO70;have n1_:=aB hq_ BK365;have n2_:=aW hq_ HB;have n3_:=aB hq_ BK71;have n4_:=Aside0.mk (kept_at hq_ HKa.out);clear hq_ HO70 BK365 HB BK71 HKa;have HO70:=n0_;have BK365:=n1_;have HB:=n2_;have BK71:=n3_;have HKa:=n4_;clear n0_ n1_ n2_ n3_ n4_));refine stQ 115 14 ((((w71.setCell ⟨gb71,0,none⟩ (.slice Ao70 q3.length co70)).setCell ⟨gb71,1,none⟩ (.int .i64 q4)).setCell ⟨gb71,2,none⟩ (.int .i64 q5))) ?_;intro w72 hw;have n0_:=sR hw HO70 BK71;have n1_:Aside0 (w72.heap[gb365]?=some (.cells #[.slice Ao61 x366000_35.length co61,.int .i64 x366001_35,.int .i64 x366002_35] 115 (0,0))):=⟨(by rw [hw];exact (by refine blk_far ?_ NB71.out _;refine blk_far ?_ NB71.out _;refine blk_far ?_ NB71.out _;exact BK365.out))⟩;have n2_:=sP hw BK71;have n3_:=sB hw HB GE71;have n4_:Aside0 (Kept w70 w72 (fun k_=>some k_=(.slice Ao70 q3.length co70:Value).ownBlock)):=⟨(by rw [hw];exact (Kept.setCell (Kept.setCell (Kept.setCell HKa.out (.inr GW71.out) _) (.inr GW71.out) _) (.inr GW71.out) _))⟩;clear hw;clear HO70 BK365 BK71 HB HKa;have HO70:=n0_;have BK365:=n1_;have BK71:=n2_;have HB:=n3_;have HKa:=n4_;clear n0_ n1_ n2_ n3_ n4_;obtain ⟨hcz72_0,hcz72_1,hcz72_2⟩:=cc3 BK71;obtain ⟨hfz72_0,hfz72_1,hfz72_2⟩:=ff3 BK71) | (go_at_call 75;(with_reducible refine (celluloidref05_codes.calls kj35 a0 (fun k_=>some k_=(.slice Ao70 q3.length co70:Value).ownBlock) (.slice Ao70 q3.length co70) q3 q4 q5 a1 Aa ca la_ Ab cb lb_ t394 t397 t398 w _ (hn HB) (Kd.R_tight rfl HO70.out) (fun W_ hk_=>HCa.out W_ (Kept.then_ HKa.out hk_ (fun k_ hs_=>.inl hs_))) Hca.out (fun W_ hk_=>HCb.out W_ (Kept.then_ HKa.out hk_ (fun k_ hs_=>.inl hs_))) Hcb.out A75.out).mono ?_);rintro e w73 ⟨v73,rfl,ho0,hb,hkp⟩;have n0_:=kb BK365 HO70 hkp;have n1_:=Aside0.mk (Kd.R_mono (ok':=fun k_=>True) ho0 (fun k_ hk_=>trivial));have n2_:=Aside0.mk hb;clear BK71 HKa;clear BK365 HB HO70;have BK365:=n0_;have HO396:=n1_;have HB:=n2_;clear n0_ n1_ n2_;clear hb hkp ho0;obtain ⟨Ao63,co63,eo73⟩:=Kd.R_slice HO396.out;subst eo73;obtain ⟨hcz73_0,hcz73_1,hcz73_2⟩:=cc3 BK365;obtain ⟨hfz73_0,hfz73_1,hfz73_2⟩:=ff3 BK365) | ((with_reducible refine gate_store (t:=115) (p:=7) rfl ?_);(try (rw [drewN_self w73];generalize hq_:World.drewN w73 _=w73;have n0_:=aR hq_ HO396;have n1_:=aB hq_ BK365;have n2_:=aW hq_ HB;clear hq_ HO396 BK365 HB;have HO396:=n0_;have BK365:=n1_;have HB:=n2_;clear n0_ n1_ n2_));refine stQ 115 7 ((((w73.setCell ⟨gb365,0,none⟩ (.slice Ao63 t394.length co63)).setCell ⟨gb365,1,none⟩ (.int .i64 t397)).setCell ⟨gb365,2,none⟩ (.int .i64 t398))) ?_;intro w74 hw;have n0_:=sR hw HO396 BK365;have n1_:=sP hw BK365;have n2_:=sB hw HB GE365;clear hw;clear HO396 BK365 HB;have HO396:=n0_;have BK365:=n1_;have HB:=n2_;clear n0_ n1_ n2_))
                repeat (go_quiet (first | (go_at_call 76;(with_reducible refine (celluloidref05_lengths.calls2 kj35 a0 (fun k_=>some k_=(.slice Ao61 x366000_35.length co61:Value).ownBlock) (.slice Ao61 x366000_35.length co61) x366000_35 x366001_35 x366002_35 q1 q2 q3 q4 q5 la_ lb_ w _ (hn HB) (Kd.R_tight rfl HO_366000.out) A76.out hla_.out hlb_.out).mono ?_);rintro e w70 ⟨Aa,Ab,ca,cb,v70,rfl,ho0,hb,hkp,hCa,hCb,hca,hcb⟩;have n0_:=kb BK365 HO_366000 hkp;have n1_:=Aside0.mk (Kd.R_mono (ok':=fun k_=>True) ho0 (fun k_ hk_=>trivial));have n2_:=Aside0.mk hb;clear BK365 HB HO_366000;have BK365:=n0_;have HO70:=n1_;have HB:=n2_;clear n0_ n1_ n2_;clear hb hkp ho0;obtain ⟨Ao70,co70,eo70⟩:=Kd.R_slice HO70.out;subst eo70;have HCa:=Aside0.mk hCa;have HCb:=Aside0.mk hCb;have Hca:=Aside0.mk hca;have Hcb:=Aside0.mk hcb;clear hCa hCb hca hcb;have HKa:=Aside0.mk (Kept.refl w70 (fun k_=>some k_=(.slice Ao70 q3.length co70:Value).ownBlock));obtain ⟨hcz70_0,hcz70_1,hcz70_2⟩:=cc3 BK365;obtain ⟨hfz70_0,hfz70_1,hfz70_2⟩:=ff3 BK365) | ((with_reducible refine gate_dst (N:=14) rfl ?_);refine boxQ 14 #[.slice none 0 0,.int .i64 0,.int .i64 0] 115 ?_;intro gb71 hg w71 hbox hb;have n0_:=rk HO70 hb;have n1_:=Aside0.mk (blk_below (bk BK365) hb);have n2_:=Aside0.mk (Kept.below (by repeat (first | (with_reducible first | exact HKa.out | apply Kept.alloc | apply Kept.drewN | apply Kept.drew) | exact HKa.out)) hb);have n3_:=hs HB hb;have n4_:=Aside0.mk hbox;have n5_:=Aside0.mk ((by rw [hg];exact (below_size (hn HB))):w.heap.size≤gb71);have n6_:=Aside0.mk ((by rw [hg];exact (by first | exact HKa.out.1 | exact Nat.le_refl _)):w70.heap.size≤gb71);have n7_:=Aside0.mk ((by rw [hg];exact Nat.ne_of_lt (blk_lt (bk BK365))):gb365 ≠ gb71);clear HO70 BK365 HKa HB;have HO70:=n0_;have BK365:=n1_;have HKa:=n2_;have HB:=n3_;have BK71:=n4_;have GE71:=n5_;have GW71:=n6_;have NB71:=n7_;clear n0_ n1_ n2_ n3_ n4_ n5_ n6_ n7_;clear hb hbox hg;obtain ⟨hcz71_0,hcz71_1,hcz71_2⟩:=cc3 BK71;obtain ⟨hfz71_0,hfz71_1,hfz71_2⟩:=ff3 BK71) | ((with_reducible refine gate_store (t:=115) (p:=14) rfl ?_);(try (rw [drewN_self w71];generalize hq_:World.drewN w71 _=w71;have n0_:=aR hq_ HO70;have n1_:=aB hq_ BK365;have n2_:=aW hq_ HB;have n3_:=aB hq_ BK71;have n4_:=Aside0.mk (kept_at hq_ HKa.out);clear hq_ HO70 BK365 HB BK71 HKa;have HO70:=n0_;have BK365:=n1_;have HB:=n2_;have BK71:=n3_;have HKa:=n4_;clear n0_ n1_ n2_ n3_ n4_));refine stQ 115 14 ((((w71.setCell ⟨gb71,0,none⟩ (.slice Ao70 q3.length co70)).setCell ⟨gb71,1,none⟩ (.int .i64 q4)).setCell ⟨gb71,2,none⟩ (.int .i64 q5))) ?_;intro w72 hw;have n0_:=sR hw HO70 BK71;have n1_:Aside0 (w72.heap[gb365]?=some (.cells #[.slice Ao61 x366000_35.length co61,.int .i64 x366001_35,.int .i64 x366002_35] 115 (0,0))):=⟨(by rw [hw];exact (by refine blk_far ?_ NB71.out _;refine blk_far ?_ NB71.out _;refine blk_far ?_ NB71.out _;exact BK365.out))⟩;have n2_:=sP hw BK71;have n3_:=sB hw HB GE71;have n4_:Aside0 (Kept w70 w72 (fun k_=>some k_=(.slice Ao70 q3.length co70:Value).ownBlock)):=⟨(by rw [hw];exact (Kept.setCell (Kept.setCell (Kept.setCell HKa.out (.inr GW71.out) _) (.inr GW71.out) _) (.inr GW71.out) _))⟩;clear hw;clear HO70 BK365 BK71 HB HKa;have HO70:=n0_;have BK365:=n1_;have BK71:=n2_;have HB:=n3_;have HKa:=n4_;clear n0_ n1_ n2_ n3_ n4_;obtain ⟨hcz72_0,hcz72_1,hcz72_2⟩:=cc3 BK71;obtain ⟨hfz72_0,hfz72_1,hfz72_2⟩:=ff3 BK71) | (go_at_call 75;(with_reducible refine (celluloidref05_codes.calls kj35 a0 (fun k_=>some k_=(.slice Ao70 q3.length co70:Value).ownBlock) (.slice Ao70 q3.length co70) q3 q4 q5 a1 Aa ca la_ Ab cb lb_ t394 t397 t398 w _ (hn HB) (Kd.R_tight rfl HO70.out) (fun W_ hk_=>HCa.out W_ (Kept.then_ HKa.out hk_ (fun k_ hs_=>.inl hs_))) Hca.out (fun W_ hk_=>HCb.out W_ (Kept.then_ HKa.out hk_ (fun k_ hs_=>.inl hs_))) Hcb.out A75.out).mono ?_);rintro e w73 ⟨v73,rfl,ho0,hb,hkp⟩;have n0_:=kb BK365 HO70 hkp;have n1_:=Aside0.mk (Kd.R_mono (ok':=fun k_=>True) ho0 (fun k_ hk_=>trivial));have n2_:=Aside0.mk hb;clear BK71 HKa;clear BK365 HB HO70;have BK365:=n0_;have HO396:=n1_;have HB:=n2_;clear n0_ n1_ n2_;clear hb hkp ho0;obtain ⟨Ao63,co63,eo73⟩:=Kd.R_slice HO396.out;subst eo73;obtain ⟨hcz73_0,hcz73_1,hcz73_2⟩:=cc3 BK365;obtain ⟨hfz73_0,hfz73_1,hfz73_2⟩:=ff3 BK365) | ((with_reducible refine gate_store (t:=115) (p:=7) rfl ?_);(try (rw [drewN_self w73];generalize hq_:World.drewN w73 _=w73;have n0_:=aR hq_ HO396;have n1_:=aB hq_ BK365;have n2_:=aW hq_ HB;clear hq_ HO396 BK365 HB;have HO396:=n0_;have BK365:=n1_;have HB:=n2_;clear n0_ n1_ n2_));refine stQ 115 7 ((((w73.setCell ⟨gb365,0,none⟩ (.slice Ao63 t394.length co63)).setCell ⟨gb365,1,none⟩ (.int .i64 t397)).setCell ⟨gb365,2,none⟩ (.int .i64 t398))) ?_;intro w74 hw;have n0_:=sR hw HO396 BK365;have n1_:=sP hw BK365;have n2_:=sB hw HB GE365;clear hw;clear HO396 BK365 HB;have HO396:=n0_;have BK365:=n1_;have HB:=n2_;clear n0_ n1_ n2_));try go_wp2_with (first | (go_at_call 76;(with_reducible refine (celluloidref05_lengths.calls2 kj35 a0 (fun k_=>some k_=(.slice Ao61 x366000_35.length co61:Value).ownBlock) (.slice Ao61 x366000_35.length co61) x366000_35 x366001_35 x366002_35 q1 q2 q3 q4 q5 la_ lb_ w _ (hn HB) (Kd.R_tight rfl HO_366000.out) A76.out hla_.out hlb_.out).mono ?_);rintro e w70 ⟨Aa,Ab,ca,cb,v70,rfl,ho0,hb,hkp,hCa,hCb,hca,hcb⟩;have n0_:=kb BK365 HO_366000 hkp;have n1_:=Aside0.mk (Kd.R_mono (ok':=fun k_=>True) ho0 (fun k_ hk_=>trivial));have n2_:=Aside0.mk hb;clear BK365 HB HO_366000;have BK365:=n0_;have HO70:=n1_;have HB:=n2_;clear n0_ n1_ n2_;clear hb hkp ho0;obtain ⟨Ao70,co70,eo70⟩:=Kd.R_slice HO70.out;subst eo70;have HCa:=Aside0.mk hCa;have HCb:=Aside0.mk hCb;have Hca:=Aside0.mk hca;have Hcb:=Aside0.mk hcb;clear hCa hCb hca hcb;have HKa:=Aside0.mk (Kept.refl w70 (fun k_=>some k_=(.slice Ao70 q3.length co70:Value).ownBlock));obtain ⟨hcz70_0,hcz70_1,hcz70_2⟩:=cc3 BK365;obtain ⟨hfz70_0,hfz70_1,hfz70_2⟩:=ff3 BK365) | ((with_reducible refine gate_dst (N:=14) rfl ?_);refine boxQ 14 #[.slice none 0 0,.int .i64 0,.int .i64 0] 115 ?_;intro gb71 hg w71 hbox hb;have n0_:=rk HO70 hb;have n1_:=Aside0.mk (blk_below (bk BK365) hb);have n2_:=Aside0.mk (Kept.below (by repeat (first | (with_reducible first | exact HKa.out | apply Kept.alloc | apply Kept.drewN | apply Kept.drew) | exact HKa.out)) hb);have n3_:=hs HB hb;have n4_:=Aside0.mk hbox;have n5_:=Aside0.mk ((by rw [hg];exact (below_size (hn HB))):w.heap.size≤gb71);have n6_:=Aside0.mk ((by rw [hg];exact (by first | exact HKa.out.1 | exact Nat.le_refl _)):w70.heap.size≤gb71);have n7_:=Aside0.mk ((by rw [hg];exact Nat.ne_of_lt (blk_lt (bk BK365))):gb365 ≠ gb71);clear HO70 BK365 HKa HB;have HO70:=n0_;have BK365:=n1_;have HKa:=n2_;have HB:=n3_;have BK71:=n4_;have GE71:=n5_;have GW71:=n6_;have NB71:=n7_;clear n0_ n1_ n2_ n3_ n4_ n5_ n6_ n7_;clear hb hbox hg;obtain ⟨hcz71_0,hcz71_1,hcz71_2⟩:=cc3 BK71;obtain ⟨hfz71_0,hfz71_1,hfz71_2⟩:=ff3 BK71) | ((with_reducible refine gate_store (t:=115) (p:=14) rfl ?_);(try (rw [drewN_self w71];generalize hq_:World.drewN w71 _=w71;have n0_:=aR hq_ HO70;have n1_:=aB hq_ BK365;have n2_:=aW hq_ HB;have n3_:=aB hq_ BK71;have n4_:=Aside0.mk (kept_at hq_ HKa.out);clear hq_ HO70 BK365 HB BK71 HKa;have HO70:=n0_;have BK365:=n1_;have HB:=n2_;have BK71:=n3_;have HKa:=n4_;clear n0_ n1_ n2_ n3_ n4_));refine stQ 115 14 ((((w71.setCell ⟨gb71,0,none⟩ (.slice Ao70 q3.length co70)).setCell ⟨gb71,1,none⟩ (.int .i64 q4)).setCell ⟨gb71,2,none⟩ (.int .i64 q5))) ?_;intro w72 hw;have n0_:=sR hw HO70 BK71;have n1_:Aside0 (w72.heap[gb365]?=some (.cells #[.slice Ao61 x366000_35.length co61,.int .i64 x366001_35,.int .i64 x366002_35] 115 (0,0))):=⟨(by rw [hw];exact (by refine blk_far ?_ NB71.out _;refine blk_far ?_ NB71.out _;refine blk_far ?_ NB71.out _;exact BK365.out))⟩;have n2_:=sP hw BK71;have n3_:=sB hw HB GE71;have n4_:Aside0 (Kept w70 w72 (fun k_=>some k_=(.slice Ao70 q3.length co70:Value).ownBlock)):=⟨(by rw [hw];exact (Kept.setCell (Kept.setCell (Kept.setCell HKa.out (.inr GW71.out) _) (.inr GW71.out) _) (.inr GW71.out) _))⟩;clear hw;clear HO70 BK365 BK71 HB HKa;have HO70:=n0_;have BK365:=n1_;have BK71:=n2_;have HB:=n3_;have HKa:=n4_;clear n0_ n1_ n2_ n3_ n4_;obtain ⟨hcz72_0,hcz72_1,hcz72_2⟩:=cc3 BK71;obtain ⟨hfz72_0,hfz72_1,hfz72_2⟩:=ff3 BK71) | (go_at_call 75;(with_reducible refine (celluloidref05_codes.calls kj35 a0 (fun k_=>some k_=(.slice Ao70 q3.length co70:Value).ownBlock) (.slice Ao70 q3.length co70) q3 q4 q5 a1 Aa ca la_ Ab cb lb_ t394 t397 t398 w _ (hn HB) (Kd.R_tight rfl HO70.out) (fun W_ hk_=>HCa.out W_ (Kept.then_ HKa.out hk_ (fun k_ hs_=>.inl hs_))) Hca.out (fun W_ hk_=>HCb.out W_ (Kept.then_ HKa.out hk_ (fun k_ hs_=>.inl hs_))) Hcb.out A75.out).mono ?_);rintro e w73 ⟨v73,rfl,ho0,hb,hkp⟩;have n0_:=kb BK365 HO70 hkp;have n1_:=Aside0.mk (Kd.R_mono (ok':=fun k_=>True) ho0 (fun k_ hk_=>trivial));have n2_:=Aside0.mk hb;clear BK71 HKa;clear BK365 HB HO70;have BK365:=n0_;have HO396:=n1_;have HB:=n2_;clear n0_ n1_ n2_;clear hb hkp ho0;obtain ⟨Ao63,co63,eo73⟩:=Kd.R_slice HO396.out;subst eo73;obtain ⟨hcz73_0,hcz73_1,hcz73_2⟩:=cc3 BK365;obtain ⟨hfz73_0,hfz73_1,hfz73_2⟩:=ff3 BK365) | ((with_reducible refine gate_store (t:=115) (p:=7) rfl ?_);(try (rw [drewN_self w73];generalize hq_:World.drewN w73 _=w73;have n0_:=aR hq_ HO396;have n1_:=aB hq_ BK365;have n2_:=aW hq_ HB;clear hq_ HO396 BK365 HB;have HO396:=n0_;have BK365:=n1_;have HB:=n2_;clear n0_ n1_ n2_));refine stQ 115 7 ((((w73.setCell ⟨gb365,0,none⟩ (.slice Ao63 t394.length co63)).setCell ⟨gb365,1,none⟩ (.int .i64 t397)).setCell ⟨gb365,2,none⟩ (.int .i64 t398))) ?_;intro w74 hw;have n0_:=sR hw HO396 BK365;have n1_:=sP hw BK365;have n2_:=sB hw HB GE365;clear hw;clear HO396 BK365 HB;have HO396:=n0_;have BK365:=n1_;have HB:=n2_;clear n0_ n1_ n2_)))
                go_roundg kj35
                case measure=>have:=HJ2.out;have:=HK2.out;have:=HJ8.out;have:=HJ15.out;have:=HJ35.out;omega
                case rel=>exact ⟨(t366),(t394),(t397),(t398),(.slice Ao63 t394.length co63),(by first | rfl | (simp;done) | (simp [*];done)),H',⟨by have:=HJ2.out;have:=HK2.out;have:=HJ8.out;have:=HJ15.out;have:=HJ35.out;omega⟩,⟨rr HO396⟩,⟨bk BK365⟩,⟨hn HB⟩⟩
              ·rw [if_neg c49] at H
               have c49b0:(t372 == 2)=false:=beq_eq_false_iff_ne.mpr c49
               have c49b1:(t372 != 2)=true:=bne_iff_ne.mpr c49
               by_cases c66:t372=3
               ·rw [if_pos c66] at H
                have c66b0:(t372 == 3)=true:=beq_iff_eq.mpr c66
                have c66b1:(t372 != 3)=false:=bne_eq_false_iff_eq.mpr c66
                clear c66
                have H':=Aside0.mk H
                clear H
                obtain ⟨hcz67_0,hcz67_1,hcz67_2⟩:=cc3 BK365
                obtain ⟨hfz67_0,hfz67_1,hfz67_2⟩:=ff3 BK365
                go_wp2_with (first | ((with_reducible refine gate_store (t:=3) (p:=79) rfl ?_);(try (rw [drewN_self wc];generalize hq_:World.drewN wc _=wc;have n0_:=aR hq_ HO_366000;have n1_:=aB hq_ BK365;have n2_:=aW hq_ HB;clear hq_ HO_366000 BK365 HB;have HO_366000:=n0_;have BK365:=n1_;have HB:=n2_;clear n0_ n1_ n2_));refine stQ 3 79 ((wc.setCell ⟨gb365,2,none⟩ (.int .i64 3))) ?_;intro w68 hw;have n0_:=sR hw HO_366000 BK365;have n1_:=sP2 hw BK365;have n2_:=sB hw HB GE365;clear hw HO_366000 BK365 HB;have HO_366000:=n0_;have BK365:=n1_;have HB:=n2_;clear n0_ n1_ n2_))
                repeat (go_quiet (first | ((with_reducible refine gate_store (t:=3) (p:=79) rfl ?_);(try (rw [drewN_self wc];generalize hq_:World.drewN wc _=wc;have n0_:=aR hq_ HO_366000;have n1_:=aB hq_ BK365;have n2_:=aW hq_ HB;clear hq_ HO_366000 BK365 HB;have HO_366000:=n0_;have BK365:=n1_;have HB:=n2_;clear n0_ n1_ n2_));refine stQ 3 79 ((wc.setCell ⟨gb365,2,none⟩ (.int .i64 3))) ?_;intro w68 hw;have n0_:=sR hw HO_366000 BK365;have n1_:=sP2 hw BK365;have n2_:=sB hw HB GE365;clear hw HO_366000 BK365 HB;have HO_366000:=n0_;have BK365:=n1_;have HB:=n2_;clear n0_ n1_ n2_));try go_wp2_with (first | ((with_reducible refine gate_store (t:=3) (p:=79) rfl ?_);(try (rw [drewN_self wc];generalize hq_:World.drewN wc _=wc;have n0_:=aR hq_ HO_366000;have n1_:=aB hq_ BK365;have n2_:=aW hq_ HB;clear hq_ HO_366000 BK365 HB;have HO_366000:=n0_;have BK365:=n1_;have HB:=n2_;clear n0_ n1_ n2_));refine stQ 3 79 ((wc.setCell ⟨gb365,2,none⟩ (.int .i64 3))) ?_;intro w68 hw;have n0_:=sR hw HO_366000 BK365;have n1_:=sP2 hw BK365;have n2_:=sB hw HB GE365;clear hw HO_366000 BK365 HB;have HO_366000:=n0_;have BK365:=n1_;have HB:=n2_;clear n0_ n1_ n2_)))
                go_roundg kj35
                case measure=>have:=HJ2.out;have:=HK2.out;have:=HJ8.out;have:=HJ15.out;have:=HJ35.out;omega
                case rel=>exact ⟨(t366),(x366000_35),(x366001_35),(3),(u366000),(by first | rfl | (simp;done) | (simp [*];done)),H',⟨by have:=HJ2.out;have:=HK2.out;have:=HJ8.out;have:=HJ15.out;have:=HJ35.out;omega⟩,⟨rr HO_366000⟩,⟨bk BK365⟩,⟨hn HB⟩⟩
               ·rw [if_neg c66] at H
                have c66b0:(t372 == 3)=false:=beq_eq_false_iff_ne.mpr c66
                have c66b1:(t372 != 3)=true:=bne_iff_ne.mpr c66
                have H':=Aside0.mk H
                clear H
                go_wp2
                repeat (go_quiet (fail);try go_wp2)
                go_roundg kj35
                case measure=>have:=HJ2.out;have:=HK2.out;have:=HJ8.out;have:=HJ15.out;have:=HJ35.out;omega
                case rel=>exact ⟨(t366),(x366000_35),(x366001_35),(x366002_35),(u366000),(by first | rfl | (simp;done) | (simp [*];done)),H',⟨by have:=HJ2.out;have:=HK2.out;have:=HJ8.out;have:=HJ15.out;have:=HJ35.out;omega⟩,⟨rr HO_366000⟩,⟨bk BK365⟩,⟨hn HB⟩⟩
         ·rw [if_neg c15] at H
          have c15b0:(t377 == 0)=false:=beq_eq_false_iff_ne.mpr c15
          have c15b1:(t377 != 0)=true:=bne_iff_ne.mpr c15
          simp only [Option.some.injEq,Prod.mk.injEq] at H
          obtain ⟨rfl,rfl,rfl⟩:=H
          obtain ⟨hcz69_0,hcz69_1,hcz69_2⟩:=cc3 BK365
          obtain ⟨hfz69_0,hfz69_1,hfz69_2⟩:=ff3 BK365
          obtain ⟨Ao70,co70,eo70⟩:=Kd.R_slice HO_366000.out
          subst eo70
          go_wp2_with (first | (go_at_call 73;(with_reducible refine (celluloidref05_number.calls kj8 a0 (fun k_=>some k_=(.slice Ao70 x366000_2.length co70:Value).ownBlock) (.slice Ao70 x366000_2.length co70) x366000_2 x366001_2 x366002_2 1 t366 t367 t370 t371 w _ (hn HB) (Kd.R_tight rfl HO_366000.out) A13.out).mono ?_);rintro e w71 ⟨v368,rfl,ho0,hb,hkp⟩;have n0_:=kb BK365 HO_366000 hkp;have n1_:=Aside0.mk (Kd.R_mono (ok':=fun k_=>True) ho0 (fun k_ hk_=>trivial));have n2_:=Aside0.mk hb;clear BK365 HB HO_366000;have BK365:=n0_;have HO369:=n1_;have HB:=n2_;clear n0_ n1_ n2_;(try clear hb);(try clear hkp);(try clear ho0);obtain ⟨Ao72,co72,eo72⟩:=Kd.R_slice HO369.out;subst eo72;obtain ⟨hcz73_0,hcz73_1,hcz73_2⟩:=cc3 BK365;obtain ⟨hfz73_0,hfz73_1,hfz73_2⟩:=ff3 BK365) | ((with_reducible refine gate_store (t:=115) (p:=7) rfl ?_);(try (rw [drewN_self w71];generalize hq_:World.drewN w71 _=w71;have n0_:=aR hq_ HO369;have n1_:=aB hq_ BK365;have n2_:=aW hq_ HB;clear hq_ HO369 BK365 HB;have HO369:=n0_;have BK365:=n1_;have HB:=n2_;clear n0_ n1_ n2_));refine stQ 115 7 ((((w71.setCell ⟨gb365,0,none⟩ (.slice Ao72 t367.length co72)).setCell ⟨gb365,1,none⟩ (.int .i64 t370)).setCell ⟨gb365,2,none⟩ (.int .i64 t371))) ?_;intro w74 hw;have n0_:=sR hw HO369 BK365;have n1_:=sP hw BK365;have n2_:=sB hw HB GE365;clear hw HO369 BK365 HB;have HO369:=n0_;have BK365:=n1_;have HB:=n2_;clear n0_ n1_ n2_;obtain ⟨hcz75_0,hcz75_1,hcz75_2⟩:=cc3 BK365;obtain ⟨hfz75_0,hfz75_1,hfz75_2⟩:=ff3 BK365) | (go_at_call 73;(with_reducible refine (celluloidref05_number.calls kj8 a0 (fun k_=>some k_=(.slice Ao72 t367.length co72:Value).ownBlock) (.slice Ao72 t367.length co72) t367 t370 t371 2 t372 t373 t376 t377 w _ (hn HB) (Kd.R_tight rfl HO369.out) A14.out).mono ?_);rintro e w76 ⟨v374,rfl,ho0,hb,hkp⟩;have n0_:=kb BK365 HO369 hkp;have n1_:=Aside0.mk (Kd.R_mono (ok':=fun k_=>True) ho0 (fun k_ hk_=>trivial));have n2_:=Aside0.mk hb;clear BK365 HB HO369;have BK365:=n0_;have HO375:=n1_;have HB:=n2_;clear n0_ n1_ n2_;(try clear hb);(try clear hkp);(try clear ho0);obtain ⟨Ao77,co77,eo77⟩:=Kd.R_slice HO375.out;subst eo77;obtain ⟨hcz78_0,hcz78_1,hcz78_2⟩:=cc3 BK365;obtain ⟨hfz78_0,hfz78_1,hfz78_2⟩:=ff3 BK365) | ((with_reducible refine gate_store (t:=115) (p:=7) rfl ?_);(try (rw [drewN_self w76];generalize hq_:World.drewN w76 _=w76;have n0_:=aR hq_ HO375;have n1_:=aB hq_ BK365;have n2_:=aW hq_ HB;clear hq_ HO375 BK365 HB;have HO375:=n0_;have BK365:=n1_;have HB:=n2_;clear n0_ n1_ n2_));refine stQ 115 7 ((((w76.setCell ⟨gb365,0,none⟩ (.slice Ao77 t373.length co77)).setCell ⟨gb365,1,none⟩ (.int .i64 t376)).setCell ⟨gb365,2,none⟩ (.int .i64 t377))) ?_;intro w79 hw;have n0_:=sR hw HO375 BK365;have n1_:=sP hw BK365;have n2_:=sB hw HB GE365;clear hw HO375 BK365 HB;have HO375:=n0_;have BK365:=n1_;have HB:=n2_;clear n0_ n1_ n2_;obtain ⟨hcz80_0,hcz80_1,hcz80_2⟩:=cc3 BK365;obtain ⟨hfz80_0,hfz80_1,hfz80_2⟩:=ff3 BK365))
          repeat (go_quiet (first | (go_at_call 73;(with_reducible refine (celluloidref05_number.calls kj8 a0 (fun k_=>some k_=(.slice Ao70 x366000_2.length co70:Value).ownBlock) (.slice Ao70 x366000_2.length co70) x366000_2 x366001_2 x366002_2 1 t366 t367 t370 t371 w _ (hn HB) (Kd.R_tight rfl HO_366000.out) A13.out).mono ?_);rintro e w71 ⟨v368,rfl,ho0,hb,hkp⟩;have n0_:=kb BK365 HO_366000 hkp;have n1_:=Aside0.mk (Kd.R_mono (ok':=fun k_=>True) ho0 (fun k_ hk_=>trivial));have n2_:=Aside0.mk hb;clear BK365 HB HO_366000;have BK365:=n0_;have HO369:=n1_;have HB:=n2_;clear n0_ n1_ n2_;(try clear hb);(try clear hkp);(try clear ho0);obtain ⟨Ao72,co72,eo72⟩:=Kd.R_slice HO369.out;subst eo72;obtain ⟨hcz73_0,hcz73_1,hcz73_2⟩:=cc3 BK365;obtain ⟨hfz73_0,hfz73_1,hfz73_2⟩:=ff3 BK365) | ((with_reducible refine gate_store (t:=115) (p:=7) rfl ?_);(try (rw [drewN_self w71];generalize hq_:World.drewN w71 _=w71;have n0_:=aR hq_ HO369;have n1_:=aB hq_ BK365;have n2_:=aW hq_ HB;clear hq_ HO369 BK365 HB;have HO369:=n0_;have BK365:=n1_;have HB:=n2_;clear n0_ n1_ n2_));refine stQ 115 7 ((((w71.setCell ⟨gb365,0,none⟩ (.slice Ao72 t367.length co72)).setCell ⟨gb365,1,none⟩ (.int .i64 t370)).setCell ⟨gb365,2,none⟩ (.int .i64 t371))) ?_;intro w74 hw;have n0_:=sR hw HO369 BK365;have n1_:=sP hw BK365;have n2_:=sB hw HB GE365;clear hw HO369 BK365 HB;have HO369:=n0_;have BK365:=n1_;have HB:=n2_;clear n0_ n1_ n2_;obtain ⟨hcz75_0,hcz75_1,hcz75_2⟩:=cc3 BK365;obtain ⟨hfz75_0,hfz75_1,hfz75_2⟩:=ff3 BK365) | (go_at_call 73;(with_reducible refine (celluloidref05_number.calls kj8 a0 (fun k_=>some k_=(.slice Ao72 t367.length co72:Value).ownBlock) (.slice Ao72 t367.length co72) t367 t370 t371 2 t372 t373 t376 t377 w _ (hn HB) (Kd.R_tight rfl HO369.out) A14.out).mono ?_);rintro e w76 ⟨v374,rfl,ho0,hb,hkp⟩;have n0_:=kb BK365 HO369 hkp;have n1_:=Aside0.mk (Kd.R_mono (ok':=fun k_=>True) ho0 (fun k_ hk_=>trivial));have n2_:=Aside0.mk hb;clear BK365 HB HO369;have BK365:=n0_;have HO375:=n1_;have HB:=n2_;clear n0_ n1_ n2_;(try clear hb);(try clear hkp);(try clear ho0);obtain ⟨Ao77,co77,eo77⟩:=Kd.R_slice HO375.out;subst eo77;obtain ⟨hcz78_0,hcz78_1,hcz78_2⟩:=cc3 BK365;obtain ⟨hfz78_0,hfz78_1,hfz78_2⟩:=ff3 BK365) | ((with_reducible refine gate_store (t:=115) (p:=7) rfl ?_);(try (rw [drewN_self w76];generalize hq_:World.drewN w76 _=w76;have n0_:=aR hq_ HO375;have n1_:=aB hq_ BK365;have n2_:=aW hq_ HB;clear hq_ HO375 BK365 HB;have HO375:=n0_;have BK365:=n1_;have HB:=n2_;clear n0_ n1_ n2_));refine stQ 115 7 ((((w76.setCell ⟨gb365,0,none⟩ (.slice Ao77 t373.length co77)).setCell ⟨gb365,1,none⟩ (.int .i64 t376)).setCell ⟨gb365,2,none⟩ (.int .i64 t377))) ?_;intro w79 hw;have n0_:=sR hw HO375 BK365;have n1_:=sP hw BK365;have n2_:=sB hw HB GE365;clear hw HO375 BK365 HB;have HO375:=n0_;have BK365:=n1_;have HB:=n2_;clear n0_ n1_ n2_;obtain ⟨hcz80_0,hcz80_1,hcz80_2⟩:=cc3 BK365;obtain ⟨hfz80_0,hfz80_1,hfz80_2⟩:=ff3 BK365));try go_wp2_with (first | (go_at_call 73;(with_reducible refine (celluloidref05_number.calls kj8 a0 (fun k_=>some k_=(.slice Ao70 x366000_2.length co70:Value).ownBlock) (.slice Ao70 x366000_2.length co70) x366000_2 x366001_2 x366002_2 1 t366 t367 t370 t371 w _ (hn HB) (Kd.R_tight rfl HO_366000.out) A13.out).mono ?_);rintro e w71 ⟨v368,rfl,ho0,hb,hkp⟩;have n0_:=kb BK365 HO_366000 hkp;have n1_:=Aside0.mk (Kd.R_mono (ok':=fun k_=>True) ho0 (fun k_ hk_=>trivial));have n2_:=Aside0.mk hb;clear BK365 HB HO_366000;have BK365:=n0_;have HO369:=n1_;have HB:=n2_;clear n0_ n1_ n2_;(try clear hb);(try clear hkp);(try clear ho0);obtain ⟨Ao72,co72,eo72⟩:=Kd.R_slice HO369.out;subst eo72;obtain ⟨hcz73_0,hcz73_1,hcz73_2⟩:=cc3 BK365;obtain ⟨hfz73_0,hfz73_1,hfz73_2⟩:=ff3 BK365) | ((with_reducible refine gate_store (t:=115) (p:=7) rfl ?_);(try (rw [drewN_self w71];generalize hq_:World.drewN w71 _=w71;have n0_:=aR hq_ HO369;have n1_:=aB hq_ BK365;have n2_:=aW hq_ HB;clear hq_ HO369 BK365 HB;have HO369:=n0_;have BK365:=n1_;have HB:=n2_;clear n0_ n1_ n2_));refine stQ 115 7 ((((w71.setCell ⟨gb365,0,none⟩ (.slice Ao72 t367.length co72)).setCell ⟨gb365,1,none⟩ (.int .i64 t370)).setCell ⟨gb365,2,none⟩ (.int .i64 t371))) ?_;intro w74 hw;have n0_:=sR hw HO369 BK365;have n1_:=sP hw BK365;have n2_:=sB hw HB GE365;clear hw HO369 BK365 HB;have HO369:=n0_;have BK365:=n1_;have HB:=n2_;clear n0_ n1_ n2_;obtain ⟨hcz75_0,hcz75_1,hcz75_2⟩:=cc3 BK365;obtain ⟨hfz75_0,hfz75_1,hfz75_2⟩:=ff3 BK365) | (go_at_call 73;(with_reducible refine (celluloidref05_number.calls kj8 a0 (fun k_=>some k_=(.slice Ao72 t367.length co72:Value).ownBlock) (.slice Ao72 t367.length co72) t367 t370 t371 2 t372 t373 t376 t377 w _ (hn HB) (Kd.R_tight rfl HO369.out) A14.out).mono ?_);rintro e w76 ⟨v374,rfl,ho0,hb,hkp⟩;have n0_:=kb BK365 HO369 hkp;have n1_:=Aside0.mk (Kd.R_mono (ok':=fun k_=>True) ho0 (fun k_ hk_=>trivial));have n2_:=Aside0.mk hb;clear BK365 HB HO369;have BK365:=n0_;have HO375:=n1_;have HB:=n2_;clear n0_ n1_ n2_;(try clear hb);(try clear hkp);(try clear ho0);obtain ⟨Ao77,co77,eo77⟩:=Kd.R_slice HO375.out;subst eo77;obtain ⟨hcz78_0,hcz78_1,hcz78_2⟩:=cc3 BK365;obtain ⟨hfz78_0,hfz78_1,hfz78_2⟩:=ff3 BK365) | ((with_reducible refine gate_store (t:=115) (p:=7) rfl ?_);(try (rw [drewN_self w76];generalize hq_:World.drewN w76 _=w76;have n0_:=aR hq_ HO375;have n1_:=aB hq_ BK365;have n2_:=aW hq_ HB;clear hq_ HO375 BK365 HB;have HO375:=n0_;have BK365:=n1_;have HB:=n2_;clear n0_ n1_ n2_));refine stQ 115 7 ((((w76.setCell ⟨gb365,0,none⟩ (.slice Ao77 t373.length co77)).setCell ⟨gb365,1,none⟩ (.int .i64 t376)).setCell ⟨gb365,2,none⟩ (.int .i64 t377))) ?_;intro w79 hw;have n0_:=sR hw HO375 BK365;have n1_:=sP hw BK365;have n2_:=sB hw HB GE365;clear hw HO375 BK365 HB;have HO375:=n0_;have BK365:=n1_;have HB:=n2_;clear n0_ n1_ n2_;obtain ⟨hcz80_0,hcz80_1,hcz80_2⟩:=cc3 BK365;obtain ⟨hfz80_0,hfz80_1,hfz80_2⟩:=ff3 BK365)))
          go_ret3
          exact ⟨by first | rfl | (simp [errW_none,errW_some] <;> rfl) | (simp [*,errW_none,errW_some] <;> rfl),hn HB⟩
        ·replace c12:=Bool.eq_false_iff.mpr c12
         subst c12
         have H1:(if x366002_2=0 then (some (strOfNums x366000_2,wrap64 (Int.tdiv (wrap64 (x366001_2+7)) 8),0)) else (some ((⟨#[]⟩:ByteArray),0,x366002_2)))=some (r1,r2,r3):=by rw [if_neg (show ¬ (false=true) by decide)] at H;exact H
         clear H
         have H:=H1
         clear H1
         by_cases c81:x366002_2=0
         ·rw [if_pos c81] at H
          have c81b0:(x366002_2 == 0)=true:=beq_iff_eq.mpr c81
          have c81b1:(x366002_2 != 0)=false:=bne_eq_false_iff_eq.mpr c81
          clear c81
          simp only [Option.some.injEq,Prod.mk.injEq] at H
          obtain ⟨rfl,rfl,rfl⟩:=H
          obtain ⟨hcz82_0,hcz82_1,hcz82_2⟩:=cc3 BK365
          obtain ⟨hfz82_0,hfz82_1,hfz82_2⟩:=ff3 BK365
          have hcv83:=fun n_:Nat=>own_string (P:=Try.prog) (w:=wc.drewN n_) Try.underlying40 Try.underlying5 Try.underlying9 (Kd.own_of_R (show Kd.R (Kd.int .u8) 5 (wc.drewN n_) _ _ _ _ from by apply Kd.R_drewN;exact HO_366000.out))
          go_wp2
          repeat (go_quiet (fail);try go_wp2)
          go_ret3
          exact ⟨by first | rfl | (simp [errW_none,errW_some] <;> rfl) | (simp [*,errW_none,errW_some] <;> rfl),hn HB⟩
         ·rw [if_neg c81] at H
          have c81b0:(x366002_2 == 0)=false:=beq_eq_false_iff_ne.mpr c81
          have c81b1:(x366002_2 != 0)=true:=bne_iff_ne.mpr c81
          simp only [Option.some.injEq,Prod.mk.injEq] at H
          obtain ⟨rfl,rfl,rfl⟩:=H
          obtain ⟨hcz84_0,hcz84_1,hcz84_2⟩:=cc3 BK365
          obtain ⟨hfz84_0,hfz84_1,hfz84_2⟩:=ff3 BK365
          go_wp2
          repeat (go_quiet (fail);try go_wp2)
          go_ret3
          exact ⟨by first | rfl | (simp [errW_none,errW_some] <;> rfl) | (simp [*,errW_none,errW_some] <;> rfl),hn HB⟩
end Go.Proofs.Ytpbhkdamkbopkaa.GInfr
set_option linter.unusedSimpArgs false
set_option linter.unusedVariables false
namespace Go.Proofs.Ytpbhkdamkbopkaa.Ext
open Go.RowKit Go.Proofs.Ytpbhkdamkbopkaa.PHuffBits Go.Proofs.YtpbhkdamkbopkaaW.PrintWords Go.Proofs.YtpbhkdamkbopkaaW.PrintLast Go.Proofs.YtpbhkdamkbopkaaW.PrintMore
theorem wrap_in {n:Int} (h0:-9223372036854775808≤n) (h1:n≤9223372036854775807):wrap64 n=n:=by unfold wrap64;omega
/-- The bit at a place of bytes. -/
def bitN (s:ByteArray) (p:Int):Int:=bt s (p / 8) / 2 ^ (p % 8).toNat % 2
theorem bitN_rng (s:ByteArray) (p:Int):0≤bitN s p∧bitN s p≤1:=by unfold bitN;omega
theorem bit_is (s : ByteArray) (hs : s.size ≤ 140737488351232) (p : Int) (h0 : 0 ≤ p) (hp : p ≤ 9223372036854775807) :
  huff_Bit.f s p=if p < 8*s.size then some (bitN s p,true) else some (0,false):=by
 unfold huff_Bit.f
 rw [if_neg (by omega),wrap_in (n:=8*(s.size:Int)) (by omega) (by omega)]
 by_cases h:p < 8*s.size
 ·rw [if_neg (by omega), if_pos h, Int.tdiv_eq_ediv_of_nonneg h0, Int.tmod_eq_emod_of_nonneg h0, wrap_in (n := p / 8) (by omega) (by omega),
   if_pos (by omega),if_pos (by omega),if_pos (by omega)]
  have e:shr .u8 (bt s (p / 8)) (p % 8)=bt s (p / 8) / 2 ^ (p % 8).toNat:=by
   unfold shr
   rw [Nat.min_eq_left (by show (p % 8).toNat≤8;omega)]
  rw [e]
  have hb:=bt_range s (p / 8)
  have h1:0≤bt s (p / 8) / 2 ^ (p % 8).toNat:=Int.ediv_nonneg hb.1 (Int.le_of_lt (Int.pow_pos (by decide)))
  have h2:bt s (p / 8) / 2 ^ (p % 8).toNat≤255:=Int.le_trans (Int.ediv_le_self _ hb.1) hb.2
  unfold bitN
  generalize bt s (p / 8) / 2 ^ (p % 8).toNat=z at h1 h2
  rw [wrap_in (n:=z) (by omega) (by omega),and_1 h1 (by omega)]
 ·rw [if_pos (by omega),if_neg h]
/-- The first n bits from pos on,the first one highest. -/
def Vn (s:ByteArray) (pos:Int):Nat → Int
 |0=>0
 |n+1=>2*Vn s pos n+bitN s (pos+n)
theorem Vn_rng (s:ByteArray) (pos:Int) (n:Nat):0≤Vn s pos n∧Vn s pos n < 2 ^ n:=by
 induction n with
 |zero=>simp [Vn]
 |succ n ih =>
  have:=bitN_rng s (pos+n)
  simp only [Vn]
  rw [Int.pow_succ]
  omega
def Gn (l:List Int) (n:Nat):Int:=firstC l n+cz l n
def Sn (l:List Int) (n:Nat):Int:=((symsN l n).length:Int)
theorem firstC_succ (l:List Int) (n:Nat):firstC l (n+1)=2*Gn l n:=rfl
theorem Gn_zero (l:List Int):Gn l 0=0:=by
 unfold Gn cz
 rw [List.getD_eq_getElem?_getD,cnts_get l 0 (by decide)];rfl
theorem Sn_succ (l:List Int) (n:Nat) (h:n+1 < 16):Sn l (n+1)=Sn l n+cz l (n+1):=by
 unfold Sn
 rw [← idxN_cz l (n+1) (by omega) h]
 simp only [symsN,List.length_append]
 omega
/-- One length is tried. -/
theorem nxt_step (l : List Int) (hl : l.length ≤ 320) (s : ByteArray) (hs : s.size ≤ 140737488351232) (pos : Int) (h0 : 0 ≤ pos) (hp : pos ≤ 4611686018427387904) (n d : Nat) (hn : n + d = 14) (hV : Gn l n ≤ Vn s pos n) :
    nxt (cnts l) (syms l) s (d+1) (pos+n) (Vn s pos n) (Gn l n) (Sn l n) =
      if pos+n < 8*s.size then
        (if Vn s pos (n+1) < Gn l (n+1) then some ((idxN l (n+1) l.length).getD (Vn s pos (n+1) - firstC l (n+1)).toNat 0,pos+(n+1:Nat),0)
         else if Sn l (n+1)=(syms l).length then some (0,0,4)
         else nxt (cnts l) (syms l) s d (pos+(n+1:Nat)) (Vn s pos (n+1)) (Gn l (n+1)) (Sn l (n+1)))
      else some (0,0,2):=by
  have hc:(cnts l).getD (15 - d) 0=cz l (n+1):=by rw [show 15 - d=n+1 by omega];rfl
  have hS:=Sn_succ l n (by omega)
  have hF:firstC l (n+1)=2*Gn l n:=rfl
  have hG:Gn l (n+1)=2*Gn l n+cz l (n+1):=rfl
  have hV1:Vn s pos (n+1)=2*Vn s pos n+bitN s (pos+n):=rfl
  have hbr:=bitN_rng s (pos+n)
  have hq0:0≤pos+n:=by omega
  have hq1:pos+n≤9223372036854775807:=by omega
  simp only [nxt]
  rw [bit_is s hs (pos+n) hq0 hq1]
  by_cases hb:pos+n < 8*s.size
  · rw [if_pos hb,if_pos hb]
    simp only [Option.bind_some]
    have hw:wrap64 (pos+n+1)=pos+(n+1:Nat):=by rw [wrap_in (by omega) (by omega)];omega
    rw [if_neg (by simp),hc,hw,← hV1,← hG]
    clear hw
    by_cases hlt:Vn s pos (n+1) < Gn l (n+1)
    · rw [if_pos hlt,if_pos hlt,← hF]
      have hj:∃ j:Nat,Vn s pos (n+1) - firstC l (n+1)=j∧(j:Int) < cz l (n+1):=by
        rw [hV1,hF]
        rw [hV1,hG] at hlt
        generalize Vn s pos n=v at hV hlt
        generalize Gn l n=g at hV hlt
        generalize bitN s (pos+n)=b at hbr hlt
        exact ⟨(2*v+b - 2*g).toNat,by omega,by omega⟩
      obtain ⟨j,ej,hjc⟩:=hj
      have hji:j < (idxN l (n+1) l.length).length:=by have:=idxN_cz l (n+1) (by omega) (by omega);omega
      have hsy:=syms_at l n j 15 (by omega) hji
      have hlen:(symsN l n).length+j < (syms l).length:=by
        rw [List.getElem?_eq_getElem hji] at hsy
        exact (List.getElem?_eq_some_iff.1 hsy).1
      have e1:Sn l n+Vn s pos (n+1) - firstC l (n+1)=((symsN l n).length+j:Nat):=by
        unfold Sn
        generalize Vn s pos (n+1)=v at ej
        generalize firstC l (n+1)=f at ej
        omega
      have e2:(syms l).getD ((symsN l n).length+j) 0=(idxN l (n+1) l.length).getD j 0:=by
        rw [List.getD_eq_getElem?_getD,List.getD_eq_getElem?_getD]
        unfold syms
        rw [hsy]
      rw [e1,if_pos ⟨Int.natCast_nonneg _,Int.ofNat_lt.2 hlen⟩,ej,Int.toNat_natCast,Int.toNat_natCast,e2]
    · rw [if_neg hlt,if_neg hlt,hS]
  · rw [if_neg hb,if_neg hb]
    rfl
theorem pow_split (n:Nat) (h:n+1≤15):(2:Int) ^ (15 - n)=2*2 ^ (15 - (n+1)):=by
 rw [show 15 - n=(15 - (n+1))+1 by omega,Int.pow_succ,Int.mul_comm]
theorem Gn_succ (l:List Int) (n:Nat):Gn l (n+1)=2*Gn l n+cz l (n+1):=rfl
theorem Gn_room (l:List Int):∀ n,n≤15 → Gn l n*2 ^ (15 - n)=32768 - roomN (cnts l) (n+1):=by
 intro n
 induction n with
 |zero =>
  intro _
  rw [Gn_zero]
  have h0:cz l 0=0:=by have:=Gn_zero l;unfold Gn firstC at this;omega
  show 0*2 ^ 15=32768 - (32768 - cz l 0*2 ^ (15 - 0))
  rw [h0];simp
 |succ n ih =>
  intro hn
  have h1:=ih (by omega)
  rw [pow_split n hn] at h1
  have h2:roomN (cnts l) (n+1+1)=roomN (cnts l) (n+1) - cz l (n+1)*2 ^ (15 - (n+1)):=rfl
  rw [h2,Gn_succ,Int.add_mul]
  have h3:2*Gn l n*2 ^ (15 - (n+1))=Gn l n*(2*2 ^ (15 - (n+1))):=by
   rw [Int.mul_comm 2,Int.mul_assoc]
  rw [h3]
  omega
theorem many_Sn (l:List Int):∀ n,n≤15 → manyN (cnts l) (n+1)=Sn l n:=by
 intro n
 induction n with
 |zero =>
  intro _
  have h0:cz l 0=0:=by have:=Gn_zero l;unfold Gn firstC at this;omega
  show 0+cz l 0=((symsN l 0).length:Int)
  rw [h0];rfl
 |succ n ih =>
  intro hn
  rw [Sn_succ l n (by omega),← ih (by omega)]
  rfl
theorem syms_Sn (l:List Int):((syms l).length:Int)=Sn l 15:=rfl
/-- Lengths that may be: full,or none,or a single one of one bit. -/
theorem good_sum (l:List Int) (h:badSum l=false):Gn l 15=32768 ∨ Sn l 15=0∧Gn l 15≤32768 ∨ Sn l 15=1∧cz l 1=1∧Gn l 15≤32768:=by
 have h1:=Gn_room l 15 (Nat.le_refl _)
 have h2:=many_Sn l 15 (Nat.le_refl _)
 have h3:cz l 1=cnt l 1:=cz_is l 1 (by decide) (by decide)
 unfold badSum at h
 rw [show (15:Nat)+1=16 from rfl] at h1 h2
 rw [h2] at h
 rw [h3]
 simp only [Nat.sub_self,Int.pow_zero,Int.mul_one] at h1
 have hs:0≤Sn l 15:=Int.natCast_nonneg _
 simp only [Bool.or_eq_false_iff,Bool.and_eq_false_iff,decide_eq_false_iff_not] at h
 obtain ⟨ha,hb⟩:=h
 rcases hb with (hb | hb) | ⟨hb,hc⟩
 ·left;omega
 ·right;left;omega
 ·right;right
  have e1:Sn l 15=1:=by omega
  have e2:cnt l 1=1:=by omega
  exact ⟨e1,e2,by omega⟩
theorem Sn_mono (l:List Int) (n m:Nat) (h:n≤m) (hm:m≤15):Sn l n≤Sn l m:=by
 induction m with
 |zero=>obtain rfl:n=0:=(by omega);exact Int.le_refl _
 |succ m ih =>
  by_cases e:n=m+1
  ·subst e;exact Int.le_refl _
  ·have h1:=ih (by omega) (by omega)
   have:=cz_rng l (m+1)
   rw [Sn_succ l m (by omega)]
   omega
/-- If no code is longer than n,the room is what the codes up to n take. -/
theorem Gn_stop (l:List Int) (n m:Nat) (h:n≤m) (hm:m≤15) (hs:Sn l n=Sn l m):Gn l m=Gn l n*2 ^ (m - n):=by
 induction m with
 |zero=>obtain rfl:n=0:=(by omega);simp
 |succ m ih =>
  by_cases e:n=m+1
  ·subst e;simp
  ·have h1:=Sn_mono l n m (by omega) (by omega)
   have h2:=Sn_succ l m (by omega)
   have h3:=cz_rng l (m+1)
   have h4:=ih (by omega) (by omega) (by omega)
   rw [Gn_succ,show m+1 - n=(m - n)+1 by omega,Int.pow_succ,← Int.mul_assoc,h4]
   omega
/-- The symbol of a code of length n. -/
theorem symbol_is (l : List Int) (n : Nat) (h0 : 1 ≤ n) (h : n < 16) (v : Int) (h1 : firstC l n ≤ v) (h2 : v < Gn l n) :
  ∃ i:Nat,(idxN l n l.length).getD (v - firstC l n).toNat 0=i∧i < l.length∧l.getD i 0=n∧codeAt l i=v:=by
 obtain ⟨j,ej⟩:∃ j:Nat,v - firstC l n=j:=⟨(v - firstC l n).toNat,by omega⟩
 have hc:=idxN_cz l n h0 h
 have hj:j < (idxN l n l.length).length:=by unfold Gn at h2;omega
 obtain ⟨i,e,hi,he,hr⟩:=idxN_at l n _ j _ (List.getElem?_eq_getElem hj)
 refine ⟨i,?_,hi,he,?_⟩
 ·rw [ej,Int.toNat_natCast,List.getD_eq_getElem?_getD,List.getElem?_eq_getElem hj]
  exact e
 ·unfold codeAt
  rw [rank_n l i n he,hr,he,Int.toNat_natCast]
  omega
theorem symbol_at (l : List Int) (i n : Nat) (h0 : 1 ≤ n) (h : n < 16) (hi : i < l.length) (he : l.getD i 0 = n) :
  firstC l n≤codeAt l i∧codeAt l i < Gn l n∧(idxN l n l.length).getD (codeAt l i - firstC l n).toNat 0=i:=by
 have h1:=idxN_of l n l.length i hi he
 have h2:=(List.getElem?_eq_some_iff.1 h1).1
 have h3:=idxN_cz l n h0 h
 unfold codeAt Gn
 rw [rank_n l i n he,he,Int.toNat_natCast]
 refine ⟨by omega,by omega,?_⟩
 rw [show firstC l n+((idxN l n i).length:Int) - firstC l n=((idxN l n i).length:Int) by omega,Int.toNat_natCast,List.getD_eq_getElem?_getD,h1]
 rfl
theorem code_inj (l:List Int) (i j n:Nat) (h0:1≤n) (h:n < 16) (hi:i < l.length) (hj:j < l.length) (he:l.getD i 0=n) (hf:l.getD j 0=n) (hc:codeAt l i=codeAt l j):i=j:=by
 have h1:=(symbol_at l i n h0 h hi he).2.2
 have h2:=(symbol_at l j n h0 h hj hf).2.2
 rw [hc,h2] at h1
 omega
end Go.Proofs.Ytpbhkdamkbopkaa.Ext
set_option linter.unusedSimpArgs false
set_option linter.unusedVariables false
namespace Go.Proofs.Ytpbhkdamkbopkaa.Stage
open Go.RowKit Go.Proofs.Ytpbhkdamkbopkaa.Ext Go.Proofs.YtpbhkdamkbopkaaW.PrintWords Go.Proofs.YtpbhkdamkbopkaaW.PrintLast Go.Proofs.YtpbhkdamkbopkaaW.PrintMore
def stageOf (l:List Int) (s:ByteArray) (pos:Int) (n:Nat):Option (Int × Int × Int) :=
 if Vn s pos n < Gn l n then some ((idxN l n l.length).getD (Vn s pos n - firstC l n).toNat 0,pos+n,0)
 else if Sn l n=(syms l).length then some (0,0,4)
 else nxt (cnts l) (syms l) s (15 - n) (pos+n) (Vn s pos n) (Gn l n) (Sn l n)
theorem stage_step (l : List Int) (hl : l.length ≤ 320) (s : ByteArray) (hs : s.size ≤ 140737488351232) (pos : Int) (h0 : 0 ≤ pos) (hp : pos ≤ 4611686018427387904) (n : Nat) (hn : n ≤ 14) (hV : Gn l n ≤ Vn s pos n) (hS : Sn l n ≠ (syms l).length) :
  stageOf l s pos n=if pos+n < 8*s.size then stageOf l s pos (n+1) else some (0,0,2):=by
 unfold stageOf
 rw [if_neg (Int.not_lt.2 hV),if_neg hS,show 15 - n=(15 - (n+1))+1 by omega,nxt_step l hl s hs pos h0 hp n (15 - (n+1)) (by omega) hV]
theorem nextOf_good (l:List Int) (he:errOf l=0) (s:ByteArray) (pos:Int) (h0:0≤pos):nextOf (newCs l) (newSs l) s pos=if (syms l).length=0 then some (0,0,4) else nxt (cnts l) (syms l) s 15 pos 0 0 0:=by
 obtain ⟨hl,_,_⟩:=errOf_ok l he
 unfold nextOf newCs newSs
 rw [if_pos he,if_pos he,if_neg (by omega)]
 by_cases ht:(syms l).length=0
 ·rw [if_pos ht,if_pos ht]
 ·rw [if_neg ht,if_neg ht,if_pos]
  refine ⟨cnts_length l,?_,fun x hx=>?_⟩
  ·have:=symsN_length l 15
   have h2:15*l.length≤15*320:=Nat.mul_le_mul_left _ hl
   unfold syms
   omega
  ·obtain ⟨i,hi,rfl⟩:=List.getElem_of_mem hx
   have:=cnts_rng l i
   rw [List.getD_eq_getElem?_getD,List.getElem?_eq_getElem hi,Option.getD_some] at this
   omega
theorem ok_at (l:List Int) (h:okL l=true) (i:Nat) (hi:i < l.length):∃ n:Nat,l.getD i 0=n∧n≤15:=by
 obtain ⟨n,e,hn⟩:=good_is l i ((ok_is l).2 h i hi)
 exact ⟨n,by rw [← rd_nat];exact e,by omega⟩
theorem codesOf_length (l:List Int):(codesOf l).length=l.length:=by simp [codesOf]
theorem codesOf_get (l:List Int) (i:Nat) (hi:i < l.length):(codesOf l)[i]?=some (if l.getD i 0≤0 then 0 else codeAt l i):=by simp [codesOf,hi]
end Go.Proofs.Ytpbhkdamkbopkaa.Stage
set_option linter.unusedSimpArgs false
set_option linter.unusedVariables false
namespace Go.Proofs.Ytpbhkdamkbopkaa.RefP
open Go.RowKit Go.Proofs.Ytpbhkdamkbopkaa.Ext Go.Proofs.Ytpbhkdamkbopkaa.PHuffBits Go.Proofs.YtpbhkdamkbopkaaW.PrintWords Go.Proofs.YtpbhkdamkbopkaaW.PrintLast Go.Proofs.YtpbhkdamkbopkaaW.PrintMore
theorem bit_is' (s : ByteArray) (hs : s.size ≤ 140737488351232) (p : Int) (h0 : 0 ≤ p) (hp : p ≤ 9223372036854775807) :
  huff_Bit.f s p=if p < 8*s.size then some (bitN s p,true) else some (0,false):=bit_is s hs p h0 hp
def Bn (s:ByteArray) (pos:Int):Nat → Int
 |0=>0
 |i+1=>Bn s pos i+2 ^ i*bitN s (pos+i)
theorem Bn_rng (s:ByteArray) (pos:Int) (n:Nat):0≤Bn s pos n∧Bn s pos n < 2 ^ n:=by
 induction n with
 |zero=>simp [Bn]
 |succ n ih =>
  have hb:=bitN_rng s (pos+n)
  have hp:(0:Int) < 2 ^ n:=Int.pow_pos (by decide)
  simp only [Bn]
  rw [Int.pow_succ]
  rcases (by omega:bitN s (pos+n)=0 ∨ bitN s (pos+n)=1) with h | h <;> rw [h] <;> omega
theorem pow_16 (n:Nat) (h:n≤16):(1:Int)≤2 ^ n∧(2:Int) ^ n≤65536:=by
 have h1:2 ^ n≤2 ^ 16:=Nat.pow_le_pow_right (by decide) h
 have h2:1≤2 ^ n:=Nat.one_le_two_pow
 have e:((2 ^ n:Nat):Int)=(2:Int) ^ n:=by rw [Int.natCast_pow];rfl
 rw [← e];omega
def bitsOf (s:ByteArray) (pos n:Int):Int × Int × Int :=
 if pos < 0 ∨ n < 0 ∨ 16 < n then (0,0,1) else if pos+n≤8*s.size then (Bn s pos n.toNat,pos+n,0) else (0,0,2)
theorem or_comm64 (x y:Int):Go.bits .or .i64 x y=Go.bits .or .i64 y x:=by unfold Go.bits;simp only;rw [BitVec.or_comm]
theorem or_shl (v b:Int) (i:Nat) (hi:i < 16) (hv0:0≤v) (hv:v < 2 ^ i) (hb0:0≤b) (hb:b≤1):Go.bits .or .i64 v (shl .i64 b i)=v+2 ^ i*b:=by
 have hpw:=pow_16 i (by omega)
 have hm0:0≤b*2 ^ i:=Int.mul_nonneg hb0 (by omega)
 have hm1:b*2 ^ i≤1*65536:=Int.mul_le_mul hb hpw.2 (by omega) (by omega)
 have e:shl .i64 b i=b*2 ^ i:=by
  unfold shl
  rw [Int.toNat_natCast,Nat.min_eq_left (by show i≤64;omega),IntKind.wrap_i64]
  omega
 rw [e,or_comm64]
 have hw:∀ n:Int,0≤n → n < 2 ^ 40 → IntKind.i64.wrap n=n:=fun n h₀ h₁=>by rw [IntKind.wrap_i64];omega
 rw [Go.bits_join .i64 40 (by decide) hw i (b*2 ^ i) v hm0 (Int.mul_emod_left _ _) (by omega) hv0 hv (by omega),Int.mul_comm b]
 omega
theorem bits_l (s : ByteArray) (hs : s.size ≤ 140737488351232) (pos : Int) (h0 : 0 ≤ pos) (n : Nat) (hn : n ≤ 16) (hb : pos + n ≤ 8 * s.size) (d : Nat) : ∀ (i : Nat), i + d = n →
  Ev (fun k=>huff_Bits.l0 k s pos n (Bn s pos i) n i) (Bn s pos n,pos+n,0):=by
 induction d with
 |zero =>
  intro i hi
  obtain rfl:i=n:=by omega
  refine Ev.step (f:=fun _=>some (Bn s pos i,pos+i,0)) (fun k=>?_) (Ev.now _)
  simp only [huff_Bits.l0]
  rw [if_neg (by omega),wrap_in (n:=pos+i) (by omega) (by omega)]
 |succ d ih =>
  intro i hi
  obtain ⟨K,h⟩:=ih (i+1) (by omega)
  dsimp only at h
  have hbr:=bitN_rng s (pos+i)
  have hBr:=Bn_rng s pos i
  have hwp:wrap64 (pos+i)=pos+i:=wrap_in (by omega) (by omega)
  have e3:wrap64 ((i:Int)+1)=((i+1:Nat):Int):=by rw [wrap_in (by omega) (by omega)];rfl
  have e1:Bn s pos (i+1)=Bn s pos i+2 ^ i*bitN s (pos+i):=rfl
  have hin:(i:Int) < n:=by omega
  have hbt:=bit_is' s hs (pos+i) (by omega) (by omega)
  rw [if_pos (by omega)] at hbt
  refine ⟨K+1,fun k hk=>?_⟩
  obtain ⟨k,rfl⟩:∃ m,k=m+1:=⟨k - 1,by omega⟩
  simp only [huff_Bits.l0]
  rw [if_pos hin,hwp,hbt]
  simp only [Option.bind_some]
  rw [if_pos (Int.natCast_nonneg _),or_shl _ _ i (by omega) hBr.1 hBr.2 hbr.1 hbr.2,e3,← e1]
  exact h k (by omega)
theorem bits_is (s:ByteArray) (hs:s.size≤140737488351232) (pos n:Int) (hp:pos≤9223372036854775807):Ev (fun k=>huff_Bits.f k s pos n) (bitsOf s pos n):=by
 have herr:Ev (fun k=>huff_Bits.j0 k s pos n true) (0,0,1):=Ev.step (fun k=>by simp only [huff_Bits.j0];rw [if_pos trivial]) (Ev.now _)
 unfold bitsOf
 by_cases h0:pos < 0
 ·rw [if_pos (.inl h0)]
  exact Ev.congr (fun k=>by unfold huff_Bits.f;rw [if_pos h0]) herr
 by_cases h1:n < 0
 ·rw [if_pos (.inr (.inl h1))]
  exact Ev.congr (fun k=>by unfold huff_Bits.f;rw [if_neg h0,if_pos h1]) herr
 by_cases h2:n > 16
 ·rw [if_pos (.inr (.inr h2))]
  exact Ev.congr (fun k=>by unfold huff_Bits.f;rw [if_neg h0,if_neg h1,decide_eq_true h2]) herr
 rw [if_neg (by omega)]
 have e8:wrap64 (8*(s.size:Int))=8*s.size:=wrap_in (by omega) (by omega)
 have e9:wrap64 (8*(s.size:Int) - n)=8*s.size - n:=wrap_in (by omega) (by omega)
 obtain ⟨m,rfl⟩:∃ m:Nat,n=m:=⟨n.toNat,by omega⟩
 rw [Int.toNat_natCast]
 by_cases hb:pos+m≤8*s.size
 ·rw [if_pos hb]
  obtain ⟨K,h⟩:=bits_l s hs pos (by omega) m (by omega) hb m 0 (by omega)
  dsimp only at h
  refine ⟨K+1,fun k hk=>?_⟩
  obtain ⟨k,rfl⟩:∃ q,k=q+1:=⟨k - 1,by omega⟩
  dsimp only
  unfold huff_Bits.f
  rw [if_neg h0,if_neg h1,decide_eq_false h2]
  simp only [huff_Bits.j0]
  rw [if_neg (by simp),e8,e9,if_neg (by omega)]
  exact h k (by omega)
 ·rw [if_neg hb]
  refine ⟨1,fun k hk=>?_⟩
  obtain ⟨k,rfl⟩:∃ q,k=q+1:=⟨k - 1,by omega⟩
  dsimp only
  unfold huff_Bits.f
  rw [if_neg h0,if_neg h1,decide_eq_false h2]
  simp only [huff_Bits.j0]
  rw [if_neg (by simp),e8,e9,if_pos (by omega)]
end Go.Proofs.Ytpbhkdamkbopkaa.RefP
namespace Go.Proofs.Ytpbhkdamkbopkaa.Inf
set_option linter.unusedSimpArgs false
set_option linter.unusedVariables false
open Go.RowKit Go.Proofs.Ytpbhkdamkbopkaa.Ext Go.Proofs.Ytpbhkdamkbopkaa.RefP Go.Proofs.YtpbhkdamkbopkaaW.PrintWords Go.Proofs.YtpbhkdamkbopkaaW.PrintLast Go.Proofs.YtpbhkdamkbopkaaW.PrintMore
/-- A reader: the next bit,what was told,the error. -/
structure St where
 p:Int
 o:List Int
 e:Int
def fail (x:St) (e:Int):St:=if x.e=0 then ⟨x.p,x.o,e⟩ else x
/-- What a number or a symbol makes of a reader. -/
def tak (x:St) (r:Int × Int × Int):Int × St:=if x.e=0 then (if r.2.2=0 then (r.1,⟨r.2.1,x.o,x.e⟩) else (0,⟨x.p,x.o,r.2.2⟩)) else (0,x)
def nextL (l:List Int) (s:ByteArray) (p:Int):Int × Int × Int:=(nextOf (newCs l) (newSs l) s p).getD (0,0,0)
def bits (s:ByteArray) (n:Int) (x:St):Int × St:=tak x (bitsOf s x.p n)
def next (l:List Int) (s:ByteArray) (x:St):Int × St:=tak x (nextL l s x.p)
def table (l:List Int) (x:St):St:=fail x (errOf l)
/-- The bytes from a place on. -/
def cut (s:ByteArray) (at_ n:Nat):List Int:=(List.range n).map fun i=>bt s ((at_+i:Nat):Int)
def stored (s:ByteArray) (mx:Int) (x:St):St :=
 let a:=bits s 16 ⟨(x.p+7) / 8*8,x.o,x.e⟩
 let b:=bits s 16 a.2
 if b.2.e=0 then
  (if Go.bits .xor .i64 a.1 b.1=65535 then
   (if (b.2.o.length:Int)+a.1≤mx then
    (if a.1≤s.size - b.2.p / 8 then ⟨b.2.p+8*a.1,b.2.o ++ cut s (b.2.p / 8).toNat a.1.toNat,b.2.e⟩ else fail b.2 2)
   else fail b.2 7)
  else fail b.2 3)
 else b.2
def lengthen (s:ByteArray) (l:List Int) (y:Int) (x:St):List Int × St :=
 if x.e=0 then
  (if y=16 then (if l.length=0 then (l,fail x 3) else (l ++ List.replicate (3+(bits s 2 x).1).toNat (l.getD (l.length - 1) 0),(bits s 2 x).2))
  else if y=17 then (l ++ List.replicate (3+(bits s 3 x).1).toNat 0,(bits s 3 x).2)
  else if y=18 then (l ++ List.replicate (11+(bits s 7 x).1).toNat 0,(bits s 7 x).2)
  else (l ++ [y],x))
 else (l,x)
/-- The lengths of a code of lengths: the order's places,one by one. -/
def owns (s:ByteArray):List Nat → List Int → St → List Int × St
 |[],own,x=>(own,x)
 |i :: t,own,x=>owns s t (own.set i (bits s 3 x).1) (bits s 3 x).2
def order:List Nat:=[16,17,18,0,8,7,9,6,10,5,11,4,12,3,13,2,14,1,15]
/-- Lengths,until there are so many. -/
def many (s:ByteArray) (own:List Int) (all:Int):Nat → List Int → St → List Int × St
 |0,l,x=>(l,x)
 |k+1,l,x=>if (l.length:Int) < all then (if x.e=0 then many s own all k (lengthen s l (next own s x).1 (next own s x).2).1 (lengthen s l (next own s x).1 (next own s x).2).2 else (l,x)) else (l,x)
/-- How many rounds at most. -/
def left (s:ByteArray) (x:St):Nat:=(8*(s.size:Int)+1 - x.p).toNat+1
def lengths (s:ByteArray) (x:St):List Int × List Int × St :=
 let a:=bits s 5 x
 let b:=bits s 5 a.2
 let c:=bits s 4 b.2
 let x1:=if c.2.e=0∧(a.1+257 > 286 ∨ b.1+1 > 30) then fail c.2 3 else c.2
 let w:=owns s (order.take (c.1+4).toNat) (List.replicate 19 0) x1
 let x2:=table w.1 w.2
 let z:=many s w.1 (a.1+257+(b.1+1)) (left s x2) [] x2
 if z.2.e=0 then
  (if (z.1.length:Int) > a.1+257+(b.1+1) ∨ z.1.getD 256 0=0 then ([],[],fail z.2 3) else (z.1.take (a.1+257).toNat,z.1.drop (a.1+257).toNat,z.2))
 else ([],[],z.2)
def lenB:List Int:=[3,4,5,6,7,8,9,10,11,13,15,17,19,23,27,31,35,43,51,59,67,83,99,115,131,163,195,227,258]
def lenM:List Int:=[0,0,0,0,0,0,0,0,1,1,1,1,2,2,2,2,3,3,3,3,4,4,4,4,5,5,5,5,0]
def disB:List Int:=[1,2,3,4,5,7,9,13,17,25,33,49,65,97,129,193,257,385,513,769,1025,1537,2049,3073,4097,6145,8193,12289,16385,24577]
def disM:List Int:=[0,0,0,0,1,1,2,2,3,3,4,4,5,5,6,6,7,7,8,8,9,9,10,10,11,11,12,12,13,13]
/-- n bytes again,from d back. -/
def again (o:List Int) (d:Nat):Nat → List Int
 |0=>o
 |n+1=>again o d n ++ [(again o d n).getD ((again o d n).length - d) 0]
/-- A run's step: the length n,the distance d. -/
def copy (mx:Int) (x:St) (n d:Int):St:=if d≤x.o.length then (if (x.o.length:Int)+n≤mx then ⟨x.p,again x.o d.toNat n.toNat,x.e⟩ else fail x 7) else fail x 3
/-- What a symbol of a run says. -/
def far (s:ByteArray) (mx:Int) (lb:List Int) (x:St) (y:Int):St :=
 let m:=bits s (lenM.getD (y - 257).toNat 0) x
 let d:=next lb s m.2
 let x1:=if d.2.e=0∧d.1 ≥ 30 then fail d.2 3 else d.2
 if x1.e=0 then
  (let q:=bits s (disM.getD d.1.toNat 0) x1
  if q.2.e=0 then copy mx q.2 (lenB.getD (y - 257).toNat 0+m.1) (disB.getD d.1.toNat 0+q.1) else q.2)
 else x1
/-- A symbol's step: does it end? -/
def one (s:ByteArray) (mx:Int) (la lb:List Int) (x:St):Bool × St :=
 let a:=next la s x
 if a.2.e ≠ 0 ∨ a.1=256 then (true,a.2)
 else if a.1 < 256 then (if (a.2.o.length:Int)=mx then (true,fail a.2 7) else (false,⟨a.2.p,a.2.o ++ [a.1 % 256],a.2.e⟩))
 else if a.1 ≥ 286 then (true,fail a.2 3)
 else (false,far s mx lb a.2 a.1)
def codes (s:ByteArray) (mx:Int) (la lb:List Int):Nat → St → St
 |0,x=>x
 |k+1,x=>if x.e=0 then (if (one s mx la lb x).1=true then (one s mx la lb x).2 else codes s mx la lb k (one s mx la lb x).2) else x
def plainA:List Int:=(List.range 288).map fun i=>if i < 144 then 8 else if i < 256 then 9 else if i < 280 then 7 else 8
def plainB:List Int:=List.replicate 32 5
/-- Two tables,and the symbols by them. -/
def both (s:ByteArray) (mx:Int) (la lb:List Int) (x:St):St:=codes s mx la lb (left s x) (table lb (table la x))
def block (s:ByteArray) (mx:Int) (x:St):Bool × St :=
 let a:=bits s 1 x
 let b:=bits s 2 a.2
 (decide (a.1=1),
  if b.1=0 then (if b.2.e=0 then stored s mx b.2 else b.2)
  else if b.1=1 then both s mx plainA plainB b.2
  else if b.1=2 then both s mx (lengths s b.2).1 (lengths s b.2).2.1 (lengths s b.2).2.2
  else fail b.2 3)
def blocks (s:ByteArray) (mx:Int):Nat → St → St
 |0,x=>x
 |k+1,x=>if (block s mx x).1=true then (block s mx x).2 else if (block s mx x).2.e=0 then blocks s mx k (block s mx x).2 else (block s mx x).2
def raw (s:ByteArray) (mx:Int):ByteArray × Int × Int :=
 if mx < 0 ∨ mx > 262144 then (⟨#[]⟩,0,1)
 else
  let x:=blocks s mx (8*s.size+2) ⟨0,[],0⟩
  if x.e=0 then (strOfNums x.o,(x.p+7) / 8,0) else (⟨#[]⟩,0,x.e)
end Go.Proofs.Ytpbhkdamkbopkaa.Inf
namespace Go.Proofs.Ytpbhkdamkbopkaa.Inf
set_option linter.unusedSimpArgs false
set_option linter.unusedVariables false
open Go.RowKit Go.Proofs.Ytpbhkdamkbopkaa.Ext Go.Proofs.Ytpbhkdamkbopkaa.RefP Go.Proofs.Ytpbhkdamkbopkaa.Stage Go.Proofs.YtpbhkdamkbopkaaW.PrintWords Go.Proofs.YtpbhkdamkbopkaaW.PrintLast Go.Proofs.YtpbhkdamkbopkaaW.PrintMore
/-- What an answer says: a symbol and a place further on,or an error. -/
def Good (s:ByteArray) (p:Int) (lo hi:Int) (r:Int × Int × Int):Prop:=r.2.2=0∧0≤r.1∧r.1 < hi∧p+lo≤r.2.1∧r.2.1≤p+16∧r.2.1≤8*s.size ∨ r=(0,0,2) ∨ r=(0,0,4)
theorem stage_good (l : List Int) (hl : l.length ≤ 320) (s : ByteArray) (hs : s.size ≤ 140737488351232) (pos : Int) (h0 : 0 ≤ pos) (hp : pos ≤ 4611686018427387904) (d : Nat) : ∀ n : Nat, n + d = 15 → firstC l n ≤ Vn s pos n → (n = 0 ∨ pos + n ≤ 8 * s.size) →
  ∃ r,stageOf l s pos n=some r∧Good s pos 1 l.length r:=by
 induction d with
 |zero =>
  intro n hn hV hb
  obtain rfl:n=15:=by omega
  unfold stageOf
  by_cases c:Vn s pos 15 < Gn l 15
  ·rw [if_pos c]
   obtain ⟨i,e,hi,_⟩:=symbol_is l 15 (by decide) (by decide) _ hV c
   refine ⟨_,rfl,.inl ⟨rfl,?_,?_,?_,?_,?_⟩⟩
   ·rw [e];omega
   ·rw [e];omega
   ·show pos+1≤pos+((15:Nat):Int);omega
   ·show pos+((15:Nat):Int)≤pos+16;omega
   ·show pos+((15:Nat):Int)≤8*s.size;omega
  ·rw [if_neg c,if_pos (show Sn l 15=(syms l).length from rfl)]
   exact ⟨_,rfl,.inr (.inr rfl)⟩
 |succ d ih =>
  intro n hn hV hb
  by_cases c:Vn s pos n < Gn l n
  ·have hn1 : 1 ≤ n := by
    rcases Nat.eq_zero_or_pos n with h | h
    ·subst h;rw [Gn_zero] at c;exact absurd c (by show ¬ (0:Int) < 0;decide)
    ·exact h
   unfold stageOf
   rw [if_pos c]
   obtain ⟨i,e,hi,_⟩:=symbol_is l n hn1 (by omega) _ hV c
   refine ⟨_,rfl,.inl ⟨rfl,?_,?_,?_,?_,?_⟩⟩
   ·rw [e];omega
   ·rw [e];omega
   ·show pos+1≤pos+(n:Int);omega
   ·show pos+(n:Int)≤pos+16;omega
   ·show pos+(n:Int)≤8*s.size;omega
  ·by_cases c2:Sn l n=(syms l).length
   ·unfold stageOf
    rw [if_neg c,if_pos c2]
    exact ⟨_,rfl,.inr (.inr rfl)⟩
   ·rw [stage_step l hl s hs pos h0 hp n (by omega) (by omega) c2]
    by_cases c3:pos+n < 8*s.size
    ·rw [if_pos c3]
     refine ih (n+1) (by omega) ?_ (.inr (by omega))
     have hV1:Vn s pos (n+1)=2*Vn s pos n+bitN s (pos+n):=rfl
     have hbr:=bitN_rng s (pos+n)
     rw [firstC_succ,hV1]
     omega
    ·rw [if_neg c3]
     exact ⟨_,rfl,.inr (.inl rfl)⟩
theorem next_some (l : List Int) (he : errOf l = 0) (s : ByteArray) (hs : s.size ≤ 140737488351232) (pos : Int) (h0 : 0 ≤ pos) (hp : pos ≤ 4611686018427387904) :
  nextOf (newCs l) (newSs l) s pos=some (nextL l s pos)∧Good s pos 1 l.length (nextL l s pos):=by
 obtain ⟨hl,_,_⟩:=errOf_ok l he
 obtain ⟨r,h1,h2⟩:=stage_good l hl s hs pos h0 hp 15 0 rfl (by show (0:Int)≤0;decide) (.inl rfl)
 have e:nextOf (newCs l) (newSs l) s pos=some r ∨ (nextOf (newCs l) (newSs l) s pos=some (0,0,4)):=by
  rw [nextOf_good l he s pos h0]
  by_cases ht:(syms l).length=0
  ·rw [if_pos ht];exact .inr rfl
  ·rw [if_neg ht]
   refine .inl ?_
   rw [← h1]
   have e0:Sn l 0=0:=rfl
   have eV:¬ Vn s pos 0 < Gn l 0:=by rw [Gn_zero];exact Int.lt_irrefl 0
   unfold stageOf
   rw [if_neg eV,e0,Gn_zero,if_neg (by omega),show pos+((0:Nat):Int)=pos by omega]
   rfl
 unfold nextL
 rcases e with e | e
 ·rw [e];exact ⟨rfl,h2⟩
 ·rw [e];exact ⟨rfl,.inr (.inr rfl)⟩
theorem bits_some (s:ByteArray) (pos:Int) (n:Nat) (h0:0≤pos) (hn:n≤16):Good s pos n (2 ^ n) (bitsOf s pos n):=by
 unfold bitsOf
 rw [if_neg (by omega)]
 by_cases h:pos+n≤8*s.size
 ·rw [if_pos h,Int.toNat_natCast]
  have:=Bn_rng s pos n
  exact .inl ⟨rfl,this.1,this.2,Int.le_refl _,by show pos+(n:Int)≤pos+16;omega,h⟩
 ·rw [if_neg h]
  exact .inr (.inl rfl)
/-- A state whose place is one. -/
structure Ok (s:ByteArray) (x:St):Prop where
 p0:0≤x.p
 p1:x.p≤8*s.size
 e:x.e=0 ∨ x.e=1 ∨ x.e=2 ∨ x.e=3 ∨ x.e=4 ∨ x.e=7
theorem fail_ok {s:ByteArray} {x:St} (h:Ok s x) {e:Int} (he:e=0 ∨ e=1 ∨ e=2 ∨ e=3 ∨ e=4 ∨ e=7):Ok s (fail x e):=by
 unfold fail
 split
 ·exact ⟨h.p0,h.p1,he⟩
 ·exact h
theorem tak_ok {s:ByteArray} {x:St} {lo hi:Int} {r:Int × Int × Int} (hlo:0≤lo) (h:Ok s x) (hg:Good s x.p lo hi r):Ok s (tak x r).2:=by
 unfold tak
 by_cases c:x.e=0
 ·rw [if_pos c]
  rcases hg with ⟨h1,h2,h3,h4,h5,h6⟩ | rfl | rfl
  ·rw [if_pos h1]
   exact ⟨by have:=h.p0;show 0≤r.2.1;omega,h6,h.e⟩
  ·exact ⟨h.p0,h.p1,.inr (.inr (.inl rfl))⟩
  ·exact ⟨h.p0,h.p1,.inr (.inr (.inr (.inr (.inl rfl))))⟩
 ·rw [if_neg c];exact h
/-- A number or a symbol that is taken is in its range;the place goes on. -/
theorem tak_get {s:ByteArray} {x:St} {lo hi:Int} {r:Int × Int × Int} (hhi:0 < hi) (hg:Good s x.p lo hi r):0≤(tak x r).1∧(tak x r).1 < hi∧(tak x r).2.o=x.o∧((tak x r).2.e=0 → x.e=0∧x.p+lo≤(tak x r).2.p∧(tak x r).2.p≤x.p+16)∧(x.e ≠ 0 → (tak x r).2=x):=by
 unfold tak
 by_cases c:x.e=0
 ·rw [if_pos c]
  rcases hg with ⟨h1,h2,h3,h4,h5,h6⟩ | rfl | rfl
  ·rw [if_pos h1]
   exact ⟨h2,h3,rfl,fun _=>⟨c,h4,h5⟩,fun h=>absurd c h⟩
  ·exact ⟨Int.le_refl _,hhi,rfl,fun h=>absurd h (by show ¬ (2:Int)=0;decide),fun h=>absurd c h⟩
  ·exact ⟨Int.le_refl _,hhi,rfl,fun h=>absurd h (by show ¬ (4:Int)=0;decide),fun h=>absurd c h⟩
 ·rw [if_neg c]
  exact ⟨Int.le_refl _,hhi,rfl,fun h=>absurd h c,fun _=>rfl⟩
theorem errOf_rng (l:List Int):errOf l=0 ∨ errOf l=1 ∨ errOf l=4:=by
 unfold errOf
 (repeat' split) <;> first | exact .inl rfl | exact .inr (.inl rfl) | exact .inr (.inr rfl)
theorem table_ok {s:ByteArray} {x:St} (h:Ok s x) (l:List Int):Ok s (table l x):=fail_ok h (by rcases errOf_rng l with e | e | e <;> rw [e] <;> decide)
end Go.Proofs.Ytpbhkdamkbopkaa.Inf
namespace Go.Proofs.Ytpbhkdamkbopkaa.Inf
set_option linter.unusedSimpArgs false
set_option linter.unusedVariables false
open Go.RowKit Go.Proofs.Ytpbhkdamkbopkaa.Ext Go.Proofs.Ytpbhkdamkbopkaa.RefP Go.Proofs.YtpbhkdamkbopkaaW.PrintWords Go.Proofs.YtpbhkdamkbopkaaW.PrintLast Go.Proofs.YtpbhkdamkbopkaaW.PrintMore
open Go.Proofs.Ytpbhkdamkbopkaa.PHuffBits (huff_Bits.f huff_Bits.calls)
section
variable {P:Program} {ops:Array Oper} {C:World → Prop} {Q:Act → Prop} {o:Oper} {rest:List Oper} {a:Act} {v:Value}
/-- One step of a region whose operations leave a class of worlds alone. -/
theorem quiet_val (hw:Region.wanted o (yielded ops a.tmps)=true) (h1:∀ w,C w → o.quietAt P a C w v) (h2:wpQuiet P ops C Q rest (a.put o.dst v)):wpQuiet P ops C Q (o :: rest) a:=by
 unfold wpQuiet
 rw [if_pos hw]
 exact ⟨v,h1,h2⟩
theorem quiet_ex (hw:Region.wanted o (yielded ops a.tmps)=true) (h:∃ v,(∀ w,C w → o.quietAt P a C w v)∧wpQuiet P ops C Q rest (a.put o.dst v)):wpQuiet P ops C Q (o :: rest) a:=by
 obtain ⟨v,h1,h2⟩:=h
 exact quiet_val hw h1 h2
/-- .. that loads a struct whole. -/
theorem quiet_row (hw : Region.wanted o (yielded ops a.tmps) = true) (ty : TypeId) (x : Operand) (ho : o.op = .load ty x) (g : Nat) (hx : a.eval x = .pointer (some ⟨g, 0, none⟩)) (t : TypeId) (cs : Array Value) (fr : Nat × Nat) (d : TypeDesc) (hg : ∀ w, C w → w.heap[g]? = some (.cells cs t fr))
  (hu:P.underlying ty=some d) (hd:(match d with | .struct _ | .array _ _=>true | _=>false)=true) (hi:(P.info? ty).map (·.size)=some cs.size) (h2:wpQuiet P ops C Q rest (a.put o.dst (.agg cs))):wpQuiet P ops C Q (o :: rest) a:=by
 refine quiet_val hw (fun w hc=>?_) h2
 unfold Oper.quietAt execOp
 simp only [ho,hx,Instr.loadAt,Instr.sureAddr,Sem.run_bind,Sem.run_pure,Result.andThen_ok,run_loadVar_row w g t ty cs fr d (hg w hc) hu hd hi]
 exact ⟨rfl,rfl⟩
end
/-- A reader in memory: its block,its row of bytes. -/
structure ISt (w0:World) (g:Nat) (v:Value) (s:ByteArray) (mx:Int) (x:St) (w:World):Prop where
 blk:w.heap[g]?=some (.cells #[.string s,.int .i64 x.p,v,.int .i64 mx,.int .i64 x.e] 113 (0,0))
 row:Kd.R (Kd.int .u8) 5 w w0.heap.size (fun k=>k ≠ g) v x.o
 hg:w0.heap.size≤g
 bl:Below w0.heap.size w0 w
/-- What else is in memory stays. -/
structure Fro (w:World) (g:Nat) (v:Value) (w':World) (v':Value):Prop where
 keep:KeepBut w w' g v.ownBlock
 own:v'.ownBlock=v.ownBlock ∨ ∃ b,v'.ownBlock=some b∧w.heap.size≤b
theorem Fro.refl (w:World) (g:Nat) (v:Value):Fro w g v w v:=⟨KeepBut.refl _ _ _,.inl rfl⟩
theorem Fro.trans {w w1 w2:World} {g:Nat} {v v1 v2:Value} (h:Fro w g v w1 v1) (k:Fro w1 g v1 w2 v2):Fro w g v w2 v2 :=
 ⟨h.keep.trans k.keep h.own,by
  rcases k.own with e | ⟨b,e,hb⟩
  ·rw [e];exact h.own
  ·exact .inr ⟨b,e,Nat.le_trans h.keep.1 hb⟩⟩
theorem Fro.below {w w1 w2:World} {g:Nat} {v v1:Value} (h:Fro w g v w1 v1) (hb:Below w1.heap.size w1 w2):Fro w g v w2 v1 :=
 h.trans ⟨KeepBut.of_below hb _ _,.inl rfl⟩
theorem Fro.set {w w1:World} {g:Nat} {v v1:Value} (h:Fro w g v w1 v1) (j:Nat) (u:Value):Fro w g v (w1.setCell ⟨g,j,none⟩ u) v1 :=
 h.trans ⟨(KeepBut.refl _ _ _).set_ j u,.inl rfl⟩
section
variable {w0 w w':World} {g:Nat} {v v':Value} {s:ByteArray} {mx:Int} {x:St}
theorem ISt.below (h:ISt w0 g v s mx x w) (hb:Below w.heap.size w w'):ISt w0 g v s mx x w' :=
 ⟨blk_below h.blk hb,Kd.R_below h.row hb,h.hg,below_step h.bl hb⟩
theorem ISt.setp (h:ISt w0 g v s mx x w) (p:Int):ISt w0 g v s mx ⟨p,x.o,x.e⟩ (w.setCell ⟨g,1,none⟩ (.int .i64 p)) :=
 ⟨blk_put h.blk 1 _ rfl,Kd.R_far (p:=⟨g,1,none⟩) h.row (fun _ hk=>hk) _,h.hg,below_set h.bl h.hg⟩
theorem ISt.sete (h:ISt w0 g v s mx x w) (e:Int):ISt w0 g v s mx ⟨x.p,x.o,e⟩ (w.setCell ⟨g,4,none⟩ (.int .i64 e)) :=
 ⟨blk_put h.blk 4 _ rfl,Kd.R_far (p:=⟨g,4,none⟩) h.row (fun _ hk=>hk) _,h.hg,below_set h.bl h.hg⟩
theorem ISt.drew (h:ISt w0 g v s mx x w):ISt w0 g v s mx x w.drew:=h.below (below_drew1 (Below.refl _ _))
theorem Fro.drew {w1:World} (h:Fro w g v w1 v'):Fro w g v w1.drew v':=h.below (below_drew1 (Below.refl _ _))
theorem ISt.c0 (h:ISt w0 g v s mx x w):w.cell? ⟨g,0,none⟩=some (.string s):=(blk_cell h.blk 0).trans rfl
theorem ISt.c1 (h:ISt w0 g v s mx x w):w.cell? ⟨g,1,none⟩=some (.int .i64 x.p):=(blk_cell h.blk 1).trans rfl
theorem ISt.c2 (h:ISt w0 g v s mx x w):w.cell? ⟨g,2,none⟩=some v:=(blk_cell h.blk 2).trans rfl
theorem ISt.c3 (h:ISt w0 g v s mx x w):w.cell? ⟨g,3,none⟩=some (.int .i64 mx):=(blk_cell h.blk 3).trans rfl
theorem ISt.c4 (h:ISt w0 g v s mx x w):w.cell? ⟨g,4,none⟩=some (.int .i64 x.e):=(blk_cell h.blk 4).trans rfl
theorem ISt.f (h:ISt w0 g v s mx x w) (j:Nat):w.frozen? ⟨g,j,none⟩=false:=blk_frozen h.blk j
end
/-- What a method leaves. -/
def Post (w0:World) (g:Nat) (v:Value) (s:ByteArray) (mx:Int) (w:World) (r:Value) (y:St) (e:Ending) (w':World):Prop :=
 ∃ v1,e=.returned r∧ISt w0 g v1 s mx y w'∧Fro w g v w' v1
/-- A row that is read beside a reader. -/
def Foot (w:World) (g:Nat) (v:Value) (A:Option Addr) (l:List Int):Prop:=∀ W',KeepBut w W' g v.ownBlock → Kd.C (Kd.int .i64) W' A l.length l
theorem Foot.fro {w w':World} {g:Nat} {v v':Value} {A:Option Addr} {l:List Int} (h:Foot w g v A l) (k:Fro w g v w' v'):Foot w' g v' A l:=fun W' hk=>h W' (k.keep.trans hk k.own)
theorem Foot.now {w:World} {g:Nat} {v:Value} {A:Option Addr} {l:List Int} (h:Foot w g v A l):Kd.C (Kd.int .i64) w A l.length l:=h w (KeepBut.refl _ _ _)
theorem fail_calls (w0 : World) (g : Nat) (v : Value) (s : ByteArray) (mx : Int) (x : St) (er : Int) (w : World) (h : ISt w0 g v s mx x w) :
  Calls Try.prog 100 #[.pointer (some ⟨g,0,none⟩),.int .i64 er] w (Post w0 g v s mx w (.tuple #[]) (fail x er)):=by
 have HH:=Aside0.mk h
 have hc:=h.c4
 have hf:=h.f 4
 clear h
 by_cases c:x.e=0
 ·have hd:(x.e == 0)=true:=by rw [c];rfl
  go_enter Try.func100,Try.ntmps100
  go_wp2
  exact bodyPost_end (v:=.tuple #[]) (by simp [results,Try.results100,go_sem]) rfl ⟨v,rfl,by unfold fail;rw [if_pos c];exact HH.out.sete er,(Fro.refl _ _ _).set 4 _⟩
 ·have hd:(x.e == 0)=false:=beq_eq_false_iff_ne.2 c
  go_enter Try.func100,Try.ntmps100
  go_wp2
  exact bodyPost_end (v:=.tuple #[]) (by simp [results,Try.results100,go_sem]) rfl ⟨v,rfl,by unfold fail;rw [if_neg c];exact HH.out,Fro.refl _ _ _⟩
theorem bits_calls (w0 : World) (g : Nat) (v : Value) (s : ByteArray) (mx : Int) (x : St) (n : Int) (w : World) (hs : s.size ≤ 140737488351232) (hp : x.p ≤ 9223372036854775807) (h : ISt w0 g v s mx x w) :
  Calls Try.prog 94 #[.pointer (some ⟨g,0,none⟩),.int .i64 n] w (Post w0 g v s mx w (.int .i64 (bits s n x).1) (bits s n x).2):=by
 have HH:=Aside0.mk h
 have hc:=h.c4
 have hc1:=h.c1
 have hc0:=h.c0
 clear h
 unfold bits tak
 by_cases c:x.e=0
 ·rw [if_pos c]
  have hd:(x.e != 0)=false:=by rw [c];rfl
  obtain ⟨K,hK⟩:=bits_is s hs x.p n hp
  have hK:=hK K (Nat.le_refl _)
  generalize bitsOf s x.p n=r at hK ⊢
  obtain ⟨r1,r2,r3⟩:=r
  dsimp only at hK ⊢
  have HK:=Aside0.mk hK
  clear hK
  by_cases c3:r3=0
  ·rw [if_pos c3]
   have hd3:(r3 != 0)=false:=by rw [c3];rfl
   go_enter Try.func94,Try.ntmps94
   go_upto_region 3 with fail
   go_quiet (first | (go_at_call 32;(with_reducible refine (huff_Bits.calls K s x.p n r1 r2 r3 _ HK.out).mono ?_);rintro e w' ⟨rfl,⟨nd,rfl⟩⟩;(first | exact ⟨rfl,_,World.drewN_drewN _ _ _⟩ | exact ⟨rfl,_,Eq.trans (World.drewN_drewN _ _ _) (congrArg (World.drewN _) (Nat.add_assoc _ _ _))⟩)))
   generalize hw':World.drewN _ _=w'
   have HI:Aside0 (ISt w0 g v s mx x w'):=⟨by rw [← hw'];exact HH.out.below (pw_below_drewN (Below.refl _ _) _)⟩
   have HF:Aside0 (Fro w g v w' v):=⟨by rw [← hw'];exact (Fro.refl _ _ _).below (pw_below_drewN (Below.refl _ _) _)⟩
   clear hw'
   have hc1':=HI.out.c1
   have hf1':=HI.out.f 1
   go_wp2
   exact bodyPost_ret (v:=.int .i64 r1) (by simp [results,Try.results94,go_sem]) rfl ⟨v,rfl,(by first | exact HI.out.setp r2 | (have h:=HI.out.setp r2;rw [c] at h;exact h)),HF.out.set 1 _⟩
  ·rw [if_neg c3]
   have hd3:(r3 != 0)=true:=by simpa using c3
   have hfe:fail x r3=⟨x.p,x.o,r3⟩:=by unfold fail;rw [if_pos c]
   go_enter Try.func94,Try.ntmps94
   go_upto_region 3 with fail
   go_quiet (first | (go_at_call 32;(with_reducible refine (huff_Bits.calls K s x.p n r1 r2 r3 _ HK.out).mono ?_);rintro e w' ⟨rfl,⟨nd,rfl⟩⟩;(first | exact ⟨rfl,_,World.drewN_drewN _ _ _⟩ | exact ⟨rfl,_,Eq.trans (World.drewN_drewN _ _ _) (congrArg (World.drewN _) (Nat.add_assoc _ _ _))⟩)))
   generalize hw':World.drewN _ _=w'
   have HI:Aside0 (ISt w0 g v s mx x w'):=⟨by rw [← hw'];exact HH.out.below (pw_below_drewN (Below.refl _ _) _)⟩
   have HF:Aside0 (Fro w g v w' v):=⟨by rw [← hw'];exact (Fro.refl _ _ _).below (pw_below_drewN (Below.refl _ _) _)⟩
   clear hw'
   go_wp2_with (go_at_call 100;(with_reducible refine (fail_calls w0 g v s mx x r3 _ HI.out).mono ?_);rintro e w2 ⟨v1,rfl,hi,hf⟩;rw [hfe] at hi;have HI2:=Aside0.mk hi;have HF2:=Aside0.mk (HF.out.trans hf);clear hi hf)
   exact bodyPost_ret (v:=.int .i64 0) (by simp [results,Try.results94,go_sem]) rfl ⟨v1,rfl,HI2.out,HF2.out⟩
 ·rw [if_neg c]
  have hd:(x.e != 0)=true:=by simpa using c
  go_enter Try.func94,Try.ntmps94
  go_wp2
  go_ret
  exact ⟨v,rfl,HH.out,Fro.refl _ _ _⟩
/-- A table as a value: its counts,and the row of its symbols,read beside a reader. -/
def Tv (w:World) (g:Nat) (v:Value) (tv:Value) (l:List Int) (P:Prop):Prop :=
 ∃ (cs ss:List Int) (A:Option Addr) (c:Nat),tv=.agg (tab cs (.slice A ss.length c))∧cs.length=16∧Foot w g v A ss∧(P → cs=newCs l∧ss=newSs l)
theorem Tv.fro {w w':World} {g:Nat} {v v':Value} {tv:Value} {l:List Int} {P:Prop} (h:Tv w g v tv l P) (k:Fro w g v w' v'):Tv w' g v' tv l P:=by
 obtain ⟨cs,ss,A,c,h1,h2,h3,h4⟩:=h
 exact ⟨cs,ss,A,c,h1,h2,h3.fro k,h4⟩
theorem Tv.imp {w:World} {g:Nat} {v:Value} {tv:Value} {l:List Int} {P Q:Prop} (h:Tv w g v tv l P) (k:Q → P):Tv w g v tv l Q:=by
 obtain ⟨cs,ss,A,c,h1,h2,h3,h4⟩:=h
 exact ⟨cs,ss,A,c,h1,h2,h3,fun q=>h4 (k q)⟩
set_option maxRecDepth 100000 in
set_option maxHeartbeats 4000000 in
theorem next_calls (w0 : World) (g : Nat) (v : Value) (s : ByteArray) (mx : Int) (x : St) (tv : Value) (l : List Int) (w : World) (hs : s.size ≤ 140737488351232) (hp0 : 0 ≤ x.p) (hp : x.p ≤ 4611686018427387904) (h : ISt w0 g v s mx x w) (ht : Tv w g v tv l (x.e = 0)) (he : x.e = 0 → errOf l = 0) :
  Calls Try.prog 111 #[.pointer (some ⟨g,0,none⟩),tv] w (Post w0 g v s mx w (.int .i64 (next l s x).1) (next l s x).2):=by
 have HH:=Aside0.mk h
 obtain ⟨cs,ss,A,cc,rfl,hcl,hft,hcs⟩:=ht
 have HFT:=Aside0.mk hft
 clear h hft
 have hu26:=Try.underlying26
 unfold next tak
 by_cases c:x.e=0
 ·rw [if_pos c]
  obtain ⟨rfl,rfl⟩:=hcs c
  have hd:(x.e != 0)=false:=by rw [c];rfl
  obtain ⟨hK,_⟩:=next_some l (he c) s hs x.p hp0 hp
  generalize nextL l s x.p=r at hK ⊢
  obtain ⟨r1,r2,r3⟩:=r
  dsimp only at hK ⊢
  have HK:=Aside0.mk hK
  clear hK he hcs
  by_cases c3:r3=0
  ·rw [if_pos c3]
   have hd3:(r3 != 0)=false:=by rw [c3];rfl
   have HW:ISt w0 g v s mx x (w.alloc (.cells (tab (newCs l) (.slice A (newSs l).length cc)) 26)):=HH.out.below (below_alloc (Below.refl _ _) _)
   have hc4:=HW.c4
   have hblk:=heap_alloc_new w (.cells (tab (newCs l) (.slice A (newSs l).length cc)) 26)
   have HFW:Fro w g v (w.alloc (.cells (tab (newCs l) (.slice A (newSs l).length cc)) 26)) v:=(Fro.refl _ _ _).below (below_alloc (Below.refl _ _) _)
   go_enter Try.func111,Try.ntmps111
   go_upto_region 3 with fail
   generalize w.alloc (.cells (tab (newCs l) (.slice A (newSs l).length cc)) 26)=W at HW hc4 hblk HFW ⊢
   generalize w.heap.size=b at hblk ⊢
   refine wp_region_quiet (C:=fun w'=>ISt w0 g v s mx x w'∧w'.heap[b]?=some (.cells (tab (newCs l) (.slice A (newSs l).length cc)) 26 (0,0))∧Fro w g v w' v) (by kernel_rfl) (by kernel_rfl) ⟨HW.drew,hblk,HFW.drew⟩ ?_
   refine quiet_row rfl 26 (.tmp 3) rfl b rfl 26 _ (0,0) _ (fun w' hw'=>hw'.2.1) hu26 rfl (by rw [tab_size,newCs_length];exact info26) ?_
   repeat (refine quiet_ex rfl ?_;apply Exists.intro;refine ⟨fun w' hw'=>?_,?_⟩;focus (have h0:=hw'.1.c0;have h1:=hw'.1.c1;unfold Oper.quietAt;go_simp;(first | done | rfl)))
   refine quiet_ex rfl ?_
   apply Exists.intro
   refine ⟨fun w' hw'=>?_,?_⟩
   focus
    unfold Oper.quietAt
    go_simp
    refine (Ext.next_calls A cc (newCs l) (newSs l) s x.p w' (HFT.out.fro hw'.2.2).now (newCs_length l) r1 r2 r3 HK.out).mono ?_
    rintro e w2 ⟨rfl,hb⟩
    exact ⟨rfl,hw'.1.below hb,(hb.block b (blk_lt hw'.2.1)).trans hw'.2.1,hw'.2.2.below hb⟩
   repeat (refine quiet_ex rfl ?_;apply Exists.intro;refine ⟨fun w' hw'=>?_,?_⟩;focus (unfold Oper.quietAt;go_simp;(first | done | rfl)))
   refine wpQuiet_nil ?_
   intro w' hw'
   have HI:Aside0 (ISt w0 g v s mx x w'):=⟨hw'.1⟩
   have HF:Aside0 (Fro w g v w' v):=⟨hw'.2.2⟩
   clear hw' hc4 hblk HW HFW
   have hc1':=HI.out.c1
   have hf1':=HI.out.f 1
   go_wp2
   exact bodyPost_ret (v:=.int .i64 r1) (by simp [results,Try.results111,go_sem]) rfl ⟨v,rfl,(by first | exact HI.out.setp r2 | (have h:=HI.out.setp r2;rw [c] at h;exact h)),HF.out.set 1 _⟩
  ·rw [if_neg c3]
   have hd3:(r3 != 0)=true:=by simpa using c3
   have hfe:fail x r3=⟨x.p,x.o,r3⟩:=by unfold fail;rw [if_pos c]
   have HW:ISt w0 g v s mx x (w.alloc (.cells (tab (newCs l) (.slice A (newSs l).length cc)) 26)):=HH.out.below (below_alloc (Below.refl _ _) _)
   have hc4:=HW.c4
   have hblk:=heap_alloc_new w (.cells (tab (newCs l) (.slice A (newSs l).length cc)) 26)
   have HFW:Fro w g v (w.alloc (.cells (tab (newCs l) (.slice A (newSs l).length cc)) 26)) v:=(Fro.refl _ _ _).below (below_alloc (Below.refl _ _) _)
   go_enter Try.func111,Try.ntmps111
   go_upto_region 3 with fail
   generalize w.alloc (.cells (tab (newCs l) (.slice A (newSs l).length cc)) 26)=W at HW hc4 hblk HFW ⊢
   generalize w.heap.size=b at hblk ⊢
   refine wp_region_quiet (C:=fun w'=>ISt w0 g v s mx x w'∧w'.heap[b]?=some (.cells (tab (newCs l) (.slice A (newSs l).length cc)) 26 (0,0))∧Fro w g v w' v) (by kernel_rfl) (by kernel_rfl) ⟨HW.drew,hblk,HFW.drew⟩ ?_
   refine quiet_row rfl 26 (.tmp 3) rfl b rfl 26 _ (0,0) _ (fun w' hw'=>hw'.2.1) hu26 rfl (by rw [tab_size,newCs_length];exact info26) ?_
   repeat (refine quiet_ex rfl ?_;apply Exists.intro;refine ⟨fun w' hw'=>?_,?_⟩;focus (have h0:=hw'.1.c0;have h1:=hw'.1.c1;unfold Oper.quietAt;go_simp;(first | done | rfl)))
   refine quiet_ex rfl ?_
   apply Exists.intro
   refine ⟨fun w' hw'=>?_,?_⟩
   focus
    unfold Oper.quietAt
    go_simp
    refine (Ext.next_calls A cc (newCs l) (newSs l) s x.p w' (HFT.out.fro hw'.2.2).now (newCs_length l) r1 r2 r3 HK.out).mono ?_
    rintro e w2 ⟨rfl,hb⟩
    exact ⟨rfl,hw'.1.below hb,(hb.block b (blk_lt hw'.2.1)).trans hw'.2.1,hw'.2.2.below hb⟩
   repeat (refine quiet_ex rfl ?_;apply Exists.intro;refine ⟨fun w' hw'=>?_,?_⟩;focus (unfold Oper.quietAt;go_simp;(first | done | rfl)))
   refine wpQuiet_nil ?_
   intro w' hw'
   have HI:Aside0 (ISt w0 g v s mx x w'):=⟨hw'.1⟩
   have HF:Aside0 (Fro w g v w' v):=⟨hw'.2.2⟩
   clear hw' hc4 hblk HW HFW
   go_wp2_with (go_at_call 100;(with_reducible refine (fail_calls w0 g v s mx x r3 _ HI.out).mono ?_);rintro e w2 ⟨v1,rfl,hi,hf⟩;rw [hfe] at hi;have HI2:=Aside0.mk hi;have HF2:=Aside0.mk (HF.out.trans hf);clear hi hf)
   exact bodyPost_ret (v:=.int .i64 0) (by simp [results,Try.results111,go_sem]) rfl ⟨v1,rfl,HI2.out,HF2.out⟩
 ·rw [if_neg c]
  have hd:(x.e != 0)=true:=by simpa using c
  have HW:ISt w0 g v s mx x (w.alloc (.cells (tab cs (.slice A ss.length cc)) 26)):=HH.out.below (below_alloc (Below.refl _ _) _)
  have hc4:=HW.c4
  go_enter Try.func111,Try.ntmps111
  go_wp2
  exact bodyPost_ret (v:=.int .i64 0) (by simp [results,Try.results111,go_sem]) rfl ⟨v,rfl,HW,(Fro.refl _ _ _).below (below_alloc (Below.refl _ _) _)⟩
end Go.Proofs.Ytpbhkdamkbopkaa.Inf
namespace Go.Proofs.Ytpbhkdamkbopkaa.Inf
set_option linter.unusedSimpArgs false
set_option linter.unusedVariables false
open Go.RowKit Go.Proofs.Ytpbhkdamkbopkaa.Ext Go.Proofs.Ytpbhkdamkbopkaa.RefP Go.Proofs.YtpbhkdamkbopkaaW.PrintWords Go.Proofs.YtpbhkdamkbopkaaW.PrintLast Go.Proofs.YtpbhkdamkbopkaaW.PrintMore
theorem setRow_far (w:World) (b:Nat) (c:Array Value) (i:Nat) (h:i ≠ b):(w.setRow b c).heap[i]?=w.heap[i]?:=by
 simp only [World.setRow]
 rw [Array.getElem?_modify,if_neg (fun e=>h e.symm)]
theorem setRow_size (w:World) (b:Nat) (c:Array Value):(w.setRow b c).heap.size=w.heap.size:=by
 simp [World.setRow]
section
variable {w0 w w':World} {g:Nat} {v v':Value} {s:ByteArray} {mx:Int} {x:St}
theorem ISt.own (h:ISt w0 g v s mx x w):∀ k,v.ownBlock=some k → w0.heap.size≤k∧k < w.heap.size:=by
 obtain ⟨inner,ho⟩:=Kd.R_own h.row
 exact fun k hk=>⟨(ho.lt k hk).1,(ho.lt k hk).2⟩
theorem ISt.glt (h:ISt w0 g v s mx x w):g < w.heap.size:=blk_lt h.blk
theorem ISt.same (h:ISt w0 g v s mx x w) (hg:w'.heap[g]?=w.heap[g]?) (hv:∀ k,v.ownBlock=some k → w'.heap[k]?=w.heap[k]?) (hb:Below w0.heap.size w0 w'):ISt w0 g v s mx x w' :=
 ⟨hg.trans h.blk,Kd.R_reok rfl (Kd.R_step (Kd.R_tight rfl h.row) (fun k hk _=>hv k hk.symm)) h.row.1,h.hg,hb⟩
/-- A row beyond all that the reader has is written. -/
theorem ISt.setRow (h:ISt w0 g v s mx x w) (b:Nat) (c:Array Value) (hg:b ≠ g) (hv:v.ownBlock ≠ some b) (hb:w0.heap.size≤b):ISt w0 g v s mx x (w.setRow b c) :=
 h.same (setRow_far w b c g (fun e=>hg e.symm)) (fun k hk=>setRow_far w b c k (fun e=>hv (by rw [hk,e]))) (below_setRow h.bl hb c)
theorem Fro.setRow (h:Fro w g v w' v') (b:Nat) (c:Array Value) (hb:w.heap.size≤b):Fro w g v (w'.setRow b c) v' :=
 ⟨⟨by rw [setRow_size];exact h.keep.1,fun i hi h1 h2=>(setRow_far w' b c i (by omega)).trans (h.keep.2 i hi h1 h2)⟩,h.own⟩
end
/-- A row apart from the reader is a foot. -/
theorem foot_of {w1 W : World} {g : Nat} {v : Value} {A : Option Addr} {n c : Nat} {l : List Int} {base : Nat} (hr : Kd.R (Kd.int .i64) 3 w1 base (fun _ => True) (.slice A n c) l) (hsz : w1.heap.size ≤ W.heap.size)
  (hk:∀ k,base≤k → k < w1.heap.size → W.heap[k]?=w1.heap[k]?∧k ≠ g∧some k ≠ v.ownBlock):Foot W g v A l:=fun W' hW=>by
 have h2:Kd.R (Kd.int .i64) 3 W' base (fun _=>True) (.slice A n c) l:=Kd.R_mono (Kd.R_step (Kd.R_bound hr) (fun k ho hlt=>by
  obtain ⟨h1,h2,h3⟩:=hk k ho.2.1 hlt
  exact (hW.2 k (by omega) h2 h3).trans h1)) (fun _ _=>trivial)
 exact (Kd.R_reads' h2).2.2
/-- What table leaves. -/
def TPost (w0:World) (g:Nat) (v:Value) (s:ByteArray) (mx:Int) (w:World) (l:List Int) (x:St) (e:Ending) (w':World):Prop :=
 ∃ tv v1,e=.returned tv∧Tv w' g v1 tv l (x.e=0)∧ISt w0 g v1 s mx (table l x) w'∧Fro w g v w' v1
set_option maxRecDepth 100000 in
set_option maxHeartbeats 4000000 in
theorem table_calls (w0 : World) (g : Nat) (v : Value) (s : ByteArray) (mx : Int) (x : St) (A : Option Addr) (c : Nat) (l : List Int) (w : World) (h : ISt w0 g v s mx x w) (hr : Kd.C (Kd.int .i64) w A l.length l) :
    Calls Try.prog 98 #[.pointer (some ⟨g,0,none⟩),.slice A l.length c] w (TPost w0 g v s mx w l x):=by
  have HH:=Aside0.mk h
  have HR:=Aside0.mk hr
  clear h hr
  have hu26:=Aside0.mk Try.underlying26
  have HW:ISt w0 g v s mx x (w.alloc (.cells (tab zero16 (.slice none 0 0)) 26)):=HH.out.below (below_alloc (Below.refl _ _) _)
  have HFW:Fro w g v (w.alloc (.cells (tab zero16 (.slice none 0 0)) 26)) v:=(Fro.refl _ _ _).below (below_alloc (Below.refl _ _) _)
  have hblk:=heap_alloc_new w (.cells (tab zero16 (.slice none 0 0)) 26)
  have hc4:=HW.c4
  rw [tab0] at HW HFW hblk hc4
  have hv0:v.ownBlock ≠ some w.heap.size:=fun e=>by have:=(HH.out.own _ e).2;omega
  have hg0:w.heap.size ≠ g:=fun e=>by have:=HH.out.glt;omega
  have hw00:w0.heap.size≤w.heap.size:=HH.out.bl.size
  have BN:=Aside0.mk (And.intro hv0 (And.intro hg0 hw00))
  clear hv0 hg0 hw00
  have hra:=Kd.C_alloc HR.out (.cells (tab zero16 (.slice none 0 0)) 26)
  rw [tab0] at hra
  by_cases cx:x.e=0
  · have hd:(x.e != 0)=false:=by rw [cx];rfl
    go_enter Try.func98,Try.ntmps98
    go_upto_region 3 with fail
    generalize w.alloc _=W at HW HFW hblk hc4 hra ⊢
    have HRA:=Aside0.mk hra
    clear hra
    rw [← tab0] at hblk
    obtain ⟨b,hb⟩:∃ b,b=w.heap.size:=⟨_,rfl⟩
    rw [← hb] at hblk BN ⊢
    have HWA:=Aside0.mk HW
    have HFA:=Aside0.mk HFW
    have HBA:=Aside0.mk hblk
    have HBE:=Aside0.mk hb
    clear HW HFW hblk hc4 hb hd
    have HRW:Aside0 (Kd.C (Kd.int .i64) W A l.length l):=HRA
    go_wp2_with (first
      | (go_at_call 26;(with_reducible refine (new_calls A c l _ HRW.out).mono ?_);rintro e w1 ⟨u,rfl,hru,hb1⟩;have HU:=Aside0.mk hru;have HI1:=Aside0.mk (HWA.out.below hb1);have HF1:=Aside0.mk (HFA.out.below hb1);have HB1:=Aside0.mk ((hb1.block b (blk_lt HBA.out)).trans HBA.out);have HS1:=Aside0.mk hb1.size;obtain ⟨ua,un,uc,rfl⟩:=R_form hru;clear hru hb1)
      | (refine wpList_store_row rfl 26 _ _ rfl w1.heap.size (tab (newCs l) (.slice ua un uc)) rfl rfl 26 (tab zero16 (.slice none 0 0)) (heap_alloc_new _ _) (by rw [tab_size,newCs_length];exact info26) (by rw [tab_size,tab_size,newCs_length];rfl) (tab_one _ _ _ _) ?_;rw [World.setRow_alloc_new])
      | fail)
    refine (fail_calls w0 g v s mx x (errOf l) _ (HI1.out.below (below_alloc (Below.refl _ _) _))).mono ?_
    rintro e w3 ⟨v1,rfl,hi,hf⟩
    have HI3:=Aside0.mk hi
    have HF3:=Aside0.mk hf
    clear hi hf
    have hB5:Aside0 (w3.heap[w1.heap.size]?=some (.cells (tab (newCs l) (.slice ua un uc)) 26 (0,0))):=⟨(HF3.out.keep.2 w1.heap.size (by show w1.heap.size < (w1.heap.push _).size;simp) (fun e=>by have:=HI1.out.glt;omega) (fun e=>by have:=(HI1.out.own _ e.symm).2;omega)).trans (heap_alloc_new _ _)⟩
    have hBb:Aside0 (w3.heap[b]?=some (.cells (tab zero16 (.slice none 0 0)) 26 (0,0))):=⟨(HF3.out.keep.2 b (by have:=blk_lt HB1.out;show b < (w1.heap.push _).size;simp;omega) BN.out.2.1 (fun e=>BN.out.1 e.symm)).trans ((heap_alloc_old _ _ (blk_lt HB1.out)).trans HB1.out)⟩
    go_wp2_with (first
      | (refine wpList_load_row rfl 26 _ rfl w1.heap.size rfl 26 _ (0,0) _ hB5.out hu26.out rfl (by rw [tab_size,newCs_length];exact info26) ?_)
      | (refine wpList_store_row rfl 26 _ _ rfl b (tab (newCs l) (.slice ua un uc)) rfl rfl 26 (tab zero16 (.slice none 0 0)) hBb.out (by rw [tab_size,newCs_length];exact info26) (by rw [tab_size,tab_size,newCs_length];rfl) (tab_one _ _ _ _) ?_))
    have hrow4:(w3.setRow b (tab (newCs l) (.slice ua un uc))).heap[b]?=some (.cells (tab (newCs l) (.slice ua un uc)) 26 (0,0)):=setRow_heap w3 b _ _ 26 (0,0) hBb.out
    obtain ⟨rfl,hcap,_⟩:=Kd.R_reads' HU.out
    have hbW:b < W.heap.size:=blk_lt HBA.out
    have hbw:w.heap.size≤b:=Nat.le_of_eq HBE.out.symm
    have hw1:W.heap.size≤w1.heap.size:=HS1.out
    have hw3 : w1.heap.size + 1 ≤ w3.heap.size := by have h := HF3.out.keep.1; have e : (w1.alloc (.cells (tab (newCs l) (.slice ua (newSs l).length uc)) 26)).heap.size = w1.heap.size + 1 := by show (w1.heap.push _).size = _; simp
                                                     omega
    have hI4:ISt w0 g v1 s mx (table l x) (w3.setRow b (tab (newCs l) (.slice ua (newSs l).length uc))):=HI3.out.setRow b _ BN.out.2.1 (fun e=>by
      rcases HF3.out.own with h | ⟨q,h,hq⟩
      · exact BN.out.1 (by rw [← h];exact e)
      · rw [h] at e
        have e2:=Option.some.inj e
        have e3:(w1.alloc (.cells (tab (newCs l) (.slice ua (newSs l).length uc)) 26)).heap.size=w1.heap.size+1:=by show (w1.heap.push _).size=_;simp
        omega) BN.out.2.2
    have hF4:Fro w g v (w3.setRow b (tab (newCs l) (.slice ua (newSs l).length uc))) v1:=(((HF1.out.below (below_alloc (Below.refl _ _) _)).trans HF3.out)).setRow b _ hbw
    have hfoot:Foot (w3.setRow b (tab (newCs l) (.slice ua (newSs l).length uc))) g v1 ua (newSs l):=foot_of HU.out (by rw [setRow_size];omega) (fun k hk hk2=>by
      have hkg:k ≠ g:=fun e=>by have:=HWA.out.glt;omega
      have hkv:some k ≠ v.ownBlock:=fun e=>by have:=(HWA.out.own _ e.symm).2;omega
      refine ⟨?_,hkg,fun e=>?_⟩
      · rw [setRow_far _ _ _ _ (by omega),HF3.out.keep.2 k (by show k < (w1.heap.push _).size;simp;omega) hkg hkv,heap_alloc_old _ _ hk2]
      · rcases HF3.out.own with h | ⟨q,h,hq⟩
        · exact hkv (by rw [← h];exact e)
        · rw [h] at e
          have e2:=Option.some.inj e
          have e3:(w1.alloc (.cells (tab (newCs l) (.slice ua (newSs l).length uc)) 26)).heap.size=w1.heap.size+1:=by show (w1.heap.push _).size=_;simp
          omega)
    refine bodyPost_ret (results_cell_row rfl _ _ b 26 _ (0,0) _ rfl hrow4 hu26.out rfl (by rw [tab_size,newCs_length];exact info26)) rfl ?_
    exact ⟨_,v1,rfl,⟨newCs l,newSs l,ua,uc,rfl,newCs_length l,hfoot,fun _=>⟨rfl,rfl⟩⟩,hI4,hF4⟩
  · have hd:(x.e != 0)=true:=by simpa using cx
    go_enter Try.func98,Try.ntmps98
    go_wp2
    have hx:table l x=x:=by unfold table fail;rw [if_neg cx]
    refine bodyPost_ret (results_cell_row rfl _ _ w.heap.size 26 _ (0,0) _ rfl hblk hu26.out rfl (by exact info26)) rfl ?_
    exact ⟨_,v,rfl,⟨zero16,[],none,0,(congrArg Value.agg (tab0 (.slice none 0 0))).symm,rfl,fun W' _=>Kd.C_nil _ W',fun h=>absurd h cx⟩,by rw [hx];exact HW,HFW⟩
end Go.Proofs.Ytpbhkdamkbopkaa.Inf
namespace Go.Proofs.Ytpbhkdamkbopkaa.Inf
set_option linter.unusedSimpArgs false
set_option linter.unusedVariables false
open Go.RowKit Go.Proofs.Ytpbhkdamkbopkaa.Ext Go.Proofs.Ytpbhkdamkbopkaa.RefP Go.Proofs.YtpbhkdamkbopkaaW.PrintWords Go.Proofs.YtpbhkdamkbopkaaW.PrintLast Go.Proofs.YtpbhkdamkbopkaaW.PrintMore
/-- A row of whole numbers,by its cells. -/
theorem R_nums {k:IntKind} {e:Nat} {w:World} {base:Nat} {ok:Nat → Prop} {v:Value} {xs:List Int} (h:Kd.R (Kd.int k) e w base ok v xs):w.ownsRow base e 1 v xs.length (nums k xs):=by
 obtain ⟨_,inner,ho,hl,hr⟩:=h
 have e1:inner=nums k xs:=by
  refine List.ext_getElem? fun j=>?_
  have hl2:inner.length=xs.length:=by have h:=hl;rw [show (Kd.int k).sz=1 from rfl,Nat.mul_one] at h;exact h
  by_cases hj:j < xs.length
  ·have h1:=hr j _ (List.getElem?_eq_getElem hj)
   have h2:(inner.drop (j*1)).take 1=[.int k xs[j]]:=h1
   have h3:((inner.drop (j*1)).take 1)[0]?=some (.int k xs[j]):=by rw [h2];rfl
   rw [List.getElem?_take,if_pos (by decide),List.getElem?_drop,Nat.mul_one,Nat.add_zero] at h3
   rw [h3]
   simp [nums,hj]
  ·rw [List.getElem?_eq_none (by omega),List.getElem?_eq_none (by rw [nums_length];omega)]
 rw [← e1]
 exact ho
theorem nums_R {k:IntKind} {e:Nat} {w:World} {base:Nat} {ok:Nat → Prop} {v:Value} {xs:List Int} (h:w.ownsRow base e 1 v xs.length (nums k xs)) (hok:∀ q,v.ownBlock=some q → ok q):Kd.R (Kd.int k) e w base ok v xs:=by
 refine ⟨hok,nums k xs,h,by rw [nums_length];exact (Nat.mul_one _).symm,fun j p hp=>?_⟩
 obtain ⟨hj,rfl⟩:=List.getElem?_eq_some_iff.1 hp
 have e1:((nums k xs).drop (j*1)).take 1=[.int k xs[j]]:=by
  refine List.ext_getElem? fun i=>?_
  rw [List.getElem?_take,List.getElem?_drop,Nat.mul_one]
  by_cases hi:i < 1
  ·obtain rfl:i=0:=by omega
   rw [if_pos hi]
   simp [nums,hj]
  ·rw [if_neg hi,List.getElem?_eq_none (by show 1≤i;omega)]
 rw [show (Kd.int k).sz=1 from rfl,e1]
 rfl
section
variable {P:Program} {w:World}
/-- Where a row lies behind an append: where it lay,or in a new block. -/
theorem append_str_at (t u ty e : TypeId) (i : TypeInfo) (ht : P.underlying t = some (.slice e)) (hu : P.underlying u = some .string) (hi : P.info? e = some i) (hz : i.zero = some (.int .u8 0)) (hsize : i.size = 1) (hby : i.bytes = 1)
  (base:Nat) (v:Value) (n:Nat) (xs:List Value) (hown:w.ownsRow base e 1 v n xs) (s:ByteArray) (hbytes:n+s.size≤140737488355328) (v':Value) (w':World) (hr:(Builtin.append_ #[t,u] ty #[v,.string s]).run P w=.ok v' w') :
  v'.ownBlock=v.ownBlock ∨ ∃ b,v'.ownBlock=some b∧w.heap.size≤b:=by
 have hxl:xs.length=n:=by simpa using hown.1
 rcases hown.2 with ⟨rfl,rfl⟩ | ⟨g,cap,cur,rfl,hbg,hg,hnc,hcm,hcs,htake⟩
 ·by_cases hm:s.size=0
  ·have hf:=Lib.run_firstCells_string (P:=P) w 1 s
   rw [hm] at hf
   have hr2:(Builtin.append_ #[t,u] ty #[.slice none 0 0,.string s]).run P w=.ok (.slice none 0 0) w:=by
    simp [Builtin.append_,run_underlying ht,run_underlying hu,sizeOf,typeInfo,hi,hsize,Builtin.lenOf,hm,hf]
   rw [hr2] at hr
   injection hr with h1 h2
   subst h1
   exact .inl rfl
  ·rw [run_append_nil_string (P:=P) w t u ty e i (.int .u8 0) ht hu hi hz s (by omega) (by omega) (by rw [hby];omega)] at hr
   injection hr with h1 h2
   subst h1
   exact .inr ⟨_,rfl,Nat.le_refl _⟩
 ·by_cases hroom:n+s.size≤cap
  ·have hcs':cur.size=cap:=by simpa using hcs
   rw [Lib.run_append_room_string (P:=P) w t u ty e i ht hu hi hsize g n cap cur hg s hroom (by omega)] at hr
   injection hr with h1 h2
   subst h1
   exact .inl rfl
  ·have holds:∀ j u,xs[j]?=some u → w.cell? ((⟨g,0,none⟩:Addr).add j)=some u:=hown.cells (g:=g) rfl
   rw [Lib.run_append_grow_string (P:=P) w t u ty e i (.int .u8 0) ht hu hi hz ⟨g,0,none⟩ n cap xs (by rw [hsize];simpa using hxl) holds s (by omega) (by omega) (by rw [hby];exact growslice_fits (by omega) (by omega))] at hr
   injection hr with h1 h2
   subst h1
   exact .inr ⟨_,rfl,Nat.le_refl _⟩
variable {ops:Array Oper} {o:Oper} {a:Act} {Q:Exit → Act → World → Prop} {K:Act → World → Prop} {E:Prop}
/-- append(v,s...) as one step of a region that draws its order. -/
theorem step_append_str {w0 : World} (base : Nat) (hw : Region.wanted o (yielded ops a.tmps) = true) (x y : Operand) (t u e : TypeId) (ho : o.op = .call { callee := .builtin .append, args := #[x, y], argTypes := #[t, u] })
  (ht:P.underlying t=some (.slice e)) (hu:P.underlying u=some .string) (hinfo:(P.info? e).map (fun i=>(i.zero,i.size,i.bytes))=some (some (.int .u8 0),1,1))
  (v:Value) (xs:List Int) (s:ByteArray) (ok:Nat → Prop) (hx:a.eval x=v) (hy:a.eval y=.string s) (HO:Kd.R (Kd.int .u8) e w base ok v xs) (hfresh:∀ k,w.heap.size≤k → ok k)
  (HB:Below base w0 w) (hbase:base≤w.heap.size) (hl:xs.length+s.size≤140737488355328)
  (h:∀ v1 w1,Kd.R (Kd.int .u8) e w1 base ok v1 (xs ++ bytesOf s) → Below base w0 w1 → w.grownBy w1 v.ownBlock → (v1.ownBlock=v.ownBlock ∨ ∃ b,v1.ownBlock=some b∧w.heap.size≤b) → K (a.put o.dst v1) w1) :
  if Region.wanted o (yielded ops a.tmps)=true then Oper.wp P o a w K Q else E:=by
 rw [if_pos hw]
 obtain ⟨i0,hi,hzz⟩:=Option.map_eq_some_iff.1 hinfo
 simp only [Prod.mk.injEq] at hzz
 obtain ⟨hz0,hz1,hz2⟩:=hzz
 have hown:=R_nums HO
 obtain ⟨v',w',hr,h2,h3,h4⟩:=Lib.run_append_own_string (P:=P) w base t u o.type e i0 ht hu hi hz0 hz1 hz2 v xs.length (nums .u8 xs) hown s (by simp only [maxLen];omega) hl hbase
 have hat:=append_str_at (P:=P) (w:=w) t u o.type e i0 ht hu hi hz0 hz1 hz2 base v xs.length (nums .u8 xs) hown s hl v' w' hr
 have hl2:(xs ++ bytesOf s).length=xs.length+s.size:=by rw [List.length_append,bytesOf_length]
 have hc:nums .u8 (xs ++ bytesOf s)=nums .u8 xs ++ Lib.strCells s:=by
  rw [nums_append]
  congr 1
  simp [nums,bytesOf,Lib.strCells]
 unfold Oper.wp execOp
 simp only [ho,resolve,invoke,builtin,Sem.run_bind,Sem.run_pure,Result.andThen_ok,List.map_toArray,List.map_cons,List.map_nil,hx,hy,hr]
 refine h v' w' (nums_R (by rw [hl2,hc];exact h2) (fun q hq=>?_)) (HB.grown h3 hbase (own_base hown)) h3 hat
 rcases hat with e1 | ⟨b,e1,hb⟩
 ·exact HO.1 q (by rw [← e1];exact hq)
 ·rw [e1] at hq
  cases hq
  exact hfresh _ hb
end
/-- A number that is taken. -/
theorem bits_get {s:ByteArray} {x y:St} {n:Nat} {k m:Int} (hk:k=(n:Int)) (hx:Ok s x) (hn:n≤16) (h:bits s k x=(m,y)):Ok s y∧0≤m∧m < 2 ^ n∧y.o=x.o∧(y.e=0 → x.e=0∧x.p+n≤y.p∧y.p≤x.p+16)∧(x.e ≠ 0 → y=x):=by
 subst hk
 have g:=bits_some s x.p n hx.p0 hn
 have e:tak x (bitsOf s x.p (n:Int))=(m,y):=h
 have h1:=tak_ok (Int.natCast_nonneg n) hx g
 have h2:=tak_get (x:=x) (by have:=(pow_16 n hn).1;omega) g
 rw [e] at h1 h2
 exact ⟨h1,h2.1,h2.2.1,h2.2.2.1,h2.2.2.2.1,h2.2.2.2.2⟩
/-- A symbol that is taken. -/
theorem next_get {s:ByteArray} {x y:St} {l:List Int} {m:Int} (hs:s.size≤140737488351232) (hx:Ok s x) (he:x.e=0 → errOf l=0) (h:next l s x=(m,y)):Ok s y∧0≤m∧(m < l.length ∨ m=0)∧y.o=x.o∧(y.e=0 → x.e=0∧x.p+1≤y.p∧y.p≤x.p+16)∧(x.e ≠ 0 → y=x):=by
 have e:tak x (nextL l s x.p)=(m,y):=h
 by_cases c:x.e=0
 ·obtain ⟨_,g⟩:=next_some l (he c) s hs x.p hx.p0 (by have:=hx.p1;omega)
  have h1:=tak_ok (by decide) hx g
  by_cases hl:0 < (l.length:Int)
  ·have h2:=tak_get (x:=x) hl g
   rw [e] at h1 h2
   exact ⟨h1,h2.1,.inl h2.2.1,h2.2.2.1,h2.2.2.2.1,h2.2.2.2.2⟩
  ·have g2 : Good s x.p 1 1 (nextL l s x.p) := by
    rcases g with g | g | g
    ·have:=g.2.1;have:=g.2.2.1;omega
    ·exact .inr (.inl g)
    ·exact .inr (.inr g)
   have h2:=tak_get (x:=x) (by decide) g2
   rw [e] at h1 h2
   exact ⟨h1,h2.1,.inr (by have:=h2.1;have:=h2.2.1;omega),h2.2.2.1,h2.2.2.2.1,h2.2.2.2.2⟩
 ·have e2:tak x (nextL l s x.p)=(0,x):=by unfold tak;rw [if_neg c]
  rw [e2] at e
  injection e with e3 e4
  subst e3
  subst e4
  exact ⟨hx,Int.le_refl _,.inr rfl,rfl,fun h=>absurd h c,fun _=>rfl⟩
end Go.Proofs.Ytpbhkdamkbopkaa.Inf
namespace Go.Proofs.Ytpbhkdamkbopkaa.Inf
set_option linter.unusedSimpArgs false
set_option linter.unusedVariables false
open Go.RowKit Go.Proofs.Ytpbhkdamkbopkaa.Ext Go.Proofs.Ytpbhkdamkbopkaa.RefP Go.Proofs.YtpbhkdamkbopkaaW.PrintWords Go.Proofs.YtpbhkdamkbopkaaW.PrintLast Go.Proofs.YtpbhkdamkbopkaaW.PrintMore
theorem info5w:(Try.prog.info? 5).map (fun i=>(i.zero,i.size,i.bytes))=some (some (.int .u8 0),1,1):=by kernel_rfl
theorem ISt.seto {w0 w w1 : World} {g : Nat} {v v1 : Value} {s : ByteArray} {mx : Int} {x : St} {o1 : List Int} (h : ISt w0 g v s mx x w) (hr : Kd.R (Kd.int .u8) 5 w1 w0.heap.size (fun k => k ≠ g) v1 o1) (hb : Below w0.heap.size w0 w1) (hg : w.grownBy w1 v.ownBlock) :
  ISt w0 g v1 s mx ⟨x.p,o1,x.e⟩ (w1.setCell ⟨g,2,none⟩ v1):=by
 obtain ⟨A,c,e⟩:=Kd.R_slice hr
 exact ⟨blk_put (blk_grown h.blk hg (Kd.R_ne h.row h.blk (by decide))) 2 _ (by rw [e];rfl),Kd.R_far (p:=⟨g,2,none⟩) hr (fun _ hk=>hk) _,h.hg,below_set hb h.hg⟩
theorem Fro.seto {w w1 w2:World} {g:Nat} {v v1 v2:Value} (h:Fro w g v w1 v1) (hg:w1.grownBy w2 v1.ownBlock) (hn:v2.ownBlock=v1.ownBlock ∨ ∃ b,v2.ownBlock=some b∧w1.heap.size≤b):Fro w g v (w2.setCell ⟨g,2,none⟩ v2) v2 :=
 h.trans ⟨(KeepBut.of_grown hg g).set_ 2 _,hn⟩
theorem wrap_qn {s:ByteArray} {q n:Nat} (hs:s.size≤17592186044416) (h:q+n≤s.size):wrap64 ((q:Int)+(n:Int))=(q:Int)+(n:Int):=wrap_in (by omega) (by omega)
theorem wrap_8n {s:ByteArray} {q n:Nat} (hs:s.size≤17592186044416) (h:q+n≤s.size):wrap64 (8*(n:Int))=8*(n:Int):=wrap_in (by omega) (by omega)
theorem wrap_p8n {s:ByteArray} {q n:Nat} {p:Int} (hs:s.size≤17592186044416) (h:q+n≤s.size) (h0:0≤p) (h1:p≤8*s.size):wrap64 (p+8*(n:Int))=p+8*(n:Int):=wrap_in (by omega) (by omega)
theorem cut_run {s:ByteArray} {q n:Nat} (h:q+n≤s.size):∀ w',(Instr.slice 9 (.string s) (some (.int .i64 (q:Int))) (some (.int .i64 ((q:Int)+(n:Int)))) none).run Try.prog w'=.ok (.string (s.extract q (q+n))) w':=fun w'=>by
 have h:=run_slice_string (P:=Try.prog) w' 9 s .i64 .i64 (q:Int) ((q:Int)+(n:Int)) Try.underlying9 (by omega) (by omega) (by omega)
 rw [show ((q:Int)+(n:Int)).toNat=q+n by omega,Int.toNat_natCast] at h
 exact h
theorem cut_size {s:ByteArray} {q n:Nat} (h:q+n≤s.size):(s.extract q (q+n)).size=n:=by rw [ByteArray.size_extract];omega
theorem cut_bytes {s:ByteArray} {q n:Nat} (h:q+n≤s.size):bytesOf (s.extract q (q+n))=cut s q n:=by
 refine List.ext_getElem? fun i=>?_
 by_cases hi:i < n
 ·have h1 : (bytesOf (s.extract q (q + n)))[i]? = some (rd (bytesOf (s.extract q (q + n))) (i : Int)) := by
   unfold rd
   rw [Int.toNat_natCast,List.getD_eq_getElem?_getD,List.getElem?_eq_getElem (by rw [bytesOf_length,cut_size h];exact hi)]
   rfl
  rw [h1,rd_bytesOf]
  unfold cut
  rw [List.getElem?_map,List.getElem?_range hi,Option.map_some]
  congr 1
  have h2:(Int.toNat (i:Int)) < (s.extract q (q+n)).size:=by rw [cut_size h];simpa using hi
  have h3:(Int.toNat ((q+i:Nat):Int)) < s.size:=by rw [Int.toNat_natCast];omega
  unfold bt
  rw [dif_pos h2,dif_pos h3]
  simp [ByteArray.getElem_extract,show ((q:Int)+(i:Int)).toNat=q+i by omega]
 ·rw [List.getElem?_eq_none (by rw [bytesOf_length,cut_size h];omega),List.getElem?_eq_none (by unfold cut;simpa using hi)]
set_option maxRecDepth 100000 in
set_option maxHeartbeats 4000000 in
theorem stored_calls (w0 : World) (g : Nat) (v : Value) (s : ByteArray) (mx : Int) (x : St) (w : World) (hs : s.size ≤ 17592186044416) (ho : x.o.length ≤ 262144) (hmx : 0 ≤ mx ∧ mx ≤ 262144) (hx : Ok s x) (h : ISt w0 g v s mx x w) :
  Calls Try.prog 95 #[.pointer (some ⟨g,0,none⟩)] w (Post w0 g v s mx w (.tuple #[]) (stored s mx x)):=by
 have HH:=Aside0.mk h
 have hp0:=hx.p0
 have hp1:=hx.p1
 have hc1:=h.c1
 have hf1:=h.f 1
 obtain ⟨P,hP⟩:∃ P,P=(x.p+7) / 8*8:=⟨_,rfl⟩
 have hPr:0≤P∧P≤8*s.size:=by omega
 have HS0:Aside0 (ISt w0 g v s mx ⟨P,x.o,x.e⟩ (w.setCell ⟨g,1,none⟩ (.int .i64 P))):=⟨h.setp P⟩
 have HF0:Aside0 (Fro w g v (w.setCell ⟨g,1,none⟩ (.int .i64 P)) v):=⟨(Fro.refl _ _ _).set 1 _⟩
 have hok0:Ok s ⟨P,x.o,x.e⟩:=⟨hPr.1,hPr.2,hx.e⟩
 obtain ⟨n1,x1,ha⟩:∃ n1 x1,bits s 16 ⟨P,x.o,x.e⟩=(n1,x1):=⟨_,_,rfl⟩
 obtain ⟨m1,x2,hb⟩:∃ m1 x2,bits s 16 x1=(m1,x2):=⟨_,_,rfl⟩
 obtain ⟨hok1,hn0,hn1,ho1,-,-⟩:=bits_get (n:=16) rfl hok0 (Nat.le_refl _) ha
 obtain ⟨hok2,-,-,ho2,-,-⟩:=bits_get (n:=16) rfl hok1 (Nat.le_refl _) hb
 have hl2:x2.o.length≤262144:=by rw [ho2,ho1];exact ho
 replace hn1:n1 < 65536:=hn1
 have HST:Aside0 (stored s mx x=if x2.e=0 then (if Go.bits .xor .i64 n1 m1=65535 then (if (x2.o.length:Int)+n1≤mx then (if n1≤s.size - x2.p / 8 then ⟨x2.p+8*n1,x2.o ++ cut s (x2.p / 8).toNat n1.toNat,x2.e⟩ else fail x2 2) else fail x2 7) else fail x2 3) else x2):=⟨by unfold stored;rw [← hP,ha];dsimp only;rw [hb]⟩
 have HA:=Aside0.mk ha
 have HB:=Aside0.mk hb
 have O1:=Aside0.mk hok1
 have O2:=Aside0.mk hok2
 have hq0:=hok2.p0
 have hq1:=hok2.p1
 clear h ha hb hok0 hok1 hok2 ho1 ho2 hx
 go_enter Try.func95,Try.ntmps95
 go_upto_region 1 with fail
 rw [← hP]
 clear hc1 hf1 hP
 go_upto_region 2 with (first
  |(go_at_call 94;(with_reducible refine (bits_calls w0 g v s mx ⟨P,x.o,x.e⟩ 16 _ (by omega) (by show P≤_;omega) HS0.out).mono ?_);rw [HA.out];rintro e w1 ⟨v1,rfl,hi,hf⟩;have HI1:=Aside0.mk hi;have HF1:=Aside0.mk (HF0.out.trans hf);clear hi hf HS0 HF0)
  |(go_at_call 94;(with_reducible refine (bits_calls w0 g _ s mx x1 16 _ (by omega) (by have:=O1.out.p1;omega) HI1.out).mono ?_);rw [HB.out];rintro e w2 ⟨v2,rfl,hi,hf⟩;have HI2:=Aside0.mk hi;have HF2:=Aside0.mk (HF1.out.trans hf);clear hi hf HI1 HF1))
 obtain ⟨A,c,rfl⟩:=Kd.R_slice HI2.out.row
 have hc4:=HI2.out.c4
 by_cases c0:x2.e=0
 ·have d0:(x2.e != 0)=false:=by rw [c0];rfl
  by_cases cx:Go.bits .xor .i64 n1 m1=65535
  ·have dx:(Go.bits .xor .i64 n1 m1 != 65535)=false:=by rw [cx];rfl
   have hc2:=HI2.out.c2
   have hc3:=HI2.out.c3
   go_upto_region 5 with fail
   go_quiet (fail)
   generalize hw5:World.drewN _ _=w5
   have HI5:Aside0 (ISt w0 g (.slice A x2.o.length c) s mx x2 w5):=⟨by rw [← hw5];exact HI2.out.below (pw_below_drewN (Below.refl _ _) _)⟩
   have HF5:Aside0 (Fro w g v w5 (.slice A x2.o.length c)):=⟨by rw [← hw5];exact HF2.out.below (pw_below_drewN (Below.refl _ _) _)⟩
   clear hw5 hc2 hc3 hc4 HI2 HF2
   by_cases cm:(x2.o.length:Int)+n1≤mx
   ·have dm:decide ((x2.o.length:Int)+n1 > mx)=false:=decide_eq_false (by omega)
    have hc1:=HI5.out.c1
    have hc0:=HI5.out.c0
    have et:Int.tdiv x2.p 8=x2.p / 8:=Int.tdiv_eq_ediv_of_nonneg hq0
    by_cases cs:n1≤s.size - x2.p / 8
    ·have ds:decide ((s.size:Int) - x2.p / 8 < n1)=false:=decide_eq_false (by omega)
     go_upto_region 10 with fail
     obtain ⟨q,hq⟩:∃ q:Nat,x2.p / 8=(q:Int):=⟨(x2.p / 8).toNat,by omega⟩
     obtain ⟨n,rfl⟩:∃ n:Nat,n1=(n:Int):=⟨n1.toNat,by omega⟩
     rw [hq] at cs ds et ⊢
     have hb2:(q:Int)+(n:Int)≤(s.size:Int):=by omega
     have HQ:=Aside0.mk hq
     have hbn:q+n≤s.size:=by omega
     have HSL:=Aside0.mk (cut_run hbn)
     have HEX:Aside0 (x2.o.length+(s.extract q (q+n)).size≤140737488355328):=⟨by rw [cut_size hbn];omega⟩
     have hwq:=wrap_qn hs hbn
     have HCM:=Aside0.mk cm
     have HCS:Aside0 ((n:Int)≤s.size - x2.p / 8):=⟨by rw [HQ.out];exact cs⟩
     clear hq et ds dm hn0 hn1 cs cm
     refine start_ (n:=18) (S:=fun w'=>w'.cell? ⟨g,2,none⟩=some (.slice A x2.o.length c)∧w'.cell? ⟨g,0,none⟩=some (.string s)) (ds:=[14,17]) #[false,false,false,false,false,false,false,false,false,false,false,false,false,false,false,false,false,false] (by kernel_rfl) rfl rfl ⟨HI5.out.drew.c2,HI5.out.drew.c0⟩ (fun hHeld=>?_)
     have HI6:Aside0 (ISt w0 g (.slice A x2.o.length c) s mx x2 w5.drew):=⟨HI5.out.drew⟩;have HF6:Aside0 (Fro w g v w5.drew (.slice A x2.o.length c)):=⟨HF5.out.drew⟩;clear HI5 HF5 hc1 hc0;generalize w5.drew=w6 at HI6 HF6 hHeld ⊢
     refine pure_ (i:=0) (N:=some 63) (v:=?_) (a':=?_) #[true,false,false,false,false,false,false,false,false,false,false,false,false,false,false,false,false,false] rfl rfl (by kernel_rfl) (fun _ _ _ h=>h) (Or.inl ⟨by rfl,?_⟩) ?_ ?_
     rotate_left
     ·intro w'
      go_simp
      with_reducible rfl
     rotate_left
     ·simp only [Act.put,List.setIfInBounds_toArray,List.set_cons_zero,List.set_cons_succ,i64_w,i32_w]
      rfl
     refine pure_ (i:=1) (N:=some 64) (v:=?_) (a':=?_) #[true,true,false,false,false,false,false,false,false,false,false,false,false,false,false,false,false,false] rfl rfl (by kernel_rfl) (fun _ _ _ h=>h) (Or.inl ⟨by rfl,?_⟩) ?_ ?_
     rotate_left
     ·intro w'
      go_simp
      with_reducible rfl
     rotate_left
     ·simp only [Act.put,List.setIfInBounds_toArray,List.set_cons_zero,List.set_cons_succ,i64_w,i32_w]
      rfl
     refine pure_ (i:=2) (N:=some 65) (v:=?_) (a':=?_) #[true,true,true,false,false,false,false,false,false,false,false,false,false,false,false,false,false,false] rfl rfl (by kernel_rfl) (fun _ _ _ h=>h) (Or.inl ⟨by rfl,?_⟩) ?_ ?_
     rotate_left
     ·intro w'
      go_simp
      with_reducible rfl
     rotate_left
     ·simp only [Act.put,List.setIfInBounds_toArray,List.set_cons_zero,List.set_cons_succ,i64_w,i32_w]
      rfl
     refine pure_ (i:=3) (N:=some 66) (v:=?_) (a':=?_) #[true,true,true,true,false,false,false,false,false,false,false,false,false,false,false,false,false,false] rfl rfl (by kernel_rfl) (fun _ _ _ h=>h) (Or.inl ⟨by rfl,?_⟩) ?_ ?_
     rotate_left
     ·intro w'
      go_simp
      with_reducible rfl
     rotate_left
     ·simp only [Act.put,List.setIfInBounds_toArray,List.set_cons_zero,List.set_cons_succ,i64_w,i32_w]
      rfl
     refine take_ (i:=4) (N:=some 67) (v:=?_) (a':=?_) #[true,true,true,true,true,false,false,false,false,false,false,false,false,false,false,false,false,false] rfl rfl (by kernel_rfl) (fun _ _ _ h=>h) (Or.inl ⟨by rfl,?_⟩) hHeld ?_ ?_
     rotate_left
     ·rintro w' ⟨s0,s1⟩
      go_simp
      with_reducible rfl
     rotate_left
     ·simp only [Act.put,List.setIfInBounds_toArray,List.set_cons_zero,List.set_cons_succ,i64_w,i32_w]
      rfl
     refine pure_ (i:=5) (N:=some 68) (v:=?_) (a':=?_) #[true,true,true,true,true,true,false,false,false,false,false,false,false,false,false,false,false,false] rfl rfl (by kernel_rfl) (fun _ _ _ h=>h) (Or.inl ⟨by rfl,?_⟩) ?_ ?_
     rotate_left
     ·intro w'
      go_simp
      with_reducible rfl
     rotate_left
     ·simp only [Act.put,List.setIfInBounds_toArray,List.set_cons_zero,List.set_cons_succ,i64_w,i32_w]
      rfl
     refine pure_ (i:=6) (N:=some 69) (v:=?_) (a':=?_) #[true,true,true,true,true,true,true,false,false,false,false,false,false,false,false,false,false,false] rfl rfl (by kernel_rfl) (fun _ _ _ h=>h) (Or.inl ⟨by rfl,?_⟩) ?_ ?_
     rotate_left
     ·intro w'
      go_simp
      with_reducible rfl
     rotate_left
     ·simp only [Act.put,List.setIfInBounds_toArray,List.set_cons_zero,List.set_cons_succ,i64_w,i32_w]
      rfl
     refine pure_ (i:=7) (N:=some 70) (v:=?_) (a':=?_) #[true,true,true,true,true,true,true,true,false,false,false,false,false,false,false,false,false,false] rfl rfl (by kernel_rfl) (fun _ _ _ h=>h) (Or.inl ⟨by rfl,?_⟩) ?_ ?_
     rotate_left
     ·intro w'
      go_simp
      with_reducible rfl
     rotate_left
     ·simp only [Act.put,List.setIfInBounds_toArray,List.set_cons_zero,List.set_cons_succ,i64_w,i32_w]
      rfl
     refine take_ (i:=8) (N:=some 71) (v:=?_) (a':=?_) #[true,true,true,true,true,true,true,true,true,false,false,false,false,false,false,false,false,false] rfl rfl (by kernel_rfl) (fun _ _ _ h=>h) (Or.inl ⟨by rfl,?_⟩) hHeld ?_ ?_
     rotate_left
     ·rintro w' ⟨s0,s1⟩
      go_simp
      with_reducible rfl
     rotate_left
     ·simp only [Act.put,List.setIfInBounds_toArray,List.set_cons_zero,List.set_cons_succ,i64_w,i32_w]
      rfl
     refine pure_ (i:=9) (N:=some 72) (v:=?_) (a':=?_) #[true,true,true,true,true,true,true,true,true,true,false,false,false,false,false,false,false,false] rfl rfl (by kernel_rfl) (fun _ _ _ h=>h) (Or.inl ⟨by rfl,?_⟩) ?_ ?_
     rotate_left
     ·intro w'
      go_simp
      with_reducible rfl
     rotate_left
     ·simp only [Act.put,List.setIfInBounds_toArray,List.set_cons_zero,List.set_cons_succ,i64_w,i32_w]
      rfl
     refine pure_ (i:=10) (N:=some 73) (v:=?_) (a':=?_) #[true,true,true,true,true,true,true,true,true,true,true,false,false,false,false,false,false,false] rfl rfl (by kernel_rfl) (fun _ _ _ h=>h) (Or.inl ⟨by rfl,?_⟩) ?_ ?_
     rotate_left
     ·intro w'
      go_simp
      with_reducible rfl
     rotate_left
     ·simp only [Act.put,List.setIfInBounds_toArray,List.set_cons_zero,List.set_cons_succ,i64_w,i32_w]
      rfl
     refine pure_ (i:=11) (N:=some 74) (v:=?_) (a':=?_) #[true,true,true,true,true,true,true,true,true,true,true,true,false,false,false,false,false,false] rfl rfl (by kernel_rfl) (fun _ _ _ h=>h) (Or.inl ⟨by rfl,?_⟩) ?_ ?_
     rotate_left
     ·intro w'
      go_simp
      with_reducible rfl
     rotate_left
     ·simp only [Act.put,List.setIfInBounds_toArray,List.set_cons_zero,List.set_cons_succ,i64_w,i32_w]
      rfl
     refine pure_ (i:=12) (N:=some 75) (v:=?_) (a':=?_) #[true,true,true,true,true,true,true,true,true,true,true,true,true,false,false,false,false,false] rfl rfl (by kernel_rfl) (fun _ _ _ h=>h) (Or.inl ⟨by rfl,?_⟩) ?_ ?_
     rotate_left
     ·intro w'
      go_simp
      with_reducible rfl
     rotate_left
     ·simp only [Act.put,List.setIfInBounds_toArray,List.set_cons_zero,List.set_cons_succ,i64_w,i32_w]
      rfl
     refine pure_ (i:=13) (N:=some 76) (v:=?_) (a':=?_) #[true,true,true,true,true,true,true,true,true,true,true,true,true,true,false,false,false,false] rfl rfl (by kernel_rfl) (fun _ _ _ h=>h) (Or.inl ⟨by rfl,?_⟩) ?_ ?_
     rotate_left
     ·intro w'
      go_simp
      rw [HSL.out];rfl
     rotate_left
     ·simp only [Act.put,List.setIfInBounds_toArray,List.set_cons_zero,List.set_cons_succ,i64_w,i32_w]
      rfl
     refine last_ (i:=14) (N:=some 77) #[true,true,true,true,true,true,true,true,true,true,true,true,true,true,true,false,false,false] rfl rfl (by kernel_rfl) (by decide) (fun K hK=>?_)
     refine step_append_str (w0:=w0) w0.heap.size rfl (.tmp 67) (.tmp 76) 40 9 5 rfl Try.underlying40 Try.underlying9 info5w (.slice A x2.o.length c) x2.o _ (fun k=>k ≠ g) rfl rfl HI6.out.row (fun k hk e=>by have:=HI6.out.glt;omega) HI6.out.bl HI6.out.bl.size HEX.out ?_
     intro v7 w7 hr7 hb7 hg7 hn7
     obtain ⟨o7,ho7⟩:∃ o7,o7=x2.o ++ bytesOf (s.extract q (q+n)):=⟨_,rfl⟩
     rw [← ho7] at hr7
     have HO7:=Aside0.mk ho7
     clear ho7
     obtain ⟨A7,c7,rfl⟩:=Kd.R_slice hr7
     have HI7:=Aside0.mk (HI6.out.seto hr7 hb7 hg7)
     have HF7:=Aside0.mk (HF6.out.seto hg7 hn7)
     refine hK.out _ _ ?_
     clear hK K
     refine norm_ (a':=?_) ?_ ?_
     rotate_left
     ·show Act.put _ (some 77) _=_
      simp only [Act.put,List.setIfInBounds_toArray,List.set_cons_zero,List.set_cons_succ,i64_w,i32_w]
      rfl
     refine pure_ (i:=15) (N:=some 78) (v:=?_) (a':=?_) #[true,true,true,true,true,true,true,true,true,true,true,true,true,true,true,true,false,false] rfl rfl (by kernel_rfl) (fun _ _ _ h=>h) (Or.inl ⟨by rfl,?_⟩) ?_ ?_
     rotate_left
     ·intro w'
      go_simp
      with_reducible rfl
     rotate_left
     ·simp only [Act.put,List.setIfInBounds_toArray,List.set_cons_zero,List.set_cons_succ,i64_w,i32_w]
      rfl
     refine pure_ (i:=16) (N:=some 79) (v:=?_) (a':=?_) #[true,true,true,true,true,true,true,true,true,true,true,true,true,true,true,true,true,false] rfl rfl (by kernel_rfl) (fun _ _ _ h=>h) (Or.inl ⟨by rfl,?_⟩) ?_ ?_
     rotate_left
     ·intro w'
      go_simp
      with_reducible rfl
     rotate_left
     ·simp only [Act.put,List.setIfInBounds_toArray,List.set_cons_zero,List.set_cons_succ,i64_w,i32_w]
      rfl
     refine last_ (i:=17) (N:=none) #[true,true,true,true,true,true,true,true,true,true,true,true,true,true,true,true,true,true] rfl rfl (by kernel_rfl) (by decide) (fun K hK=>?_)
     have hc7:w7.cell? ⟨g,2,none⟩=some (.slice A x2.o.length c):=(blk_cell (blk_grown HI6.out.blk hg7 (Kd.R_ne HI6.out.row HI6.out.blk (by decide))) 2).trans rfl
     have hf7:=blk_frozen (blk_grown HI6.out.blk hg7 (Kd.R_ne HI6.out.row HI6.out.blk (by decide))) 2
     refine skip_ (w1:=?_) (by rfl) rfl ?_ ?_
     rotate_left
     ·go_simp
      rfl
     refine hK.out _ _ ?_
     clear hK K
     refine done_ (by kernel_rfl) ?_
     generalize w7.setCell ⟨g,2,none⟩ _=w8 at HI7 HF7 ⊢
     have hc1:=HI7.out.c1
     have hf1:=HI7.out.f 1
     have HQ2:=HQ.out
     have hw1:wrap64 (8*(n:Int))=8*(n:Int):=wrap_8n hs hbn
     have hw2:wrap64 (x2.p+8*(n:Int))=x2.p+8*(n:Int):=wrap_p8n hs hbn hq0 hq1
     clear HQ2 hwq
     go_wp2
     exact bodyPost_end (v:=.tuple #[]) (by simp [results,Try.results95,go_sem]) rfl ⟨_,rfl,by rw [HST.out,if_pos c0,if_pos cx,if_pos HCM.out,if_pos HCS.out,HQ.out,Int.toNat_natCast,Int.toNat_natCast,← cut_bytes hbn,← HO7.out];exact HI7.out.setp _,HF7.out.set 1 _⟩
    ·have ds:decide ((s.size:Int) - x2.p / 8 < n1)=true:=decide_eq_true (by omega)
     go_wp2_with (go_at_call 100;(with_reducible refine (fail_calls w0 g _ s mx x2 2 _ HI5.out).mono ?_);rintro e w3 ⟨v3,rfl,hi,hf⟩;have HI3:=Aside0.mk hi;have HF3:=Aside0.mk (HF5.out.trans hf);clear hi hf)
     exact bodyPost_end (v:=.tuple #[]) (by simp [results,Try.results95,go_sem]) rfl ⟨v3,rfl,by rw [HST.out,if_pos c0,if_pos cx,if_pos cm,if_neg (by omega)];exact HI3.out,HF3.out⟩
   ·have dm:decide ((x2.o.length:Int)+n1 > mx)=true:=decide_eq_true (by omega)
    go_wp2_with (go_at_call 100;(with_reducible refine (fail_calls w0 g _ s mx x2 7 _ HI5.out).mono ?_);rintro e w3 ⟨v3,rfl,hi,hf⟩;have HI3:=Aside0.mk hi;have HF3:=Aside0.mk (HF5.out.trans hf);clear hi hf)
    exact bodyPost_end (v:=.tuple #[]) (by simp [results,Try.results95,go_sem]) rfl ⟨v3,rfl,by rw [HST.out,if_pos c0,if_pos cx,if_neg (by omega)];exact HI3.out,HF3.out⟩
  ·have dx:(Go.bits .xor .i64 n1 m1 != 65535)=true:=by simpa using cx
   go_wp2_with (go_at_call 100;(with_reducible refine (fail_calls w0 g _ s mx x2 3 _ HI2.out).mono ?_);rintro e w3 ⟨v3,rfl,hi,hf⟩;have HI3:=Aside0.mk hi;have HF3:=Aside0.mk (HF2.out.trans hf);clear hi hf)
   exact bodyPost_end (v:=.tuple #[]) (by simp [results,Try.results95,go_sem]) rfl ⟨v3,rfl,by rw [HST.out,if_pos c0,if_neg cx];exact HI3.out,HF3.out⟩
 ·have d0:(x2.e != 0)=true:=by simpa using c0
  go_wp2
  exact bodyPost_end (v:=.tuple #[]) (by simp [results,Try.results95,go_sem]) rfl ⟨_,rfl,by rw [HST.out,if_neg c0];exact HI2.out,HF2.out⟩
end Go.Proofs.Ytpbhkdamkbopkaa.Inf
namespace Go.Proofs.Ytpbhkdamkbopkaa.Inf
set_option linter.unusedSimpArgs false
set_option linter.unusedVariables false
open Go.RowKit Go.Proofs.Ytpbhkdamkbopkaa.Ext Go.Proofs.Ytpbhkdamkbopkaa.RefP Go.Proofs.YtpbhkdamkbopkaaW.PrintWords Go.Proofs.YtpbhkdamkbopkaaW.PrintLast Go.Proofs.YtpbhkdamkbopkaaW.PrintMore
def inflate_bases.f :Option (List Int × List Int × List Int × List Int):=some ((([3,4,5,6,7,8,9,10,11,13,15,17,19,23,27,31,35,43,51,59,67,83,99,115,131,163,195,227,258]:List Int)),(([0,0,0,0,0,0,0,0,1,1,1,1,2,2,2,2,3,3,3,3,4,4,4,4,5,5,5,5,0]:List Int)),(([1,2,3,4,5,7,9,13,17,25,33,49,65,97,129,193,257,385,513,769,1025,1537,2049,3073,4097,6145,8193,12289,16385,24577]:List Int)),(([0,0,0,0,1,1,2,2,3,3,4,4,5,5,6,6,7,7,8,8,9,9,10,10,11,11,12,12,13,13]:List Int)))
set_option maxHeartbeats 8000000 in
set_option maxRecDepth 100000 in
theorem inflate_bases.calls  (r1 : List Int) (r2 : List Int) (r3 : List Int) (r4 : List Int) (w : World) (h : inflate_bases.f  = some (r1, r2, r3, r4)) :
  Calls Try.prog 110 #[] w fun e w'=>∃ v0_ v1_ v2_ v3_:Value,e=.returned (.tuple #[v0_,v1_,v2_,v3_])∧Kd.R (Kd.int .i64) 3 w' w.heap.size (fun k_=>some k_ ≠ (v1_:Value).ownBlock∧some k_ ≠ (v2_:Value).ownBlock∧some k_ ≠ (v3_:Value).ownBlock) v0_ r1∧Kd.R (Kd.int .i64) 3 w' w.heap.size (fun k_=>some k_ ≠ (v0_:Value).ownBlock∧some k_ ≠ (v2_:Value).ownBlock∧some k_ ≠ (v3_:Value).ownBlock) v1_ r2∧Kd.R (Kd.int .i64) 3 w' w.heap.size (fun k_=>some k_ ≠ (v0_:Value).ownBlock∧some k_ ≠ (v1_:Value).ownBlock∧some k_ ≠ (v3_:Value).ownBlock) v2_ r3∧Kd.R (Kd.int .i64) 3 w' w.heap.size (fun k_=>some k_ ≠ (v0_:Value).ownBlock∧some k_ ≠ (v1_:Value).ownBlock∧some k_ ≠ (v2_:Value).ownBlock) v3_ r4∧Below w.heap.size w w':=by
 have HB:=Aside0.mk (Below.refl w.heap.size w)
 have H:(some ((([3,4,5,6,7,8,9,10,11,13,15,17,19,23,27,31,35,43,51,59,67,83,99,115,131,163,195,227,258]:List Int)),(([0,0,0,0,0,0,0,0,1,1,1,1,2,2,2,2,3,3,3,3,4,4,4,4,5,5,5,5,0]:List Int)),(([1,2,3,4,5,7,9,13,17,25,33,49,65,97,129,193,257,385,513,769,1025,1537,2049,3073,4097,6145,8193,12289,16385,24577]:List Int)),(([0,0,0,0,1,1,2,2,3,3,4,4,5,5,6,6,7,7,8,8,9,9,10,10,11,11,12,12,13,13]:List Int))))=some (r1,r2,r3,r4):=h
 clear h
 obtain ⟨y133,hy133⟩:∃ y_:List Int,y_=(([3,4,5,6,7,8,9,10,11,13,15,17,19,23,27,31,35,43,51,59,67,83,99,115,131,163,195,227,258]:List Int)):=⟨_,rfl⟩
 replace H:(some (y133,(([0,0,0,0,0,0,0,0,1,1,1,1,2,2,2,2,3,3,3,3,4,4,4,4,5,5,5,5,0]:List Int)),(([1,2,3,4,5,7,9,13,17,25,33,49,65,97,129,193,257,385,513,769,1025,1537,2049,3073,4097,6145,8193,12289,16385,24577]:List Int)),(([0,0,0,0,1,1,2,2,3,3,4,4,5,5,6,6,7,7,8,8,9,9,10,10,11,11,12,12,13,13]:List Int))))=some (r1,r2,r3,r4):=by first | (rw [hy133];with_reducible exact H) | (have H2_:=(Option.bind_some _ _).symm.trans H;rw [hy133];with_reducible exact H2_) | (have H2_:=(Option.bind_some _ _).symm.trans H;with_reducible exact H2_) | with_reducible exact H | (rw [hy133];exact H) | exact H
 have Ny133:=Aside0.mk hy133
 clear hy133
 obtain ⟨y136,hy136⟩:∃ y_:List Int,y_=(([0,0,0,0,0,0,0,0,1,1,1,1,2,2,2,2,3,3,3,3,4,4,4,4,5,5,5,5,0]:List Int)):=⟨_,rfl⟩
 replace H:(some (y133,y136,(([1,2,3,4,5,7,9,13,17,25,33,49,65,97,129,193,257,385,513,769,1025,1537,2049,3073,4097,6145,8193,12289,16385,24577]:List Int)),(([0,0,0,0,1,1,2,2,3,3,4,4,5,5,6,6,7,7,8,8,9,9,10,10,11,11,12,12,13,13]:List Int))))=some (r1,r2,r3,r4):=by first | (rw [hy136];with_reducible exact H) | (have H2_:=(Option.bind_some _ _).symm.trans H;rw [hy136];with_reducible exact H2_) | (have H2_:=(Option.bind_some _ _).symm.trans H;with_reducible exact H2_) | with_reducible exact H | (rw [hy136];exact H) | exact H
 have Ny136:=Aside0.mk hy136
 clear hy136
 obtain ⟨y139,hy139⟩:∃ y_:List Int,y_=(([1,2,3,4,5,7,9,13,17,25,33,49,65,97,129,193,257,385,513,769,1025,1537,2049,3073,4097,6145,8193,12289,16385,24577]:List Int)):=⟨_,rfl⟩
 replace H:(some (y133,y136,y139,(([0,0,0,0,1,1,2,2,3,3,4,4,5,5,6,6,7,7,8,8,9,9,10,10,11,11,12,12,13,13]:List Int))))=some (r1,r2,r3,r4):=by first | (rw [hy139];with_reducible exact H) | (have H2_:=(Option.bind_some _ _).symm.trans H;rw [hy139];with_reducible exact H2_) | (have H2_:=(Option.bind_some _ _).symm.trans H;with_reducible exact H2_) | with_reducible exact H | (rw [hy139];exact H) | exact H
 have Ny139:=Aside0.mk hy139
 clear hy139
 obtain ⟨y142,hy142⟩:∃ y_:List Int,y_=(([0,0,0,0,1,1,2,2,3,3,4,4,5,5,6,6,7,7,8,8,9,9,10,10,11,11,12,12,13,13]:List Int)):=⟨_,rfl⟩
 replace H:(some (y133,y136,y139,y142))=some (r1,r2,r3,r4):=by first | (rw [hy142];with_reducible exact H) | (have H2_:=(Option.bind_some _ _).symm.trans H;rw [hy142];with_reducible exact H2_) | (have H2_:=(Option.bind_some _ _).symm.trans H;with_reducible exact H2_) | with_reducible exact H | (rw [hy142];exact H) | exact H
 have Ny142:=Aside0.mk hy142
 clear hy142
 simp only [Option.some.injEq,Prod.mk.injEq] at H
 obtain ⟨rfl,rfl,rfl,rfl⟩:=H
 go_enter Try.func110,Try.ntmps110
 go_wp2_with (first | ((with_reducible refine gate_dst (N:=4) rfl ?_);refine Kd.R_lit (Kd.int .i64) _ 3 ?hg (N:=4) ?hd (xs:=([3,4,5,6,7,8,9,10,11,13,15,17,19,23,27,31,35,43,51,59,67,83,99,115,131,163,195,227,258]:List Int)) (inner:=[.int .i64 3,.int .i64 4,.int .i64 5,.int .i64 6,.int .i64 7,.int .i64 8,.int .i64 9,.int .i64 10,.int .i64 11,.int .i64 13,.int .i64 15,.int .i64 17,.int .i64 19,.int .i64 23,.int .i64 27,.int .i64 31,.int .i64 35,.int .i64 43,.int .i64 51,.int .i64 59,.int .i64 67,.int .i64 83,.int .i64 99,.int .i64 115,.int .i64 131,.int .i64 163,.int .i64 195,.int .i64 227,.int .i64 258]) (ok:=fun _=>True) (okp:=fun _=>True) ?hr ?hp (fun _ hk=>hk) trivial (Below.refl _ _) (Nat.le_refl _) (by simp) ?_;(case hd=>rfl);(case hg=>rfl);(case hr=>first | (go_simp;done) | (go_simp;rfl));(case hp=>exact (Reps.one (show Kd.M (Kd.int .i64) _ _ _ 3 [.int .i64 3] from rfl) (Reps.one (show Kd.M (Kd.int .i64) _ _ _ 4 [.int .i64 4] from rfl) (Reps.one (show Kd.M (Kd.int .i64) _ _ _ 5 [.int .i64 5] from rfl) (Reps.one (show Kd.M (Kd.int .i64) _ _ _ 6 [.int .i64 6] from rfl) (Reps.one (show Kd.M (Kd.int .i64) _ _ _ 7 [.int .i64 7] from rfl) (Reps.one (show Kd.M (Kd.int .i64) _ _ _ 8 [.int .i64 8] from rfl) (Reps.one (show Kd.M (Kd.int .i64) _ _ _ 9 [.int .i64 9] from rfl) (Reps.one (show Kd.M (Kd.int .i64) _ _ _ 10 [.int .i64 10] from rfl) (Reps.one (show Kd.M (Kd.int .i64) _ _ _ 11 [.int .i64 11] from rfl) (Reps.one (show Kd.M (Kd.int .i64) _ _ _ 13 [.int .i64 13] from rfl) (Reps.one (show Kd.M (Kd.int .i64) _ _ _ 15 [.int .i64 15] from rfl) (Reps.one (show Kd.M (Kd.int .i64) _ _ _ 17 [.int .i64 17] from rfl) (Reps.one (show Kd.M (Kd.int .i64) _ _ _ 19 [.int .i64 19] from rfl) (Reps.one (show Kd.M (Kd.int .i64) _ _ _ 23 [.int .i64 23] from rfl) (Reps.one (show Kd.M (Kd.int .i64) _ _ _ 27 [.int .i64 27] from rfl) (Reps.one (show Kd.M (Kd.int .i64) _ _ _ 31 [.int .i64 31] from rfl) (Reps.one (show Kd.M (Kd.int .i64) _ _ _ 35 [.int .i64 35] from rfl) (Reps.one (show Kd.M (Kd.int .i64) _ _ _ 43 [.int .i64 43] from rfl) (Reps.one (show Kd.M (Kd.int .i64) _ _ _ 51 [.int .i64 51] from rfl) (Reps.one (show Kd.M (Kd.int .i64) _ _ _ 59 [.int .i64 59] from rfl) (Reps.one (show Kd.M (Kd.int .i64) _ _ _ 67 [.int .i64 67] from rfl) (Reps.one (show Kd.M (Kd.int .i64) _ _ _ 83 [.int .i64 83] from rfl) (Reps.one (show Kd.M (Kd.int .i64) _ _ _ 99 [.int .i64 99] from rfl) (Reps.one (show Kd.M (Kd.int .i64) _ _ _ 115 [.int .i64 115] from rfl) (Reps.one (show Kd.M (Kd.int .i64) _ _ _ 131 [.int .i64 131] from rfl) (Reps.one (show Kd.M (Kd.int .i64) _ _ _ 163 [.int .i64 163] from rfl) (Reps.one (show Kd.M (Kd.int .i64) _ _ _ 195 [.int .i64 195] from rfl) (Reps.one (show Kd.M (Kd.int .i64) _ _ _ 227 [.int .i64 227] from rfl) (Reps.one (show Kd.M (Kd.int .i64) _ _ _ 258 [.int .i64 258] from rfl) (Reps.none _ _)))))))))))))))))))))))))))))));intro v134 w1 ho2 hb hg_ hnew_;clear hg_ hnew_;(first | rw [← Ny133.out] at ho2 | (simp only [Int.reduceToNat] at ho2;rw [← Ny133.out] at ho2));have n0_:=Aside0.mk (Kd.R_lower ho2 (below_size (by repeat (first | (with_reducible first | exact HB.out | apply below_alloc | apply pw_below_drewN | apply below_drew1) | exact HB.out))));have n1_:=Aside0.mk (below_step (by repeat (first | (with_reducible first | exact HB.out | apply below_alloc | apply pw_below_drewN | apply below_drew1) | exact HB.out)) hb);clear HB;have HO135:=n0_;have HB:=n1_;clear n0_ n1_;clear hb ho2) | ((with_reducible refine gate_dst (N:=5) rfl ?_);refine Kd.R_lit (Kd.int .i64) _ 3 ?hg (N:=5) ?hd (xs:=([0,0,0,0,0,0,0,0,1,1,1,1,2,2,2,2,3,3,3,3,4,4,4,4,5,5,5,5,0]:List Int)) (inner:=[.int .i64 0,.int .i64 0,.int .i64 0,.int .i64 0,.int .i64 0,.int .i64 0,.int .i64 0,.int .i64 0,.int .i64 1,.int .i64 1,.int .i64 1,.int .i64 1,.int .i64 2,.int .i64 2,.int .i64 2,.int .i64 2,.int .i64 3,.int .i64 3,.int .i64 3,.int .i64 3,.int .i64 4,.int .i64 4,.int .i64 4,.int .i64 4,.int .i64 5,.int .i64 5,.int .i64 5,.int .i64 5,.int .i64 0]) (ok:=fun _=>True) (okp:=fun _=>True) ?hr ?hp (fun _ hk=>hk) trivial (Below.refl _ _) (Nat.le_refl _) (by simp) ?_;(case hd=>rfl);(case hg=>rfl);(case hr=>first | (go_simp;done) | (go_simp;rfl));(case hp=>exact (Reps.one (show Kd.M (Kd.int .i64) _ _ _ 0 [.int .i64 0] from rfl) (Reps.one (show Kd.M (Kd.int .i64) _ _ _ 0 [.int .i64 0] from rfl) (Reps.one (show Kd.M (Kd.int .i64) _ _ _ 0 [.int .i64 0] from rfl) (Reps.one (show Kd.M (Kd.int .i64) _ _ _ 0 [.int .i64 0] from rfl) (Reps.one (show Kd.M (Kd.int .i64) _ _ _ 0 [.int .i64 0] from rfl) (Reps.one (show Kd.M (Kd.int .i64) _ _ _ 0 [.int .i64 0] from rfl) (Reps.one (show Kd.M (Kd.int .i64) _ _ _ 0 [.int .i64 0] from rfl) (Reps.one (show Kd.M (Kd.int .i64) _ _ _ 0 [.int .i64 0] from rfl) (Reps.one (show Kd.M (Kd.int .i64) _ _ _ 1 [.int .i64 1] from rfl) (Reps.one (show Kd.M (Kd.int .i64) _ _ _ 1 [.int .i64 1] from rfl) (Reps.one (show Kd.M (Kd.int .i64) _ _ _ 1 [.int .i64 1] from rfl) (Reps.one (show Kd.M (Kd.int .i64) _ _ _ 1 [.int .i64 1] from rfl) (Reps.one (show Kd.M (Kd.int .i64) _ _ _ 2 [.int .i64 2] from rfl) (Reps.one (show Kd.M (Kd.int .i64) _ _ _ 2 [.int .i64 2] from rfl) (Reps.one (show Kd.M (Kd.int .i64) _ _ _ 2 [.int .i64 2] from rfl) (Reps.one (show Kd.M (Kd.int .i64) _ _ _ 2 [.int .i64 2] from rfl) (Reps.one (show Kd.M (Kd.int .i64) _ _ _ 3 [.int .i64 3] from rfl) (Reps.one (show Kd.M (Kd.int .i64) _ _ _ 3 [.int .i64 3] from rfl) (Reps.one (show Kd.M (Kd.int .i64) _ _ _ 3 [.int .i64 3] from rfl) (Reps.one (show Kd.M (Kd.int .i64) _ _ _ 3 [.int .i64 3] from rfl) (Reps.one (show Kd.M (Kd.int .i64) _ _ _ 4 [.int .i64 4] from rfl) (Reps.one (show Kd.M (Kd.int .i64) _ _ _ 4 [.int .i64 4] from rfl) (Reps.one (show Kd.M (Kd.int .i64) _ _ _ 4 [.int .i64 4] from rfl) (Reps.one (show Kd.M (Kd.int .i64) _ _ _ 4 [.int .i64 4] from rfl) (Reps.one (show Kd.M (Kd.int .i64) _ _ _ 5 [.int .i64 5] from rfl) (Reps.one (show Kd.M (Kd.int .i64) _ _ _ 5 [.int .i64 5] from rfl) (Reps.one (show Kd.M (Kd.int .i64) _ _ _ 5 [.int .i64 5] from rfl) (Reps.one (show Kd.M (Kd.int .i64) _ _ _ 5 [.int .i64 5] from rfl) (Reps.one (show Kd.M (Kd.int .i64) _ _ _ 0 [.int .i64 0] from rfl) (Reps.none _ _)))))))))))))))))))))))))))))));intro v137 w3 ho4 hb hg_ hnew_;clear hg_ hnew_;(first | rw [← Ny136.out] at ho4 | (simp only [Int.reduceToNat] at ho4;rw [← Ny136.out] at ho4));have n0_:=Aside0.mk (Kd.R_elder' (by (with_reducible repeat (first | apply Kd.R_alloc | apply Kd.R_drewN | apply Kd.R_drew));exact HO135.out) (Kd.R_base ho4) hb);have n1_:=Aside0.mk (Kd.R_lower (Kd.R_new' ho4 (Kd.R_lt (by (with_reducible repeat (first | apply Kd.R_alloc | apply Kd.R_drewN | apply Kd.R_drew));exact HO135.out))) (below_size (by repeat (first | (with_reducible first | exact HB.out | apply below_alloc | apply pw_below_drewN | apply below_drew1) | exact HB.out))));have n2_:=Aside0.mk (below_step (by repeat (first | (with_reducible first | exact HB.out | apply below_alloc | apply pw_below_drewN | apply below_drew1) | exact HB.out)) hb);clear HO135;clear HB;have HO135:=n0_;have HO138:=n1_;have HB:=n2_;clear n0_ n1_ n2_;clear hb ho4) | ((with_reducible refine gate_dst (N:=6) rfl ?_);refine Kd.R_lit (Kd.int .i64) _ 3 ?hg (N:=6) ?hd (xs:=([1,2,3,4,5,7,9,13,17,25,33,49,65,97,129,193,257,385,513,769,1025,1537,2049,3073,4097,6145,8193,12289,16385,24577]:List Int)) (inner:=[.int .i64 1,.int .i64 2,.int .i64 3,.int .i64 4,.int .i64 5,.int .i64 7,.int .i64 9,.int .i64 13,.int .i64 17,.int .i64 25,.int .i64 33,.int .i64 49,.int .i64 65,.int .i64 97,.int .i64 129,.int .i64 193,.int .i64 257,.int .i64 385,.int .i64 513,.int .i64 769,.int .i64 1025,.int .i64 1537,.int .i64 2049,.int .i64 3073,.int .i64 4097,.int .i64 6145,.int .i64 8193,.int .i64 12289,.int .i64 16385,.int .i64 24577]) (ok:=fun _=>True) (okp:=fun _=>True) ?hr ?hp (fun _ hk=>hk) trivial (Below.refl _ _) (Nat.le_refl _) (by simp) ?_;(case hd=>rfl);(case hg=>rfl);(case hr=>first | (go_simp;done) | (go_simp;rfl));(case hp=>exact (Reps.one (show Kd.M (Kd.int .i64) _ _ _ 1 [.int .i64 1] from rfl) (Reps.one (show Kd.M (Kd.int .i64) _ _ _ 2 [.int .i64 2] from rfl) (Reps.one (show Kd.M (Kd.int .i64) _ _ _ 3 [.int .i64 3] from rfl) (Reps.one (show Kd.M (Kd.int .i64) _ _ _ 4 [.int .i64 4] from rfl) (Reps.one (show Kd.M (Kd.int .i64) _ _ _ 5 [.int .i64 5] from rfl) (Reps.one (show Kd.M (Kd.int .i64) _ _ _ 7 [.int .i64 7] from rfl) (Reps.one (show Kd.M (Kd.int .i64) _ _ _ 9 [.int .i64 9] from rfl) (Reps.one (show Kd.M (Kd.int .i64) _ _ _ 13 [.int .i64 13] from rfl) (Reps.one (show Kd.M (Kd.int .i64) _ _ _ 17 [.int .i64 17] from rfl) (Reps.one (show Kd.M (Kd.int .i64) _ _ _ 25 [.int .i64 25] from rfl) (Reps.one (show Kd.M (Kd.int .i64) _ _ _ 33 [.int .i64 33] from rfl) (Reps.one (show Kd.M (Kd.int .i64) _ _ _ 49 [.int .i64 49] from rfl) (Reps.one (show Kd.M (Kd.int .i64) _ _ _ 65 [.int .i64 65] from rfl) (Reps.one (show Kd.M (Kd.int .i64) _ _ _ 97 [.int .i64 97] from rfl) (Reps.one (show Kd.M (Kd.int .i64) _ _ _ 129 [.int .i64 129] from rfl) (Reps.one (show Kd.M (Kd.int .i64) _ _ _ 193 [.int .i64 193] from rfl) (Reps.one (show Kd.M (Kd.int .i64) _ _ _ 257 [.int .i64 257] from rfl) (Reps.one (show Kd.M (Kd.int .i64) _ _ _ 385 [.int .i64 385] from rfl) (Reps.one (show Kd.M (Kd.int .i64) _ _ _ 513 [.int .i64 513] from rfl) (Reps.one (show Kd.M (Kd.int .i64) _ _ _ 769 [.int .i64 769] from rfl) (Reps.one (show Kd.M (Kd.int .i64) _ _ _ 1025 [.int .i64 1025] from rfl) (Reps.one (show Kd.M (Kd.int .i64) _ _ _ 1537 [.int .i64 1537] from rfl) (Reps.one (show Kd.M (Kd.int .i64) _ _ _ 2049 [.int .i64 2049] from rfl) (Reps.one (show Kd.M (Kd.int .i64) _ _ _ 3073 [.int .i64 3073] from rfl) (Reps.one (show Kd.M (Kd.int .i64) _ _ _ 4097 [.int .i64 4097] from rfl) (Reps.one (show Kd.M (Kd.int .i64) _ _ _ 6145 [.int .i64 6145] from rfl) (Reps.one (show Kd.M (Kd.int .i64) _ _ _ 8193 [.int .i64 8193] from rfl) (Reps.one (show Kd.M (Kd.int .i64) _ _ _ 12289 [.int .i64 12289] from rfl) (Reps.one (show Kd.M (Kd.int .i64) _ _ _ 16385 [.int .i64 16385] from rfl) (Reps.one (show Kd.M (Kd.int .i64) _ _ _ 24577 [.int .i64 24577] from rfl) (Reps.none _ _))))))))))))))))))))))))))))))));intro v140 w5 ho6 hb hg_ hnew_;clear hg_ hnew_;(first | rw [← Ny139.out] at ho6 | (simp only [Int.reduceToNat] at ho6;rw [← Ny139.out] at ho6));have n0_:=Aside0.mk (Kd.R_elder' (by (with_reducible repeat (first | apply Kd.R_alloc | apply Kd.R_drewN | apply Kd.R_drew));exact HO135.out) (Kd.R_base ho6) hb);have n1_:=Aside0.mk (Kd.R_elder' (by (with_reducible repeat (first | apply Kd.R_alloc | apply Kd.R_drewN | apply Kd.R_drew));exact HO138.out) (Kd.R_base ho6) hb);have n2_:=Aside0.mk (Kd.R_lower (Kd.R_new' (Kd.R_new' ho6 (Kd.R_lt (by (with_reducible repeat (first | apply Kd.R_alloc | apply Kd.R_drewN | apply Kd.R_drew));exact HO135.out))) (Kd.R_lt (by (with_reducible repeat (first | apply Kd.R_alloc | apply Kd.R_drewN | apply Kd.R_drew));exact HO138.out))) (below_size (by repeat (first | (with_reducible first | exact HB.out | apply below_alloc | apply pw_below_drewN | apply below_drew1) | exact HB.out))));have n3_:=Aside0.mk (below_step (by repeat (first | (with_reducible first | exact HB.out | apply below_alloc | apply pw_below_drewN | apply below_drew1) | exact HB.out)) hb);clear HO135;clear HO138;clear HB;have HO135:=n0_;have HO138:=n1_;have HO141:=n2_;have HB:=n3_;clear n0_ n1_ n2_ n3_;clear hb ho6) | ((with_reducible refine gate_dst (N:=7) rfl ?_);refine Kd.R_lit (Kd.int .i64) _ 3 ?hg (N:=7) ?hd (xs:=([0,0,0,0,1,1,2,2,3,3,4,4,5,5,6,6,7,7,8,8,9,9,10,10,11,11,12,12,13,13]:List Int)) (inner:=[.int .i64 0,.int .i64 0,.int .i64 0,.int .i64 0,.int .i64 1,.int .i64 1,.int .i64 2,.int .i64 2,.int .i64 3,.int .i64 3,.int .i64 4,.int .i64 4,.int .i64 5,.int .i64 5,.int .i64 6,.int .i64 6,.int .i64 7,.int .i64 7,.int .i64 8,.int .i64 8,.int .i64 9,.int .i64 9,.int .i64 10,.int .i64 10,.int .i64 11,.int .i64 11,.int .i64 12,.int .i64 12,.int .i64 13,.int .i64 13]) (ok:=fun _=>True) (okp:=fun _=>True) ?hr ?hp (fun _ hk=>hk) trivial (Below.refl _ _) (Nat.le_refl _) (by simp) ?_;(case hd=>rfl);(case hg=>rfl);(case hr=>first | (go_simp;done) | (go_simp;rfl));(case hp=>exact (Reps.one (show Kd.M (Kd.int .i64) _ _ _ 0 [.int .i64 0] from rfl) (Reps.one (show Kd.M (Kd.int .i64) _ _ _ 0 [.int .i64 0] from rfl) (Reps.one (show Kd.M (Kd.int .i64) _ _ _ 0 [.int .i64 0] from rfl) (Reps.one (show Kd.M (Kd.int .i64) _ _ _ 0 [.int .i64 0] from rfl) (Reps.one (show Kd.M (Kd.int .i64) _ _ _ 1 [.int .i64 1] from rfl) (Reps.one (show Kd.M (Kd.int .i64) _ _ _ 1 [.int .i64 1] from rfl) (Reps.one (show Kd.M (Kd.int .i64) _ _ _ 2 [.int .i64 2] from rfl) (Reps.one (show Kd.M (Kd.int .i64) _ _ _ 2 [.int .i64 2] from rfl) (Reps.one (show Kd.M (Kd.int .i64) _ _ _ 3 [.int .i64 3] from rfl) (Reps.one (show Kd.M (Kd.int .i64) _ _ _ 3 [.int .i64 3] from rfl) (Reps.one (show Kd.M (Kd.int .i64) _ _ _ 4 [.int .i64 4] from rfl) (Reps.one (show Kd.M (Kd.int .i64) _ _ _ 4 [.int .i64 4] from rfl) (Reps.one (show Kd.M (Kd.int .i64) _ _ _ 5 [.int .i64 5] from rfl) (Reps.one (show Kd.M (Kd.int .i64) _ _ _ 5 [.int .i64 5] from rfl) (Reps.one (show Kd.M (Kd.int .i64) _ _ _ 6 [.int .i64 6] from rfl) (Reps.one (show Kd.M (Kd.int .i64) _ _ _ 6 [.int .i64 6] from rfl) (Reps.one (show Kd.M (Kd.int .i64) _ _ _ 7 [.int .i64 7] from rfl) (Reps.one (show Kd.M (Kd.int .i64) _ _ _ 7 [.int .i64 7] from rfl) (Reps.one (show Kd.M (Kd.int .i64) _ _ _ 8 [.int .i64 8] from rfl) (Reps.one (show Kd.M (Kd.int .i64) _ _ _ 8 [.int .i64 8] from rfl) (Reps.one (show Kd.M (Kd.int .i64) _ _ _ 9 [.int .i64 9] from rfl) (Reps.one (show Kd.M (Kd.int .i64) _ _ _ 9 [.int .i64 9] from rfl) (Reps.one (show Kd.M (Kd.int .i64) _ _ _ 10 [.int .i64 10] from rfl) (Reps.one (show Kd.M (Kd.int .i64) _ _ _ 10 [.int .i64 10] from rfl) (Reps.one (show Kd.M (Kd.int .i64) _ _ _ 11 [.int .i64 11] from rfl) (Reps.one (show Kd.M (Kd.int .i64) _ _ _ 11 [.int .i64 11] from rfl) (Reps.one (show Kd.M (Kd.int .i64) _ _ _ 12 [.int .i64 12] from rfl) (Reps.one (show Kd.M (Kd.int .i64) _ _ _ 12 [.int .i64 12] from rfl) (Reps.one (show Kd.M (Kd.int .i64) _ _ _ 13 [.int .i64 13] from rfl) (Reps.one (show Kd.M (Kd.int .i64) _ _ _ 13 [.int .i64 13] from rfl) (Reps.none _ _))))))))))))))))))))))))))))))));intro v143 w7 ho8 hb hg_ hnew_;clear hg_ hnew_;(first | rw [← Ny142.out] at ho8 | (simp only [Int.reduceToNat] at ho8;rw [← Ny142.out] at ho8));have n0_:=Aside0.mk (Kd.R_elder' (by (with_reducible repeat (first | apply Kd.R_alloc | apply Kd.R_drewN | apply Kd.R_drew));exact HO135.out) (Kd.R_base ho8) hb);have n1_:=Aside0.mk (Kd.R_elder' (by (with_reducible repeat (first | apply Kd.R_alloc | apply Kd.R_drewN | apply Kd.R_drew));exact HO138.out) (Kd.R_base ho8) hb);have n2_:=Aside0.mk (Kd.R_elder' (by (with_reducible repeat (first | apply Kd.R_alloc | apply Kd.R_drewN | apply Kd.R_drew));exact HO141.out) (Kd.R_base ho8) hb);have n3_:=Aside0.mk (Kd.R_lower (Kd.R_new' (Kd.R_new' (Kd.R_new' ho8 (Kd.R_lt (by (with_reducible repeat (first | apply Kd.R_alloc | apply Kd.R_drewN | apply Kd.R_drew));exact HO135.out))) (Kd.R_lt (by (with_reducible repeat (first | apply Kd.R_alloc | apply Kd.R_drewN | apply Kd.R_drew));exact HO138.out))) (Kd.R_lt (by (with_reducible repeat (first | apply Kd.R_alloc | apply Kd.R_drewN | apply Kd.R_drew));exact HO141.out))) (below_size (by repeat (first | (with_reducible first | exact HB.out | apply below_alloc | apply pw_below_drewN | apply below_drew1) | exact HB.out))));have n4_:=Aside0.mk (below_step (by repeat (first | (with_reducible first | exact HB.out | apply below_alloc | apply pw_below_drewN | apply below_drew1) | exact HB.out)) hb);clear HO135;clear HO138;clear HO141;clear HB;have HO135:=n0_;have HO138:=n1_;have HO141:=n2_;have HO144:=n3_;have HB:=n4_;clear n0_ n1_ n2_ n3_ n4_;clear hb ho8))
 refine bodyPost_ret (results_list (rs:=[.tmp 0,.tmp 1,.tmp 2,.tmp 3]) rfl (by simp) (.tmp (.tmp (.tmp (.tmp .nil))))) rfl ?_
 exact ⟨_,_,_,_,by first | rfl | (simp [errW_none,errW_some] <;> rfl) | (simp [*,errW_none,errW_some] <;> rfl),by (with_reducible repeat (first | apply Kd.R_alloc | apply Kd.R_drewN | apply Kd.R_drew));exact Kd.R_mono HO135.out (fun _ hk=>⟨hk.1.1.2,⟨hk.1.2,hk.2⟩⟩),by (with_reducible repeat (first | apply Kd.R_alloc | apply Kd.R_drewN | apply Kd.R_drew));exact Kd.R_mono HO138.out (fun _ hk=>⟨hk.1.1.2,⟨hk.1.2,hk.2⟩⟩),by (with_reducible repeat (first | apply Kd.R_alloc | apply Kd.R_drewN | apply Kd.R_drew));exact Kd.R_mono HO141.out (fun _ hk=>⟨hk.1.1.2,⟨hk.1.2,hk.2⟩⟩),by (with_reducible repeat (first | apply Kd.R_alloc | apply Kd.R_drewN | apply Kd.R_drew));exact Kd.R_mono HO144.out (fun _ hk=>⟨hk.1.1.2,⟨hk.1.2,hk.2⟩⟩),by repeat (first | (with_reducible first | exact HB.out | apply below_alloc | apply pw_below_drewN | apply below_drew1) | exact HB.out)⟩
/-- A table in a block of its own,beside a reader. -/
structure Tbl (w:World) (g:Nat) (v:Value) (b:Nat) (cs ss:List Int) (A:Option Addr) (c:Nat):Prop where
 blk:w.heap[b]?=some (.cells (tab cs (.slice A ss.length c)) 26 (0,0))
 ng:b ≠ g
 nv:v.ownBlock ≠ some b
 foot:Foot w g v A ss
theorem Tbl.fro {w w':World} {g:Nat} {v v':Value} {b:Nat} {cs ss:List Int} {A:Option Addr} {c:Nat} (h:Tbl w g v b cs ss A c) (k:Fro w g v w' v'):Tbl w' g v' b cs ss A c:=by
 have hlt:=blk_lt h.blk
 refine ⟨(k.keep.2 b hlt h.ng (fun e=>h.nv e.symm)).trans h.blk,h.ng,fun e=>?_,h.foot.fro k⟩
 rcases k.own with o | ⟨q,o,hq⟩
 ·exact h.nv (by rw [← o];exact e)
 ·rw [o] at e;have:=Option.some.inj e;omega
/-- A reader,both tables,the four rows of bases. -/
structure CSt (w0:World) (g:Nat) (v:Value) (s:ByteArray) (mx:Int) (x:St) (b4 b5:Nat) (ca sa cb sb:List Int) (A B:Option Addr) (c d:Nat) (A6 A7 A8 A9:Option Addr) (w:World):Prop where
 i:ISt w0 g v s mx x w
 ta:Tbl w g v b4 ca sa A c
 tb:Tbl w g v b5 cb sb B d
 r6:Foot w g v A6 lenB
 r7:Foot w g v A7 lenM
 r8:Foot w g v A8 disB
 r9:Foot w g v A9 disM
section
variable {w0 w w':World} {g:Nat} {v v':Value} {s:ByteArray} {mx:Int} {x x':St} {b4 b5:Nat} {ca sa cb sb:List Int} {A B A6 A7 A8 A9:Option Addr} {c d:Nat}
theorem CSt.fro (h:CSt w0 g v s mx x b4 b5 ca sa cb sb A B c d A6 A7 A8 A9 w) (k:Fro w g v w' v') (hi:ISt w0 g v' s mx x' w'):CSt w0 g v' s mx x' b4 b5 ca sa cb sb A B c d A6 A7 A8 A9 w' :=
 ⟨hi,h.ta.fro k,h.tb.fro k,h.r6.fro k,h.r7.fro k,h.r8.fro k,h.r9.fro k⟩
theorem CSt.below (h:CSt w0 g v s mx x b4 b5 ca sa cb sb A B c d A6 A7 A8 A9 w) (hb:Below w.heap.size w w'):CSt w0 g v s mx x b4 b5 ca sa cb sb A B c d A6 A7 A8 A9 w' :=
 h.fro ((Fro.refl _ _ _).below hb) (h.i.below hb)
end
/-- A number that is read off a foot. -/
theorem foot_at {w:World} {g:Nat} {v:Value} {A:Option Addr} {l:List Int} (h:Foot w g v A l) (q:Nat) (hq:q < l.length):∃ ad,A=some ad∧∀ W',KeepBut w W' g v.ownBlock → W'.cell? (ad.add q)=some (.int .i64 (l.getD q 0)):=by
 obtain ⟨ad,e,hc⟩:=Kd.at_int h.now (q:Int) (by omega) (by omega)
 refine ⟨ad,e,fun W' hk=>?_⟩
 obtain ⟨ad2,e2,hc2⟩:=Kd.at_int (h W' hk) (q:Int) (by omega) (by omega)
 rw [e] at e2
 cases e2
 rw [Int.toNat_natCast] at hc2
 rw [hc2]
 simp [rd,Int.toNat_natCast]
/-- How much is left of a reader in memory. -/
def imeas (s:ByteArray) (g:Nat) (w:World):Nat :=
 match w.heap[g]? with
 |some (.cells cs _ _)=>(match (cs[1]?:Option Value),(cs[4]?:Option Value) with | some (Value.int _ a),some (Value.int _ e)=>2*(8*(s.size:Int)+1 - a).toNat+(if e=0 then 1 else 0) | _,_=>0)
 |_=>0
theorem ISt.meas {w0 w:World} {g:Nat} {v:Value} {s:ByteArray} {mx:Int} {x:St} (h:ISt w0 g v s mx x w):imeas s g w=2*(8*(s.size:Int)+1 - x.p).toNat+(if x.e=0 then 1 else 0):=by
 unfold imeas
 rw [h.blk]
 rfl
end Go.Proofs.Ytpbhkdamkbopkaa.Inf
namespace Go.Proofs.Ytpbhkdamkbopkaa.Inf
set_option linter.unusedSimpArgs false
set_option linter.unusedVariables false
open Go.RowKit Go.Proofs.Ytpbhkdamkbopkaa.Ext Go.Proofs.Ytpbhkdamkbopkaa.RefP Go.Proofs.YtpbhkdamkbopkaaW.PrintWords Go.Proofs.YtpbhkdamkbopkaaW.PrintLast Go.Proofs.YtpbhkdamkbopkaaW.PrintMore
def bits_Mul64.f (a0:Int) (a1:Int):Option (Int × Int):=some (IntKind.u64.wrap ((IntKind.u64.wrap ((IntKind.u64.wrap ((a0 / 4294967296)*(a1 / 4294967296)))+((IntKind.u64.wrap ((IntKind.u64.wrap ((a0 / 4294967296)*(Go.bits .and .u64 a1 4294967295)))+((IntKind.u64.wrap ((Go.bits .and .u64 a0 4294967295)*(Go.bits .and .u64 a1 4294967295))) / 4294967296))) / 4294967296)))+((IntKind.u64.wrap ((Go.bits .and .u64 (IntKind.u64.wrap ((IntKind.u64.wrap ((a0 / 4294967296)*(Go.bits .and .u64 a1 4294967295)))+((IntKind.u64.wrap ((Go.bits .and .u64 a0 4294967295)*(Go.bits .and .u64 a1 4294967295))) / 4294967296))) 4294967295)+(IntKind.u64.wrap ((Go.bits .and .u64 a0 4294967295)*(a1 / 4294967296))))) / 4294967296)),IntKind.u64.wrap (a0*a1))
set_option maxHeartbeats 8000000 in
set_option maxRecDepth 100000 in
theorem bits_Mul64.calls (a0 : Int) (a1 : Int) (r1 : Int) (r2 : Int) (w : World) (h : bits_Mul64.f a0 a1 = some (r1, r2)) :
  Calls Try.prog 119 #[.int .u64 a0,.int .u64 a1] w fun e w'=>e=.returned (.tuple #[.int .u64 r1,.int .u64 r2])∧Drawn0 w w':=by
 have H:(some (IntKind.u64.wrap ((IntKind.u64.wrap ((IntKind.u64.wrap ((a0 / 4294967296)*(a1 / 4294967296)))+((IntKind.u64.wrap ((IntKind.u64.wrap ((a0 / 4294967296)*(Go.bits .and .u64 a1 4294967295)))+((IntKind.u64.wrap ((Go.bits .and .u64 a0 4294967295)*(Go.bits .and .u64 a1 4294967295))) / 4294967296))) / 4294967296)))+((IntKind.u64.wrap ((Go.bits .and .u64 (IntKind.u64.wrap ((IntKind.u64.wrap ((a0 / 4294967296)*(Go.bits .and .u64 a1 4294967295)))+((IntKind.u64.wrap ((Go.bits .and .u64 a0 4294967295)*(Go.bits .and .u64 a1 4294967295))) / 4294967296))) 4294967295)+(IntKind.u64.wrap ((Go.bits .and .u64 a0 4294967295)*(a1 / 4294967296))))) / 4294967296)),IntKind.u64.wrap (a0*a1)))=some (r1,r2):=h
 clear h
 simp only [Option.some.injEq,Prod.mk.injEq] at H
 obtain ⟨rfl,rfl⟩:=H
 go_enter Try.func119,Try.ntmps119
 go_wp2
 go_ret2
 exact ⟨by first | rfl | (simp;done) | (simp [*];done),by repeat (first | exact Drawn0.refl _ | apply Drawn0.step)⟩
def bits_Mul.f (a0:Int) (a1:Int):Option (Int × Int):=(bits_Mul64.f a0 a1).bind fun bt128=>(some (bt128.1,bt128.2))
set_option maxHeartbeats 8000000 in
set_option maxRecDepth 100000 in
theorem bits_Mul.calls (a0 : Int) (a1 : Int) (r1 : Int) (r2 : Int) (w : World) (h : bits_Mul.f a0 a1 = some (r1, r2)) :
  Calls Try.prog 115 #[.int .u64 a0,.int .u64 a1] w fun e w'=>e=.returned (.tuple #[.int .u64 r1,.int .u64 r2])∧Drawn0 w w':=by
 have H:((bits_Mul64.f a0 a1).bind fun bt128=>(some (bt128.1,bt128.2)))=some (r1,r2):=h
 clear h
 replace H:=Option.bind_eq_some_iff.mp H
 obtain ⟨⟨t128,t129⟩,A30,H⟩:=H
 replace H:(some (t128,t129))=some (r1,r2):=H
 have A3:=Aside0.mk A30
 clear A30
 simp only [Option.some.injEq,Prod.mk.injEq] at H
 obtain ⟨rfl,rfl⟩:=H
 go_enter Try.func115,Try.ntmps115
 go_wp2_with (first | ((with_reducible refine gate_callee (f:=119) rfl ?_);refine goesL_ (some 25) rfl rfl Try.func119 (by kernel_rfl) rfl #[.int .u64 a0,.int .u64 a1] rfl (by (try simp only [List.map_toArray,List.map_cons,List.map_nil]);first | done | rfl | (simp only [List.length_drop,List.length_take];rfl)) ?_;(with_reducible refine (bits_Mul64.calls a0 a1 t128 t129 _ A3.out).mono ?_);rintro e w' ⟨rfl,⟨nd,rfl⟩⟩;refine ⟨_,rfl,?_⟩))
 go_ret2
 exact ⟨by first | rfl | (simp;done) | (simp [*];done),by repeat (first | exact Drawn0.refl _ | apply Drawn0.step)⟩
section
variable {P:Program}
/-- copy of elements of one cell into a row. -/
theorem run_copy_one (w : World) (dT sT ty elem : TypeId) (g o dLen dCap : Nat) (a : Addr) (sLen sCap : Nat) (cur : Array Value) (t : TypeId) (cs : List Value)
  (hu:P.underlying dT=some (.slice elem)) (hs:(P.info? elem).map (·.size)=some 1)
  (hg:w.heap[g]?=some (.cells cur t (0,0))) (hn:cs.length=Nat.min sLen dLen)
  (hsrc:∀ j v,cs[j]?=some v → w.cell? (a.add j)=some v) (hfit:o+cs.length≤cur.size) (h1:∀ v ∈ cs,v.oneCell'=true) :
  (Builtin.copy_ #[dT,sT] ty #[.slice (some ⟨g,o,none⟩) dLen dCap,.slice (some a) sLen sCap]).run P w =
   .ok (goInt (Nat.min sLen dLen)) (w.setRow g (cur.toList.take o ++ cs ++ cur.toList.drop (o+cs.length)).toArray):=by
 have hl:=run_loadCells_list (P:=P) w a cs hsrc
 have hst:=run_storeCells_at P g o t cs 0 cur w hg (by simpa using hfit) h1
 cases hq:P.info? elem with
 |none=>simp [hq] at hs
 |some i =>
  have hi:i.size=1:=by simpa [hq] using hs
  simp [Builtin.copy_,run_underlying hu,Builtin.lenOf,Builtin.firstCells,sizeOf,typeInfo,hq,hi,← hn,hl,hst]
theorem wpList_copy_one {w : World} {ops : Array Oper} {rest : List Oper} {o : Oper} {a : Act} {Q : Exit → Act → World → Prop} (hgd : o.guard = none) (d s : Operand) (dT sT : TypeId)
  (ho:o.op=.call { callee:=.builtin .copy,args:=#[d,s],argTypes:=#[dT,sT] }) (elem:TypeId) (hu:P.underlying dT=some (.slice elem)) (hsz:(P.info? elem).map (·.size)=some 1)
  (g off dLen dCap:Nat) (ad:Addr) (sLen sCap:Nat) (hd:a.eval d=.slice (some ⟨g,off,none⟩) dLen dCap) (hs:a.eval s=.slice (some ad) sLen sCap)
  (cur:Array Value) (t:TypeId) (hg:w.heap[g]?=some (.cells cur t (0,0))) (cs:List Value) (hn:cs.length=Nat.min sLen dLen)
  (hsrc:∀ j v,cs[j]?=some v → w.cell? (ad.add j)=some v) (hfit:off+cs.length≤cur.size) (h1:∀ v ∈ cs,v.oneCell'=true)
  (h:wpList P ops Q rest (a.put o.dst (goInt (Nat.min sLen dLen))) (w.setRow g (cur.toList.take off ++ (cs ++ cur.toList.drop (off+cs.length))).toArray)):wpList P ops Q (o :: rest) a w:=by
 refine wpList_plain hgd fun K hK=>?_
 have hrun:=run_copy_one (P:=P) w dT sT o.type elem g off dLen dCap ad sLen sCap cur t cs hu hsz hg hn hsrc hfit h1
 unfold Oper.wp
 simp [execOp,ho,resolve,invoke,builtin,hd,hs,hrun,Result.andThen]
 exact hK _ _ h
theorem step_copy_one (m : Nat) {ops : Array Oper} {o : Oper} {a : Act} {w : World} {K : Act → World → Prop} {Q : Exit → Act → World → Prop} {E : Prop} (hgd : o.guard = none) (d s : Operand) (dT sT : TypeId)
  (ho:o.op=.call { callee:=.builtin .copy,args:=#[d,s],argTypes:=#[dT,sT] }) (elem:TypeId) (hu:P.underlying dT=some (.slice elem)) (hsz:(P.info? elem).map (·.size)=some 1)
  (g off dLen dCap:Nat) (ad:Addr) (sLen sCap:Nat) (hm:Nat.min sLen dLen=m) (hd:a.eval d=.slice (some ⟨g,off,none⟩) dLen dCap) (hs:a.eval s=.slice (some ad) sLen sCap)
  (cur:Array Value) (t:TypeId) (hg:w.heap[g]?=some (.cells cur t (0,0))) (cs:List Value) (hn:cs.length=m)
  (hsrc:∀ j v,cs[j]?=some v → w.cell? (ad.add j)=some v) (hfit:off+cs.length≤cur.size) (h1:∀ v ∈ cs,v.oneCell'=true)
  (h:K (a.put o.dst (goInt m)) (w.setRow g (cur.toList.take off ++ (cs ++ cur.toList.drop (off+cs.length))).toArray)) :
  if Region.wanted o (yielded ops a.tmps)=true then Oper.wp P o a w K Q else E:=by
 subst hm
 have hw:Region.wanted o (yielded ops a.tmps)=true:=by simp [Region.wanted,hgd]
 rw [if_pos hw]
 have hrun:=run_copy_one (P:=P) w dT sT o.type elem g off dLen dCap ad sLen sCap cur t cs hu hsz hg hn hsrc hfit h1
 unfold Oper.wp
 simp [execOp,ho,resolve,invoke,builtin,hd,hs,hrun,Result.andThen]
 exact h
end
theorem mask32 (n:Nat) (h:n < 4294967296):Go.bits .and .u64 (n:Int) 4294967295=n:=by
 have e:=u64_and_nat n 4294967295 (by omega) (by decide)
 have e2:n &&& 4294967295=n % 2 ^ 32:=Nat.and_two_pow_sub_one_eq_mod n 32
 rw [e2,Nat.mod_eq_of_lt (by omega)] at e
 exact e
theorem u64_in (n:Int) (h0:0≤n) (h1:n < 18446744073709551616):IntKind.u64.wrap n=n:=by
 simp only [IntKind.wrap,IntKind.signed,IntKind.bits]
 simp
 omega
theorem mul_is (n:Nat) (h:n≤65536):bits_Mul.f 1 (n:Int)=some (0,(n:Int)):=by
 have e1:Go.bits .and .u64 1 4294967295=1:=mask32 1 (by decide)
 have e0:Go.bits .and .u64 0 4294967295=0:=mask32 0 (by decide)
 have e2:=mask32 n (by omega)
 have d1:(1:Int) / 4294967296=0:=by decide
 have d2:(n:Int) / 4294967296=0:=by omega
 have w0:IntKind.u64.wrap 0=0:=u64_in 0 (by decide) (by decide)
 have w1:IntKind.u64.wrap (n:Int)=n:=u64_in n (by omega) (by omega)
 have z:(0:Int) / 4294967296=0:=by decide
 unfold bits_Mul.f bits_Mul64.f
 simp only [Option.bind_some,d1,d2,e1,e2,Int.zero_mul,Int.mul_zero,Int.one_mul,Int.zero_add,Int.add_zero,w0,w1,z,e0]
/-- The first k cells of a row that is being filled are x. -/
structure RI (w0:World) (g cap:Nat) (x:Int) (k:Nat) (w':World):Prop where
 c:∃ cur:List Value,w'.heap[g]?=some (.cells cur.toArray 3 (0,0))∧cur.length=cap∧∀ j,j < k → cur[j]?=some (.int .i64 x)
 hg:w0.heap.size≤g
 b:Below w0.heap.size w0 w'
/-- So many more. -/
theorem fill_more {x : Int} {cur cs : List Value} {cap k m : Nat} (hl : cur.length = cap) (hc : ∀ j, j < k → cur[j]? = some (.int .i64 x)) (hm : cs.length = m) (hs : ∀ j, j < m → cs[j]? = some (.int .i64 x)) (hk : k + m ≤ cap) :
  (cur.take k ++ (cs ++ cur.drop (k+cs.length))).length=cap∧∀ j,j < k+m → (cur.take k ++ (cs ++ cur.drop (k+cs.length)))[j]?=some (.int .i64 x):=by
 refine ⟨by simp only [List.length_append,List.length_take,List.length_drop];omega,fun j hj=>?_⟩
 by_cases h1:j < k
 ·rw [List.getElem?_append_left (by rw [List.length_take];omega),List.getElem?_take,if_pos h1]
  exact hc j h1
 ·rw [List.getElem?_append_right (by rw [List.length_take];omega),List.length_take,List.getElem?_append_left (by omega),show j - min k cur.length=j - k by omega,hs _ (by omega)]
theorem RI.copy {w0 w1 : World} {g cap k m : Nat} {x : Int} {cur : List Value} (hc : w1.heap[g]? = some (.cells cur.toArray 3 (0, 0))) (hl : cur.length = cap) (hk : ∀ j, j < k → cur[j]? = some (.int .i64 x)) (hg : w0.heap.size ≤ g) (hb : Below w0.heap.size w0 w1)
  {cs:List Value} (hm:cs.length=m) (hs:∀ j,j < m → cs[j]?=some (.int .i64 x)) (hkm:k+m≤cap):RI w0 g cap x (k+m) (w1.setRow g (cur.take k ++ (cs ++ cur.drop (k+cs.length))).toArray) :=
 ⟨⟨_,setRow_heap w1 g cur.toArray _ 3 (0,0) hc,(fill_more hl hk hm hs hkm).1,(fill_more hl hk hm hs hkm).2⟩,hg,below_setRow hb hg _⟩
theorem RI.row {w0 w':World} {g cap k:Nat} {x:Int} (h:RI w0 g cap x k w') (hk:k≤cap) (hm:cap≤maxLen):Kd.R (Kd.int .i64) 3 w' w0.heap.size (fun _=>True) (.slice (some ⟨g,0,none⟩) k cap) (List.replicate k x):=by
 obtain ⟨cur,hc,hl,hx⟩:=h.c
 refine ⟨fun _ _=>trivial,cur.take k,?_,?_,?_⟩
 ·rw [List.length_replicate]
  refine ⟨by rw [List.length_take,hl];show min k cap=k*1;omega,.inr ⟨g,cap,cur.toArray,rfl,h.hg,hc,hk,hm,by rw [List.size_toArray,hl];show cap=cap*1;omega,by show cur.take (k*1)=_;rw [Nat.mul_one]⟩⟩
 ·rw [List.length_take,List.length_replicate,hl]
  show min k cap=k*1
  omega
 ·intro j p hp
  obtain ⟨hj,rfl⟩:=List.getElem?_eq_some_iff.1 hp
  rw [List.length_replicate] at hj
  rw [List.getElem_replicate]
  have e:((cur.take k).drop (j*1)).take 1=[.int .i64 x]:=by
   refine List.ext_getElem? fun i=>?_
   rw [List.getElem?_take,List.getElem?_drop,List.getElem?_take]
   by_cases hi:i < 1
   ·rw [if_pos hi,if_pos (by omega),hx _ (by omega)]
    obtain rfl:i=0:=by omega
    rfl
   ·rw [if_neg hi]
    rw [List.getElem?_eq_none (by show 1≤i;omega)]
  show (Kd.int .i64).M w' w0.heap.size _ x (((cur.take k).drop (j*1)).take 1)
  rw [e]
  rfl
theorem add_at (g j:Nat):(⟨g,0,none⟩:Addr).add j=⟨g,j,none⟩:=by unfold Addr.add;split <;> simp_all
theorem info3n:(Try.prog.info? 3).map (fun i=>(i.zero,i.size,i.bytes))=some (some (.int .i64 0),1,8):=by kernel_rfl
set_option maxRecDepth 100000 in
set_option maxHeartbeats 1000000 in
theorem repeat_calls (ad : Addr) (c : Nat) (x : Int) (n : Nat) (w : World) (h1 : 1 ≤ n) (h2 : n ≤ 65536) (hx : w.cell? (ad.add 0) = some (.int .i64 x)) :
  Calls Try.prog 109 #[.slice (some ad) 1 c,.int .i64 n] w fun e w'=>∃ v0_:Value,e=.returned v0_∧Kd.R (Kd.int .i64) 3 w' w.heap.size (fun _=>True) v0_ (List.replicate n x)∧Below w.heap.size w w':=by
 have HX:=Aside0.mk hx
 clear hx
 have d0:decide ((n:Int) < 0)=false:=decide_eq_false (by omega)
 have d1:decide ((9223372036854775807:Int) < n)=false:=decide_eq_false (by omega)
 have u1:IntKind.u64.wrap (n:Int)=n:=u64_in n (by omega) (by omega)
 have u2:IntKind.u64.wrap 1=1:=u64_in 1 (by decide) (by decide)
 go_enter Try.func109,Try.ntmps109
 go_upto_region 6 with (first | (go_at_call 115;refine (bits_Mul.calls 1 n 0 n _ (mul_is n h2)).mono ?_;rintro e w' ⟨rfl,⟨nd,rfl⟩⟩))
 have u3:IntKind.i64.wrap (n:Int)=n:=by rw [i64_w];unfold wrap64;omega
 go_upto_region 7 with ((with_reducible refine gate_dst (N:=30) rfl ?_);refine Kd.R_make (Kd.int .i64) (w0:=w) w.heap.size 3 rfl (N:=30) rfl 22 _ _ rfl (n:Int) rfl rfl Try.underlying22 (.int .i64 0) 8 info3n rfl (by decide) (by decide) 0 (ok:=fun _=>True) (okp:=fun _=>True) (rfl) (fun _ hk=>hk) trivial (Int.natCast_nonneg _) (by rw [Int.toNat_natCast];omega) (pw_below_drewN (Below.refl _ _) _) (Nat.le_refl _) ?_;intro v1 w1 hr1 hb1 hg1 hn1;have HR1:=Aside0.mk hr1;have HB1:=Aside0.mk hb1;clear hr1 hb1 hg1 hn1)
 obtain ⟨inner,ho⟩:=Kd.R_own HR1.out
 rw [List.length_replicate,Int.toNat_natCast] at ho
 rcases ho.2 with ⟨_,h0⟩ | ⟨g,cap,cur,rfl,hbg,hgc,hnc,hcm,hcs,htk⟩
 ·omega
 have HG:=Aside0.mk hgc
 have HX1:Aside0 (∀ j v,[Value.int .i64 x][j]?=some v → w1.cell? (ad.add j)=some v):=⟨fun j v hv=>by
  have hj:j < 1:=(List.getElem?_eq_some_iff.1 hv).1
  obtain rfl:j=0:=by omega
  rw [(HB1.out.cell (World.block_lt_of_cell? w _ HX.out)),HX.out]
  exact hv⟩
 clear ho HR1 hgc htk
 obtain ⟨curl,ecur⟩:∃ curl:List Value,cur=curl.toArray:=⟨cur.toList,by simp⟩
 subst ecur
 have hcl:curl.length=cap:=by (have h:=hcs;rw [List.size_toArray] at h;rw [h];exact Nat.mul_one _)
 have hmin:Nat.min 1 n=1:=by show min 1 n=1;omega
 have F1:(Try.prog.info? 3).map (·.size)=some 1:=by kernel_rfl
 have F2:[Value.int IntKind.i64 x].length=Nat.min 1 n:=by rw [hmin];rfl
 have F3:0+[Value.int IntKind.i64 x].length≤curl.toArray.size:=by show 0+1≤curl.length;rw [hcl];omega
 have F4:∀ v ∈ [Value.int IntKind.i64 x],v.oneCell'=true:=by intro v hv;simp at hv;rw [hv];rfl
 have F5:Aside0 (∀ w',w'=w1.setRow g (curl.take 0 ++ ([Value.int IntKind.i64 x] ++ curl.drop (0+[Value.int IntKind.i64 x].length))).toArray → RI w g cap x 1 w'):=⟨fun w' hw'=>by rw [hw'];exact RI.copy (k:=0) (m:=1) HG.out hcl (fun j hj=>absurd hj (by omega)) hbg HB1.out rfl (fun j hj=>by rw [show j=0 by omega];rfl) (by omega)⟩
 go_wp2_with ((with_reducible refine gate_dst (N:=33) rfl ?_);refine wpList_copy_one rfl (.tmp 31) (.tmp 32) 22 22 rfl 3 Try.underlying22 F1 g 0 n cap ad 1 c rfl rfl curl.toArray 3 HG.out [.int .i64 x] F2 HX1.out F3 F4 ?_;rw [hmin];have HRI:=Aside0.mk (F5.out _ rfl);generalize w1.setRow g _=w2 at HRI ⊢)
 go_loopw [8] (fun v8 w'=>∃ k:Nat,1≤k∧k≤n∧v8=.int .i64 k∧Aside0 (RI w g cap x k w')) (fun v8 _=>n - (intOf v8).toNat)
 case atStart=>exact ⟨1,Nat.le_refl _,h1,rfl,HRI⟩
 case round =>
  clear HRI
  obtain ⟨k,hk1,hk2,rfl,HQ⟩:=hrel
  by_cases hlt:k < n
  ·have hdec:decide ((k:Int) < n)=true:=decide_eq_true (by omega)
   go_upto_region 9 with (fail)
   obtain ⟨curk,hck,hlk,hkk⟩:=HQ.out.c
   have hkc:k≤cap:=by omega
   have hne:¬ cap=k:=by omega
   obtain ⟨m,hm⟩:∃ m,m=Nat.min k (n - k):=⟨_,rfl⟩
   have hm1:m≤k∧m≤n - k∧1≤m:=by
    have e:m=min k (n - k):=hm
    omega
   have HCK:=Aside0.mk hck
   have hcut:∀ j,j < m → (curk.take m)[j]?=some (.int .i64 x):=fun j hj=>by
    rw [List.getElem?_take,if_pos hj]
    exact hkk j (by omega)
   have hclen:(curk.take m).length=m:=by rw [List.length_take];omega
   have HSRC:Aside0 (∀ j v,(curk.take m)[j]?=some v → wr.drew.cell? ((⟨g,0,none⟩:Addr).add j)=some v):=⟨fun j v hv=>by
    have hj:j < m:=by have:=(List.getElem?_eq_some_iff.1 hv).1;omega
    rw [List.getElem?_take,if_pos hj] at hv
    rw [add_at g j,blk_cell (blk_drew HCK.out) j]
    simpa using hv⟩
   have HONE:Aside0 (∀ v ∈ curk.take m,v.oneCell'=true):=⟨fun v hv=>by
    obtain ⟨j,hj,rfl⟩:=List.getElem_of_mem hv
    have:=hcut j (by omega)
    rw [List.getElem?_eq_getElem hj] at this
    injection this with this
    rw [this]
    rfl⟩
   have HRI2:Aside0 (RI w g cap x (k+m) (wr.drew.setRow g (curk.take k ++ (curk.take m ++ curk.drop (k+(curk.take m).length))).toArray)) :=
    ⟨RI.copy (blk_drew hck) hlk hkk HQ.out.hg (below_drew1 HQ.out.b) hclen hcut (by omega)⟩
   have HFIT:Aside0 (k+(curk.take m).length≤curk.toArray.size):=⟨by rw [hclen,List.size_toArray];omega⟩
   have HLEN:=Aside0.mk hclen
   have HMIN:=Aside0.mk hm.symm
   have hw1:IntKind.i64.wrap ((k:Int)+(m:Int))=(k:Int)+(m:Int):=by rw [i64_w];unfold wrap64;omega
   clear hck hkk hcut hclen HQ hm
   go_region_law (refine step_copy_one m (by rfl) (.tmp 41) (.tmp 44) 22 22 (by rfl) 3 Try.underlying22 (by kernel_rfl) g k (n - k) (cap - k) ⟨g,0,none⟩ k cap HMIN.out ?hd ?hs curk.toArray 3 (by exact blk_drew HCK.out) (curk.take m) (by exact HLEN.out) (by exact HSRC.out) (by exact HFIT.out) (by exact HONE.out) ?_;(case hd=>first | (go_simp;done) | (simp [Act.eval,hne];done));(case hs=>first | (go_simp;done) | rfl))
   go_wp2_with fail
   refine ⟨⟨.int .i64 ((k:Int)+m),_,_,_,_,_,_,_,_,_,_,_,_,_,⟨k+m,by omega,by omega,by simp,⟨by have h:=HRI2.out;rw [List.length_take,hlk] at h;exact h⟩⟩,rfl⟩,?_⟩
   show n - (intOf (.int .i64 ((k:Int)+m))).toNat < n - (intOf (.int .i64 (k:Int))).toNat
   simp [intOf]
   omega
  ·have hdec:decide ((k:Int) < n)=false:=decide_eq_false (by omega)
   obtain rfl:k=n:=by omega
   go_wp2
   go_ret
   exact ⟨_,rfl,HQ.out.row hnc hcm,HQ.out.b⟩
end Go.Proofs.Ytpbhkdamkbopkaa.Inf
