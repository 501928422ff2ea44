/- Parts of the proof, glued by a program of this session (wip/tools/claimfit.py). -/
import Derived.Test.YtpbhkdamkbopkaaMIOG
namespace Go.Proofs.Ytpbhkdamkbopkaa.GEnds
open Go.RowKit Go.Proofs.YtpbhkdamkbopkaaW.PrintWords Go.Proofs.YtpbhkdamkbopkaaW.PrintLast Go.Proofs.YtpbhkdamkbopkaaW.PrintMore Go.Proofs.Ytpbhkdamkbopkaa.Wr2
attribute [local go_sem] max2_int min2_int max_two min_two max_three min_three max_four min_four
set_option linter.unusedVariables false
set_option linter.unusedSimpArgs false
def adler_parts.f (a0:Int):Option (Int × Int):=some (Int.tmod (wrap64 (Go.bits .and .u32 ((a0) % 4294967296) 65535)) 65521,(((a0) % 4294967296) / 65536) % 65521)
set_option maxHeartbeats 8000000 in
set_option maxRecDepth 100000 in
theorem adler_parts.calls (a0 : Int) (r1 : Int) (r2 : Int) (w : World) (h : adler_parts.f a0 = some (r1, r2)) :
  Calls Try.prog 102 #[.int .i64 a0] w fun e w'=>e=.returned (.tuple #[.int .i64 r1,.int .i64 r2])∧Drawn0 w w':=by
 have H:(some (Int.tmod (wrap64 (Go.bits .and .u32 ((a0) % 4294967296) 65535)) 65521,(((a0) % 4294967296) / 65536) % 65521))=some (r1,r2):=h
 clear h
 simp only [Option.some.injEq,Prod.mk.injEq] at H
 obtain ⟨rfl,rfl⟩:=H
 go_enter Try.func102,Try.ntmps102
 go_wp2
 go_ret2
 exact ⟨by first | rfl | (simp;done) | (simp [*];done),by repeat (first | exact Drawn0.refl _ | apply Drawn0.step)⟩
def adler_More.l0:Nat → ByteArray → Int → Int → Int → Int → Option (Int)
 |0,_,_,_,_,_=>none
 |k+1,x1,x5,x6,x14,x15=>if x15 < x14 then (if 0≤x15 then (if x15 < (x1.size:Int) then (adler_More.l0 k x1 (Int.tmod (wrap64 (x5+(wrap64 (bt x1 x15)))) 65521) (Int.tmod (wrap64 (x6+(Int.tmod (wrap64 (x5+(wrap64 (bt x1 x15)))) 65521))) 65521) x14 (wrap64 (x15+1))) else (none)) else (none)) else (some (Go.bits .or .i64 (wrap64 (x6*65536)) x5))
def adler_More.f (k:Nat) (a0:Int) (a1:ByteArray):Option (Int):=(adler_parts.f a0).bind fun bt201=>(adler_More.l0 k a1 bt201.1 bt201.2 (a1.size:Int) 0)
theorem adler_More.mono_l:∀ k,(∀ y0 y1 y2 y3 y4,LeO (adler_More.l0 k y0 y1 y2 y3 y4) (adler_More.l0 (k+1) y0 y1 y2 y3 y4))
 |0=>fun _ _ _ _ _ r h=>by simp [adler_More.l0] at h
 |k+1=>by
  have ih0:=adler_More.mono_l k
  ·intro y0 y1 y2 y3 y4
   unfold adler_More.l0
   repeat' first
   |(with_reducible exact ih0 _ _ _ _ _)
   |(with_reducible exact LeO.refl _)
   |(with_reducible exact LeO.none _)
   |(with_reducible refine LeO.ite ?_ ?_)
   |(with_reducible refine LeO.bind ?_ (fun _=>?_))
   |exact ih0 _ _ _ _ _
   |exact LeO.none _
   |refine LeO.ite ?_ ?_
   |refine LeO.bind ?_ (fun _=>?_)
theorem adler_More.mono:∀ a0 a1 k,LeO (adler_More.f k a0 a1) (adler_More.f (k+1) a0 a1):=by
 intro a0 a1 k
 have ih0:=adler_More.mono_l k
 unfold adler_More.f
 repeat' first
   |(with_reducible exact ih0 _ _ _ _ _)
   |(with_reducible exact LeO.refl _)
   |(with_reducible exact LeO.none _)
   |(with_reducible refine LeO.ite ?_ ?_)
   |(with_reducible refine LeO.bind ?_ (fun _=>?_))
   |exact ih0 _ _ _ _ _
   |exact LeO.none _
   |refine LeO.ite ?_ ?_
   |refine LeO.bind ?_ (fun _=>?_)
set_option maxHeartbeats 8000000 in
set_option maxRecDepth 100000 in
theorem adler_More.calls (k : Nat) (a0 : Int) (a1 : ByteArray) (r : Int) (w : World) (h : adler_More.f k a0 a1 = some r) :
  Calls Try.prog 77 #[.int .i64 a0,.string a1] w fun e w'=>e=.returned (.int .i64 r)∧Drawn0 w w':=by
 have H:((adler_parts.f a0).bind fun bt201=>(adler_More.l0 k a1 bt201.1 bt201.2 (a1.size:Int) 0))=some r:=h
 clear h
 replace H:=Option.bind_eq_some_iff.mp H
 obtain ⟨⟨t201,t202⟩,A30,H⟩:=H
 replace H:(adler_More.l0 k a1 t201 t202 (a1.size:Int) 0)=some r:=H
 have A3:=Aside0.mk A30
 clear A30
 have H':=Aside0.mk H
 clear H
 go_enter Try.func77,Try.ntmps77
 go_wp2_with (first | ((with_reducible refine gate_callee (f:=102) rfl ?_);refine goesL_ (some 10) rfl rfl Try.func102 (by kernel_rfl) rfl #[.int .i64 a0] rfl (by (try simp only [List.map_toArray,List.map_cons,List.map_nil]);first | done | rfl | (simp only [List.length_drop,List.length_take];rfl)) ?_;(with_reducible refine (adler_parts.calls a0 t201 t202 _ A3.out).mono ?_);rintro e w' ⟨rfl,⟨nd,rfl⟩⟩;refine ⟨_,rfl,?_⟩))
 go_loopg [5,6,15] k (fun kq v5 v6 v15 w'=>∃ (x5_1:Int) (x6_1:Int) (x15_1:Int),v5=.int .i64 x5_1∧v6=.int .i64 x6_1∧v15=.int .i64 x15_1∧Aside0 (adler_More.l0 kq a1 x5_1 x6_1 (a1.size:Int) x15_1=some r)∧Aside0 (kq≤k)∧Drawn0 w w')
 case atStart=>exact ⟨(t201),(t202),(0),(by first | rfl | (simp;done) | (simp [*];done)),(by first | rfl | (simp;done) | (simp [*];done)),(by first | rfl | (simp;done) | (simp [*];done)),H',⟨Nat.le_refl _⟩,by repeat (first | exact Drawn0.refl _ | apply Drawn0.step)⟩
 case round =>
  clear H'
  try clear c1
  try clear p2
  obtain ⟨x5_1,x6_1,x15_1,rfl,rfl,rfl,HA,HK1,⟨m1,rfl⟩⟩:=hrel
  cases gk with
  |zero=>exact absurd HA.out (by simp [adler_More.l0])
  |succ k1 =>
   have H:=HA.out
   clear HA
   simp only [adler_More.l0] at H
   by_cases c4:x15_1 < (a1.size:Int)
   ·rw [if_pos c4] at H
    have c4b0:decide (x15_1 < (a1.size:Int))=true:=decide_eq_true c4
    clear c4
    by_cases c5:0≤x15_1
    ·rw [if_pos c5] at H
     have c5b0:decide (0≤x15_1)=true:=decide_eq_true c5
     clear c5
     by_cases c6:x15_1 < (a1.size:Int)
     ·rw [if_pos c6] at H
      have c6b0:decide (x15_1 < (a1.size:Int))=true:=decide_eq_true c6
      clear c6
      have H':=Aside0.mk H
      clear H
      have p7:0≤(x15_1:Int):=of_decide_eq_true (by first | (with_reducible assumption) | assumption)
      have q7:x15_1 < (a1.size:Int):=of_decide_eq_true (by first | (with_reducible assumption) | assumption)
      have hx7:=bt_at a1 x15_1
      replace p7:=eq_true p7
      replace q7:=eq_true q7
      go_wp2
      go_roundg k1
      case measure=>have:=HK1.out;omega
      case rel=>exact ⟨(Int.tmod (wrap64 (x5_1+(wrap64 (bt a1 x15_1)))) 65521),(Int.tmod (wrap64 (x6_1+(Int.tmod (wrap64 (x5_1+(wrap64 (bt a1 x15_1)))) 65521))) 65521),(wrap64 (x15_1+1)),(by first | rfl | (simp;done) | (simp [*];done)),(by first | rfl | (simp;done) | (simp [*];done)),(by first | rfl | (simp;done) | (simp [*];done)),H',⟨by have:=HK1.out;omega⟩,by repeat (first | exact Drawn0.refl _ | apply Drawn0.step)⟩
     ·rw [if_neg c6] at H
      exact absurd H (by simp)
    ·rw [if_neg c5] at H
     exact absurd H (by simp)
   ·rw [if_neg c4] at H
    have c4b0:decide (x15_1 < (a1.size:Int))=false:=decide_eq_false c4
    clear c4
    obtain rfl:=Option.some.inj H
    go_wp2
    go_ret
    exact ⟨by first | rfl | (simp;done) | (simp [*];done),by repeat (first | exact Drawn0.refl _ | apply Drawn0.step)⟩
def adler_Sum.f (k:Nat) (a0:ByteArray):Option (Int):=(adler_More.f k 1 a0).bind fun t203=>(some t203)
theorem adler_Sum.mono:∀ a0 k,LeO (adler_Sum.f k a0) (adler_Sum.f (k+1) a0):=by
 intro a0 k
 unfold adler_Sum.f
 repeat' first
   |(with_reducible exact adler_More.mono _ _ _)
   |(with_reducible exact LeO.refl _)
   |(with_reducible exact LeO.none _)
   |(with_reducible refine LeO.ite ?_ ?_)
   |(with_reducible refine LeO.bind ?_ (fun _=>?_))
   |exact adler_More.mono _ _ _
   |exact LeO.none _
   |refine LeO.ite ?_ ?_
   |refine LeO.bind ?_ (fun _=>?_)
set_option maxHeartbeats 8000000 in
set_option maxRecDepth 100000 in
theorem adler_Sum.calls (k : Nat) (a0 : ByteArray) (r : Int) (w : World) (h : adler_Sum.f k a0 = some r) :
  Calls Try.prog 48 #[.string a0] w fun e w'=>e=.returned (.int .i64 r)∧Drawn0 w w':=by
 have H:((adler_More.f k 1 a0).bind fun t203=>(some t203))=some r:=h
 clear h
 replace H:=Option.bind_eq_some_iff.mp H
 obtain ⟨t203,A20,H⟩:=H
 replace H:(some t203)=some r:=H
 have A2:=Aside0.mk A20
 clear A20
 obtain rfl:=Option.some.inj H
 go_enter Try.func48,Try.ntmps48
 go_wp2_with (first | ((with_reducible refine gate_callee (f:=77) rfl ?_);refine goesL_ (some 4) rfl rfl Try.func77 (by kernel_rfl) rfl #[.int .i64 1,.string a0] rfl (by (try simp only [List.map_toArray,List.map_cons,List.map_nil]);first | done | rfl | (simp only [List.length_drop,List.length_take];rfl)) ?_;(with_reducible refine (adler_More.calls k 1 a0 t203 _ A2.out).mono ?_);rintro e w' ⟨rfl,⟨nd,rfl⟩⟩;refine ⟨_,rfl,?_⟩))
 go_ret
 exact ⟨by first | rfl | (simp;done) | (simp [*];done),by repeat (first | exact Drawn0.refl _ | apply Drawn0.step)⟩
def inflate_Open.j0:Nat → ByteArray → Int → Bool → Option (ByteArray × Int)
 |0,_,_,_=>none
 |k+1,x0,x1,x11=>if x11=true then (some ((⟨#[]⟩:ByteArray),1)) else (if (x0.size:Int) < 2 then (some ((⟨#[]⟩:ByteArray),2)) else (if 0 < (x0.size:Int) then (if (Go.bits .and .u8 (bt x0 0) 15)=8 then (if ((bt x0 0) / 16) > 7 then (some ((⟨#[]⟩:ByteArray),3)) else (if 1 < (x0.size:Int) then (if (Int.tmod (Go.bits .or .i64 (wrap64 ((wrap64 (bt x0 0))*256)) (wrap64 (bt x0 1))) 31)=0 then (if (Go.bits .and .u8 (bt x0 1) 32)=0 then (if 2≤(x0.size:Int) then ((inflate_Raw.f (x0.extract 2 x0.size) x1).bind fun bt204=>(if bt204.2.2=0 then (if 0≤(wrap64 (2+bt204.2.1)) then (if (wrap64 (2+bt204.2.1))≤(x0.size:Int) then (if ((x0.extract ((wrap64 (2+bt204.2.1)):Int).toNat x0.size).size:Int) < 4 then (some ((⟨#[]⟩:ByteArray),2)) else (if 0 < ((x0.extract ((wrap64 (2+bt204.2.1)):Int).toNat x0.size).size:Int) then (if 1 < ((x0.extract ((wrap64 (2+bt204.2.1)):Int).toNat x0.size).size:Int) then (if 2 < ((x0.extract ((wrap64 (2+bt204.2.1)):Int).toNat x0.size).size:Int) then (if 3 < ((x0.extract ((wrap64 (2+bt204.2.1)):Int).toNat x0.size).size:Int) then ((adler_Sum.f k bt204.1).bind fun t207=>(if (Go.bits .or .i64 (Go.bits .or .i64 (Go.bits .or .i64 (wrap64 ((wrap64 (bt (x0.extract ((wrap64 (2+bt204.2.1)):Int).toNat x0.size) 0))*16777216)) (wrap64 ((wrap64 (bt (x0.extract ((wrap64 (2+bt204.2.1)):Int).toNat x0.size) 1))*65536))) (wrap64 ((wrap64 (bt (x0.extract ((wrap64 (2+bt204.2.1)):Int).toNat x0.size) 2))*256))) (wrap64 (bt (x0.extract ((wrap64 (2+bt204.2.1)):Int).toNat x0.size) 3)))=t207 then (if ((x0.extract ((wrap64 (2+bt204.2.1)):Int).toNat x0.size).size:Int) > 4 then (some ((⟨#[]⟩:ByteArray),3)) else (some (bt204.1,0))) else (some ((⟨#[]⟩:ByteArray),5)))) else (none)) else (none)) else (none)) else (none))) else (none)) else (none)) else (some ((⟨#[]⟩:ByteArray),bt204.2.2)))) else (none)) else (some ((⟨#[]⟩:ByteArray),3))) else (some ((⟨#[]⟩:ByteArray),3))) else (none))) else (some ((⟨#[]⟩:ByteArray),3))) else (none)))
def inflate_Open.f (k:Nat) (a0:ByteArray) (a1:Int):Option (ByteArray × Int):=if a1 < 0 then (inflate_Open.j0 k a0 a1 true) else (inflate_Open.j0 k a0 a1 (decide (a1 > 262144)))
theorem inflate_Open.mono_l:∀ k,(∀ y0 y1 y2,LeO (inflate_Open.j0 k y0 y1 y2) (inflate_Open.j0 (k+1) y0 y1 y2))
 |0=>fun _ _ _ r h=>by simp [inflate_Open.j0] at h
 |k+1=>by
  have ih0:=inflate_Open.mono_l k
  ·intro y0 y1 y2
   unfold inflate_Open.j0
   repeat' first
   |(with_reducible exact ih0 _ _ _)
   |(with_reducible exact adler_Sum.mono _ _)
   |(with_reducible exact LeO.refl _)
   |(with_reducible exact LeO.none _)
   |(with_reducible refine LeO.ite ?_ ?_)
   |(with_reducible refine LeO.bind ?_ (fun _=>?_))
   |exact ih0 _ _ _
   |exact adler_Sum.mono _ _
   |exact LeO.none _
   |refine LeO.ite ?_ ?_
   |refine LeO.bind ?_ (fun _=>?_)
theorem inflate_Open.mono:∀ a0 a1 k,LeO (inflate_Open.f k a0 a1) (inflate_Open.f (k+1) a0 a1):=by
 intro a0 a1 k
 have ih0:=inflate_Open.mono_l k
 unfold inflate_Open.f
 repeat' first
   |(with_reducible exact ih0 _ _ _)
   |(with_reducible exact adler_Sum.mono _ _)
   |(with_reducible exact LeO.refl _)
   |(with_reducible exact LeO.none _)
   |(with_reducible refine LeO.ite ?_ ?_)
   |(with_reducible refine LeO.bind ?_ (fun _=>?_))
   |exact ih0 _ _ _
   |exact adler_Sum.mono _ _
   |exact LeO.none _
   |refine LeO.ite ?_ ?_
   |refine LeO.bind ?_ (fun _=>?_)
set_option maxHeartbeats 8000000 in
set_option maxRecDepth 100000 in
theorem inflate_Open.calls (k : Nat) (a0 : ByteArray) (a1 : Int) (r1 : ByteArray) (r2 : Int) (w : World) (h : inflate_Open.f k a0 a1 = some (r1, r2)) :
  Calls Try.prog 46 #[.string a0,.int .i64 a1] w fun e w'=>e=.returned (.tuple #[.string r1,.int .i64 r2])∧Below w.heap.size w w':=by
 have HB:=Aside0.mk (Below.refl w.heap.size w)
 have H:(if a1 < 0 then (inflate_Open.j0 k a0 a1 true) else (inflate_Open.j0 k a0 a1 (decide (a1 > 262144))))=some (r1,r2):=h
 clear h
 have HC3:=Aside0.mk H
 clear H
 go_enter Try.func46,Try.ntmps46
 go_upto_region 1 with (fail)
 repeat (go_quiet (fail);go_upto_region 1 with (fail))
 go_cut [11] (fun v11 wc=>∃ (kq:Nat) (x11_2:Bool),v11=.bool x11_2∧Aside0 (inflate_Open.j0 kq a0 a1 x11_2=some (r1,r2))∧Aside0 (kq≤k)∧Aside0 (Below w.heap.size w wc))
 case first =>
  have H:=HC3.out
  clear HC3
  by_cases c4:a1 < 0
  ·rw [if_pos c4] at H
   have c4b0:decide (a1 < 0)=true:=decide_eq_true c4
   clear c4
   (first | rw [c4b0] | (simp only [i64_w,i32_w];rw [c4b0]) | skip)
   have H':=Aside0.mk H
   clear H
   go_wp2
   repeat (go_quiet (fail);try go_wp2)
   go_meet
   case rel=>exact ⟨_,(true),(by first | rfl | (simp;done) | (simp [*];done)),H',⟨by first | omega | exact Nat.le_refl _⟩,⟨by repeat (first | (with_reducible first | exact HB.out | apply below_alloc | apply pw_below_drewN | apply below_drew1) | exact HB.out)⟩⟩
  ·rw [if_neg c4] at H
   have c4b0:decide (a1 < 0)=false:=decide_eq_false c4
   clear c4
   (first | rw [c4b0] | (simp only [i64_w,i32_w];rw [c4b0]) | skip)
   have H':=Aside0.mk H
   clear H
   go_wp2
   repeat (go_quiet (fail);try go_wp2)
   go_meet
   case rel=>exact ⟨_,(decide (a1 > 262144)),(by first | rfl | (simp;done) | (simp [*];done)),H',⟨by first | omega | exact Nat.le_refl _⟩,⟨by repeat (first | (with_reducible first | exact HB.out | apply below_alloc | apply pw_below_drewN | apply below_drew1) | exact HB.out)⟩⟩
 case rest =>
  clear HC3
  try clear p2
  try clear c4
  try clear c4b0
  obtain ⟨kq,x11_2,rfl,HA,HJ2,HB⟩:=hcut
  cases kq with
  |zero=>exact absurd HA.out (by simp [inflate_Open.j0])
  |succ kj2 =>
   have H:=HA.out
   clear HA
   simp only [inflate_Open.j0] at H
   by_cases c5:x11_2=true
   ·subst c5
    have H1:(some ((⟨#[]⟩:ByteArray),1))=some (r1,r2):=by rw [if_pos rfl] at H;exact H
    clear H
    have H:=H1
    clear H1
    simp only [Option.some.injEq,Prod.mk.injEq] at H
    obtain ⟨rfl,rfl⟩:=H
    go_wp2
    repeat (go_quiet (fail);try go_wp2)
    go_ret2
    exact ⟨by first | rfl | (simp [errW_none,errW_some] <;> rfl) | (simp [*,errW_none,errW_some] <;> rfl),by repeat (first | (with_reducible first | exact HB.out | apply below_alloc | apply pw_below_drewN | apply below_drew1) | exact HB.out)⟩
   ·replace c5:=Bool.eq_false_iff.mpr c5
    subst c5
    have H1:(if (a0.size:Int) < 2 then (some ((⟨#[]⟩:ByteArray),2)) else (if 0 < (a0.size:Int) then (if (Go.bits .and .u8 (bt a0 0) 15)=8 then (if ((bt a0 0) / 16) > 7 then (some ((⟨#[]⟩:ByteArray),3)) else (if 1 < (a0.size:Int) then (if (Int.tmod (Go.bits .or .i64 (wrap64 ((wrap64 (bt a0 0))*256)) (wrap64 (bt a0 1))) 31)=0 then (if (Go.bits .and .u8 (bt a0 1) 32)=0 then (if 2≤(a0.size:Int) then ((inflate_Raw.f (a0.extract 2 a0.size) a1).bind fun bt204=>(if bt204.2.2=0 then (if 0≤(wrap64 (2+bt204.2.1)) then (if (wrap64 (2+bt204.2.1))≤(a0.size:Int) then (if ((a0.extract ((wrap64 (2+bt204.2.1)):Int).toNat a0.size).size:Int) < 4 then (some ((⟨#[]⟩:ByteArray),2)) else (if 0 < ((a0.extract ((wrap64 (2+bt204.2.1)):Int).toNat a0.size).size:Int) then (if 1 < ((a0.extract ((wrap64 (2+bt204.2.1)):Int).toNat a0.size).size:Int) then (if 2 < ((a0.extract ((wrap64 (2+bt204.2.1)):Int).toNat a0.size).size:Int) then (if 3 < ((a0.extract ((wrap64 (2+bt204.2.1)):Int).toNat a0.size).size:Int) then ((adler_Sum.f kj2 bt204.1).bind fun t207=>(if (Go.bits .or .i64 (Go.bits .or .i64 (Go.bits .or .i64 (wrap64 ((wrap64 (bt (a0.extract ((wrap64 (2+bt204.2.1)):Int).toNat a0.size) 0))*16777216)) (wrap64 ((wrap64 (bt (a0.extract ((wrap64 (2+bt204.2.1)):Int).toNat a0.size) 1))*65536))) (wrap64 ((wrap64 (bt (a0.extract ((wrap64 (2+bt204.2.1)):Int).toNat a0.size) 2))*256))) (wrap64 (bt (a0.extract ((wrap64 (2+bt204.2.1)):Int).toNat a0.size) 3)))=t207 then (if ((a0.extract ((wrap64 (2+bt204.2.1)):Int).toNat a0.size).size:Int) > 4 then (some ((⟨#[]⟩:ByteArray),3)) else (some (bt204.1,0))) else (some ((⟨#[]⟩:ByteArray),5)))) else (none)) else (none)) else (none)) else (none))) else (none)) else (none)) else (some ((⟨#[]⟩:ByteArray),bt204.2.2)))) else (none)) else (some ((⟨#[]⟩:ByteArray),3))) else (some ((⟨#[]⟩:ByteArray),3))) else (none))) else (some ((⟨#[]⟩:ByteArray),3))) else (none)))=some (r1,r2):=by rw [if_neg (show ¬ (false=true) by decide)] at H;exact H
    clear H
    have H:=H1
    clear H1
    by_cases c6:(a0.size:Int) < 2
    ·rw [if_pos c6] at H
     have c6b0:decide ((a0.size:Int) < 2)=true:=decide_eq_true c6
     have c6b1:decide (a0.size < 2)=true:=decide_eq_true (by omega)
     clear c6
     simp only [Option.some.injEq,Prod.mk.injEq] at H
     obtain ⟨rfl,rfl⟩:=H
     go_wp2
     repeat (go_quiet (fail);try go_wp2)
     go_ret2
     exact ⟨by first | rfl | (simp [errW_none,errW_some] <;> rfl) | (simp [*,errW_none,errW_some] <;> rfl),by repeat (first | (with_reducible first | exact HB.out | apply below_alloc | apply pw_below_drewN | apply below_drew1) | exact HB.out)⟩
    ·rw [if_neg c6] at H
     have c6b0:decide ((a0.size:Int) < 2)=false:=decide_eq_false c6
     have c6b1:decide (a0.size < 2)=false:=decide_eq_false (by omega)
     clear c6
     by_cases c7:0 < (a0.size:Int)
     ·rw [if_pos c7] at H
      have c7b0:decide (0 < (a0.size:Int))=true:=decide_eq_true c7
      have c7b1:decide (0 < a0.size)=true:=decide_eq_true (by omega)
      clear c7
      by_cases c9:(Go.bits .and .u8 (bt a0 0) 15)=8
      ·rw [if_pos c9] at H
       have c9b0:((Go.bits .and .u8 (bt a0 0) 15) == 8)=true:=beq_iff_eq.mpr c9
       have c9b1:((Go.bits .and .u8 (bt a0 0) 15) != 8)=false:=bne_eq_false_iff_eq.mpr c9
       clear c9
       by_cases c11:((bt a0 0) / 16) > 7
       ·rw [if_pos c11] at H
        have c11b0:decide (7 < ((bt a0 0) / 16))=true:=decide_eq_true c11
        clear c11
        simp only [Option.some.injEq,Prod.mk.injEq] at H
        obtain ⟨rfl,rfl⟩:=H
        have p8:0≤(0:Int):=(by omega)
        have q8:0 < a0.size:=(by have:(0:Int) < (a0.size:Int):=of_decide_eq_true (by first | (with_reducible assumption) | assumption);omega)
        have hx8:∀ h:0 < a0.size,((a0[0]'h).toNat:Int)=bt a0 0:=bt_at a0 0
        clear p8
        have qi8:(0 < (a0.size:Int))=True:=eq_true (of_decide_eq_true (by first | (with_reducible assumption) | assumption))
        replace q8:=eq_true q8
        have p10:0≤(0:Int):=(by omega)
        have q10:0 < a0.size:=(by have:(0:Int) < (a0.size:Int):=of_decide_eq_true (by first | (with_reducible assumption) | assumption);omega)
        have hx10:∀ h:0 < a0.size,((a0[0]'h).toNat:Int)=bt a0 0:=bt_at a0 0
        clear p10
        have qi10:(0 < (a0.size:Int))=True:=eq_true (of_decide_eq_true (by first | (with_reducible assumption) | assumption))
        replace q10:=eq_true q10
        go_wp2
        repeat (go_quiet (fail);try go_wp2)
        go_ret2
        exact ⟨by first | rfl | (simp [errW_none,errW_some] <;> rfl) | (simp [*,errW_none,errW_some] <;> rfl),by repeat (first | (with_reducible first | exact HB.out | apply below_alloc | apply pw_below_drewN | apply below_drew1) | exact HB.out)⟩
       ·rw [if_neg c11] at H
        have c11b0:decide (7 < ((bt a0 0) / 16))=false:=decide_eq_false c11
        clear c11
        by_cases c13:1 < (a0.size:Int)
        ·rw [if_pos c13] at H
         have c13b0:decide (1 < (a0.size:Int))=true:=decide_eq_true c13
         have c13b1:decide (1 < a0.size)=true:=decide_eq_true (by omega)
         clear c13
         by_cases c15:(Int.tmod (Go.bits .or .i64 (wrap64 ((wrap64 (bt a0 0))*256)) (wrap64 (bt a0 1))) 31)=0
         ·rw [if_pos c15] at H
          have c15b0:((Int.tmod (Go.bits .or .i64 (wrap64 ((wrap64 (bt a0 0))*256)) (wrap64 (bt a0 1))) 31) == 0)=true:=beq_iff_eq.mpr c15
          have c15b1:((Int.tmod (Go.bits .or .i64 (wrap64 ((wrap64 (bt a0 0))*256)) (wrap64 (bt a0 1))) 31) != 0)=false:=bne_eq_false_iff_eq.mpr c15
          clear c15
          by_cases c17:(Go.bits .and .u8 (bt a0 1) 32)=0
          ·rw [if_pos c17] at H
           have c17b0:((Go.bits .and .u8 (bt a0 1) 32) == 0)=true:=beq_iff_eq.mpr c17
           have c17b1:((Go.bits .and .u8 (bt a0 1) 32) != 0)=false:=bne_eq_false_iff_eq.mpr c17
           clear c17
           by_cases c18:2≤(a0.size:Int)
           ·rw [if_pos c18] at H
            have c18b0:=eq_true c18
            have c18b1:decide (2≤(a0.size:Int))=true:=decide_eq_true c18
            clear c18
            replace H:=Option.bind_eq_some_iff.mp H
            obtain ⟨⟨t204,t205,t206⟩,A190,H⟩:=H
            replace H:(if t206=0 then (if 0≤(wrap64 (2+t205)) then (if (wrap64 (2+t205))≤(a0.size:Int) then (if ((a0.extract ((wrap64 (2+t205)):Int).toNat a0.size).size:Int) < 4 then (some ((⟨#[]⟩:ByteArray),2)) else (if 0 < ((a0.extract ((wrap64 (2+t205)):Int).toNat a0.size).size:Int) then (if 1 < ((a0.extract ((wrap64 (2+t205)):Int).toNat a0.size).size:Int) then (if 2 < ((a0.extract ((wrap64 (2+t205)):Int).toNat a0.size).size:Int) then (if 3 < ((a0.extract ((wrap64 (2+t205)):Int).toNat a0.size).size:Int) then ((adler_Sum.f kj2 t204).bind fun t207=>(if (Go.bits .or .i64 (Go.bits .or .i64 (Go.bits .or .i64 (wrap64 ((wrap64 (bt (a0.extract ((wrap64 (2+t205)):Int).toNat a0.size) 0))*16777216)) (wrap64 ((wrap64 (bt (a0.extract ((wrap64 (2+t205)):Int).toNat a0.size) 1))*65536))) (wrap64 ((wrap64 (bt (a0.extract ((wrap64 (2+t205)):Int).toNat a0.size) 2))*256))) (wrap64 (bt (a0.extract ((wrap64 (2+t205)):Int).toNat a0.size) 3)))=t207 then (if ((a0.extract ((wrap64 (2+t205)):Int).toNat a0.size).size:Int) > 4 then (some ((⟨#[]⟩:ByteArray),3)) else (some (t204,0))) else (some ((⟨#[]⟩:ByteArray),5)))) else (none)) else (none)) else (none)) else (none))) else (none)) else (none)) else (some ((⟨#[]⟩:ByteArray),t206)))=some (r1,r2):=H
            have A19:=Aside0.mk A190
            clear A190
            by_cases c20:t206=0
            ·rw [if_pos c20] at H
             have c20b0:(t206 == 0)=true:=beq_iff_eq.mpr c20
             have c20b1:(t206 != 0)=false:=bne_eq_false_iff_eq.mpr c20
             clear c20
             obtain ⟨ji21,hji21⟩:∃ j_:Int,(wrap64 (2+t205))=j_:=⟨_,rfl⟩
             replace H:(if 0≤(ji21) then (if (ji21)≤(a0.size:Int) then (if ((a0.extract ((ji21):Int).toNat a0.size).size:Int) < 4 then (some ((⟨#[]⟩:ByteArray),2)) else (if 0 < ((a0.extract ((ji21):Int).toNat a0.size).size:Int) then (if 1 < ((a0.extract ((ji21):Int).toNat a0.size).size:Int) then (if 2 < ((a0.extract ((ji21):Int).toNat a0.size).size:Int) then (if 3 < ((a0.extract ((ji21):Int).toNat a0.size).size:Int) then ((adler_Sum.f kj2 t204).bind fun t207=>(if (Go.bits .or .i64 (Go.bits .or .i64 (Go.bits .or .i64 (wrap64 ((wrap64 (bt (a0.extract ((ji21):Int).toNat a0.size) 0))*16777216)) (wrap64 ((wrap64 (bt (a0.extract ((ji21):Int).toNat a0.size) 1))*65536))) (wrap64 ((wrap64 (bt (a0.extract ((ji21):Int).toNat a0.size) 2))*256))) (wrap64 (bt (a0.extract ((ji21):Int).toNat a0.size) 3)))=t207 then (if ((a0.extract ((ji21):Int).toNat a0.size).size:Int) > 4 then (some ((⟨#[]⟩:ByteArray),3)) else (some (t204,0))) else (some ((⟨#[]⟩:ByteArray),5)))) else (none)) else (none)) else (none)) else (none))) else (none)) else (none))=some (r1,r2):=by first | (rw [hji21] at H;exact H) | (simp only [hji21] at H ⊢;exact H)
             (try rw [hji21] at A19)
             have hji21w:(IntKind.i64.wrap (2+t205))=ji21:=(i64_w _).trans hji21
             by_cases c22:0≤(ji21)
             ·rw [if_pos c22] at H
              have c22b0:=eq_true c22
              have c22b1:decide (0≤(ji21))=true:=decide_eq_true c22
              clear c22
              by_cases c23:(ji21)≤(a0.size:Int)
              ·rw [if_pos c23] at H
               have c23b0:=eq_true c23
               have c23b1:decide ((ji21)≤(a0.size:Int))=true:=decide_eq_true c23
               clear c23
               obtain ⟨rs_,hrs_⟩:∃ y:ByteArray,a0.extract ((ji21):Int).toNat a0.size=y:=⟨_,rfl⟩
               simp only [hrs_] at H
               by_cases c24:(rs_.size:Int) < 4
               ·rw [if_pos c24] at H
                have c24b0:decide ((rs_.size:Int) < 4)=true:=decide_eq_true c24
                have c24b1:decide (rs_.size < 4)=true:=decide_eq_true (by omega)
                clear c24
                simp only [Option.some.injEq,Prod.mk.injEq] at H
                obtain ⟨rfl,rfl⟩:=H
                have p8:0≤(0:Int):=(by omega)
                have q8:0 < a0.size:=(by have:(0:Int) < (a0.size:Int):=of_decide_eq_true (by first | (with_reducible assumption) | assumption);omega)
                have hx8:∀ h:0 < a0.size,((a0[0]'h).toNat:Int)=bt a0 0:=bt_at a0 0
                clear p8
                have qi8:(0 < (a0.size:Int))=True:=eq_true (of_decide_eq_true (by first | (with_reducible assumption) | assumption))
                replace q8:=eq_true q8
                have p10:0≤(0:Int):=(by omega)
                have q10:0 < a0.size:=(by have:(0:Int) < (a0.size:Int):=of_decide_eq_true (by first | (with_reducible assumption) | assumption);omega)
                have hx10:∀ h:0 < a0.size,((a0[0]'h).toNat:Int)=bt a0 0:=bt_at a0 0
                clear p10
                have qi10:(0 < (a0.size:Int))=True:=eq_true (of_decide_eq_true (by first | (with_reducible assumption) | assumption))
                replace q10:=eq_true q10
                have p12:0≤(0:Int):=(by omega)
                have q12:0 < a0.size:=(by have:(0:Int) < (a0.size:Int):=of_decide_eq_true (by first | (with_reducible assumption) | assumption);omega)
                have hx12:∀ h:0 < a0.size,((a0[0]'h).toNat:Int)=bt a0 0:=bt_at a0 0
                clear p12
                have qi12:(0 < (a0.size:Int))=True:=eq_true (of_decide_eq_true (by first | (with_reducible assumption) | assumption))
                replace q12:=eq_true q12
                have p14:0≤(1:Int):=(by omega)
                have q14:1 < a0.size:=(by have:(1:Int) < (a0.size:Int):=of_decide_eq_true (by first | (with_reducible assumption) | assumption);omega)
                have hx14:∀ h:1 < a0.size,((a0[1]'h).toNat:Int)=bt a0 1:=bt_at a0 1
                clear p14
                have qi14:(1 < (a0.size:Int))=True:=eq_true (of_decide_eq_true (by first | (with_reducible assumption) | assumption))
                replace q14:=eq_true q14
                have p16:0≤(1:Int):=(by omega)
                have q16:1 < a0.size:=(by have:(1:Int) < (a0.size:Int):=of_decide_eq_true (by first | (with_reducible assumption) | assumption);omega)
                have hx16:∀ h:1 < a0.size,((a0[1]'h).toNat:Int)=bt a0 1:=bt_at a0 1
                clear p16
                have qi16:(1 < (a0.size:Int))=True:=eq_true (of_decide_eq_true (by first | (with_reducible assumption) | assumption))
                replace q16:=eq_true q16
                go_wp2_with (first | (go_at_call 44;(with_reducible refine (inflate_Raw.calls (a0.extract 2 a0.size) a1 t204 t205 t206 _ A19.out).mono ?_);rintro e w25 ⟨rfl,hb⟩;have n0_:=Aside0.mk (below_step (by repeat (first | (with_reducible first | exact HB.out | apply below_alloc | apply pw_below_drewN | apply below_drew1) | exact HB.out)) hb);clear HB;have HB:=n0_;clear n0_;(try clear hb);(try clear hb2);(try clear hk);(try clear hi)))
                repeat (go_quiet (first | (go_at_call 44;(with_reducible refine (inflate_Raw.calls (a0.extract 2 a0.size) a1 t204 t205 t206 _ A19.out).mono ?_);rintro e w25 ⟨rfl,hb⟩;have n0_:=Aside0.mk (below_step (by repeat (first | (with_reducible first | exact HB.out | apply below_alloc | apply pw_below_drewN | apply below_drew1) | exact HB.out)) hb);clear HB;have HB:=n0_;clear n0_;(try clear hb);(try clear hb2);(try clear hk);(try clear hi)));try go_wp2_with (first | (go_at_call 44;(with_reducible refine (inflate_Raw.calls (a0.extract 2 a0.size) a1 t204 t205 t206 _ A19.out).mono ?_);rintro e w25 ⟨rfl,hb⟩;have n0_:=Aside0.mk (below_step (by repeat (first | (with_reducible first | exact HB.out | apply below_alloc | apply pw_below_drewN | apply below_drew1) | exact HB.out)) hb);clear HB;have HB:=n0_;clear n0_;(try clear hb);(try clear hb2);(try clear hk);(try clear hi))))
                go_ret2
                exact ⟨by first | rfl | (simp [errW_none,errW_some] <;> rfl) | (simp only [← hji21];first | rfl | (simp [errW_none,errW_some] <;> rfl)) | (simp [*,errW_none,errW_some] <;> rfl),by repeat (first | (with_reducible first | exact HB.out | apply below_alloc | apply pw_below_drewN | apply below_drew1) | exact HB.out)⟩
               ·rw [if_neg c24] at H
                have c24b0:decide ((rs_.size:Int) < 4)=false:=decide_eq_false c24
                have c24b1:decide (rs_.size < 4)=false:=decide_eq_false (by omega)
                clear c24
                by_cases c26:0 < (rs_.size:Int)
                ·rw [if_pos c26] at H
                 have c26b0:decide (0 < (rs_.size:Int))=true:=decide_eq_true c26
                 have c26b1:decide (0 < rs_.size)=true:=decide_eq_true (by omega)
                 clear c26
                 by_cases c28:1 < (rs_.size:Int)
                 ·rw [if_pos c28] at H
                  have c28b0:decide (1 < (rs_.size:Int))=true:=decide_eq_true c28
                  have c28b1:decide (1 < rs_.size)=true:=decide_eq_true (by omega)
                  clear c28
                  by_cases c30:2 < (rs_.size:Int)
                  ·rw [if_pos c30] at H
                   have c30b0:decide (2 < (rs_.size:Int))=true:=decide_eq_true c30
                   have c30b1:decide (2 < rs_.size)=true:=decide_eq_true (by omega)
                   clear c30
                   by_cases c32:3 < (rs_.size:Int)
                   ·rw [if_pos c32] at H
                    have c32b0:decide (3 < (rs_.size:Int))=true:=decide_eq_true c32
                    have c32b1:decide (3 < rs_.size)=true:=decide_eq_true (by omega)
                    clear c32
                    replace H:=Option.bind_eq_some_iff.mp H
                    obtain ⟨t207,A340,H⟩:=H
                    replace H:(if (Go.bits .or .i64 (Go.bits .or .i64 (Go.bits .or .i64 (wrap64 ((wrap64 (bt rs_ 0))*16777216)) (wrap64 ((wrap64 (bt rs_ 1))*65536))) (wrap64 ((wrap64 (bt rs_ 2))*256))) (wrap64 (bt rs_ 3)))=t207 then (if (rs_.size:Int) > 4 then (some ((⟨#[]⟩:ByteArray),3)) else (some (t204,0))) else (some ((⟨#[]⟩:ByteArray),5)))=some (r1,r2):=H
                    have A34:=Aside0.mk A340
                    clear A340
                    by_cases c35:(Go.bits .or .i64 (Go.bits .or .i64 (Go.bits .or .i64 (wrap64 ((wrap64 (bt rs_ 0))*16777216)) (wrap64 ((wrap64 (bt rs_ 1))*65536))) (wrap64 ((wrap64 (bt rs_ 2))*256))) (wrap64 (bt rs_ 3)))=t207
                    ·rw [if_pos c35] at H
                     have c35b0:((Go.bits .or .i64 (Go.bits .or .i64 (Go.bits .or .i64 (wrap64 ((wrap64 (bt rs_ 0))*16777216)) (wrap64 ((wrap64 (bt rs_ 1))*65536))) (wrap64 ((wrap64 (bt rs_ 2))*256))) (wrap64 (bt rs_ 3))) == t207)=true:=beq_iff_eq.mpr c35
                     have c35b1:((Go.bits .or .i64 (Go.bits .or .i64 (Go.bits .or .i64 (wrap64 ((wrap64 (bt rs_ 0))*16777216)) (wrap64 ((wrap64 (bt rs_ 1))*65536))) (wrap64 ((wrap64 (bt rs_ 2))*256))) (wrap64 (bt rs_ 3))) != t207)=false:=bne_eq_false_iff_eq.mpr c35
                     clear c35
                     by_cases c36:(rs_.size:Int) > 4
                     ·rw [if_pos c36] at H
                      have c36b0:decide (4 < (rs_.size:Int))=true:=decide_eq_true c36
                      have c36b1:decide (4 < rs_.size)=true:=decide_eq_true (by omega)
                      clear c36
                      simp only [Option.some.injEq,Prod.mk.injEq] at H
                      obtain ⟨rfl,rfl⟩:=H
                      have p8:0≤(0:Int):=(by omega)
                      have q8:0 < a0.size:=(by have:(0:Int) < (a0.size:Int):=of_decide_eq_true (by first | (with_reducible assumption) | assumption);omega)
                      have hx8:∀ h:0 < a0.size,((a0[0]'h).toNat:Int)=bt a0 0:=bt_at a0 0
                      clear p8
                      have qi8:(0 < (a0.size:Int))=True:=eq_true (of_decide_eq_true (by first | (with_reducible assumption) | assumption))
                      replace q8:=eq_true q8
                      have p10:0≤(0:Int):=(by omega)
                      have q10:0 < a0.size:=(by have:(0:Int) < (a0.size:Int):=of_decide_eq_true (by first | (with_reducible assumption) | assumption);omega)
                      have hx10:∀ h:0 < a0.size,((a0[0]'h).toNat:Int)=bt a0 0:=bt_at a0 0
                      clear p10
                      have qi10:(0 < (a0.size:Int))=True:=eq_true (of_decide_eq_true (by first | (with_reducible assumption) | assumption))
                      replace q10:=eq_true q10
                      have p12:0≤(0:Int):=(by omega)
                      have q12:0 < a0.size:=(by have:(0:Int) < (a0.size:Int):=of_decide_eq_true (by first | (with_reducible assumption) | assumption);omega)
                      have hx12:∀ h:0 < a0.size,((a0[0]'h).toNat:Int)=bt a0 0:=bt_at a0 0
                      clear p12
                      have qi12:(0 < (a0.size:Int))=True:=eq_true (of_decide_eq_true (by first | (with_reducible assumption) | assumption))
                      replace q12:=eq_true q12
                      have p14:0≤(1:Int):=(by omega)
                      have q14:1 < a0.size:=(by have:(1:Int) < (a0.size:Int):=of_decide_eq_true (by first | (with_reducible assumption) | assumption);omega)
                      have hx14:∀ h:1 < a0.size,((a0[1]'h).toNat:Int)=bt a0 1:=bt_at a0 1
                      clear p14
                      have qi14:(1 < (a0.size:Int))=True:=eq_true (of_decide_eq_true (by first | (with_reducible assumption) | assumption))
                      replace q14:=eq_true q14
                      have p16:0≤(1:Int):=(by omega)
                      have q16:1 < a0.size:=(by have:(1:Int) < (a0.size:Int):=of_decide_eq_true (by first | (with_reducible assumption) | assumption);omega)
                      have hx16:∀ h:1 < a0.size,((a0[1]'h).toNat:Int)=bt a0 1:=bt_at a0 1
                      clear p16
                      have qi16:(1 < (a0.size:Int))=True:=eq_true (of_decide_eq_true (by first | (with_reducible assumption) | assumption))
                      replace q16:=eq_true q16
                      go_wp2_with (first | (go_at_call 44;(with_reducible refine (inflate_Raw.calls (a0.extract 2 a0.size) a1 t204 t205 t206 _ A19.out).mono ?_);rintro e w37 ⟨rfl,hb⟩;have n0_:=Aside0.mk (below_step (by repeat (first | (with_reducible first | exact HB.out | apply below_alloc | apply pw_below_drewN | apply below_drew1) | exact HB.out)) hb);clear HB;have HB:=n0_;clear n0_;(try clear hb);(try clear hb2);(try clear hk);(try clear hi);have p27:0≤(0:Int):=(by omega);have q27:0 < rs_.size:=(by have:(0:Int) < (rs_.size:Int):=of_decide_eq_true (by first | (with_reducible assumption) | assumption);omega);have hx27:∀ h:0 < rs_.size,((rs_[0]'h).toNat:Int)=bt rs_ 0:=bt_at rs_ 0;clear p27;have qi27:(0 < (rs_.size:Int))=True:=eq_true (of_decide_eq_true (by first | (with_reducible assumption) | assumption));replace q27:=eq_true q27;have p29:0≤(1:Int):=(by omega);have q29:1 < rs_.size:=(by have:(1:Int) < (rs_.size:Int):=of_decide_eq_true (by first | (with_reducible assumption) | assumption);omega);have hx29:∀ h:1 < rs_.size,((rs_[1]'h).toNat:Int)=bt rs_ 1:=bt_at rs_ 1;clear p29;have qi29:(1 < (rs_.size:Int))=True:=eq_true (of_decide_eq_true (by first | (with_reducible assumption) | assumption));replace q29:=eq_true q29;have p31:0≤(2:Int):=(by omega);have q31:2 < rs_.size:=(by have:(2:Int) < (rs_.size:Int):=of_decide_eq_true (by first | (with_reducible assumption) | assumption);omega);have hx31:∀ h:2 < rs_.size,((rs_[2]'h).toNat:Int)=bt rs_ 2:=bt_at rs_ 2;clear p31;have qi31:(2 < (rs_.size:Int))=True:=eq_true (of_decide_eq_true (by first | (with_reducible assumption) | assumption));replace q31:=eq_true q31;have p33:0≤(3:Int):=(by omega);have q33:3 < rs_.size:=(by have:(3:Int) < (rs_.size:Int):=of_decide_eq_true (by first | (with_reducible assumption) | assumption);omega);have hx33:∀ h:3 < rs_.size,((rs_[3]'h).toNat:Int)=bt rs_ 3:=bt_at rs_ 3;clear p33;have qi33:(3 < (rs_.size:Int))=True:=eq_true (of_decide_eq_true (by first | (with_reducible assumption) | assumption));replace q33:=eq_true q33) | (go_at_call 48;(with_reducible refine (adler_Sum.calls kj2 t204 t207 _ A34.out).mono ?_);rintro e w' ⟨rfl,⟨nd,rfl⟩⟩;(try first | exact ⟨rfl,_,World.drewN_drewN _ _ _⟩ | exact ⟨rfl,_,Eq.trans (World.drewN_drewN _ _ _) (congrArg (World.drewN _) (Nat.add_assoc _ _ _))⟩)))
                      repeat (go_quiet (first | (go_at_call 44;(with_reducible refine (inflate_Raw.calls (a0.extract 2 a0.size) a1 t204 t205 t206 _ A19.out).mono ?_);rintro e w37 ⟨rfl,hb⟩;have n0_:=Aside0.mk (below_step (by repeat (first | (with_reducible first | exact HB.out | apply below_alloc | apply pw_below_drewN | apply below_drew1) | exact HB.out)) hb);clear HB;have HB:=n0_;clear n0_;(try clear hb);(try clear hb2);(try clear hk);(try clear hi);have p27:0≤(0:Int):=(by omega);have q27:0 < rs_.size:=(by have:(0:Int) < (rs_.size:Int):=of_decide_eq_true (by first | (with_reducible assumption) | assumption);omega);have hx27:∀ h:0 < rs_.size,((rs_[0]'h).toNat:Int)=bt rs_ 0:=bt_at rs_ 0;clear p27;have qi27:(0 < (rs_.size:Int))=True:=eq_true (of_decide_eq_true (by first | (with_reducible assumption) | assumption));replace q27:=eq_true q27;have p29:0≤(1:Int):=(by omega);have q29:1 < rs_.size:=(by have:(1:Int) < (rs_.size:Int):=of_decide_eq_true (by first | (with_reducible assumption) | assumption);omega);have hx29:∀ h:1 < rs_.size,((rs_[1]'h).toNat:Int)=bt rs_ 1:=bt_at rs_ 1;clear p29;have qi29:(1 < (rs_.size:Int))=True:=eq_true (of_decide_eq_true (by first | (with_reducible assumption) | assumption));replace q29:=eq_true q29;have p31:0≤(2:Int):=(by omega);have q31:2 < rs_.size:=(by have:(2:Int) < (rs_.size:Int):=of_decide_eq_true (by first | (with_reducible assumption) | assumption);omega);have hx31:∀ h:2 < rs_.size,((rs_[2]'h).toNat:Int)=bt rs_ 2:=bt_at rs_ 2;clear p31;have qi31:(2 < (rs_.size:Int))=True:=eq_true (of_decide_eq_true (by first | (with_reducible assumption) | assumption));replace q31:=eq_true q31;have p33:0≤(3:Int):=(by omega);have q33:3 < rs_.size:=(by have:(3:Int) < (rs_.size:Int):=of_decide_eq_true (by first | (with_reducible assumption) | assumption);omega);have hx33:∀ h:3 < rs_.size,((rs_[3]'h).toNat:Int)=bt rs_ 3:=bt_at rs_ 3;clear p33;have qi33:(3 < (rs_.size:Int))=True:=eq_true (of_decide_eq_true (by first | (with_reducible assumption) | assumption));replace q33:=eq_true q33) | (go_at_call 48;(with_reducible refine (adler_Sum.calls kj2 t204 t207 _ A34.out).mono ?_);rintro e w' ⟨rfl,⟨nd,rfl⟩⟩;(try first | exact ⟨rfl,_,World.drewN_drewN _ _ _⟩ | exact ⟨rfl,_,Eq.trans (World.drewN_drewN _ _ _) (congrArg (World.drewN _) (Nat.add_assoc _ _ _))⟩)));try go_wp2_with (first | (go_at_call 44;(with_reducible refine (inflate_Raw.calls (a0.extract 2 a0.size) a1 t204 t205 t206 _ A19.out).mono ?_);rintro e w37 ⟨rfl,hb⟩;have n0_:=Aside0.mk (below_step (by repeat (first | (with_reducible first | exact HB.out | apply below_alloc | apply pw_below_drewN | apply below_drew1) | exact HB.out)) hb);clear HB;have HB:=n0_;clear n0_;(try clear hb);(try clear hb2);(try clear hk);(try clear hi);have p27:0≤(0:Int):=(by omega);have q27:0 < rs_.size:=(by have:(0:Int) < (rs_.size:Int):=of_decide_eq_true (by first | (with_reducible assumption) | assumption);omega);have hx27:∀ h:0 < rs_.size,((rs_[0]'h).toNat:Int)=bt rs_ 0:=bt_at rs_ 0;clear p27;have qi27:(0 < (rs_.size:Int))=True:=eq_true (of_decide_eq_true (by first | (with_reducible assumption) | assumption));replace q27:=eq_true q27;have p29:0≤(1:Int):=(by omega);have q29:1 < rs_.size:=(by have:(1:Int) < (rs_.size:Int):=of_decide_eq_true (by first | (with_reducible assumption) | assumption);omega);have hx29:∀ h:1 < rs_.size,((rs_[1]'h).toNat:Int)=bt rs_ 1:=bt_at rs_ 1;clear p29;have qi29:(1 < (rs_.size:Int))=True:=eq_true (of_decide_eq_true (by first | (with_reducible assumption) | assumption));replace q29:=eq_true q29;have p31:0≤(2:Int):=(by omega);have q31:2 < rs_.size:=(by have:(2:Int) < (rs_.size:Int):=of_decide_eq_true (by first | (with_reducible assumption) | assumption);omega);have hx31:∀ h:2 < rs_.size,((rs_[2]'h).toNat:Int)=bt rs_ 2:=bt_at rs_ 2;clear p31;have qi31:(2 < (rs_.size:Int))=True:=eq_true (of_decide_eq_true (by first | (with_reducible assumption) | assumption));replace q31:=eq_true q31;have p33:0≤(3:Int):=(by omega);have q33:3 < rs_.size:=(by have:(3:Int) < (rs_.size:Int):=of_decide_eq_true (by first | (with_reducible assumption) | assumption);omega);have hx33:∀ h:3 < rs_.size,((rs_[3]'h).toNat:Int)=bt rs_ 3:=bt_at rs_ 3;clear p33;have qi33:(3 < (rs_.size:Int))=True:=eq_true (of_decide_eq_true (by first | (with_reducible assumption) | assumption));replace q33:=eq_true q33) | (go_at_call 48;(with_reducible refine (adler_Sum.calls kj2 t204 t207 _ A34.out).mono ?_);rintro e w' ⟨rfl,⟨nd,rfl⟩⟩;(try first | exact ⟨rfl,_,World.drewN_drewN _ _ _⟩ | exact ⟨rfl,_,Eq.trans (World.drewN_drewN _ _ _) (congrArg (World.drewN _) (Nat.add_assoc _ _ _))⟩))))
                      go_ret2
                      exact ⟨by first | rfl | (simp [errW_none,errW_some] <;> rfl) | (simp only [← hji21];first | rfl | (simp [errW_none,errW_some] <;> rfl)) | (simp [*,errW_none,errW_some] <;> rfl),by repeat (first | (with_reducible first | exact HB.out | apply below_alloc | apply pw_below_drewN | apply below_drew1) | exact HB.out)⟩
                     ·rw [if_neg c36] at H
                      have c36b0:decide (4 < (rs_.size:Int))=false:=decide_eq_false c36
                      have c36b1:decide (4 < rs_.size)=false:=decide_eq_false (by omega)
                      clear c36
                      simp only [Option.some.injEq,Prod.mk.injEq] at H
                      obtain ⟨rfl,rfl⟩:=H
                      have p8:0≤(0:Int):=(by omega)
                      have q8:0 < a0.size:=(by have:(0:Int) < (a0.size:Int):=of_decide_eq_true (by first | (with_reducible assumption) | assumption);omega)
                      have hx8:∀ h:0 < a0.size,((a0[0]'h).toNat:Int)=bt a0 0:=bt_at a0 0
                      clear p8
                      have qi8:(0 < (a0.size:Int))=True:=eq_true (of_decide_eq_true (by first | (with_reducible assumption) | assumption))
                      replace q8:=eq_true q8
                      have p10:0≤(0:Int):=(by omega)
                      have q10:0 < a0.size:=(by have:(0:Int) < (a0.size:Int):=of_decide_eq_true (by first | (with_reducible assumption) | assumption);omega)
                      have hx10:∀ h:0 < a0.size,((a0[0]'h).toNat:Int)=bt a0 0:=bt_at a0 0
                      clear p10
                      have qi10:(0 < (a0.size:Int))=True:=eq_true (of_decide_eq_true (by first | (with_reducible assumption) | assumption))
                      replace q10:=eq_true q10
                      have p12:0≤(0:Int):=(by omega)
                      have q12:0 < a0.size:=(by have:(0:Int) < (a0.size:Int):=of_decide_eq_true (by first | (with_reducible assumption) | assumption);omega)
                      have hx12:∀ h:0 < a0.size,((a0[0]'h).toNat:Int)=bt a0 0:=bt_at a0 0
                      clear p12
                      have qi12:(0 < (a0.size:Int))=True:=eq_true (of_decide_eq_true (by first | (with_reducible assumption) | assumption))
                      replace q12:=eq_true q12
                      have p14:0≤(1:Int):=(by omega)
                      have q14:1 < a0.size:=(by have:(1:Int) < (a0.size:Int):=of_decide_eq_true (by first | (with_reducible assumption) | assumption);omega)
                      have hx14:∀ h:1 < a0.size,((a0[1]'h).toNat:Int)=bt a0 1:=bt_at a0 1
                      clear p14
                      have qi14:(1 < (a0.size:Int))=True:=eq_true (of_decide_eq_true (by first | (with_reducible assumption) | assumption))
                      replace q14:=eq_true q14
                      have p16:0≤(1:Int):=(by omega)
                      have q16:1 < a0.size:=(by have:(1:Int) < (a0.size:Int):=of_decide_eq_true (by first | (with_reducible assumption) | assumption);omega)
                      have hx16:∀ h:1 < a0.size,((a0[1]'h).toNat:Int)=bt a0 1:=bt_at a0 1
                      clear p16
                      have qi16:(1 < (a0.size:Int))=True:=eq_true (of_decide_eq_true (by first | (with_reducible assumption) | assumption))
                      replace q16:=eq_true q16
                      go_wp2_with (first | (go_at_call 44;(with_reducible refine (inflate_Raw.calls (a0.extract 2 a0.size) a1 t204 t205 t206 _ A19.out).mono ?_);rintro e w38 ⟨rfl,hb⟩;have n0_:=Aside0.mk (below_step (by repeat (first | (with_reducible first | exact HB.out | apply below_alloc | apply pw_below_drewN | apply below_drew1) | exact HB.out)) hb);clear HB;have HB:=n0_;clear n0_;(try clear hb);(try clear hb2);(try clear hk);(try clear hi);have p27:0≤(0:Int):=(by omega);have q27:0 < rs_.size:=(by have:(0:Int) < (rs_.size:Int):=of_decide_eq_true (by first | (with_reducible assumption) | assumption);omega);have hx27:∀ h:0 < rs_.size,((rs_[0]'h).toNat:Int)=bt rs_ 0:=bt_at rs_ 0;clear p27;have qi27:(0 < (rs_.size:Int))=True:=eq_true (of_decide_eq_true (by first | (with_reducible assumption) | assumption));replace q27:=eq_true q27;have p29:0≤(1:Int):=(by omega);have q29:1 < rs_.size:=(by have:(1:Int) < (rs_.size:Int):=of_decide_eq_true (by first | (with_reducible assumption) | assumption);omega);have hx29:∀ h:1 < rs_.size,((rs_[1]'h).toNat:Int)=bt rs_ 1:=bt_at rs_ 1;clear p29;have qi29:(1 < (rs_.size:Int))=True:=eq_true (of_decide_eq_true (by first | (with_reducible assumption) | assumption));replace q29:=eq_true q29;have p31:0≤(2:Int):=(by omega);have q31:2 < rs_.size:=(by have:(2:Int) < (rs_.size:Int):=of_decide_eq_true (by first | (with_reducible assumption) | assumption);omega);have hx31:∀ h:2 < rs_.size,((rs_[2]'h).toNat:Int)=bt rs_ 2:=bt_at rs_ 2;clear p31;have qi31:(2 < (rs_.size:Int))=True:=eq_true (of_decide_eq_true (by first | (with_reducible assumption) | assumption));replace q31:=eq_true q31;have p33:0≤(3:Int):=(by omega);have q33:3 < rs_.size:=(by have:(3:Int) < (rs_.size:Int):=of_decide_eq_true (by first | (with_reducible assumption) | assumption);omega);have hx33:∀ h:3 < rs_.size,((rs_[3]'h).toNat:Int)=bt rs_ 3:=bt_at rs_ 3;clear p33;have qi33:(3 < (rs_.size:Int))=True:=eq_true (of_decide_eq_true (by first | (with_reducible assumption) | assumption));replace q33:=eq_true q33) | (go_at_call 48;(with_reducible refine (adler_Sum.calls kj2 t204 t207 _ A34.out).mono ?_);rintro e w' ⟨rfl,⟨nd,rfl⟩⟩;(try first | exact ⟨rfl,_,World.drewN_drewN _ _ _⟩ | exact ⟨rfl,_,Eq.trans (World.drewN_drewN _ _ _) (congrArg (World.drewN _) (Nat.add_assoc _ _ _))⟩)))
                      repeat (go_quiet (first | (go_at_call 44;(with_reducible refine (inflate_Raw.calls (a0.extract 2 a0.size) a1 t204 t205 t206 _ A19.out).mono ?_);rintro e w38 ⟨rfl,hb⟩;have n0_:=Aside0.mk (below_step (by repeat (first | (with_reducible first | exact HB.out | apply below_alloc | apply pw_below_drewN | apply below_drew1) | exact HB.out)) hb);clear HB;have HB:=n0_;clear n0_;(try clear hb);(try clear hb2);(try clear hk);(try clear hi);have p27:0≤(0:Int):=(by omega);have q27:0 < rs_.size:=(by have:(0:Int) < (rs_.size:Int):=of_decide_eq_true (by first | (with_reducible assumption) | assumption);omega);have hx27:∀ h:0 < rs_.size,((rs_[0]'h).toNat:Int)=bt rs_ 0:=bt_at rs_ 0;clear p27;have qi27:(0 < (rs_.size:Int))=True:=eq_true (of_decide_eq_true (by first | (with_reducible assumption) | assumption));replace q27:=eq_true q27;have p29:0≤(1:Int):=(by omega);have q29:1 < rs_.size:=(by have:(1:Int) < (rs_.size:Int):=of_decide_eq_true (by first | (with_reducible assumption) | assumption);omega);have hx29:∀ h:1 < rs_.size,((rs_[1]'h).toNat:Int)=bt rs_ 1:=bt_at rs_ 1;clear p29;have qi29:(1 < (rs_.size:Int))=True:=eq_true (of_decide_eq_true (by first | (with_reducible assumption) | assumption));replace q29:=eq_true q29;have p31:0≤(2:Int):=(by omega);have q31:2 < rs_.size:=(by have:(2:Int) < (rs_.size:Int):=of_decide_eq_true (by first | (with_reducible assumption) | assumption);omega);have hx31:∀ h:2 < rs_.size,((rs_[2]'h).toNat:Int)=bt rs_ 2:=bt_at rs_ 2;clear p31;have qi31:(2 < (rs_.size:Int))=True:=eq_true (of_decide_eq_true (by first | (with_reducible assumption) | assumption));replace q31:=eq_true q31;have p33:0≤(3:Int):=(by omega);have q33:3 < rs_.size:=(by have:(3:Int) < (rs_.size:Int):=of_decide_eq_true (by first | (with_reducible assumption) | assumption);omega);have hx33:∀ h:3 < rs_.size,((rs_[3]'h).toNat:Int)=bt rs_ 3:=bt_at rs_ 3;clear p33;have qi33:(3 < (rs_.size:Int))=True:=eq_true (of_decide_eq_true (by first | (with_reducible assumption) | assumption));replace q33:=eq_true q33) | (go_at_call 48;(with_reducible refine (adler_Sum.calls kj2 t204 t207 _ A34.out).mono ?_);rintro e w' ⟨rfl,⟨nd,rfl⟩⟩;(try first | exact ⟨rfl,_,World.drewN_drewN _ _ _⟩ | exact ⟨rfl,_,Eq.trans (World.drewN_drewN _ _ _) (congrArg (World.drewN _) (Nat.add_assoc _ _ _))⟩)));try go_wp2_with (first | (go_at_call 44;(with_reducible refine (inflate_Raw.calls (a0.extract 2 a0.size) a1 t204 t205 t206 _ A19.out).mono ?_);rintro e w38 ⟨rfl,hb⟩;have n0_:=Aside0.mk (below_step (by repeat (first | (with_reducible first | exact HB.out | apply below_alloc | apply pw_below_drewN | apply below_drew1) | exact HB.out)) hb);clear HB;have HB:=n0_;clear n0_;(try clear hb);(try clear hb2);(try clear hk);(try clear hi);have p27:0≤(0:Int):=(by omega);have q27:0 < rs_.size:=(by have:(0:Int) < (rs_.size:Int):=of_decide_eq_true (by first | (with_reducible assumption) | assumption);omega);have hx27:∀ h:0 < rs_.size,((rs_[0]'h).toNat:Int)=bt rs_ 0:=bt_at rs_ 0;clear p27;have qi27:(0 < (rs_.size:Int))=True:=eq_true (of_decide_eq_true (by first | (with_reducible assumption) | assumption));replace q27:=eq_true q27;have p29:0≤(1:Int):=(by omega);have q29:1 < rs_.size:=(by have:(1:Int) < (rs_.size:Int):=of_decide_eq_true (by first | (with_reducible assumption) | assumption);omega);have hx29:∀ h:1 < rs_.size,((rs_[1]'h).toNat:Int)=bt rs_ 1:=bt_at rs_ 1;clear p29;have qi29:(1 < (rs_.size:Int))=True:=eq_true (of_decide_eq_true (by first | (with_reducible assumption) | assumption));replace q29:=eq_true q29;have p31:0≤(2:Int):=(by omega);have q31:2 < rs_.size:=(by have:(2:Int) < (rs_.size:Int):=of_decide_eq_true (by first | (with_reducible assumption) | assumption);omega);have hx31:∀ h:2 < rs_.size,((rs_[2]'h).toNat:Int)=bt rs_ 2:=bt_at rs_ 2;clear p31;have qi31:(2 < (rs_.size:Int))=True:=eq_true (of_decide_eq_true (by first | (with_reducible assumption) | assumption));replace q31:=eq_true q31;have p33:0≤(3:Int):=(by omega);have q33:3 < rs_.size:=(by have:(3:Int) < (rs_.size:Int):=of_decide_eq_true (by first | (with_reducible assumption) | assumption);omega);have hx33:∀ h:3 < rs_.size,((rs_[3]'h).toNat:Int)=bt rs_ 3:=bt_at rs_ 3;clear p33;have qi33:(3 < (rs_.size:Int))=True:=eq_true (of_decide_eq_true (by first | (with_reducible assumption) | assumption));replace q33:=eq_true q33) | (go_at_call 48;(with_reducible refine (adler_Sum.calls kj2 t204 t207 _ A34.out).mono ?_);rintro e w' ⟨rfl,⟨nd,rfl⟩⟩;(try first | exact ⟨rfl,_,World.drewN_drewN _ _ _⟩ | exact ⟨rfl,_,Eq.trans (World.drewN_drewN _ _ _) (congrArg (World.drewN _) (Nat.add_assoc _ _ _))⟩))))
                      go_ret2
                      exact ⟨by first | rfl | (simp [errW_none,errW_some] <;> rfl) | (simp only [← hji21];first | rfl | (simp [errW_none,errW_some] <;> rfl)) | (simp [*,errW_none,errW_some] <;> rfl),by repeat (first | (with_reducible first | exact HB.out | apply below_alloc | apply pw_below_drewN | apply below_drew1) | exact HB.out)⟩
                    ·rw [if_neg c35] at H
                     have c35b0:((Go.bits .or .i64 (Go.bits .or .i64 (Go.bits .or .i64 (wrap64 ((wrap64 (bt rs_ 0))*16777216)) (wrap64 ((wrap64 (bt rs_ 1))*65536))) (wrap64 ((wrap64 (bt rs_ 2))*256))) (wrap64 (bt rs_ 3))) == t207)=false:=beq_eq_false_iff_ne.mpr c35
                     have c35b1:((Go.bits .or .i64 (Go.bits .or .i64 (Go.bits .or .i64 (wrap64 ((wrap64 (bt rs_ 0))*16777216)) (wrap64 ((wrap64 (bt rs_ 1))*65536))) (wrap64 ((wrap64 (bt rs_ 2))*256))) (wrap64 (bt rs_ 3))) != t207)=true:=bne_iff_ne.mpr c35
                     simp only [Option.some.injEq,Prod.mk.injEq] at H
                     obtain ⟨rfl,rfl⟩:=H
                     have p8:0≤(0:Int):=(by omega)
                     have q8:0 < a0.size:=(by have:(0:Int) < (a0.size:Int):=of_decide_eq_true (by first | (with_reducible assumption) | assumption);omega)
                     have hx8:∀ h:0 < a0.size,((a0[0]'h).toNat:Int)=bt a0 0:=bt_at a0 0
                     clear p8
                     have qi8:(0 < (a0.size:Int))=True:=eq_true (of_decide_eq_true (by first | (with_reducible assumption) | assumption))
                     replace q8:=eq_true q8
                     have p10:0≤(0:Int):=(by omega)
                     have q10:0 < a0.size:=(by have:(0:Int) < (a0.size:Int):=of_decide_eq_true (by first | (with_reducible assumption) | assumption);omega)
                     have hx10:∀ h:0 < a0.size,((a0[0]'h).toNat:Int)=bt a0 0:=bt_at a0 0
                     clear p10
                     have qi10:(0 < (a0.size:Int))=True:=eq_true (of_decide_eq_true (by first | (with_reducible assumption) | assumption))
                     replace q10:=eq_true q10
                     have p12:0≤(0:Int):=(by omega)
                     have q12:0 < a0.size:=(by have:(0:Int) < (a0.size:Int):=of_decide_eq_true (by first | (with_reducible assumption) | assumption);omega)
                     have hx12:∀ h:0 < a0.size,((a0[0]'h).toNat:Int)=bt a0 0:=bt_at a0 0
                     clear p12
                     have qi12:(0 < (a0.size:Int))=True:=eq_true (of_decide_eq_true (by first | (with_reducible assumption) | assumption))
                     replace q12:=eq_true q12
                     have p14:0≤(1:Int):=(by omega)
                     have q14:1 < a0.size:=(by have:(1:Int) < (a0.size:Int):=of_decide_eq_true (by first | (with_reducible assumption) | assumption);omega)
                     have hx14:∀ h:1 < a0.size,((a0[1]'h).toNat:Int)=bt a0 1:=bt_at a0 1
                     clear p14
                     have qi14:(1 < (a0.size:Int))=True:=eq_true (of_decide_eq_true (by first | (with_reducible assumption) | assumption))
                     replace q14:=eq_true q14
                     have p16:0≤(1:Int):=(by omega)
                     have q16:1 < a0.size:=(by have:(1:Int) < (a0.size:Int):=of_decide_eq_true (by first | (with_reducible assumption) | assumption);omega)
                     have hx16:∀ h:1 < a0.size,((a0[1]'h).toNat:Int)=bt a0 1:=bt_at a0 1
                     clear p16
                     have qi16:(1 < (a0.size:Int))=True:=eq_true (of_decide_eq_true (by first | (with_reducible assumption) | assumption))
                     replace q16:=eq_true q16
                     go_wp2_with (first | (go_at_call 44;(with_reducible refine (inflate_Raw.calls (a0.extract 2 a0.size) a1 t204 t205 t206 _ A19.out).mono ?_);rintro e w39 ⟨rfl,hb⟩;have n0_:=Aside0.mk (below_step (by repeat (first | (with_reducible first | exact HB.out | apply below_alloc | apply pw_below_drewN | apply below_drew1) | exact HB.out)) hb);clear HB;have HB:=n0_;clear n0_;(try clear hb);(try clear hb2);(try clear hk);(try clear hi);have p27:0≤(0:Int):=(by omega);have q27:0 < rs_.size:=(by have:(0:Int) < (rs_.size:Int):=of_decide_eq_true (by first | (with_reducible assumption) | assumption);omega);have hx27:∀ h:0 < rs_.size,((rs_[0]'h).toNat:Int)=bt rs_ 0:=bt_at rs_ 0;clear p27;have qi27:(0 < (rs_.size:Int))=True:=eq_true (of_decide_eq_true (by first | (with_reducible assumption) | assumption));replace q27:=eq_true q27;have p29:0≤(1:Int):=(by omega);have q29:1 < rs_.size:=(by have:(1:Int) < (rs_.size:Int):=of_decide_eq_true (by first | (with_reducible assumption) | assumption);omega);have hx29:∀ h:1 < rs_.size,((rs_[1]'h).toNat:Int)=bt rs_ 1:=bt_at rs_ 1;clear p29;have qi29:(1 < (rs_.size:Int))=True:=eq_true (of_decide_eq_true (by first | (with_reducible assumption) | assumption));replace q29:=eq_true q29;have p31:0≤(2:Int):=(by omega);have q31:2 < rs_.size:=(by have:(2:Int) < (rs_.size:Int):=of_decide_eq_true (by first | (with_reducible assumption) | assumption);omega);have hx31:∀ h:2 < rs_.size,((rs_[2]'h).toNat:Int)=bt rs_ 2:=bt_at rs_ 2;clear p31;have qi31:(2 < (rs_.size:Int))=True:=eq_true (of_decide_eq_true (by first | (with_reducible assumption) | assumption));replace q31:=eq_true q31;have p33:0≤(3:Int):=(by omega);have q33:3 < rs_.size:=(by have:(3:Int) < (rs_.size:Int):=of_decide_eq_true (by first | (with_reducible assumption) | assumption);omega);have hx33:∀ h:3 < rs_.size,((rs_[3]'h).toNat:Int)=bt rs_ 3:=bt_at rs_ 3;clear p33;have qi33:(3 < (rs_.size:Int))=True:=eq_true (of_decide_eq_true (by first | (with_reducible assumption) | assumption));replace q33:=eq_true q33) | (go_at_call 48;(with_reducible refine (adler_Sum.calls kj2 t204 t207 _ A34.out).mono ?_);rintro e w' ⟨rfl,⟨nd,rfl⟩⟩;(try first | exact ⟨rfl,_,World.drewN_drewN _ _ _⟩ | exact ⟨rfl,_,Eq.trans (World.drewN_drewN _ _ _) (congrArg (World.drewN _) (Nat.add_assoc _ _ _))⟩)))
                     repeat (go_quiet (first | (go_at_call 44;(with_reducible refine (inflate_Raw.calls (a0.extract 2 a0.size) a1 t204 t205 t206 _ A19.out).mono ?_);rintro e w39 ⟨rfl,hb⟩;have n0_:=Aside0.mk (below_step (by repeat (first | (with_reducible first | exact HB.out | apply below_alloc | apply pw_below_drewN | apply below_drew1) | exact HB.out)) hb);clear HB;have HB:=n0_;clear n0_;(try clear hb);(try clear hb2);(try clear hk);(try clear hi);have p27:0≤(0:Int):=(by omega);have q27:0 < rs_.size:=(by have:(0:Int) < (rs_.size:Int):=of_decide_eq_true (by first | (with_reducible assumption) | assumption);omega);have hx27:∀ h:0 < rs_.size,((rs_[0]'h).toNat:Int)=bt rs_ 0:=bt_at rs_ 0;clear p27;have qi27:(0 < (rs_.size:Int))=True:=eq_true (of_decide_eq_true (by first | (with_reducible assumption) | assumption));replace q27:=eq_true q27;have p29:0≤(1:Int):=(by omega);have q29:1 < rs_.size:=(by have:(1:Int) < (rs_.size:Int):=of_decide_eq_true (by first | (with_reducible assumption) | assumption);omega);have hx29:∀ h:1 < rs_.size,((rs_[1]'h).toNat:Int)=bt rs_ 1:=bt_at rs_ 1;clear p29;have qi29:(1 < (rs_.size:Int))=True:=eq_true (of_decide_eq_true (by first | (with_reducible assumption) | assumption));replace q29:=eq_true q29;have p31:0≤(2:Int):=(by omega);have q31:2 < rs_.size:=(by have:(2:Int) < (rs_.size:Int):=of_decide_eq_true (by first | (with_reducible assumption) | assumption);omega);have hx31:∀ h:2 < rs_.size,((rs_[2]'h).toNat:Int)=bt rs_ 2:=bt_at rs_ 2;clear p31;have qi31:(2 < (rs_.size:Int))=True:=eq_true (of_decide_eq_true (by first | (with_reducible assumption) | assumption));replace q31:=eq_true q31;have p33:0≤(3:Int):=(by omega);have q33:3 < rs_.size:=(by have:(3:Int) < (rs_.size:Int):=of_decide_eq_true (by first | (with_reducible assumption) | assumption);omega);have hx33:∀ h:3 < rs_.size,((rs_[3]'h).toNat:Int)=bt rs_ 3:=bt_at rs_ 3;clear p33;have qi33:(3 < (rs_.size:Int))=True:=eq_true (of_decide_eq_true (by first | (with_reducible assumption) | assumption));replace q33:=eq_true q33) | (go_at_call 48;(with_reducible refine (adler_Sum.calls kj2 t204 t207 _ A34.out).mono ?_);rintro e w' ⟨rfl,⟨nd,rfl⟩⟩;(try first | exact ⟨rfl,_,World.drewN_drewN _ _ _⟩ | exact ⟨rfl,_,Eq.trans (World.drewN_drewN _ _ _) (congrArg (World.drewN _) (Nat.add_assoc _ _ _))⟩)));try go_wp2_with (first | (go_at_call 44;(with_reducible refine (inflate_Raw.calls (a0.extract 2 a0.size) a1 t204 t205 t206 _ A19.out).mono ?_);rintro e w39 ⟨rfl,hb⟩;have n0_:=Aside0.mk (below_step (by repeat (first | (with_reducible first | exact HB.out | apply below_alloc | apply pw_below_drewN | apply below_drew1) | exact HB.out)) hb);clear HB;have HB:=n0_;clear n0_;(try clear hb);(try clear hb2);(try clear hk);(try clear hi);have p27:0≤(0:Int):=(by omega);have q27:0 < rs_.size:=(by have:(0:Int) < (rs_.size:Int):=of_decide_eq_true (by first | (with_reducible assumption) | assumption);omega);have hx27:∀ h:0 < rs_.size,((rs_[0]'h).toNat:Int)=bt rs_ 0:=bt_at rs_ 0;clear p27;have qi27:(0 < (rs_.size:Int))=True:=eq_true (of_decide_eq_true (by first | (with_reducible assumption) | assumption));replace q27:=eq_true q27;have p29:0≤(1:Int):=(by omega);have q29:1 < rs_.size:=(by have:(1:Int) < (rs_.size:Int):=of_decide_eq_true (by first | (with_reducible assumption) | assumption);omega);have hx29:∀ h:1 < rs_.size,((rs_[1]'h).toNat:Int)=bt rs_ 1:=bt_at rs_ 1;clear p29;have qi29:(1 < (rs_.size:Int))=True:=eq_true (of_decide_eq_true (by first | (with_reducible assumption) | assumption));replace q29:=eq_true q29;have p31:0≤(2:Int):=(by omega);have q31:2 < rs_.size:=(by have:(2:Int) < (rs_.size:Int):=of_decide_eq_true (by first | (with_reducible assumption) | assumption);omega);have hx31:∀ h:2 < rs_.size,((rs_[2]'h).toNat:Int)=bt rs_ 2:=bt_at rs_ 2;clear p31;have qi31:(2 < (rs_.size:Int))=True:=eq_true (of_decide_eq_true (by first | (with_reducible assumption) | assumption));replace q31:=eq_true q31;have p33:0≤(3:Int):=(by omega);have q33:3 < rs_.size:=(by have:(3:Int) < (rs_.size:Int):=of_decide_eq_true (by first | (with_reducible assumption) | assumption);omega);have hx33:∀ h:3 < rs_.size,((rs_[3]'h).toNat:Int)=bt rs_ 3:=bt_at rs_ 3;clear p33;have qi33:(3 < (rs_.size:Int))=True:=eq_true (of_decide_eq_true (by first | (with_reducible assumption) | assumption));replace q33:=eq_true q33) | (go_at_call 48;(with_reducible refine (adler_Sum.calls kj2 t204 t207 _ A34.out).mono ?_);rintro e w' ⟨rfl,⟨nd,rfl⟩⟩;(try first | exact ⟨rfl,_,World.drewN_drewN _ _ _⟩ | exact ⟨rfl,_,Eq.trans (World.drewN_drewN _ _ _) (congrArg (World.drewN _) (Nat.add_assoc _ _ _))⟩))))
                     go_ret2
                     exact ⟨by first | rfl | (simp [errW_none,errW_some] <;> rfl) | (simp only [← hji21];first | rfl | (simp [errW_none,errW_some] <;> rfl)) | (simp [*,errW_none,errW_some] <;> rfl),by repeat (first | (with_reducible first | exact HB.out | apply below_alloc | apply pw_below_drewN | apply below_drew1) | exact HB.out)⟩
                   ·rw [if_neg c32] at H
                    exact absurd H (by simp)
                  ·rw [if_neg c30] at H
                   exact absurd H (by simp)
                 ·rw [if_neg c28] at H
                  exact absurd H (by simp)
                ·rw [if_neg c26] at H
                 exact absurd H (by simp)
              ·rw [if_neg c23] at H
               exact absurd H (by simp)
             ·rw [if_neg c22] at H
              exact absurd H (by simp)
            ·rw [if_neg c20] at H
             have c20b0:(t206 == 0)=false:=beq_eq_false_iff_ne.mpr c20
             have c20b1:(t206 != 0)=true:=bne_iff_ne.mpr c20
             simp only [Option.some.injEq,Prod.mk.injEq] at H
             obtain ⟨rfl,rfl⟩:=H
             have p8:0≤(0:Int):=(by omega)
             have q8:0 < a0.size:=(by have:(0:Int) < (a0.size:Int):=of_decide_eq_true (by first | (with_reducible assumption) | assumption);omega)
             have hx8:∀ h:0 < a0.size,((a0[0]'h).toNat:Int)=bt a0 0:=bt_at a0 0
             clear p8
             have qi8:(0 < (a0.size:Int))=True:=eq_true (of_decide_eq_true (by first | (with_reducible assumption) | assumption))
             replace q8:=eq_true q8
             have p10:0≤(0:Int):=(by omega)
             have q10:0 < a0.size:=(by have:(0:Int) < (a0.size:Int):=of_decide_eq_true (by first | (with_reducible assumption) | assumption);omega)
             have hx10:∀ h:0 < a0.size,((a0[0]'h).toNat:Int)=bt a0 0:=bt_at a0 0
             clear p10
             have qi10:(0 < (a0.size:Int))=True:=eq_true (of_decide_eq_true (by first | (with_reducible assumption) | assumption))
             replace q10:=eq_true q10
             have p12:0≤(0:Int):=(by omega)
             have q12:0 < a0.size:=(by have:(0:Int) < (a0.size:Int):=of_decide_eq_true (by first | (with_reducible assumption) | assumption);omega)
             have hx12:∀ h:0 < a0.size,((a0[0]'h).toNat:Int)=bt a0 0:=bt_at a0 0
             clear p12
             have qi12:(0 < (a0.size:Int))=True:=eq_true (of_decide_eq_true (by first | (with_reducible assumption) | assumption))
             replace q12:=eq_true q12
             have p14:0≤(1:Int):=(by omega)
             have q14:1 < a0.size:=(by have:(1:Int) < (a0.size:Int):=of_decide_eq_true (by first | (with_reducible assumption) | assumption);omega)
             have hx14:∀ h:1 < a0.size,((a0[1]'h).toNat:Int)=bt a0 1:=bt_at a0 1
             clear p14
             have qi14:(1 < (a0.size:Int))=True:=eq_true (of_decide_eq_true (by first | (with_reducible assumption) | assumption))
             replace q14:=eq_true q14
             have p16:0≤(1:Int):=(by omega)
             have q16:1 < a0.size:=(by have:(1:Int) < (a0.size:Int):=of_decide_eq_true (by first | (with_reducible assumption) | assumption);omega)
             have hx16:∀ h:1 < a0.size,((a0[1]'h).toNat:Int)=bt a0 1:=bt_at a0 1
             clear p16
             have qi16:(1 < (a0.size:Int))=True:=eq_true (of_decide_eq_true (by first | (with_reducible assumption) | assumption))
             replace q16:=eq_true q16
             go_wp2_with (first | (go_at_call 44;(with_reducible refine (inflate_Raw.calls (a0.extract 2 a0.size) a1 t204 t205 t206 _ A19.out).mono ?_);rintro e w40 ⟨rfl,hb⟩;have n0_:=Aside0.mk (below_step (by repeat (first | (with_reducible first | exact HB.out | apply below_alloc | apply pw_below_drewN | apply below_drew1) | exact HB.out)) hb);clear HB;have HB:=n0_;clear n0_;(try clear hb);(try clear hb2);(try clear hk);(try clear hi)))
             repeat (go_quiet (first | (go_at_call 44;(with_reducible refine (inflate_Raw.calls (a0.extract 2 a0.size) a1 t204 t205 t206 _ A19.out).mono ?_);rintro e w40 ⟨rfl,hb⟩;have n0_:=Aside0.mk (below_step (by repeat (first | (with_reducible first | exact HB.out | apply below_alloc | apply pw_below_drewN | apply below_drew1) | exact HB.out)) hb);clear HB;have HB:=n0_;clear n0_;(try clear hb);(try clear hb2);(try clear hk);(try clear hi)));try go_wp2_with (first | (go_at_call 44;(with_reducible refine (inflate_Raw.calls (a0.extract 2 a0.size) a1 t204 t205 t206 _ A19.out).mono ?_);rintro e w40 ⟨rfl,hb⟩;have n0_:=Aside0.mk (below_step (by repeat (first | (with_reducible first | exact HB.out | apply below_alloc | apply pw_below_drewN | apply below_drew1) | exact HB.out)) hb);clear HB;have HB:=n0_;clear n0_;(try clear hb);(try clear hb2);(try clear hk);(try clear hi))))
             go_ret2
             exact ⟨by first | rfl | (simp [errW_none,errW_some] <;> rfl) | (simp [*,errW_none,errW_some] <;> rfl),by repeat (first | (with_reducible first | exact HB.out | apply below_alloc | apply pw_below_drewN | apply below_drew1) | exact HB.out)⟩
           ·rw [if_neg c18] at H
            exact absurd H (by simp)
          ·rw [if_neg c17] at H
           have c17b0:((Go.bits .and .u8 (bt a0 1) 32) == 0)=false:=beq_eq_false_iff_ne.mpr c17
           have c17b1:((Go.bits .and .u8 (bt a0 1) 32) != 0)=true:=bne_iff_ne.mpr c17
           simp only [Option.some.injEq,Prod.mk.injEq] at H
           obtain ⟨rfl,rfl⟩:=H
           have p8:0≤(0:Int):=(by omega)
           have q8:0 < a0.size:=(by have:(0:Int) < (a0.size:Int):=of_decide_eq_true (by first | (with_reducible assumption) | assumption);omega)
           have hx8:∀ h:0 < a0.size,((a0[0]'h).toNat:Int)=bt a0 0:=bt_at a0 0
           clear p8
           have qi8:(0 < (a0.size:Int))=True:=eq_true (of_decide_eq_true (by first | (with_reducible assumption) | assumption))
           replace q8:=eq_true q8
           have p10:0≤(0:Int):=(by omega)
           have q10:0 < a0.size:=(by have:(0:Int) < (a0.size:Int):=of_decide_eq_true (by first | (with_reducible assumption) | assumption);omega)
           have hx10:∀ h:0 < a0.size,((a0[0]'h).toNat:Int)=bt a0 0:=bt_at a0 0
           clear p10
           have qi10:(0 < (a0.size:Int))=True:=eq_true (of_decide_eq_true (by first | (with_reducible assumption) | assumption))
           replace q10:=eq_true q10
           have p12:0≤(0:Int):=(by omega)
           have q12:0 < a0.size:=(by have:(0:Int) < (a0.size:Int):=of_decide_eq_true (by first | (with_reducible assumption) | assumption);omega)
           have hx12:∀ h:0 < a0.size,((a0[0]'h).toNat:Int)=bt a0 0:=bt_at a0 0
           clear p12
           have qi12:(0 < (a0.size:Int))=True:=eq_true (of_decide_eq_true (by first | (with_reducible assumption) | assumption))
           replace q12:=eq_true q12
           have p14:0≤(1:Int):=(by omega)
           have q14:1 < a0.size:=(by have:(1:Int) < (a0.size:Int):=of_decide_eq_true (by first | (with_reducible assumption) | assumption);omega)
           have hx14:∀ h:1 < a0.size,((a0[1]'h).toNat:Int)=bt a0 1:=bt_at a0 1
           clear p14
           have qi14:(1 < (a0.size:Int))=True:=eq_true (of_decide_eq_true (by first | (with_reducible assumption) | assumption))
           replace q14:=eq_true q14
           have p16:0≤(1:Int):=(by omega)
           have q16:1 < a0.size:=(by have:(1:Int) < (a0.size:Int):=of_decide_eq_true (by first | (with_reducible assumption) | assumption);omega)
           have hx16:∀ h:1 < a0.size,((a0[1]'h).toNat:Int)=bt a0 1:=bt_at a0 1
           clear p16
           have qi16:(1 < (a0.size:Int))=True:=eq_true (of_decide_eq_true (by first | (with_reducible assumption) | assumption))
           replace q16:=eq_true q16
           go_wp2
           repeat (go_quiet (fail);try go_wp2)
           go_ret2
           exact ⟨by first | rfl | (simp [errW_none,errW_some] <;> rfl) | (simp [*,errW_none,errW_some] <;> rfl),by repeat (first | (with_reducible first | exact HB.out | apply below_alloc | apply pw_below_drewN | apply below_drew1) | exact HB.out)⟩
         ·rw [if_neg c15] at H
          have c15b0:((Int.tmod (Go.bits .or .i64 (wrap64 ((wrap64 (bt a0 0))*256)) (wrap64 (bt a0 1))) 31) == 0)=false:=beq_eq_false_iff_ne.mpr c15
          have c15b1:((Int.tmod (Go.bits .or .i64 (wrap64 ((wrap64 (bt a0 0))*256)) (wrap64 (bt a0 1))) 31) != 0)=true:=bne_iff_ne.mpr c15
          simp only [Option.some.injEq,Prod.mk.injEq] at H
          obtain ⟨rfl,rfl⟩:=H
          have p8:0≤(0:Int):=(by omega)
          have q8:0 < a0.size:=(by have:(0:Int) < (a0.size:Int):=of_decide_eq_true (by first | (with_reducible assumption) | assumption);omega)
          have hx8:∀ h:0 < a0.size,((a0[0]'h).toNat:Int)=bt a0 0:=bt_at a0 0
          clear p8
          have qi8:(0 < (a0.size:Int))=True:=eq_true (of_decide_eq_true (by first | (with_reducible assumption) | assumption))
          replace q8:=eq_true q8
          have p10:0≤(0:Int):=(by omega)
          have q10:0 < a0.size:=(by have:(0:Int) < (a0.size:Int):=of_decide_eq_true (by first | (with_reducible assumption) | assumption);omega)
          have hx10:∀ h:0 < a0.size,((a0[0]'h).toNat:Int)=bt a0 0:=bt_at a0 0
          clear p10
          have qi10:(0 < (a0.size:Int))=True:=eq_true (of_decide_eq_true (by first | (with_reducible assumption) | assumption))
          replace q10:=eq_true q10
          have p12:0≤(0:Int):=(by omega)
          have q12:0 < a0.size:=(by have:(0:Int) < (a0.size:Int):=of_decide_eq_true (by first | (with_reducible assumption) | assumption);omega)
          have hx12:∀ h:0 < a0.size,((a0[0]'h).toNat:Int)=bt a0 0:=bt_at a0 0
          clear p12
          have qi12:(0 < (a0.size:Int))=True:=eq_true (of_decide_eq_true (by first | (with_reducible assumption) | assumption))
          replace q12:=eq_true q12
          have p14:0≤(1:Int):=(by omega)
          have q14:1 < a0.size:=(by have:(1:Int) < (a0.size:Int):=of_decide_eq_true (by first | (with_reducible assumption) | assumption);omega)
          have hx14:∀ h:1 < a0.size,((a0[1]'h).toNat:Int)=bt a0 1:=bt_at a0 1
          clear p14
          have qi14:(1 < (a0.size:Int))=True:=eq_true (of_decide_eq_true (by first | (with_reducible assumption) | assumption))
          replace q14:=eq_true q14
          go_wp2
          repeat (go_quiet (fail);try go_wp2)
          go_ret2
          exact ⟨by first | rfl | (simp [errW_none,errW_some] <;> rfl) | (simp [*,errW_none,errW_some] <;> rfl),by repeat (first | (with_reducible first | exact HB.out | apply below_alloc | apply pw_below_drewN | apply below_drew1) | exact HB.out)⟩
        ·rw [if_neg c13] at H
         exact absurd H (by simp)
      ·rw [if_neg c9] at H
       have c9b0:((Go.bits .and .u8 (bt a0 0) 15) == 8)=false:=beq_eq_false_iff_ne.mpr c9
       have c9b1:((Go.bits .and .u8 (bt a0 0) 15) != 8)=true:=bne_iff_ne.mpr c9
       simp only [Option.some.injEq,Prod.mk.injEq] at H
       obtain ⟨rfl,rfl⟩:=H
       have p8:0≤(0:Int):=(by omega)
       have q8:0 < a0.size:=(by have:(0:Int) < (a0.size:Int):=of_decide_eq_true (by first | (with_reducible assumption) | assumption);omega)
       have hx8:∀ h:0 < a0.size,((a0[0]'h).toNat:Int)=bt a0 0:=bt_at a0 0
       clear p8
       have qi8:(0 < (a0.size:Int))=True:=eq_true (of_decide_eq_true (by first | (with_reducible assumption) | assumption))
       replace q8:=eq_true q8
       go_wp2
       repeat (go_quiet (fail);try go_wp2)
       go_ret2
       exact ⟨by first | rfl | (simp [errW_none,errW_some] <;> rfl) | (simp [*,errW_none,errW_some] <;> rfl),by repeat (first | (with_reducible first | exact HB.out | apply below_alloc | apply pw_below_drewN | apply below_drew1) | exact HB.out)⟩
     ·rw [if_neg c7] at H
      exact absurd H (by simp)
def celluloidlaw05_awake.f (k:Nat) :Option (Bool):=(inflate_Raw.f (⟨#[1,1,0,254,255,97]⟩:ByteArray) 9).bind fun bt208=>((inflate_Raw.f (⟨#[3,0]⟩:ByteArray) 0).bind fun bt211=>((inflate_Open.f k (⟨#[120,156,3,0,0,0,0,1]⟩:ByteArray) 9).bind fun bt214=>(if bt208.1.toList=([97]:List UInt8) then (if bt208.2.1=6 then (if bt208.2.2=0 then (if bt211.1.toList=([]:List UInt8) then (if bt211.2.1=2 then (if bt211.2.2=0 then (if bt214.1.toList=([]:List UInt8) then (some (bt214.2 == 0)) else (some false)) else (some false)) else (some false)) else (some false)) else (some false)) else (some false)) else (some false))))
theorem celluloidlaw05_awake.mono:∀ k,LeO (celluloidlaw05_awake.f k ) (celluloidlaw05_awake.f (k+1) ):=by
 intro  k
 unfold celluloidlaw05_awake.f
 repeat' first
   |(with_reducible exact inflate_Open.mono _ _ _)
   |(with_reducible exact LeO.refl _)
   |(with_reducible exact LeO.none _)
   |(with_reducible refine LeO.ite ?_ ?_)
   |(with_reducible refine LeO.bind ?_ (fun _=>?_))
   |exact inflate_Open.mono _ _ _
   |exact LeO.none _
   |refine LeO.ite ?_ ?_
   |refine LeO.bind ?_ (fun _=>?_)
set_option maxHeartbeats 8000000 in
set_option maxRecDepth 100000 in
theorem celluloidlaw05_awake.calls (k : Nat)  (r : Bool) (w : World) (h : celluloidlaw05_awake.f k  = some r) :
  Calls Try.prog 43 #[] w fun e w'=>e=.returned (.bool r)∧Below w.heap.size w w':=by
 have HB:=Aside0.mk (Below.refl w.heap.size w)
 have H:((inflate_Raw.f (⟨#[1,1,0,254,255,97]⟩:ByteArray) 9).bind fun bt208=>((inflate_Raw.f (⟨#[3,0]⟩:ByteArray) 0).bind fun bt211=>((inflate_Open.f k (⟨#[120,156,3,0,0,0,0,1]⟩:ByteArray) 9).bind fun bt214=>(if bt208.1.toList=([97]:List UInt8) then (if bt208.2.1=6 then (if bt208.2.2=0 then (if bt211.1.toList=([]:List UInt8) then (if bt211.2.1=2 then (if bt211.2.2=0 then (if bt214.1.toList=([]:List UInt8) then (some (bt214.2 == 0)) else (some false)) else (some false)) else (some false)) else (some false)) else (some false)) else (some false)) else (some false)))))=some r:=h
 clear h
 replace H:=Option.bind_eq_some_iff.mp H
 obtain ⟨⟨t208,t209,t210⟩,A10,H⟩:=H
 replace H:((inflate_Raw.f (⟨#[3,0]⟩:ByteArray) 0).bind fun bt211=>((inflate_Open.f k (⟨#[120,156,3,0,0,0,0,1]⟩:ByteArray) 9).bind fun bt214=>(if t208.toList=([97]:List UInt8) then (if t209=6 then (if t210=0 then (if bt211.1.toList=([]:List UInt8) then (if bt211.2.1=2 then (if bt211.2.2=0 then (if bt214.1.toList=([]:List UInt8) then (some (bt214.2 == 0)) else (some false)) else (some false)) else (some false)) else (some false)) else (some false)) else (some false)) else (some false))))=some r:=H
 have A1:=Aside0.mk A10
 clear A10
 replace H:=Option.bind_eq_some_iff.mp H
 obtain ⟨⟨t211,t212,t213⟩,A20,H⟩:=H
 replace H:((inflate_Open.f k (⟨#[120,156,3,0,0,0,0,1]⟩:ByteArray) 9).bind fun bt214=>(if t208.toList=([97]:List UInt8) then (if t209=6 then (if t210=0 then (if t211.toList=([]:List UInt8) then (if t212=2 then (if t213=0 then (if bt214.1.toList=([]:List UInt8) then (some (bt214.2 == 0)) else (some false)) else (some false)) else (some false)) else (some false)) else (some false)) else (some false)) else (some false)))=some r:=H
 have A2:=Aside0.mk A20
 clear A20
 replace H:=Option.bind_eq_some_iff.mp H
 obtain ⟨⟨t214,t215⟩,A30,H⟩:=H
 replace H:(if t208.toList=([97]:List UInt8) then (if t209=6 then (if t210=0 then (if t211.toList=([]:List UInt8) then (if t212=2 then (if t213=0 then (if t214.toList=([]:List UInt8) then (some (t215 == 0)) else (some false)) else (some false)) else (some false)) else (some false)) else (some false)) else (some false)) else (some false))=some r:=H
 have A3:=Aside0.mk A30
 clear A30
 by_cases c4:t208.toList=([97]:List UInt8)
 ·rw [if_pos c4] at H
  have c4b0:(t208.toList == ([97]:List UInt8))=true:=beq_iff_eq.mpr c4
  have c4b1:(t208.toList != ([97]:List UInt8))=false:=bne_eq_false_iff_eq.mpr c4
  clear c4
  by_cases c5:t209=6
  ·rw [if_pos c5] at H
   have c5b0:(t209 == 6)=true:=beq_iff_eq.mpr c5
   have c5b1:(t209 != 6)=false:=bne_eq_false_iff_eq.mpr c5
   clear c5
   by_cases c6:t210=0
   ·rw [if_pos c6] at H
    have c6b0:(t210 == 0)=true:=beq_iff_eq.mpr c6
    have c6b1:(t210 != 0)=false:=bne_eq_false_iff_eq.mpr c6
    clear c6
    by_cases c7:t211.toList=([]:List UInt8)
    ·rw [if_pos c7] at H
     have c7b0:(t211.toList == ([]:List UInt8))=true:=beq_iff_eq.mpr c7
     have c7b1:(t211.toList != ([]:List UInt8))=false:=bne_eq_false_iff_eq.mpr c7
     clear c7
     by_cases c8:t212=2
     ·rw [if_pos c8] at H
      have c8b0:(t212 == 2)=true:=beq_iff_eq.mpr c8
      have c8b1:(t212 != 2)=false:=bne_eq_false_iff_eq.mpr c8
      clear c8
      by_cases c9:t213=0
      ·rw [if_pos c9] at H
       have c9b0:(t213 == 0)=true:=beq_iff_eq.mpr c9
       have c9b1:(t213 != 0)=false:=bne_eq_false_iff_eq.mpr c9
       clear c9
       by_cases c10:t214.toList=([]:List UInt8)
       ·rw [if_pos c10] at H
        have c10b0:(t214.toList == ([]:List UInt8))=true:=beq_iff_eq.mpr c10
        have c10b1:(t214.toList != ([]:List UInt8))=false:=bne_eq_false_iff_eq.mpr c10
        clear c10
        obtain rfl:=Option.some.inj H
        go_enter Try.func43,Try.ntmps43
        go_wp2_with (first | ((with_reducible refine gate_callee (f:=44) rfl ?_);refine goesL_ (some 10) rfl rfl Try.func44 (by kernel_rfl) rfl #[.string (⟨#[1,1,0,254,255,97]⟩:ByteArray),.int .i64 9] rfl (by (try simp only [List.map_toArray,List.map_cons,List.map_nil]);first | done | rfl | (simp only [List.length_drop,List.length_take];rfl)) ?_;(with_reducible refine (inflate_Raw.calls (⟨#[1,1,0,254,255,97]⟩:ByteArray) 9 t208 t209 t210 _ A1.out).mono ?_);rintro e w11 ⟨rfl,hb⟩;refine ⟨_,rfl,?_⟩;have n0_:=Aside0.mk (below_step (by repeat (first | (with_reducible first | exact HB.out | apply below_alloc | apply pw_below_drewN | apply below_drew1) | exact HB.out)) hb);clear HB;have HB:=n0_;clear n0_;(try clear hb);(try clear hb2);(try clear hk);(try clear hi)) | ((with_reducible refine gate_callee (f:=44) rfl ?_);refine goesL_ (some 15) rfl rfl Try.func44 (by kernel_rfl) rfl #[.string (⟨#[3,0]⟩:ByteArray),.int .i64 0] rfl (by (try simp only [List.map_toArray,List.map_cons,List.map_nil]);first | done | rfl | (simp only [List.length_drop,List.length_take];rfl)) ?_;(with_reducible refine (inflate_Raw.calls (⟨#[3,0]⟩:ByteArray) 0 t211 t212 t213 _ A2.out).mono ?_);rintro e w12 ⟨rfl,hb⟩;refine ⟨_,rfl,?_⟩;have n0_:=Aside0.mk (below_step (by repeat (first | (with_reducible first | exact HB.out | apply below_alloc | apply pw_below_drewN | apply below_drew1) | exact HB.out)) hb);clear HB;have HB:=n0_;clear n0_;(try clear hb);(try clear hb2);(try clear hk);(try clear hi)) | ((with_reducible refine gate_callee (f:=46) rfl ?_);refine goesL_ (some 20) rfl rfl Try.func46 (by kernel_rfl) rfl #[.string (⟨#[120,156,3,0,0,0,0,1]⟩:ByteArray),.int .i64 9] rfl (by (try simp only [List.map_toArray,List.map_cons,List.map_nil]);first | done | rfl | (simp only [List.length_drop,List.length_take];rfl)) ?_;(with_reducible refine (inflate_Open.calls k (⟨#[120,156,3,0,0,0,0,1]⟩:ByteArray) 9 t214 t215 _ A3.out).mono ?_);rintro e w13 ⟨rfl,hb⟩;refine ⟨_,rfl,?_⟩;have n0_:=Aside0.mk (below_step (by repeat (first | (with_reducible first | exact HB.out | apply below_alloc | apply pw_below_drewN | apply below_drew1) | exact HB.out)) hb);clear HB;have HB:=n0_;clear n0_;(try clear hb);(try clear hb2);(try clear hk);(try clear hi)))
        go_ret
        exact ⟨by first | rfl | (simp [errW_none,errW_some] <;> rfl) | (simp [*,errW_none,errW_some] <;> rfl),by repeat (first | (with_reducible first | exact HB.out | apply below_alloc | apply pw_below_drewN | apply below_drew1) | exact HB.out)⟩
       ·rw [if_neg c10] at H
        have c10b0:(t214.toList == ([]:List UInt8))=false:=beq_eq_false_iff_ne.mpr c10
        have c10b1:(t214.toList != ([]:List UInt8))=true:=bne_iff_ne.mpr c10
        obtain rfl:=Option.some.inj H
        go_enter Try.func43,Try.ntmps43
        go_wp2_with (first | ((with_reducible refine gate_callee (f:=44) rfl ?_);refine goesL_ (some 10) rfl rfl Try.func44 (by kernel_rfl) rfl #[.string (⟨#[1,1,0,254,255,97]⟩:ByteArray),.int .i64 9] rfl (by (try simp only [List.map_toArray,List.map_cons,List.map_nil]);first | done | rfl | (simp only [List.length_drop,List.length_take];rfl)) ?_;(with_reducible refine (inflate_Raw.calls (⟨#[1,1,0,254,255,97]⟩:ByteArray) 9 t208 t209 t210 _ A1.out).mono ?_);rintro e w14 ⟨rfl,hb⟩;refine ⟨_,rfl,?_⟩;have n0_:=Aside0.mk (below_step (by repeat (first | (with_reducible first | exact HB.out | apply below_alloc | apply pw_below_drewN | apply below_drew1) | exact HB.out)) hb);clear HB;have HB:=n0_;clear n0_;(try clear hb);(try clear hb2);(try clear hk);(try clear hi)) | ((with_reducible refine gate_callee (f:=44) rfl ?_);refine goesL_ (some 15) rfl rfl Try.func44 (by kernel_rfl) rfl #[.string (⟨#[3,0]⟩:ByteArray),.int .i64 0] rfl (by (try simp only [List.map_toArray,List.map_cons,List.map_nil]);first | done | rfl | (simp only [List.length_drop,List.length_take];rfl)) ?_;(with_reducible refine (inflate_Raw.calls (⟨#[3,0]⟩:ByteArray) 0 t211 t212 t213 _ A2.out).mono ?_);rintro e w15 ⟨rfl,hb⟩;refine ⟨_,rfl,?_⟩;have n0_:=Aside0.mk (below_step (by repeat (first | (with_reducible first | exact HB.out | apply below_alloc | apply pw_below_drewN | apply below_drew1) | exact HB.out)) hb);clear HB;have HB:=n0_;clear n0_;(try clear hb);(try clear hb2);(try clear hk);(try clear hi)) | ((with_reducible refine gate_callee (f:=46) rfl ?_);refine goesL_ (some 20) rfl rfl Try.func46 (by kernel_rfl) rfl #[.string (⟨#[120,156,3,0,0,0,0,1]⟩:ByteArray),.int .i64 9] rfl (by (try simp only [List.map_toArray,List.map_cons,List.map_nil]);first | done | rfl | (simp only [List.length_drop,List.length_take];rfl)) ?_;(with_reducible refine (inflate_Open.calls k (⟨#[120,156,3,0,0,0,0,1]⟩:ByteArray) 9 t214 t215 _ A3.out).mono ?_);rintro e w16 ⟨rfl,hb⟩;refine ⟨_,rfl,?_⟩;have n0_:=Aside0.mk (below_step (by repeat (first | (with_reducible first | exact HB.out | apply below_alloc | apply pw_below_drewN | apply below_drew1) | exact HB.out)) hb);clear HB;have HB:=n0_;clear n0_;(try clear hb);(try clear hb2);(try clear hk);(try clear hi)))
        go_ret
        exact ⟨by first | rfl | (simp [errW_none,errW_some] <;> rfl) | (simp [*,errW_none,errW_some] <;> rfl),by repeat (first | (with_reducible first | exact HB.out | apply below_alloc | apply pw_below_drewN | apply below_drew1) | exact HB.out)⟩
      ·rw [if_neg c9] at H
       have c9b0:(t213 == 0)=false:=beq_eq_false_iff_ne.mpr c9
       have c9b1:(t213 != 0)=true:=bne_iff_ne.mpr c9
       obtain rfl:=Option.some.inj H
       go_enter Try.func43,Try.ntmps43
       go_wp2_with (first | ((with_reducible refine gate_callee (f:=44) rfl ?_);refine goesL_ (some 10) rfl rfl Try.func44 (by kernel_rfl) rfl #[.string (⟨#[1,1,0,254,255,97]⟩:ByteArray),.int .i64 9] rfl (by (try simp only [List.map_toArray,List.map_cons,List.map_nil]);first | done | rfl | (simp only [List.length_drop,List.length_take];rfl)) ?_;(with_reducible refine (inflate_Raw.calls (⟨#[1,1,0,254,255,97]⟩:ByteArray) 9 t208 t209 t210 _ A1.out).mono ?_);rintro e w17 ⟨rfl,hb⟩;refine ⟨_,rfl,?_⟩;have n0_:=Aside0.mk (below_step (by repeat (first | (with_reducible first | exact HB.out | apply below_alloc | apply pw_below_drewN | apply below_drew1) | exact HB.out)) hb);clear HB;have HB:=n0_;clear n0_;(try clear hb);(try clear hb2);(try clear hk);(try clear hi)) | ((with_reducible refine gate_callee (f:=44) rfl ?_);refine goesL_ (some 15) rfl rfl Try.func44 (by kernel_rfl) rfl #[.string (⟨#[3,0]⟩:ByteArray),.int .i64 0] rfl (by (try simp only [List.map_toArray,List.map_cons,List.map_nil]);first | done | rfl | (simp only [List.length_drop,List.length_take];rfl)) ?_;(with_reducible refine (inflate_Raw.calls (⟨#[3,0]⟩:ByteArray) 0 t211 t212 t213 _ A2.out).mono ?_);rintro e w18 ⟨rfl,hb⟩;refine ⟨_,rfl,?_⟩;have n0_:=Aside0.mk (below_step (by repeat (first | (with_reducible first | exact HB.out | apply below_alloc | apply pw_below_drewN | apply below_drew1) | exact HB.out)) hb);clear HB;have HB:=n0_;clear n0_;(try clear hb);(try clear hb2);(try clear hk);(try clear hi)) | ((with_reducible refine gate_callee (f:=46) rfl ?_);refine goesL_ (some 20) rfl rfl Try.func46 (by kernel_rfl) rfl #[.string (⟨#[120,156,3,0,0,0,0,1]⟩:ByteArray),.int .i64 9] rfl (by (try simp only [List.map_toArray,List.map_cons,List.map_nil]);first | done | rfl | (simp only [List.length_drop,List.length_take];rfl)) ?_;(with_reducible refine (inflate_Open.calls k (⟨#[120,156,3,0,0,0,0,1]⟩:ByteArray) 9 t214 t215 _ A3.out).mono ?_);rintro e w19 ⟨rfl,hb⟩;refine ⟨_,rfl,?_⟩;have n0_:=Aside0.mk (below_step (by repeat (first | (with_reducible first | exact HB.out | apply below_alloc | apply pw_below_drewN | apply below_drew1) | exact HB.out)) hb);clear HB;have HB:=n0_;clear n0_;(try clear hb);(try clear hb2);(try clear hk);(try clear hi)))
       go_ret
       exact ⟨by first | rfl | (simp [errW_none,errW_some] <;> rfl) | (simp [*,errW_none,errW_some] <;> rfl),by repeat (first | (with_reducible first | exact HB.out | apply below_alloc | apply pw_below_drewN | apply below_drew1) | exact HB.out)⟩
     ·rw [if_neg c8] at H
      have c8b0:(t212 == 2)=false:=beq_eq_false_iff_ne.mpr c8
      have c8b1:(t212 != 2)=true:=bne_iff_ne.mpr c8
      obtain rfl:=Option.some.inj H
      go_enter Try.func43,Try.ntmps43
      go_wp2_with (first | ((with_reducible refine gate_callee (f:=44) rfl ?_);refine goesL_ (some 10) rfl rfl Try.func44 (by kernel_rfl) rfl #[.string (⟨#[1,1,0,254,255,97]⟩:ByteArray),.int .i64 9] rfl (by (try simp only [List.map_toArray,List.map_cons,List.map_nil]);first | done | rfl | (simp only [List.length_drop,List.length_take];rfl)) ?_;(with_reducible refine (inflate_Raw.calls (⟨#[1,1,0,254,255,97]⟩:ByteArray) 9 t208 t209 t210 _ A1.out).mono ?_);rintro e w20 ⟨rfl,hb⟩;refine ⟨_,rfl,?_⟩;have n0_:=Aside0.mk (below_step (by repeat (first | (with_reducible first | exact HB.out | apply below_alloc | apply pw_below_drewN | apply below_drew1) | exact HB.out)) hb);clear HB;have HB:=n0_;clear n0_;(try clear hb);(try clear hb2);(try clear hk);(try clear hi)) | ((with_reducible refine gate_callee (f:=44) rfl ?_);refine goesL_ (some 15) rfl rfl Try.func44 (by kernel_rfl) rfl #[.string (⟨#[3,0]⟩:ByteArray),.int .i64 0] rfl (by (try simp only [List.map_toArray,List.map_cons,List.map_nil]);first | done | rfl | (simp only [List.length_drop,List.length_take];rfl)) ?_;(with_reducible refine (inflate_Raw.calls (⟨#[3,0]⟩:ByteArray) 0 t211 t212 t213 _ A2.out).mono ?_);rintro e w21 ⟨rfl,hb⟩;refine ⟨_,rfl,?_⟩;have n0_:=Aside0.mk (below_step (by repeat (first | (with_reducible first | exact HB.out | apply below_alloc | apply pw_below_drewN | apply below_drew1) | exact HB.out)) hb);clear HB;have HB:=n0_;clear n0_;(try clear hb);(try clear hb2);(try clear hk);(try clear hi)) | ((with_reducible refine gate_callee (f:=46) rfl ?_);refine goesL_ (some 20) rfl rfl Try.func46 (by kernel_rfl) rfl #[.string (⟨#[120,156,3,0,0,0,0,1]⟩:ByteArray),.int .i64 9] rfl (by (try simp only [List.map_toArray,List.map_cons,List.map_nil]);first | done | rfl | (simp only [List.length_drop,List.length_take];rfl)) ?_;(with_reducible refine (inflate_Open.calls k (⟨#[120,156,3,0,0,0,0,1]⟩:ByteArray) 9 t214 t215 _ A3.out).mono ?_);rintro e w22 ⟨rfl,hb⟩;refine ⟨_,rfl,?_⟩;have n0_:=Aside0.mk (below_step (by repeat (first | (with_reducible first | exact HB.out | apply below_alloc | apply pw_below_drewN | apply below_drew1) | exact HB.out)) hb);clear HB;have HB:=n0_;clear n0_;(try clear hb);(try clear hb2);(try clear hk);(try clear hi)))
      go_ret
      exact ⟨by first | rfl | (simp [errW_none,errW_some] <;> rfl) | (simp [*,errW_none,errW_some] <;> rfl),by repeat (first | (with_reducible first | exact HB.out | apply below_alloc | apply pw_below_drewN | apply below_drew1) | exact HB.out)⟩
    ·rw [if_neg c7] at H
     have c7b0:(t211.toList == ([]:List UInt8))=false:=beq_eq_false_iff_ne.mpr c7
     have c7b1:(t211.toList != ([]:List UInt8))=true:=bne_iff_ne.mpr c7
     obtain rfl:=Option.some.inj H
     go_enter Try.func43,Try.ntmps43
     go_wp2_with (first | ((with_reducible refine gate_callee (f:=44) rfl ?_);refine goesL_ (some 10) rfl rfl Try.func44 (by kernel_rfl) rfl #[.string (⟨#[1,1,0,254,255,97]⟩:ByteArray),.int .i64 9] rfl (by (try simp only [List.map_toArray,List.map_cons,List.map_nil]);first | done | rfl | (simp only [List.length_drop,List.length_take];rfl)) ?_;(with_reducible refine (inflate_Raw.calls (⟨#[1,1,0,254,255,97]⟩:ByteArray) 9 t208 t209 t210 _ A1.out).mono ?_);rintro e w23 ⟨rfl,hb⟩;refine ⟨_,rfl,?_⟩;have n0_:=Aside0.mk (below_step (by repeat (first | (with_reducible first | exact HB.out | apply below_alloc | apply pw_below_drewN | apply below_drew1) | exact HB.out)) hb);clear HB;have HB:=n0_;clear n0_;(try clear hb);(try clear hb2);(try clear hk);(try clear hi)) | ((with_reducible refine gate_callee (f:=44) rfl ?_);refine goesL_ (some 15) rfl rfl Try.func44 (by kernel_rfl) rfl #[.string (⟨#[3,0]⟩:ByteArray),.int .i64 0] rfl (by (try simp only [List.map_toArray,List.map_cons,List.map_nil]);first | done | rfl | (simp only [List.length_drop,List.length_take];rfl)) ?_;(with_reducible refine (inflate_Raw.calls (⟨#[3,0]⟩:ByteArray) 0 t211 t212 t213 _ A2.out).mono ?_);rintro e w24 ⟨rfl,hb⟩;refine ⟨_,rfl,?_⟩;have n0_:=Aside0.mk (below_step (by repeat (first | (with_reducible first | exact HB.out | apply below_alloc | apply pw_below_drewN | apply below_drew1) | exact HB.out)) hb);clear HB;have HB:=n0_;clear n0_;(try clear hb);(try clear hb2);(try clear hk);(try clear hi)) | ((with_reducible refine gate_callee (f:=46) rfl ?_);refine goesL_ (some 20) rfl rfl Try.func46 (by kernel_rfl) rfl #[.string (⟨#[120,156,3,0,0,0,0,1]⟩:ByteArray),.int .i64 9] rfl (by (try simp only [List.map_toArray,List.map_cons,List.map_nil]);first | done | rfl | (simp only [List.length_drop,List.length_take];rfl)) ?_;(with_reducible refine (inflate_Open.calls k (⟨#[120,156,3,0,0,0,0,1]⟩:ByteArray) 9 t214 t215 _ A3.out).mono ?_);rintro e w25 ⟨rfl,hb⟩;refine ⟨_,rfl,?_⟩;have n0_:=Aside0.mk (below_step (by repeat (first | (with_reducible first | exact HB.out | apply below_alloc | apply pw_below_drewN | apply below_drew1) | exact HB.out)) hb);clear HB;have HB:=n0_;clear n0_;(try clear hb);(try clear hb2);(try clear hk);(try clear hi)))
     go_ret
     exact ⟨by first | rfl | (simp [errW_none,errW_some] <;> rfl) | (simp [*,errW_none,errW_some] <;> rfl),by repeat (first | (with_reducible first | exact HB.out | apply below_alloc | apply pw_below_drewN | apply below_drew1) | exact HB.out)⟩
   ·rw [if_neg c6] at H
    have c6b0:(t210 == 0)=false:=beq_eq_false_iff_ne.mpr c6
    have c6b1:(t210 != 0)=true:=bne_iff_ne.mpr c6
    obtain rfl:=Option.some.inj H
    go_enter Try.func43,Try.ntmps43
    go_wp2_with (first | ((with_reducible refine gate_callee (f:=44) rfl ?_);refine goesL_ (some 10) rfl rfl Try.func44 (by kernel_rfl) rfl #[.string (⟨#[1,1,0,254,255,97]⟩:ByteArray),.int .i64 9] rfl (by (try simp only [List.map_toArray,List.map_cons,List.map_nil]);first | done | rfl | (simp only [List.length_drop,List.length_take];rfl)) ?_;(with_reducible refine (inflate_Raw.calls (⟨#[1,1,0,254,255,97]⟩:ByteArray) 9 t208 t209 t210 _ A1.out).mono ?_);rintro e w26 ⟨rfl,hb⟩;refine ⟨_,rfl,?_⟩;have n0_:=Aside0.mk (below_step (by repeat (first | (with_reducible first | exact HB.out | apply below_alloc | apply pw_below_drewN | apply below_drew1) | exact HB.out)) hb);clear HB;have HB:=n0_;clear n0_;(try clear hb);(try clear hb2);(try clear hk);(try clear hi)) | ((with_reducible refine gate_callee (f:=44) rfl ?_);refine goesL_ (some 15) rfl rfl Try.func44 (by kernel_rfl) rfl #[.string (⟨#[3,0]⟩:ByteArray),.int .i64 0] rfl (by (try simp only [List.map_toArray,List.map_cons,List.map_nil]);first | done | rfl | (simp only [List.length_drop,List.length_take];rfl)) ?_;(with_reducible refine (inflate_Raw.calls (⟨#[3,0]⟩:ByteArray) 0 t211 t212 t213 _ A2.out).mono ?_);rintro e w27 ⟨rfl,hb⟩;refine ⟨_,rfl,?_⟩;have n0_:=Aside0.mk (below_step (by repeat (first | (with_reducible first | exact HB.out | apply below_alloc | apply pw_below_drewN | apply below_drew1) | exact HB.out)) hb);clear HB;have HB:=n0_;clear n0_;(try clear hb);(try clear hb2);(try clear hk);(try clear hi)) | ((with_reducible refine gate_callee (f:=46) rfl ?_);refine goesL_ (some 20) rfl rfl Try.func46 (by kernel_rfl) rfl #[.string (⟨#[120,156,3,0,0,0,0,1]⟩:ByteArray),.int .i64 9] rfl (by (try simp only [List.map_toArray,List.map_cons,List.map_nil]);first | done | rfl | (simp only [List.length_drop,List.length_take];rfl)) ?_;(with_reducible refine (inflate_Open.calls k (⟨#[120,156,3,0,0,0,0,1]⟩:ByteArray) 9 t214 t215 _ A3.out).mono ?_);rintro e w28 ⟨rfl,hb⟩;refine ⟨_,rfl,?_⟩;have n0_:=Aside0.mk (below_step (by repeat (first | (with_reducible first | exact HB.out | apply below_alloc | apply pw_below_drewN | apply below_drew1) | exact HB.out)) hb);clear HB;have HB:=n0_;clear n0_;(try clear hb);(try clear hb2);(try clear hk);(try clear hi)))
    go_ret
    exact ⟨by first | rfl | (simp [errW_none,errW_some] <;> rfl) | (simp [*,errW_none,errW_some] <;> rfl),by repeat (first | (with_reducible first | exact HB.out | apply below_alloc | apply pw_below_drewN | apply below_drew1) | exact HB.out)⟩
  ·rw [if_neg c5] at H
   have c5b0:(t209 == 6)=false:=beq_eq_false_iff_ne.mpr c5
   have c5b1:(t209 != 6)=true:=bne_iff_ne.mpr c5
   obtain rfl:=Option.some.inj H
   go_enter Try.func43,Try.ntmps43
   go_wp2_with (first | ((with_reducible refine gate_callee (f:=44) rfl ?_);refine goesL_ (some 10) rfl rfl Try.func44 (by kernel_rfl) rfl #[.string (⟨#[1,1,0,254,255,97]⟩:ByteArray),.int .i64 9] rfl (by (try simp only [List.map_toArray,List.map_cons,List.map_nil]);first | done | rfl | (simp only [List.length_drop,List.length_take];rfl)) ?_;(with_reducible refine (inflate_Raw.calls (⟨#[1,1,0,254,255,97]⟩:ByteArray) 9 t208 t209 t210 _ A1.out).mono ?_);rintro e w29 ⟨rfl,hb⟩;refine ⟨_,rfl,?_⟩;have n0_:=Aside0.mk (below_step (by repeat (first | (with_reducible first | exact HB.out | apply below_alloc | apply pw_below_drewN | apply below_drew1) | exact HB.out)) hb);clear HB;have HB:=n0_;clear n0_;(try clear hb);(try clear hb2);(try clear hk);(try clear hi)) | ((with_reducible refine gate_callee (f:=44) rfl ?_);refine goesL_ (some 15) rfl rfl Try.func44 (by kernel_rfl) rfl #[.string (⟨#[3,0]⟩:ByteArray),.int .i64 0] rfl (by (try simp only [List.map_toArray,List.map_cons,List.map_nil]);first | done | rfl | (simp only [List.length_drop,List.length_take];rfl)) ?_;(with_reducible refine (inflate_Raw.calls (⟨#[3,0]⟩:ByteArray) 0 t211 t212 t213 _ A2.out).mono ?_);rintro e w30 ⟨rfl,hb⟩;refine ⟨_,rfl,?_⟩;have n0_:=Aside0.mk (below_step (by repeat (first | (with_reducible first | exact HB.out | apply below_alloc | apply pw_below_drewN | apply below_drew1) | exact HB.out)) hb);clear HB;have HB:=n0_;clear n0_;(try clear hb);(try clear hb2);(try clear hk);(try clear hi)) | ((with_reducible refine gate_callee (f:=46) rfl ?_);refine goesL_ (some 20) rfl rfl Try.func46 (by kernel_rfl) rfl #[.string (⟨#[120,156,3,0,0,0,0,1]⟩:ByteArray),.int .i64 9] rfl (by (try simp only [List.map_toArray,List.map_cons,List.map_nil]);first | done | rfl | (simp only [List.length_drop,List.length_take];rfl)) ?_;(with_reducible refine (inflate_Open.calls k (⟨#[120,156,3,0,0,0,0,1]⟩:ByteArray) 9 t214 t215 _ A3.out).mono ?_);rintro e w31 ⟨rfl,hb⟩;refine ⟨_,rfl,?_⟩;have n0_:=Aside0.mk (below_step (by repeat (first | (with_reducible first | exact HB.out | apply below_alloc | apply pw_below_drewN | apply below_drew1) | exact HB.out)) hb);clear HB;have HB:=n0_;clear n0_;(try clear hb);(try clear hb2);(try clear hk);(try clear hi)))
   go_ret
   exact ⟨by first | rfl | (simp [errW_none,errW_some] <;> rfl) | (simp [*,errW_none,errW_some] <;> rfl),by repeat (first | (with_reducible first | exact HB.out | apply below_alloc | apply pw_below_drewN | apply below_drew1) | exact HB.out)⟩
 ·rw [if_neg c4] at H
  have c4b0:(t208.toList == ([97]:List UInt8))=false:=beq_eq_false_iff_ne.mpr c4
  have c4b1:(t208.toList != ([97]:List UInt8))=true:=bne_iff_ne.mpr c4
  obtain rfl:=Option.some.inj H
  go_enter Try.func43,Try.ntmps43
  go_wp2_with (first | ((with_reducible refine gate_callee (f:=44) rfl ?_);refine goesL_ (some 10) rfl rfl Try.func44 (by kernel_rfl) rfl #[.string (⟨#[1,1,0,254,255,97]⟩:ByteArray),.int .i64 9] rfl (by (try simp only [List.map_toArray,List.map_cons,List.map_nil]);first | done | rfl | (simp only [List.length_drop,List.length_take];rfl)) ?_;(with_reducible refine (inflate_Raw.calls (⟨#[1,1,0,254,255,97]⟩:ByteArray) 9 t208 t209 t210 _ A1.out).mono ?_);rintro e w32 ⟨rfl,hb⟩;refine ⟨_,rfl,?_⟩;have n0_:=Aside0.mk (below_step (by repeat (first | (with_reducible first | exact HB.out | apply below_alloc | apply pw_below_drewN | apply below_drew1) | exact HB.out)) hb);clear HB;have HB:=n0_;clear n0_;(try clear hb);(try clear hb2);(try clear hk);(try clear hi)) | ((with_reducible refine gate_callee (f:=44) rfl ?_);refine goesL_ (some 15) rfl rfl Try.func44 (by kernel_rfl) rfl #[.string (⟨#[3,0]⟩:ByteArray),.int .i64 0] rfl (by (try simp only [List.map_toArray,List.map_cons,List.map_nil]);first | done | rfl | (simp only [List.length_drop,List.length_take];rfl)) ?_;(with_reducible refine (inflate_Raw.calls (⟨#[3,0]⟩:ByteArray) 0 t211 t212 t213 _ A2.out).mono ?_);rintro e w33 ⟨rfl,hb⟩;refine ⟨_,rfl,?_⟩;have n0_:=Aside0.mk (below_step (by repeat (first | (with_reducible first | exact HB.out | apply below_alloc | apply pw_below_drewN | apply below_drew1) | exact HB.out)) hb);clear HB;have HB:=n0_;clear n0_;(try clear hb);(try clear hb2);(try clear hk);(try clear hi)) | ((with_reducible refine gate_callee (f:=46) rfl ?_);refine goesL_ (some 20) rfl rfl Try.func46 (by kernel_rfl) rfl #[.string (⟨#[120,156,3,0,0,0,0,1]⟩:ByteArray),.int .i64 9] rfl (by (try simp only [List.map_toArray,List.map_cons,List.map_nil]);first | done | rfl | (simp only [List.length_drop,List.length_take];rfl)) ?_;(with_reducible refine (inflate_Open.calls k (⟨#[120,156,3,0,0,0,0,1]⟩:ByteArray) 9 t214 t215 _ A3.out).mono ?_);rintro e w34 ⟨rfl,hb⟩;refine ⟨_,rfl,?_⟩;have n0_:=Aside0.mk (below_step (by repeat (first | (with_reducible first | exact HB.out | apply below_alloc | apply pw_below_drewN | apply below_drew1) | exact HB.out)) hb);clear HB;have HB:=n0_;clear n0_;(try clear hb);(try clear hb2);(try clear hk);(try clear hi)))
  go_ret
  exact ⟨by first | rfl | (simp [errW_none,errW_some] <;> rfl) | (simp [*,errW_none,errW_some] <;> rfl),by repeat (first | (with_reducible first | exact HB.out | apply below_alloc | apply pw_below_drewN | apply below_drew1) | exact HB.out)⟩
end Go.Proofs.Ytpbhkdamkbopkaa.GEnds
namespace Go.Proofs.Ytpbhkdamkbopkaa.GOpn
open Go.RowKit Go.Proofs.YtpbhkdamkbopkaaW.PrintWords Go.Proofs.YtpbhkdamkbopkaaW.PrintLast Go.Proofs.YtpbhkdamkbopkaaW.PrintMore Go.Proofs.Ytpbhkdamkbopkaa.HuM Go.Proofs.Ytpbhkdamkbopkaa.GInfr Go.Proofs.Ytpbhkdamkbopkaa.Wr2 Go.Proofs.Ytpbhkdamkbopkaa.GEnds
attribute [local go_sem] max2_int min2_int max_two min_two max_three min_three max_four min_four
set_option linter.unusedVariables false
set_option linter.unusedSimpArgs false
def errW:Option Int → Value
 |none=>.nilIface
 |some c=>.iface 0 (.int .i64 c)
theorem errW_none:errW none=.nilIface:=rfl
theorem errW_some (c:Int):errW (some c)=.iface 0 (.int .i64 c):=rfl
end Go.Proofs.Ytpbhkdamkbopkaa.GOpn
namespace Go.Proofs.Ytpbhkdamkbopkaa.GOpn
open Go.Proofs.Ytpbhkdamkbopkaa.Sq
open Go.RowKit Go.Proofs.YtpbhkdamkbopkaaW.PrintWords Go.Proofs.YtpbhkdamkbopkaaW.PrintLast Go.Proofs.YtpbhkdamkbopkaaW.PrintMore Go.Proofs.Ytpbhkdamkbopkaa.HuM Go.Proofs.Ytpbhkdamkbopkaa.GInfr Go.Proofs.Ytpbhkdamkbopkaa.Wr2 Go.Proofs.Ytpbhkdamkbopkaa.GEnds
attribute [local go_sem] max2_int min2_int max_two min_two max_three min_three max_four min_four
set_option linter.unusedVariables false
set_option linter.unusedSimpArgs false
def celluloidref03_low.f (a0:Int):Option (Int):=some ((((a0) % 4294967296) % 65536) % 65521)
set_option maxHeartbeats 8000000 in
set_option maxRecDepth 100000 in
theorem celluloidref03_low.calls (a0 : Int) (r : Int) (w : World) (h : celluloidref03_low.f a0 = some r) :
  Calls Try.prog 107 #[.int .i64 a0] w fun e w'=>e=.returned (.int .i64 r)∧Drawn0 w w':=by
 have H:(some ((((a0) % 4294967296) % 65536) % 65521))=some r:=h
 clear h
 obtain rfl:=Option.some.inj H
 go_enter Try.func107,Try.ntmps107
 go_wp2
 go_ret
 exact ⟨by first | rfl | (simp;done) | (simp [*];done),by repeat (first | exact Drawn0.refl _ | apply Drawn0.step)⟩
def celluloidref03_high.f (a0:Int):Option (Int):=some ((((a0) % 4294967296) / 65536) % 65521)
set_option maxHeartbeats 8000000 in
set_option maxRecDepth 100000 in
theorem celluloidref03_high.calls (a0 : Int) (r : Int) (w : World) (h : celluloidref03_high.f a0 = some r) :
  Calls Try.prog 108 #[.int .i64 a0] w fun e w'=>e=.returned (.int .i64 r)∧Drawn0 w w':=by
 have H:(some ((((a0) % 4294967296) / 65536) % 65521))=some r:=h
 clear h
 obtain rfl:=Option.some.inj H
 go_enter Try.func108,Try.ntmps108
 go_wp2
 go_ret
 exact ⟨by first | rfl | (simp;done) | (simp [*];done),by repeat (first | exact Drawn0.refl _ | apply Drawn0.step)⟩
def celluloidref03_More.l0:Nat → ByteArray → Int → Int → Int → Int → Option (Int)
 |0,_,_,_,_,_=>none
 |k+1,x1,x5,x6,x7,x8=>if x8 < x7 then (if 0≤x8 then (if x8 < (x1.size:Int) then (celluloidref03_More.l0 k x1 (wrap64 (x5+(wrap64 (bt x1 x8)))) (Int.tmod (wrap64 (x6+(wrap64 ((wrap64 (bt x1 x8))*(wrap64 (x7 - x8)))))) 65521) x7 (wrap64 (x8+1))) else (none)) else (none)) else (some (wrap64 ((wrap64 ((Int.tmod x6 65521)*65536))+(Int.tmod x5 65521))))
def celluloidref03_More.f (k:Nat) (a0:Int) (a1:ByteArray):Option (Int):=(celluloidref03_low.f a0).bind fun t201=>((celluloidref03_high.f a0).bind fun t202=>(celluloidref03_More.l0 k a1 t201 (wrap64 (t202+(wrap64 (((a1.size:Int) % 65521)*t201)))) (a1.size:Int) 0))
set_option maxHeartbeats 8000000 in
set_option maxRecDepth 100000 in
theorem celluloidref03_More.calls (k : Nat) (a0 : Int) (a1 : ByteArray) (r : Int) (w : World) (h : celluloidref03_More.f k a0 a1 = some r) :
  Calls Try.prog 93 #[.int .i64 a0,.string a1] w fun e w'=>e=.returned (.int .i64 r)∧Drawn0 w w':=by
 have H:((celluloidref03_low.f a0).bind fun t201=>((celluloidref03_high.f a0).bind fun t202=>(celluloidref03_More.l0 k a1 t201 (wrap64 (t202+(wrap64 (((a1.size:Int) % 65521)*t201)))) (a1.size:Int) 0)))=some r:=h
 clear h
 replace H:=Option.bind_eq_some_iff.mp H
 obtain ⟨t201,A30,H⟩:=H
 replace H:((celluloidref03_high.f a0).bind fun t202=>(celluloidref03_More.l0 k a1 t201 (wrap64 (t202+(wrap64 (((a1.size:Int) % 65521)*t201)))) (a1.size:Int) 0))=some r:=H
 have A3:=Aside0.mk A30
 clear A30
 replace H:=Option.bind_eq_some_iff.mp H
 obtain ⟨t202,A40,H⟩:=H
 replace H:(celluloidref03_More.l0 k a1 t201 (wrap64 (t202+(wrap64 (((a1.size:Int) % 65521)*t201)))) (a1.size:Int) 0)=some r:=H
 have A4:=Aside0.mk A40
 clear A40
 have H':=Aside0.mk H
 clear H
 go_enter Try.func93,Try.ntmps93
 go_wp2_with (first | ((with_reducible refine gate_callee (f:=107) rfl ?_);refine goesQ (some 10) Try.func107 #[.int .i64 a0] ?_;(with_reducible refine (celluloidref03_low.calls a0 t201 _ A3.out).mono ?_);rintro e w' ⟨rfl,⟨nd,rfl⟩⟩;refine ⟨_,rfl,?_⟩) | ((with_reducible refine gate_callee (f:=108) rfl ?_);refine goesQ (some 12) Try.func108 #[.int .i64 a0] ?_;(with_reducible refine (celluloidref03_high.calls a0 t202 _ A4.out).mono ?_);rintro e w' ⟨rfl,⟨nd,rfl⟩⟩;refine ⟨_,rfl,?_⟩))
 go_loopg [5,6,8] k (fun kq v5 v6 v8 w'=>∃ (x5_1:Int) (x6_1:Int) (x8_1:Int),v5=.int .i64 x5_1∧v6=.int .i64 x6_1∧v8=.int .i64 x8_1∧Aside0 (celluloidref03_More.l0 kq a1 x5_1 x6_1 (a1.size:Int) x8_1=some r)∧Aside0 (kq≤k)∧Drawn0 w w')
 case atStart=>exact ⟨(t201),(wrap64 (t202+(wrap64 (((a1.size:Int) % 65521)*t201)))),(0),(by first | rfl | (simp;done) | (simp [*];done)),(by first | rfl | (simp;done) | (simp [*];done)),(by first | rfl | (simp;done) | (simp [*];done)),H',⟨Nat.le_refl _⟩,by repeat (first | exact Drawn0.refl _ | apply Drawn0.step)⟩
 case round =>
  clear H'
  obtain ⟨x5_1,x6_1,x8_1,rfl,rfl,rfl,HA,HK1,⟨m1,rfl⟩⟩:=hrel
  cases gk with
  |zero=>exact absurd HA.out (by simp [celluloidref03_More.l0])
  |succ k1 =>
   have H:=HA.out
   clear HA
   simp only [celluloidref03_More.l0] at H
   by_cases c5:x8_1 < (a1.size:Int)
   ·rw [if_pos c5] at H
    have c5b0:decide (x8_1 < (a1.size:Int))=true:=decide_eq_true c5
    clear c5
    by_cases c6:0≤x8_1
    ·rw [if_pos c6] at H
     have c6b0:decide (0≤x8_1)=true:=decide_eq_true c6
     clear c6
     by_cases c7:x8_1 < (a1.size:Int)
     ·rw [if_pos c7] at H
      have c7b0:decide (x8_1 < (a1.size:Int))=true:=decide_eq_true c7
      clear c7
      have H':=Aside0.mk H
      clear H
      have p8:0≤(x8_1:Int):=of_decide_eq_true (by first | (with_reducible assumption) | assumption)
      have q8:x8_1 < (a1.size:Int):=of_decide_eq_true (by first | (with_reducible assumption) | assumption)
      have hx8:=bt_at a1 x8_1
      replace p8:=eq_true p8
      replace q8:=eq_true q8
      have p9:0≤(x8_1:Int):=of_decide_eq_true (by first | (with_reducible assumption) | assumption)
      have q9:x8_1 < (a1.size:Int):=of_decide_eq_true (by first | (with_reducible assumption) | assumption)
      have hx9:=bt_at a1 x8_1
      replace p9:=eq_true p9
      replace q9:=eq_true q9
      go_wp2
      go_roundg k1
      case measure=>have:=HK1.out;omega
      case rel=>exact ⟨(wrap64 (x5_1+(wrap64 (bt a1 x8_1)))),(Int.tmod (wrap64 (x6_1+(wrap64 ((wrap64 (bt a1 x8_1))*(wrap64 ((a1.size:Int) - x8_1)))))) 65521),(wrap64 (x8_1+1)),(by first | rfl | (simp;done) | (simp [*];done)),(by first | rfl | (simp;done) | (simp [*];done)),(by first | rfl | (simp;done) | (simp [*];done)),H',⟨by have:=HK1.out;omega⟩,by repeat (first | exact Drawn0.refl _ | apply Drawn0.step)⟩
     ·rw [if_neg c7] at H
      exact absurd H (by simp)
    ·rw [if_neg c6] at H
     exact absurd H (by simp)
   ·rw [if_neg c5] at H
    have c5b0:decide (x8_1 < (a1.size:Int))=false:=decide_eq_false c5
    clear c5
    obtain rfl:=Option.some.inj H
    go_wp2
    go_ret
    exact ⟨by first | rfl | (simp;done) | (simp [*];done),by repeat (first | exact Drawn0.refl _ | apply Drawn0.step)⟩
def celluloidref03_Sum.f (k:Nat) (a0:ByteArray):Option (Int):=(celluloidref03_More.f k 1 a0).bind fun t203=>(some t203)
set_option maxHeartbeats 8000000 in
set_option maxRecDepth 100000 in
theorem celluloidref03_Sum.calls (k : Nat) (a0 : ByteArray) (r : Int) (w : World) (h : celluloidref03_Sum.f k a0 = some r) :
  Calls Try.prog 71 #[.string a0] w fun e w'=>e=.returned (.int .i64 r)∧Drawn0 w w':=by
 have H:((celluloidref03_More.f k 1 a0).bind fun t203=>(some t203))=some r:=h
 clear h
 replace H:=Option.bind_eq_some_iff.mp H
 obtain ⟨t203,A20,H⟩:=H
 replace H:(some t203)=some r:=H
 have A2:=Aside0.mk A20
 clear A20
 obtain rfl:=Option.some.inj H
 go_enter Try.func71,Try.ntmps71
 go_wp2_with (first | ((with_reducible refine gate_callee (f:=93) rfl ?_);refine goesQ (some 4) Try.func93 #[.int .i64 1,.string a0] ?_;(with_reducible refine (celluloidref03_More.calls k 1 a0 t203 _ A2.out).mono ?_);rintro e w' ⟨rfl,⟨nd,rfl⟩⟩;refine ⟨_,rfl,?_⟩))
 go_ret
 exact ⟨by first | rfl | (simp;done) | (simp [*];done),by repeat (first | exact Drawn0.refl _ | apply Drawn0.step)⟩
mutual
def celluloidref05_Open.j0:Nat → ByteArray → Int → Bool → Option (ByteArray × Int)
 |0,_,_,_=>none
 |k+1,x0,x1,x19=>if x19=true then (some ((⟨#[]⟩:ByteArray),1)) else (if (x0.size:Int) < 2 then (some ((⟨#[]⟩:ByteArray),2)) else (if 0 < (x0.size:Int) then (if 1 < (x0.size:Int) then (if (Int.tmod (wrap64 (bt x0 0)) 16)=8 then (if (wrap64 (Int.tdiv (wrap64 (bt x0 0)) 16)) > 7 then (celluloidref05_Open.j1 k x0 x1 true) else (if (Int.tmod (wrap64 ((wrap64 (256*(wrap64 (bt x0 0))))+(wrap64 (bt x0 1)))) 31)=0 then (celluloidref05_Open.j1 k x0 x1 ((Int.tmod (wrap64 (Int.tdiv (wrap64 (bt x0 1)) 32)) 2) == 1)) else (celluloidref05_Open.j1 k x0 x1 true))) else (celluloidref05_Open.j1 k x0 x1 true)) else (none)) else (none)))
def celluloidref05_Open.j1:Nat → ByteArray → Int → Bool → Option (ByteArray × Int)
 |0,_,_,_=>none
 |k+1,x0,x1,x50=>if x50=true then (some ((⟨#[]⟩:ByteArray),3)) else (if 2≤(x0.size:Int) then ((celluloidref05_Raw.f k (x0.extract 2 x0.size) x1).bind fun bt204=>(if bt204.2.2=0 then (if 0≤(wrap64 (2+bt204.2.1)) then (if (wrap64 (2+bt204.2.1))≤(x0.size:Int) then (if ((x0.extract ((wrap64 (2+bt204.2.1)):Int).toNat x0.size).size:Int) < 4 then (some ((⟨#[]⟩:ByteArray),2)) else (celluloidref05_Open.l0 k bt204.1 (x0.extract ((wrap64 (2+bt204.2.1)):Int).toNat x0.size) 0 0)) else (none)) else (none)) else (some ((⟨#[]⟩:ByteArray),bt204.2.2)))) else (none))
def celluloidref05_Open.l0:Nat → ByteArray → ByteArray → Int → Int → Option (ByteArray × Int)
 |0,_,_,_,_=>none
 |k+1,x8,x11,x12,x13=>if x13 < 4 then (if 0≤x13 then (if x13 < (x11.size:Int) then (celluloidref05_Open.l0 k x8 x11 (wrap64 ((wrap64 (256*x12))+(wrap64 (bt x11 x13)))) (wrap64 (x13+1))) else (none)) else (none)) else ((celluloidref03_Sum.f k x8).bind fun t207=>(if x12=t207 then (if (x11.size:Int) > 4 then (some ((⟨#[]⟩:ByteArray),3)) else (some (x8,0))) else (some ((⟨#[]⟩:ByteArray),5))))
end
def celluloidref05_Open.f (k:Nat) (a0:ByteArray) (a1:Int):Option (ByteArray × Int):=if a1 < 0 then (celluloidref05_Open.j0 k a0 a1 true) else (celluloidref05_Open.j0 k a0 a1 (decide (a1 > 262144)))
set_option maxHeartbeats 8000000 in
set_option maxRecDepth 100000 in
theorem celluloidref05_Open.calls (k : Nat) (a0 : ByteArray) (a1 : Int) (r1 : ByteArray) (r2 : Int) (w : World) (h : celluloidref05_Open.f k a0 a1 = some (r1, r2)) :
  Calls Try.prog 47 #[.string a0,.int .i64 a1] w fun e w'=>e=.returned (.tuple #[.string r1,.int .i64 r2])∧Below w.heap.size w w':=by
 have HB:=Aside0.mk (Below.refl w.heap.size w)
 have H:(if a1 < 0 then (celluloidref05_Open.j0 k a0 a1 true) else (celluloidref05_Open.j0 k a0 a1 (decide (a1 > 262144))))=some (r1,r2):=h
 clear h
 have HC3:=Aside0.mk H
 clear H
 go_enter Try.func47,Try.ntmps47
 go_upto_region 1 with (fail)
 repeat (go_quiet (fail);go_upto_region 1 with (fail))
 go_cut [19] (fun v19 wc=>∃ (kq:Nat) (x19_2:Bool),v19=.bool x19_2∧Aside0 (celluloidref05_Open.j0 kq a0 a1 x19_2=some (r1,r2))∧Aside0 (kq≤k)∧Aside0 (Below w.heap.size w wc))
 case first =>
  have H:=HC3.out
  clear HC3
  by_cases c4:a1 < 0
  ·rw [if_pos c4] at H
   have c4b0:decide (a1 < 0)=true:=decide_eq_true c4
   clear c4
   (first | rw [c4b0] | (simp only [i64_w,i32_w];rw [c4b0]) | skip)
   have H':=Aside0.mk H
   clear H
   go_wp2
   repeat (go_quiet (fail);try go_wp2)
   go_meet
   case rel=>exact ⟨_,(true),(by first | rfl | (simp;done) | (simp [*];done)),H',⟨by first | omega | exact Nat.le_refl _⟩,⟨hn HB⟩⟩
  ·rw [if_neg c4] at H
   have c4b0:decide (a1 < 0)=false:=decide_eq_false c4
   clear c4
   (first | rw [c4b0] | (simp only [i64_w,i32_w];rw [c4b0]) | skip)
   have H':=Aside0.mk H
   clear H
   go_wp2
   repeat (go_quiet (fail);try go_wp2)
   go_meet
   case rel=>exact ⟨_,(decide (a1 > 262144)),(by first | rfl | (simp;done) | (simp [*];done)),H',⟨by first | omega | exact Nat.le_refl _⟩,⟨hn HB⟩⟩
 case rest =>
  clear HC3
  obtain ⟨kq,x19_2,rfl,HA,HJ2,HB⟩:=hcut
  cases kq with
  |zero=>exact absurd HA.out (by simp [celluloidref05_Open.j0])
  |succ kj2 =>
   have H:=HA.out
   clear HA
   simp only [celluloidref05_Open.j0] at H
   by_cases c5:x19_2=true
   ·subst c5
    have H1:(some ((⟨#[]⟩:ByteArray),1))=some (r1,r2):=by rw [if_pos rfl] at H;exact H
    clear H
    have H:=H1
    clear H1
    simp only [Option.some.injEq,Prod.mk.injEq] at H
    obtain ⟨rfl,rfl⟩:=H
    go_wp2
    repeat (go_quiet (fail);try go_wp2)
    go_ret2
    exact ⟨by first | rfl | (simp [errW_none,errW_some] <;> rfl) | (simp [*,errW_none,errW_some] <;> rfl),hn HB⟩
   ·replace c5:=Bool.eq_false_iff.mpr c5
    subst c5
    have H1:(if (a0.size:Int) < 2 then (some ((⟨#[]⟩:ByteArray),2)) else (if 0 < (a0.size:Int) then (if 1 < (a0.size:Int) then (if (Int.tmod (wrap64 (bt a0 0)) 16)=8 then (if (wrap64 (Int.tdiv (wrap64 (bt a0 0)) 16)) > 7 then (celluloidref05_Open.j1 kj2 a0 a1 true) else (if (Int.tmod (wrap64 ((wrap64 (256*(wrap64 (bt a0 0))))+(wrap64 (bt a0 1)))) 31)=0 then (celluloidref05_Open.j1 kj2 a0 a1 ((Int.tmod (wrap64 (Int.tdiv (wrap64 (bt a0 1)) 32)) 2) == 1)) else (celluloidref05_Open.j1 kj2 a0 a1 true))) else (celluloidref05_Open.j1 kj2 a0 a1 true)) else (none)) else (none)))=some (r1,r2):=by rw [if_neg (show ¬ (false=true) by decide)] at H;exact H
    clear H
    have H:=H1
    clear H1
    by_cases c6:(a0.size:Int) < 2
    ·rw [if_pos c6] at H
     have c6b0:decide ((a0.size:Int) < 2)=true:=decide_eq_true c6
     have c6b1:decide (a0.size < 2)=true:=decide_eq_true (by omega)
     clear c6
     simp only [Option.some.injEq,Prod.mk.injEq] at H
     obtain ⟨rfl,rfl⟩:=H
     go_wp2
     repeat (go_quiet (fail);try go_wp2)
     go_ret2
     exact ⟨by first | rfl | (simp [errW_none,errW_some] <;> rfl) | (simp [*,errW_none,errW_some] <;> rfl),hn HB⟩
    ·rw [if_neg c6] at H
     have c6b0:decide ((a0.size:Int) < 2)=false:=decide_eq_false c6
     have c6b1:decide (a0.size < 2)=false:=decide_eq_false (by omega)
     clear c6
     by_cases c7:0 < (a0.size:Int)
     ·rw [if_pos c7] at H
      have c7b0:decide (0 < (a0.size:Int))=true:=decide_eq_true c7
      have c7b1:decide (0 < a0.size)=true:=decide_eq_true (by omega)
      clear c7
      by_cases c9:1 < (a0.size:Int)
      ·rw [if_pos c9] at H
       have c9b0:decide (1 < (a0.size:Int))=true:=decide_eq_true c9
       have c9b1:decide (1 < a0.size)=true:=decide_eq_true (by omega)
       clear c9
       have HC11:=Aside0.mk H
       clear H
       have p8:0≤(0:Int):=(by omega)
       have q8:0 < a0.size:=(by have:(0:Int) < (a0.size:Int):=of_decide_eq_true (by first | (with_reducible assumption) | assumption);omega)
       have hx8:∀ h:0 < a0.size,((a0[0]'h).toNat:Int)=bt a0 0:=bt_at a0 0
       clear p8
       have qi8:(0 < (a0.size:Int))=True:=eq_true (of_decide_eq_true (by first | (with_reducible assumption) | assumption))
       replace q8:=eq_true q8
       have p10:0≤(1:Int):=(by omega)
       have q10:1 < a0.size:=(by have:(1:Int) < (a0.size:Int):=of_decide_eq_true (by first | (with_reducible assumption) | assumption);omega)
       have hx10:∀ h:1 < a0.size,((a0[1]'h).toNat:Int)=bt a0 1:=bt_at a0 1
       clear p10
       have qi10:(1 < (a0.size:Int))=True:=eq_true (of_decide_eq_true (by first | (with_reducible assumption) | assumption))
       replace q10:=eq_true q10
       go_upto_region 6 with (fail)
       repeat (go_quiet (fail);go_upto_region 6 with (fail))
       go_cut [50] (fun v50 wc=>∃ (kq:Nat) (x50_10:Bool),v50=.bool x50_10∧Aside0 (celluloidref05_Open.j1 kq a0 a1 x50_10=some (r1,r2))∧Aside0 (kq≤kj2)∧Aside0 (Below w.heap.size w wc))
       case first =>
        have H:=HC11.out
        clear HC11
        by_cases c12:(Int.tmod (wrap64 (bt a0 0)) 16)=8
        ·rw [if_pos c12] at H
         have c12b0:((Int.tmod (wrap64 (bt a0 0)) 16) == 8)=true:=beq_iff_eq.mpr c12
         have c12b1:((Int.tmod (wrap64 (bt a0 0)) 16) != 8)=false:=bne_eq_false_iff_eq.mpr c12
         clear c12
         (first | rw [c12b0] | (simp only [i64_w,i32_w];rw [c12b0]) | skip)
         by_cases c13:(wrap64 (Int.tdiv (wrap64 (bt a0 0)) 16)) > 7
         ·rw [if_pos c13] at H
          have c13b0:decide (7 < (wrap64 (Int.tdiv (wrap64 (bt a0 0)) 16)))=true:=decide_eq_true c13
          clear c13
          have H':=Aside0.mk H
          clear H
          go_wp2
          repeat (go_quiet (fail);try go_wp2)
          go_meet
          case rel=>exact ⟨_,(true),(by first | rfl | (simp;done) | (simp [*];done)),H',⟨by have:=HJ2.out;first | omega | exact Nat.le_refl _⟩,⟨hn HB⟩⟩
         ·rw [if_neg c13] at H
          have c13b0:decide (7 < (wrap64 (Int.tdiv (wrap64 (bt a0 0)) 16)))=false:=decide_eq_false c13
          clear c13
          by_cases c14:(Int.tmod (wrap64 ((wrap64 (256*(wrap64 (bt a0 0))))+(wrap64 (bt a0 1)))) 31)=0
          ·rw [if_pos c14] at H
           have c14b0:((Int.tmod (wrap64 ((wrap64 (256*(wrap64 (bt a0 0))))+(wrap64 (bt a0 1)))) 31) == 0)=true:=beq_iff_eq.mpr c14
           have c14b1:((Int.tmod (wrap64 ((wrap64 (256*(wrap64 (bt a0 0))))+(wrap64 (bt a0 1)))) 31) != 0)=false:=bne_eq_false_iff_eq.mpr c14
           clear c14
           have H':=Aside0.mk H
           clear H
           go_wp2
           repeat (go_quiet (fail);try go_wp2)
           go_meet
           case rel=>exact ⟨_,(((Int.tmod (wrap64 (Int.tdiv (wrap64 (bt a0 1)) 32)) 2) == 1)),(by first | rfl | (simp;done) | (simp [*];done)),H',⟨by have:=HJ2.out;first | omega | exact Nat.le_refl _⟩,⟨hn HB⟩⟩
          ·rw [if_neg c14] at H
           have c14b0:((Int.tmod (wrap64 ((wrap64 (256*(wrap64 (bt a0 0))))+(wrap64 (bt a0 1)))) 31) == 0)=false:=beq_eq_false_iff_ne.mpr c14
           have c14b1:((Int.tmod (wrap64 ((wrap64 (256*(wrap64 (bt a0 0))))+(wrap64 (bt a0 1)))) 31) != 0)=true:=bne_iff_ne.mpr c14
           have H':=Aside0.mk H
           clear H
           go_wp2
           repeat (go_quiet (fail);try go_wp2)
           go_meet
           case rel=>exact ⟨_,(true),(by first | rfl | (simp;done) | (simp [*];done)),H',⟨by have:=HJ2.out;first | omega | exact Nat.le_refl _⟩,⟨hn HB⟩⟩
        ·rw [if_neg c12] at H
         have c12b0:((Int.tmod (wrap64 (bt a0 0)) 16) == 8)=false:=beq_eq_false_iff_ne.mpr c12
         have c12b1:((Int.tmod (wrap64 (bt a0 0)) 16) != 8)=true:=bne_iff_ne.mpr c12
         (first | rw [c12b0] | (simp only [i64_w,i32_w];rw [c12b0]) | skip)
         have H':=Aside0.mk H
         clear H
         go_wp2
         repeat (go_quiet (fail);try go_wp2)
         go_meet
         case rel=>exact ⟨_,(true),(by first | rfl | (simp;done) | (simp [*];done)),H',⟨by have:=HJ2.out;first | omega | exact Nat.le_refl _⟩,⟨hn HB⟩⟩
       case rest =>
        clear HC11
        clear c6b0 c6b1 c7b0 c7b1 q8 hx8 qi8 c9b0 c9b1 q10 hx10 qi10
        obtain ⟨kq,x50_10,rfl,HA,HJ10,HB⟩:=hcut
        cases kq with
        |zero=>exact absurd HA.out (by simp [celluloidref05_Open.j1])
        |succ kj10 =>
         have H:=HA.out
         clear HA
         simp only [celluloidref05_Open.j1] at H
         by_cases c15:x50_10=true
         ·subst c15
          have H1:(some ((⟨#[]⟩:ByteArray),3))=some (r1,r2):=by rw [if_pos rfl] at H;exact H
          clear H
          have H:=H1
          clear H1
          simp only [Option.some.injEq,Prod.mk.injEq] at H
          obtain ⟨rfl,rfl⟩:=H
          go_wp2
          repeat (go_quiet (fail);try go_wp2)
          go_ret2
          exact ⟨by first | rfl | (simp [errW_none,errW_some] <;> rfl) | (simp [*,errW_none,errW_some] <;> rfl),hn HB⟩
         ·replace c15:=Bool.eq_false_iff.mpr c15
          subst c15
          have H1:(if 2≤(a0.size:Int) then ((celluloidref05_Raw.f kj10 (a0.extract 2 a0.size) a1).bind fun bt204=>(if bt204.2.2=0 then (if 0≤(wrap64 (2+bt204.2.1)) then (if (wrap64 (2+bt204.2.1))≤(a0.size:Int) then (if ((a0.extract ((wrap64 (2+bt204.2.1)):Int).toNat a0.size).size:Int) < 4 then (some ((⟨#[]⟩:ByteArray),2)) else (celluloidref05_Open.l0 kj10 bt204.1 (a0.extract ((wrap64 (2+bt204.2.1)):Int).toNat a0.size) 0 0)) else (none)) else (none)) else (some ((⟨#[]⟩:ByteArray),bt204.2.2)))) else (none))=some (r1,r2):=by rw [if_neg (show ¬ (false=true) by decide)] at H;exact H
          clear H
          have H:=H1
          clear H1
          by_cases c16:2≤(a0.size:Int)
          ·rw [if_pos c16] at H
           have c16b0:=eq_true c16
           have c16b1:decide (2≤(a0.size:Int))=true:=decide_eq_true c16
           clear c16
           replace H:=Option.bind_eq_some_iff.mp H
           obtain ⟨⟨t204,t205,t206⟩,A170,H⟩:=H
           replace H:(if t206=0 then (if 0≤(wrap64 (2+t205)) then (if (wrap64 (2+t205))≤(a0.size:Int) then (if ((a0.extract ((wrap64 (2+t205)):Int).toNat a0.size).size:Int) < 4 then (some ((⟨#[]⟩:ByteArray),2)) else (celluloidref05_Open.l0 kj10 t204 (a0.extract ((wrap64 (2+t205)):Int).toNat a0.size) 0 0)) else (none)) else (none)) else (some ((⟨#[]⟩:ByteArray),t206)))=some (r1,r2):=H
           have A17:=Aside0.mk A170
           clear A170
           by_cases c18:t206=0
           ·rw [if_pos c18] at H
            have c18b0:(t206 == 0)=true:=beq_iff_eq.mpr c18
            have c18b1:(t206 != 0)=false:=bne_eq_false_iff_eq.mpr c18
            clear c18
            obtain ⟨ji19,hji19⟩:∃ j_:Int,(wrap64 (2+t205))=j_:=⟨_,rfl⟩
            replace H:(if 0≤(ji19) then (if (ji19)≤(a0.size:Int) then (if ((a0.extract ((ji19):Int).toNat a0.size).size:Int) < 4 then (some ((⟨#[]⟩:ByteArray),2)) else (celluloidref05_Open.l0 kj10 t204 (a0.extract ((ji19):Int).toNat a0.size) 0 0)) else (none)) else (none))=some (r1,r2):=by first | (rw [hji19] at H;exact H) | (simp only [hji19] at H ⊢;exact H)
            (try rw [hji19] at A17)
            have hji19w:(IntKind.i64.wrap (2+t205))=ji19:=(i64_w _).trans hji19
            by_cases c20:0≤(ji19)
            ·rw [if_pos c20] at H
             have c20b0:=eq_true c20
             have c20b1:decide (0≤(ji19))=true:=decide_eq_true c20
             clear c20
             by_cases c21:(ji19)≤(a0.size:Int)
             ·rw [if_pos c21] at H
              have c21b0:=eq_true c21
              have c21b1:decide ((ji19)≤(a0.size:Int))=true:=decide_eq_true c21
              clear c21
              obtain ⟨rs_,hrs_⟩:∃ y:ByteArray,a0.extract ((ji19):Int).toNat a0.size=y:=⟨_,rfl⟩
              simp only [hrs_] at H
              by_cases c22:(rs_.size:Int) < 4
              ·rw [if_pos c22] at H
               have c22b0:decide ((rs_.size:Int) < 4)=true:=decide_eq_true c22
               have c22b1:decide (rs_.size < 4)=true:=decide_eq_true (by omega)
               clear c22
               simp only [Option.some.injEq,Prod.mk.injEq] at H
               obtain ⟨rfl,rfl⟩:=H
               go_wp2_with (first | (go_at_call 45;(with_reducible refine (celluloidref05_Raw.calls kj10 (a0.extract 2 a0.size) a1 t204 t205 t206 _ A17.out).mono ?_);rintro e w23 ⟨rfl,hb⟩;have n0_:=hs HB hb;clear HB;have HB:=n0_;clear n0_;(try clear hb)))
               repeat (go_quiet (first | (go_at_call 45;(with_reducible refine (celluloidref05_Raw.calls kj10 (a0.extract 2 a0.size) a1 t204 t205 t206 _ A17.out).mono ?_);rintro e w23 ⟨rfl,hb⟩;have n0_:=hs HB hb;clear HB;have HB:=n0_;clear n0_;(try clear hb)));try go_wp2_with (first | (go_at_call 45;(with_reducible refine (celluloidref05_Raw.calls kj10 (a0.extract 2 a0.size) a1 t204 t205 t206 _ A17.out).mono ?_);rintro e w23 ⟨rfl,hb⟩;have n0_:=hs HB hb;clear HB;have HB:=n0_;clear n0_;(try clear hb))))
               go_ret2
               exact ⟨by first | rfl | (simp [errW_none,errW_some] <;> rfl) | (simp only [← hji19];first | rfl | (simp [errW_none,errW_some] <;> rfl)) | (simp [*,errW_none,errW_some] <;> rfl),hn HB⟩
              ·rw [if_neg c22] at H
               have c22b0:decide ((rs_.size:Int) < 4)=false:=decide_eq_false c22
               have c22b1:decide (rs_.size < 4)=false:=decide_eq_false (by omega)
               clear c22
               have H':=Aside0.mk H
               clear H
               go_wp2_with (first | (go_at_call 45;(with_reducible refine (celluloidref05_Raw.calls kj10 (a0.extract 2 a0.size) a1 t204 t205 t206 _ A17.out).mono ?_);rintro e w24 ⟨rfl,hb⟩;have n0_:=hs HB hb;clear HB;have HB:=n0_;clear n0_;(try clear hb)))
               repeat (go_quiet (first | (go_at_call 45;(with_reducible refine (celluloidref05_Raw.calls kj10 (a0.extract 2 a0.size) a1 t204 t205 t206 _ A17.out).mono ?_);rintro e w24 ⟨rfl,hb⟩;have n0_:=hs HB hb;clear HB;have HB:=n0_;clear n0_;(try clear hb)));try go_wp2_with (first | (go_at_call 45;(with_reducible refine (celluloidref05_Raw.calls kj10 (a0.extract 2 a0.size) a1 t204 t205 t206 _ A17.out).mono ?_);rintro e w24 ⟨rfl,hb⟩;have n0_:=hs HB hb;clear HB;have HB:=n0_;clear n0_;(try clear hb))))
               go_loopg [12,13] kj10 (fun kq v12 v13 w'=>∃ (x12_3:Int) (x13_3:Int),v12=.int .i64 x12_3∧v13=.int .i64 x13_3∧Aside0 (celluloidref05_Open.l0 kq t204 rs_ x12_3 x13_3=some (r1,r2))∧Aside0 (kq≤kj10)∧Aside0 (Below w.heap.size w w'))
               case atStart=>exact ⟨(0),(0),(by first | rfl | (simp;done) | (simp [*];done)),(by first | rfl | (simp;done) | (simp [*];done)),H',⟨Nat.le_refl _⟩,⟨hn HB⟩⟩
               case round =>
                clear H'
                clear c16b0 c16b1 c18b0 c18b1 c20b0 c20b1 c21b0 c21b1 c22b0 c22b1
                obtain ⟨x12_3,x13_3,rfl,rfl,HA,HK3,HB⟩:=hrel
                cases gk with
                |zero=>exact absurd HA.out (by simp [celluloidref05_Open.l0])
                |succ k3 =>
                 have H:=HA.out
                 clear HA
                 simp only [celluloidref05_Open.l0] at H
                 by_cases c25:x13_3 < 4
                 ·rw [if_pos c25] at H
                  have c25b0:decide (x13_3 < 4)=true:=decide_eq_true c25
                  clear c25
                  by_cases c26:0≤x13_3
                  ·rw [if_pos c26] at H
                   have c26b0:decide (0≤x13_3)=true:=decide_eq_true c26
                   clear c26
                   by_cases c27:x13_3 < (rs_.size:Int)
                   ·rw [if_pos c27] at H
                    have c27b0:decide (x13_3 < (rs_.size:Int))=true:=decide_eq_true c27
                    clear c27
                    have H':=Aside0.mk H
                    clear H
                    have p28:0≤(x13_3:Int):=of_decide_eq_true (by first | (with_reducible assumption) | assumption)
                    have q28:x13_3 < (rs_.size:Int):=of_decide_eq_true (by first | (with_reducible assumption) | assumption)
                    have hx28:=bt_at rs_ x13_3
                    replace p28:=eq_true p28
                    replace q28:=eq_true q28
                    go_wp2
                    repeat (go_quiet (fail);try go_wp2)
                    go_roundg k3
                    case measure=>have:=HJ2.out;have:=HJ10.out;have:=HK3.out;omega
                    case rel=>exact ⟨(wrap64 ((wrap64 (256*x12_3))+(wrap64 (bt rs_ x13_3)))),(wrap64 (x13_3+1)),(by first | rfl | (simp;done) | (simp only [← hji19] <;> (first | rfl | simp)) | (simp [*];done)),(by first | rfl | (simp;done) | (simp [*];done)),H',⟨by have:=HJ2.out;have:=HJ10.out;have:=HK3.out;omega⟩,⟨hn HB⟩⟩
                   ·rw [if_neg c27] at H
                    exact absurd H (by simp)
                  ·rw [if_neg c26] at H
                   exact absurd H (by simp)
                 ·rw [if_neg c25] at H
                  have c25b0:decide (x13_3 < 4)=false:=decide_eq_false c25
                  clear c25
                  replace H:=Option.bind_eq_some_iff.mp H
                  obtain ⟨t207,A290,H⟩:=H
                  replace H:(if x12_3=t207 then (if (rs_.size:Int) > 4 then (some ((⟨#[]⟩:ByteArray),3)) else (some (t204,0))) else (some ((⟨#[]⟩:ByteArray),5)))=some (r1,r2):=H
                  have A29:=Aside0.mk A290
                  clear A290
                  by_cases c30:x12_3=t207
                  ·rw [if_pos c30] at H
                   have c30b0:(x12_3 == t207)=true:=beq_iff_eq.mpr c30
                   have c30b1:(x12_3 != t207)=false:=bne_eq_false_iff_eq.mpr c30
                   clear c30
                   by_cases c31:(rs_.size:Int) > 4
                   ·rw [if_pos c31] at H
                    have c31b0:decide (4 < (rs_.size:Int))=true:=decide_eq_true c31
                    have c31b1:decide (4 < rs_.size)=true:=decide_eq_true (by omega)
                    clear c31
                    simp only [Option.some.injEq,Prod.mk.injEq] at H
                    obtain ⟨rfl,rfl⟩:=H
                    go_wp2_with (first | (go_at_call 71;(with_reducible refine (celluloidref03_Sum.calls k3 t204 t207 _ A29.out).mono ?_);rintro e w' ⟨rfl,⟨nd,rfl⟩⟩;(try first | exact ⟨rfl,_,World.drewN_drewN _ _ _⟩ | exact ⟨rfl,_,Eq.trans (World.drewN_drewN _ _ _) (congrArg (World.drewN _) (Nat.add_assoc _ _ _))⟩)))
                    repeat (go_quiet (first | (go_at_call 71;(with_reducible refine (celluloidref03_Sum.calls k3 t204 t207 _ A29.out).mono ?_);rintro e w' ⟨rfl,⟨nd,rfl⟩⟩;(try first | exact ⟨rfl,_,World.drewN_drewN _ _ _⟩ | exact ⟨rfl,_,Eq.trans (World.drewN_drewN _ _ _) (congrArg (World.drewN _) (Nat.add_assoc _ _ _))⟩)));try go_wp2_with (first | (go_at_call 71;(with_reducible refine (celluloidref03_Sum.calls k3 t204 t207 _ A29.out).mono ?_);rintro e w' ⟨rfl,⟨nd,rfl⟩⟩;(try first | exact ⟨rfl,_,World.drewN_drewN _ _ _⟩ | exact ⟨rfl,_,Eq.trans (World.drewN_drewN _ _ _) (congrArg (World.drewN _) (Nat.add_assoc _ _ _))⟩))))
                    go_ret2
                    exact ⟨by first | rfl | (simp [errW_none,errW_some] <;> rfl) | (simp only [← hji19];first | rfl | (simp [errW_none,errW_some] <;> rfl)) | (simp [*,errW_none,errW_some] <;> rfl),hn HB⟩
                   ·rw [if_neg c31] at H
                    have c31b0:decide (4 < (rs_.size:Int))=false:=decide_eq_false c31
                    have c31b1:decide (4 < rs_.size)=false:=decide_eq_false (by omega)
                    clear c31
                    simp only [Option.some.injEq,Prod.mk.injEq] at H
                    obtain ⟨rfl,rfl⟩:=H
                    go_wp2_with (first | (go_at_call 71;(with_reducible refine (celluloidref03_Sum.calls k3 t204 t207 _ A29.out).mono ?_);rintro e w' ⟨rfl,⟨nd,rfl⟩⟩;(try first | exact ⟨rfl,_,World.drewN_drewN _ _ _⟩ | exact ⟨rfl,_,Eq.trans (World.drewN_drewN _ _ _) (congrArg (World.drewN _) (Nat.add_assoc _ _ _))⟩)))
                    repeat (go_quiet (first | (go_at_call 71;(with_reducible refine (celluloidref03_Sum.calls k3 t204 t207 _ A29.out).mono ?_);rintro e w' ⟨rfl,⟨nd,rfl⟩⟩;(try first | exact ⟨rfl,_,World.drewN_drewN _ _ _⟩ | exact ⟨rfl,_,Eq.trans (World.drewN_drewN _ _ _) (congrArg (World.drewN _) (Nat.add_assoc _ _ _))⟩)));try go_wp2_with (first | (go_at_call 71;(with_reducible refine (celluloidref03_Sum.calls k3 t204 t207 _ A29.out).mono ?_);rintro e w' ⟨rfl,⟨nd,rfl⟩⟩;(try first | exact ⟨rfl,_,World.drewN_drewN _ _ _⟩ | exact ⟨rfl,_,Eq.trans (World.drewN_drewN _ _ _) (congrArg (World.drewN _) (Nat.add_assoc _ _ _))⟩))))
                    go_ret2
                    exact ⟨by first | rfl | (simp [errW_none,errW_some] <;> rfl) | (simp only [← hji19];first | rfl | (simp [errW_none,errW_some] <;> rfl)) | (simp [*,errW_none,errW_some] <;> rfl),hn HB⟩
                  ·rw [if_neg c30] at H
                   have c30b0:(x12_3 == t207)=false:=beq_eq_false_iff_ne.mpr c30
                   have c30b1:(x12_3 != t207)=true:=bne_iff_ne.mpr c30
                   simp only [Option.some.injEq,Prod.mk.injEq] at H
                   obtain ⟨rfl,rfl⟩:=H
                   go_wp2_with (first | (go_at_call 71;(with_reducible refine (celluloidref03_Sum.calls k3 t204 t207 _ A29.out).mono ?_);rintro e w' ⟨rfl,⟨nd,rfl⟩⟩;(try first | exact ⟨rfl,_,World.drewN_drewN _ _ _⟩ | exact ⟨rfl,_,Eq.trans (World.drewN_drewN _ _ _) (congrArg (World.drewN _) (Nat.add_assoc _ _ _))⟩)))
                   repeat (go_quiet (first | (go_at_call 71;(with_reducible refine (celluloidref03_Sum.calls k3 t204 t207 _ A29.out).mono ?_);rintro e w' ⟨rfl,⟨nd,rfl⟩⟩;(try first | exact ⟨rfl,_,World.drewN_drewN _ _ _⟩ | exact ⟨rfl,_,Eq.trans (World.drewN_drewN _ _ _) (congrArg (World.drewN _) (Nat.add_assoc _ _ _))⟩)));try go_wp2_with (first | (go_at_call 71;(with_reducible refine (celluloidref03_Sum.calls k3 t204 t207 _ A29.out).mono ?_);rintro e w' ⟨rfl,⟨nd,rfl⟩⟩;(try first | exact ⟨rfl,_,World.drewN_drewN _ _ _⟩ | exact ⟨rfl,_,Eq.trans (World.drewN_drewN _ _ _) (congrArg (World.drewN _) (Nat.add_assoc _ _ _))⟩))))
                   go_ret2
                   exact ⟨by first | rfl | (simp [errW_none,errW_some] <;> rfl) | (simp only [← hji19];first | rfl | (simp [errW_none,errW_some] <;> rfl)) | (simp [*,errW_none,errW_some] <;> rfl),hn HB⟩
             ·rw [if_neg c21] at H
              exact absurd H (by simp)
            ·rw [if_neg c20] at H
             exact absurd H (by simp)
           ·rw [if_neg c18] at H
            have c18b0:(t206 == 0)=false:=beq_eq_false_iff_ne.mpr c18
            have c18b1:(t206 != 0)=true:=bne_iff_ne.mpr c18
            simp only [Option.some.injEq,Prod.mk.injEq] at H
            obtain ⟨rfl,rfl⟩:=H
            go_wp2_with (first | (go_at_call 45;(with_reducible refine (celluloidref05_Raw.calls kj10 (a0.extract 2 a0.size) a1 t204 t205 t206 _ A17.out).mono ?_);rintro e w32 ⟨rfl,hb⟩;have n0_:=hs HB hb;clear HB;have HB:=n0_;clear n0_;(try clear hb)))
            repeat (go_quiet (first | (go_at_call 45;(with_reducible refine (celluloidref05_Raw.calls kj10 (a0.extract 2 a0.size) a1 t204 t205 t206 _ A17.out).mono ?_);rintro e w32 ⟨rfl,hb⟩;have n0_:=hs HB hb;clear HB;have HB:=n0_;clear n0_;(try clear hb)));try go_wp2_with (first | (go_at_call 45;(with_reducible refine (celluloidref05_Raw.calls kj10 (a0.extract 2 a0.size) a1 t204 t205 t206 _ A17.out).mono ?_);rintro e w32 ⟨rfl,hb⟩;have n0_:=hs HB hb;clear HB;have HB:=n0_;clear n0_;(try clear hb))))
            go_ret2
            exact ⟨by first | rfl | (simp [errW_none,errW_some] <;> rfl) | (simp [*,errW_none,errW_some] <;> rfl),hn HB⟩
          ·rw [if_neg c16] at H
           exact absurd H (by simp)
      ·rw [if_neg c9] at H
       exact absurd H (by simp)
     ·rw [if_neg c7] at H
      exact absurd H (by simp)
def celluloidlaw05_InflateOpens.f (k:Nat) (a0:ByteArray) (a1:Int):Option (Bool):=if (a0.size:Int) > 1024 then ((celluloidlaw05_awake.f k).bind fun t208=>(some t208)) else ((inflate_Open.f k a0 a1).bind fun bt209=>((celluloidref05_Open.f k a0 a1).bind fun bt211=>(if bt209.1.toList=bt211.1.toList then (if bt209.2=bt211.2 then ((celluloidlaw05_awake.f k).bind fun t213=>(some t213)) else (some false)) else (some false))))
set_option maxHeartbeats 8000000 in
set_option maxRecDepth 100000 in
theorem celluloidlaw05_InflateOpens.calls (k : Nat) (a0 : ByteArray) (a1 : Int) (r : Bool) (w : World) (h : celluloidlaw05_InflateOpens.f k a0 a1 = some r) (hr_ : Aside0 (r = true)) :
  Calls Try.prog 13 #[.string a0,.int .i64 a1] w fun e w'=>e=.returned (.bool r)∧Below w.heap.size w w':=by
 have HB:=Aside0.mk (Below.refl w.heap.size w)
 have H:(if (a0.size:Int) > 1024 then ((celluloidlaw05_awake.f k).bind fun t208=>(some t208)) else ((inflate_Open.f k a0 a1).bind fun bt209=>((celluloidref05_Open.f k a0 a1).bind fun bt211=>(if bt209.1.toList=bt211.1.toList then (if bt209.2=bt211.2 then ((celluloidlaw05_awake.f k).bind fun t213=>(some t213)) else (some false)) else (some false)))))=some r:=h
 clear h
 by_cases c3:(a0.size:Int) > 1024
 ·rw [if_pos c3] at H
  have c3b0:decide (1024 < (a0.size:Int))=true:=decide_eq_true c3
  have c3b1:decide (1024 < a0.size)=true:=decide_eq_true (by omega)
  clear c3
  replace H:=Option.bind_eq_some_iff.mp H
  obtain ⟨t208,A40,H⟩:=H
  replace H:(some t208)=some r:=H
  have A4:=Aside0.mk A40
  clear A40
  first
  |exact absurd (Option.some.inj H) (by rw [hr_.out];decide)
  |obtain rfl:=Option.some.inj H
   go_enter Try.func13,Try.ntmps13
   go_wp2_with (first | ((with_reducible refine gate_callee (f:=43) rfl ?_);refine goesQ (some 12) Try.func43 #[] ?_;(with_reducible refine (celluloidlaw05_awake.calls k  t208 _ A4.out).mono ?_);rintro e w5 ⟨rfl,hb⟩;refine ⟨_,rfl,?_⟩;have n0_:=hs HB hb;clear HB;have HB:=n0_;clear n0_;(try clear hb)))
   go_ret
   exact ⟨by first | rfl | (simp [errW_none,errW_some] <;> rfl) | (simp [*,errW_none,errW_some] <;> rfl),hn HB⟩
 ·rw [if_neg c3] at H
  have c3b0:decide (1024 < (a0.size:Int))=false:=decide_eq_false c3
  have c3b1:decide (1024 < a0.size)=false:=decide_eq_false (by omega)
  clear c3
  replace H:=Option.bind_eq_some_iff.mp H
  obtain ⟨⟨t209,t210⟩,A60,H⟩:=H
  replace H:((celluloidref05_Open.f k a0 a1).bind fun bt211=>(if t209.toList=bt211.1.toList then (if t210=bt211.2 then ((celluloidlaw05_awake.f k).bind fun t213=>(some t213)) else (some false)) else (some false)))=some r:=H
  have A6:=Aside0.mk A60
  clear A60
  replace H:=Option.bind_eq_some_iff.mp H
  obtain ⟨⟨t211,t212⟩,A70,H⟩:=H
  replace H:(if t209.toList=t211.toList then (if t210=t212 then ((celluloidlaw05_awake.f k).bind fun t213=>(some t213)) else (some false)) else (some false))=some r:=H
  have A7:=Aside0.mk A70
  clear A70
  by_cases c8:t209.toList=t211.toList
  ·rw [if_pos c8] at H
   have c8b0:(t209.toList == t211.toList)=true:=beq_iff_eq.mpr c8
   have c8b1:(t209.toList != t211.toList)=false:=bne_eq_false_iff_eq.mpr c8
   clear c8
   by_cases c9:t210=t212
   ·rw [if_pos c9] at H
    have c9b0:(t210 == t212)=true:=beq_iff_eq.mpr c9
    have c9b1:(t210 != t212)=false:=bne_eq_false_iff_eq.mpr c9
    clear c9
    replace H:=Option.bind_eq_some_iff.mp H
    obtain ⟨t213,A100,H⟩:=H
    replace H:(some t213)=some r:=H
    have A10:=Aside0.mk A100
    clear A100
    first
    |exact absurd (Option.some.inj H) (by rw [hr_.out];decide)
    |obtain rfl:=Option.some.inj H
     go_enter Try.func13,Try.ntmps13
     go_wp2_with (first | ((with_reducible refine gate_callee (f:=46) rfl ?_);refine goesQ (some 16) Try.func46 #[.string a0,.int .i64 a1] ?_;(with_reducible refine (inflate_Open.calls k a0 a1 t209 t210 _ A6.out).mono ?_);rintro e w11 ⟨rfl,hb⟩;refine ⟨_,rfl,?_⟩;have n0_:=hs HB hb;clear HB;have HB:=n0_;clear n0_;(try clear hb)) | ((with_reducible refine gate_callee (f:=47) rfl ?_);refine goesQ (some 22) Try.func47 #[.string a0,.int .i64 a1] ?_;(with_reducible refine (celluloidref05_Open.calls k a0 a1 t211 t212 _ A7.out).mono ?_);rintro e w12 ⟨rfl,hb⟩;refine ⟨_,rfl,?_⟩;have n0_:=hs HB hb;clear HB;have HB:=n0_;clear n0_;(try clear hb)) | (go_at_call 43;(with_reducible refine (celluloidlaw05_awake.calls k  t213 _ A10.out).mono ?_);rintro e w13 ⟨rfl,hb⟩;have n0_:=hs HB hb;clear HB;have HB:=n0_;clear n0_;(try clear hb)))
     go_ret
     exact ⟨by first | rfl | (simp [errW_none,errW_some] <;> rfl) | (simp [*,errW_none,errW_some] <;> rfl),hn HB⟩
   ·rw [if_neg c9] at H
    have c9b0:(t210 == t212)=false:=beq_eq_false_iff_ne.mpr c9
    have c9b1:(t210 != t212)=true:=bne_iff_ne.mpr c9
    first
    |exact absurd (Option.some.inj H) (by rw [hr_.out];decide)
    |obtain rfl:=Option.some.inj H
     go_enter Try.func13,Try.ntmps13
     go_wp2_with (first | ((with_reducible refine gate_callee (f:=46) rfl ?_);refine goesQ (some 16) Try.func46 #[.string a0,.int .i64 a1] ?_;(with_reducible refine (inflate_Open.calls k a0 a1 t209 t210 _ A6.out).mono ?_);rintro e w14 ⟨rfl,hb⟩;refine ⟨_,rfl,?_⟩;have n0_:=hs HB hb;clear HB;have HB:=n0_;clear n0_;(try clear hb)) | ((with_reducible refine gate_callee (f:=47) rfl ?_);refine goesQ (some 22) Try.func47 #[.string a0,.int .i64 a1] ?_;(with_reducible refine (celluloidref05_Open.calls k a0 a1 t211 t212 _ A7.out).mono ?_);rintro e w15 ⟨rfl,hb⟩;refine ⟨_,rfl,?_⟩;have n0_:=hs HB hb;clear HB;have HB:=n0_;clear n0_;(try clear hb)))
     go_ret
     exact ⟨by first | rfl | (simp [errW_none,errW_some] <;> rfl) | (simp [*,errW_none,errW_some] <;> rfl),hn HB⟩
  ·rw [if_neg c8] at H
   have c8b0:(t209.toList == t211.toList)=false:=beq_eq_false_iff_ne.mpr c8
   have c8b1:(t209.toList != t211.toList)=true:=bne_iff_ne.mpr c8
   first
   |exact absurd (Option.some.inj H) (by rw [hr_.out];decide)
   |obtain rfl:=Option.some.inj H
    go_enter Try.func13,Try.ntmps13
    go_wp2_with (first | ((with_reducible refine gate_callee (f:=46) rfl ?_);refine goesQ (some 16) Try.func46 #[.string a0,.int .i64 a1] ?_;(with_reducible refine (inflate_Open.calls k a0 a1 t209 t210 _ A6.out).mono ?_);rintro e w16 ⟨rfl,hb⟩;refine ⟨_,rfl,?_⟩;have n0_:=hs HB hb;clear HB;have HB:=n0_;clear n0_;(try clear hb)) | ((with_reducible refine gate_callee (f:=47) rfl ?_);refine goesQ (some 22) Try.func47 #[.string a0,.int .i64 a1] ?_;(with_reducible refine (celluloidref05_Open.calls k a0 a1 t211 t212 _ A7.out).mono ?_);rintro e w17 ⟨rfl,hb⟩;refine ⟨_,rfl,?_⟩;have n0_:=hs HB hb;clear HB;have HB:=n0_;clear n0_;(try clear hb)))
    go_ret
    exact ⟨by first | rfl | (simp [errW_none,errW_some] <;> rfl) | (simp [*,errW_none,errW_some] <;> rfl),hn HB⟩
/-- THE ONE PURE STATEMENT of celluloidlaw05_InflateOpens: yours. -/
def celluloidlaw05_InflateOpens.Pure:Prop:=∀ (a0:ByteArray) (a1:Int),a0.size≤140737488351232 → (Lit.int .i64 a1).wf=true → ∃ k,celluloidlaw05_InflateOpens.f k a0 a1=some true
theorem celluloidlaw05_InflateOpens.walk (P : celluloidlaw05_InflateOpens.Pure) (a0 : ByteArray) (a1 : Int) (w : World) (w0 : a0.size ≤ 140737488351232) (w1 : (Lit.int .i64 a1).wf = true) :
  Calls Try.prog 13 #[.string a0,.int .i64 a1] w fun e w'=>e=.returned (.bool true)∧Below w.heap.size w w':=by
 obtain ⟨k,h⟩:=P a0 a1 w0 w1
 refine (celluloidlaw05_InflateOpens.calls k a0 a1 true w h ⟨rfl⟩).mono ?_
 rintro e w' ⟨rfl,hd⟩
 exact ⟨rfl,hd⟩
end Go.Proofs.Ytpbhkdamkbopkaa.GOpn
set_option linter.unusedSimpArgs false
set_option linter.unusedVariables false
namespace Go.Proofs.Ytpbhkdamkbopkaa.ASumO
open Go.RowKit Go.Proofs.Ytpbhkdamkbopkaa.GEnds Go.Proofs.Ytpbhkdamkbopkaa.GOpn Go.Proofs.YtpbhkdamkbopkaaW.PrintWords Go.Proofs.YtpbhkdamkbopkaaW.PrintLast Go.Proofs.YtpbhkdamkbopkaaW.PrintMore
/-- A byte more. -/
def stp (p:Int × Int) (c:Int):Int × Int:=((p.1+c) % 65521,(p.2+(p.1+c) % 65521) % 65521)
def run (p:Int × Int) (l:List Int):Int × Int:=l.foldl stp p
def bts (s:ByteArray):List Int:=s.data.toList.map fun c=>(c.toNat:Int)
def fin (p:Int × Int):Int:=p.2*65536+p.1
def Rng (p:Int × Int):Prop:=0≤p.1∧p.1 < 65521∧0≤p.2∧p.2 < 65521
theorem bts_length (s:ByteArray):(bts s).length=s.size:=by unfold bts;rw [List.length_map,Array.length_toList];rfl
theorem bts_get (s:ByteArray) (i:Nat) (h:i < s.size):(bts s)[i]'(by rw [bts_length];exact h)=bt s i:=by
 have h2:(Int.toNat (i:Int)) < s.size:=by simpa using h
 unfold bt
 rw [dif_pos h2]
 simp [bts]
 rfl
theorem bts_drop (s:ByteArray) (i:Nat) (h:i < s.size):(bts s).drop i=bt s i :: (bts s).drop (i+1):=by
 rw [List.drop_eq_getElem_cons (by rw [bts_length];exact h),bts_get s i h]
theorem stp_rng (p:Int × Int) (c:Int):Rng (stp p c):=by unfold stp Rng;refine ⟨?_,?_,?_,?_⟩ <;> simp only <;> omega
theorem run_nil (p:Int × Int):run p []=p:=rfl
theorem run_cons (p:Int × Int) (c:Int) (l:List Int):run p (c :: l)=run (stp p c) l:=rfl
theorem wrap_in {n:Int} (h0:-9223372036854775808≤n) (h1:n≤9223372036854775807):wrap64 n=n:=by unfold wrap64;omega
theorem wraps_i64 (j:Nat) (hj:j≤62) (n:Int) (h₀:0≤n) (h₁:n < 2 ^ j):IntKind.i64.wrap n=n:=by
 have:(2:Int) ^ j≤2 ^ 62:=by
  have:=Nat.pow_le_pow_right (n:=2) (by decide) hj
  exact_mod_cast this
 have h2:(2:Int) ^ 62=4611686018427387904:=by decide
 rw [IntKind.wrap_i64];omega
theorem wraps_u32 (n:Int) (h₀:0≤n) (h₁:n < 2 ^ 32):IntKind.u32.wrap n=n:=by rw [IntKind.wrap_u32];omega
theorem or_16 {x y:Int} (hx₀:0≤x) (hx₁:x < 65536) (h₀:0≤y) (h₁:y < 65536):Go.bits .or .i64 (x*65536) y=x*65536+y :=
 Go.bits_join .i64 40 (by decide) (wraps_i64 40 (by decide)) 16 _ _ (by omega) (by omega) (by omega) h₀ (by omega) (by omega)
theorem and_16u {x:Int} (hx₀:0≤x) (hx₁:x < 4294967296):Go.bits .and .u32 x 65535=x % 65536 :=
 Go.bits_mask .u32 32 (by decide) wraps_u32 16 (by decide) x hx₀ (by omega)
/-- What the sum's parts are. -/
def prt (n:Int):Int × Int:=(n % 4294967296 % 65536 % 65521,n % 4294967296 / 65536 % 65521)
theorem prt_rng (n:Int):Rng (prt n):=by unfold prt Rng;refine ⟨?_,?_,?_,?_⟩ <;> simp only <;> omega
theorem prt_one:prt 1=(1,0):=by decide
/-- Congruent modulo 65521,by the quotient. -/
def Cg (a b:Int):Prop:=∃ t:Int,a=b+65521*t
theorem Cg.eq_mod {a b:Int} (h:Cg a b):a % 65521=b % 65521:=by obtain ⟨t,rfl⟩:=h;omega
theorem Cg.rfl' (a:Int):Cg a a:=⟨0,by omega⟩
/-- The document's way,by places. -/
theorem ref_stp (a b p q c m : Int) (ha : Cg a p) (hb : Cg b (q + (m + 1) * p)) :
  Cg (a+c) (stp (p,q) c).1∧Cg ((b+c*(m+1)) % 65521) ((stp (p,q) c).2+m*(stp (p,q) c).1):=by
 obtain ⟨t,rfl⟩:=ha
 obtain ⟨u,rfl⟩:=hb
 obtain ⟨v,hv⟩:∃ v:Int,(stp (p,q) c).1=p+c - 65521*v:=⟨(p+c) / 65521,by simp only [stp];omega⟩
 obtain ⟨z,hz⟩:∃ z:Int,(stp (p,q) c).2=q+(stp (p,q) c).1 - 65521*z:=⟨(q+(stp (p,q) c).1) / 65521,by simp only [stp];omega⟩
 generalize hx:(q+(m+1)*p+65521*u+c*(m+1)) / 65521=x
 have hm:(q+(m+1)*p+65521*u+c*(m+1)) % 65521=q+(m+1)*p+65521*u+c*(m+1) - 65521*x:=by omega
 refine ⟨⟨t+v,by rw [hv];omega⟩,⟨u - x+z+v*(m+1),?_⟩⟩
 rw [hm,hz,hv]
 grind
theorem parts_is (n:Int):adler_parts.f n=some (prt n):=by
 unfold adler_parts.f
 rw [and_16u (by omega) (by omega),wrap_in (by omega) (by omega),Int.tmod_eq_emod_of_nonneg (by omega)]
 rfl
theorem more_l (s : ByteArray) (hn : s.size ≤ 140737488351232) (d : Nat) : ∀ (k i : Nat) (p : Int × Int), Rng p → i + d = s.size → d < k →
  adler_More.l0 k s p.1 p.2 s.size i=some (fin (run p ((bts s).drop i))):=by
 induction d with
 |zero =>
  intro k i p hp hi hk
  obtain ⟨k,rfl⟩:∃ m,k=m+1:=⟨k - 1,by omega⟩
  simp only [adler_More.l0]
  rw [if_neg (by omega),List.drop_of_length_le (by rw [bts_length];omega),run_nil]
  obtain ⟨h0,h1,h2,h3⟩:=hp
  rw [wrap_in (by omega) (by omega),or_16 h2 (by omega) h0 (by omega)];rfl
 |succ d ih =>
  intro k i p hp hi hk
  obtain ⟨k,rfl⟩:∃ m,k=m+1:=⟨k - 1,by omega⟩
  have hb:=bt_range s i
  obtain ⟨h0,h1,h2,h3⟩:=hp
  simp only [adler_More.l0]
  rw [if_pos (by omega),if_pos (by omega),if_pos (by omega)]
  have e:=ih k (i+1) (stp p (bt s i)) (stp_rng _ _) (by omega) (by omega)
  rw [bts_drop s i (by omega),run_cons,← e]
  have w1:wrap64 (bt s i)=bt s i:=wrap_in (by omega) (by omega)
  have w2:wrap64 (p.1+bt s i)=p.1+bt s i:=wrap_in (by omega) (by omega)
  have w3:wrap64 (p.2+(p.1+bt s i) % 65521)=p.2+(p.1+bt s i) % 65521:=wrap_in (by omega) (by omega)
  have w4:wrap64 ((i:Int)+1)=((i+1:Nat):Int):=by rw [wrap_in (by omega) (by omega)];omega
  rw [w1,w2,Int.tmod_eq_emod_of_nonneg (by omega),w3,Int.tmod_eq_emod_of_nonneg (by omega),w4]
  rfl
theorem more_is (n : Int) (s : ByteArray) (hn : s.size ≤ 140737488351232) (k : Nat) (hk : s.size < k) :
  adler_More.f k n s=some (fin (run (prt n) (bts s))):=by
 unfold adler_More.f
 rw [parts_is]
 have e:=more_l s hn s.size k 0 (prt n) (prt_rng n) (by omega) hk
 rw [List.drop_zero] at e
 exact e
theorem sum_is (s : ByteArray) (hn : s.size ≤ 140737488351232) (k : Nat) (hk : s.size < k) :
  adler_Sum.f k s=some (fin (run (1,0) (bts s))):=by
 unfold adler_Sum.f
 rw [more_is 1 s hn k hk,prt_one];rfl
theorem low_is (n:Int):celluloidref03_low.f n=some (prt n).1:=rfl
theorem high_is (n:Int):celluloidref03_high.f n=some (prt n).2:=rfl
theorem q1lem (a c:Int) (i:Nat) (h:a≤65521+255*i) (hc:c≤255):a+c≤65521+255*((i+1:Nat):Int):=by omega
theorem ref_l (s : ByteArray) (hn : s.size ≤ 1000000) (d : Nat) : ∀ (k i : Nat) (a b : Int) (p : Int × Int), Rng p → i + d = s.size → d < k →
  0≤a → a≤65521+255*i → 0≤b → b≤4294967296 → Cg a p.1 → Cg b (p.2+d*p.1) →
  celluloidref03_More.l0 k s a b s.size i=some (fin (run p ((bts s).drop i))):=by
 induction d with
 |zero =>
  intro k i a b p hp hi hk a0 a1 b0 b1 ha hb
  obtain ⟨k,rfl⟩:∃ m,k=m+1:=⟨k - 1,by omega⟩
  simp only [celluloidref03_More.l0]
  rw [if_neg (by omega),List.drop_of_length_le (by rw [bts_length];omega),run_nil]
  obtain ⟨h0,h1,h2,h3⟩:=hp
  have ea:=ha.eq_mod
  have eb:=hb.eq_mod
  simp only [Int.natCast_zero,Int.zero_mul,Int.add_zero] at eb
  rw [Int.tmod_eq_emod_of_nonneg b0,Int.tmod_eq_emod_of_nonneg a0,wrap_in (n:=b % 65521*65536) (by omega) (by omega),wrap_in (by omega) (by omega)]
  unfold fin
  congr 1
  omega
 |succ d ih =>
  intro k i a b p hp hi hk a0 a1 b0 b1 ha hb
  obtain ⟨k,rfl⟩:∃ m,k=m+1:=⟨k - 1,by omega⟩
  have hc:=bt_range s i
  simp only [celluloidref03_More.l0]
  rw [if_pos (by omega),if_pos (by omega),if_pos (by omega)]
  obtain ⟨e1,e2⟩:=ref_stp a b p.1 p.2 (bt s i) d ha (by exact_mod_cast hb)
  have q0:0≤a+bt s i:=by omega
  have q1:a+bt s i≤65521+255*((i+1:Nat):Int):=q1lem a (bt s i) i a1 hc.2
  have q2:i+1+d=s.size:=by omega
  have q3:d < k:=by omega
  have d0:(d:Int)+1≤1000000:=by omega
  have p0:0≤bt s i*(d+1):=Int.mul_nonneg hc.1 (by omega)
  have p1:bt s i*((d:Int)+1)≤255*1000000:=Int.mul_le_mul hc.2 d0 (by omega) (by omega)
  have q4:i < s.size:=by omega
  have q5:a+bt s i≤9223372036854775807:=by omega
  have q6:(s.size:Int) - i=d+1:=by omega
  have w0:wrap64 (bt s i)=bt s i:=wrap_in (by omega) (by omega)
  have w1:wrap64 (a+bt s i)=a+bt s i:=wrap_in (Int.le_trans (by decide) q0) q5
  have w2:wrap64 ((s.size:Int) - i)=d+1:=by rw [q6];exact wrap_in (Int.le_trans (by decide) (Int.natCast_nonneg (d+1))) (Int.le_trans d0 (by decide))
  have q7:(i:Int)+1≤1000001:=by clear w0 w1 w2;omega
  have w5:wrap64 ((i:Int)+1)=((i+1:Nat):Int):=wrap_in (Int.le_trans (by decide) (Int.natCast_nonneg (i+1))) (Int.le_trans q7 (by decide))
  rw [bts_drop s i q4,run_cons,w0,w1,w2,w5]
  generalize bt s i*((d:Int)+1)=y at p0 p1 e2 ⊢
  clear ha hb w0 w1 w2 w5
  have w3:wrap64 y=y:=wrap_in (by omega) (by omega)
  have w4:wrap64 (b+y)=b+y:=wrap_in (by omega) (by omega)
  rw [w3,w4,Int.tmod_eq_emod_of_nonneg (by omega)]
  exact ih k (i+1) (a+bt s i) ((b+y) % 65521) (stp p (bt s i)) (stp_rng _ _) q2 q3 q0 q1 (by omega) (by omega) e1 e2
theorem ref_is (n : Int) (s : ByteArray) (hn : s.size ≤ 1000000) (k : Nat) (hk : s.size < k) :
  celluloidref03_More.f k n s=some (fin (run (prt n) (bts s))):=by
 unfold celluloidref03_More.f
 rw [low_is,high_is]
 simp only [Option.bind_some]
 obtain ⟨h0,h1,h2,h3⟩:=prt_rng n
 obtain ⟨q,hq⟩:∃ q:Int,(s.size:Int) % 65521=s.size - 65521*q:=⟨(s.size:Int) / 65521,by omega⟩
 have r0:0≤(s.size:Int) % 65521:=by omega
 have r1:(s.size:Int) % 65521≤65520:=by omega
 have hc:Cg ((prt n).2+(s.size:Int) % 65521*(prt n).1) ((prt n).2+s.size*(prt n).1):=⟨-(q*(prt n).1),by rw [hq];grind⟩
 generalize (s.size:Int) % 65521=r at hc r0 r1 ⊢
 have p0:0≤r*(prt n).1:=Int.mul_nonneg r0 h0
 have p1:r*(prt n).1≤65520*65520:=Int.mul_le_mul r1 (by omega) h0 (by omega)
 rw [wrap_in (n:=r*(prt n).1) (by omega) (by omega),wrap_in (by omega) (by omega)]
 have e:=ref_l s hn s.size k 0 (prt n).1 ((prt n).2+r*(prt n).1) (prt n) (prt_rng n) (by omega) hk (by omega) (by omega) (by omega) (by omega) (Cg.rfl' _) hc
 rw [List.drop_zero] at e
 exact e
theorem ref_sum (s:ByteArray) (hn:s.size≤1000000) (k:Nat) (hk:s.size < k):celluloidref03_Sum.f k s=some (fin (run (1,0) (bts s))):=by
 unfold celluloidref03_Sum.f
 rw [ref_is 1 s hn k hk];rfl
end Go.Proofs.Ytpbhkdamkbopkaa.ASumO
set_option linter.unusedSimpArgs false
set_option linter.unusedVariables false
namespace Go.Proofs.Ytpbhkdamkbopkaa.RefA
open Go.RowKit Go.Proofs.Ytpbhkdamkbopkaa.Ext Go.Proofs.Ytpbhkdamkbopkaa.GHuff Go.Proofs.YtpbhkdamkbopkaaW.PrintWords Go.Proofs.YtpbhkdamkbopkaaW.PrintLast Go.Proofs.YtpbhkdamkbopkaaW.PrintMore
theorem bit_is' (s : ByteArray) (hs : s.size ≤ 140737488351232) (p : Int) (h0 : 0 ≤ p) (hp : p ≤ 9223372036854775807) :
  huff_Bit.f s p=if p < 8*s.size then some (bitN s p,true) else some (0,false):=bit_is s hs p h0 hp
theorem refbit_l (p:Int) (h0:0≤p) (d:Nat):∀ (x:Int) (i:Nat),0≤x → x≤255 → (i:Int)+d=p % 8 → Ev (fun k=>celluloidref04_Bit.l0 k p x i) (x / 2 ^ d % 2):=by
 induction d with
 |zero =>
  intro x i hx0 hx1 hi
  refine Ev.step (f:=fun _=>some (x / 2 ^ 0 % 2)) (fun k=>?_) (Ev.now _)
  simp only [celluloidref04_Bit.l0]
  rw [Int.tmod_eq_emod_of_nonneg h0,if_neg (by omega),Int.tmod_eq_emod_of_nonneg hx0]
  simp
 |succ d ih =>
  intro x i hx0 hx1 hi
  have e:x / 2 ^ (d+1)=x / 2 / 2 ^ d:=by
   rw [Int.pow_succ,Int.mul_comm,Int.ediv_ediv_of_nonneg (by decide)]
  rw [e]
  refine Ev.step (fun k=>?_) (ih (x / 2) (i+1) (by omega) (by omega) (by omega))
  simp only [celluloidref04_Bit.l0]
  rw [Int.tmod_eq_emod_of_nonneg h0,if_pos (by omega),Int.tdiv_eq_ediv_of_nonneg hx0,wrap_in (n:=x / 2) (by omega) (by omega),wrap_in (n:=(i:Int)+1) (by omega) (by omega)]
  rfl
theorem refbit_is (s : ByteArray) (hs : s.size ≤ 140737488351232) (p : Int) (hp : p ≤ 9223372036854775807) (hp' : -9223372036854775808 ≤ p) :
  Ev (fun k=>celluloidref04_Bit.f k s p) (if 0≤p∧p < 8*s.size then bitN s p else -1):=by
 by_cases h0:p < 0
 ·rw [if_neg (by omega)]
  refine Ev.congr (f:=fun k=>celluloidref04_Bit.j0 k s p true) (fun k=>by unfold celluloidref04_Bit.f;rw [if_pos h0]) ?_
  exact Ev.step (fun k=>by simp only [celluloidref04_Bit.j0];rw [if_pos trivial]) (Ev.now _)
 ·have h0':0≤p:=by omega
  refine Ev.congr (f:=fun k=>celluloidref04_Bit.j0 k s p (decide (p / 8 ≥ s.size))) (fun k=>by
   unfold celluloidref04_Bit.f
   rw [if_neg h0,Int.tdiv_eq_ediv_of_nonneg h0',wrap_in (n:=p / 8) (by omega) (by omega)]) ?_
  by_cases h1:p < 8*s.size
  ·rw [if_pos ⟨h0',h1⟩,decide_eq_false (by omega)]
   have hb:=bt_range s (p / 8)
   have hl:=refbit_l p h0' (p % 8).toNat (bt s (p / 8)) 0 hb.1 hb.2 (by omega)
   refine Ev.step (fun k=>?_) hl
   simp only [celluloidref04_Bit.j0]
   rw [if_neg (by simp),Int.tdiv_eq_ediv_of_nonneg h0',wrap_in (n:=p / 8) (by omega) (by omega),if_pos (by omega),if_pos (by omega),wrap_in (n:=bt s (p / 8)) (by omega) (by omega)]
   rfl
  ·rw [if_neg (by omega),decide_eq_true (by omega)]
   exact Ev.step (fun k=>by simp only [celluloidref04_Bit.j0];rw [if_pos trivial]) (Ev.now _)
/-- The first i bits from pos on,the first one lowest. -/
def Bn (s:ByteArray) (pos:Int):Nat → Int
 |0=>0
 |i+1=>Bn s pos i+2 ^ i*bitN s (pos+i)
theorem Bn_rng (s:ByteArray) (pos:Int) (n:Nat):0≤Bn s pos n∧Bn s pos n < 2 ^ n:=by
 induction n with
 |zero=>simp [Bn]
 |succ n ih =>
  have hb:=bitN_rng s (pos+n)
  have hp:(0:Int) < 2 ^ n:=Int.pow_pos (by decide)
  simp only [Bn]
  rw [Int.pow_succ]
  rcases (by omega:bitN s (pos+n)=0 ∨ bitN s (pos+n)=1) with h | h <;> rw [h] <;> omega
theorem pow_16 (n:Nat) (h:n≤16):(1:Int)≤2 ^ n∧(2:Int) ^ n≤65536:=by
 have h1:2 ^ n≤2 ^ 16:=Nat.pow_le_pow_right (by decide) h
 have h2:1≤2 ^ n:=Nat.one_le_two_pow
 have e:((2 ^ n:Nat):Int)=(2:Int) ^ n:=by rw [Int.natCast_pow];rfl
 rw [← e];omega
theorem refbits_l (s : ByteArray) (hs : s.size ≤ 140737488351232) (pos : Int) (h0 : 0 ≤ pos) (hp : pos ≤ 4611686018427387904) (n : Nat) (hn : n ≤ 16) (d : Nat) : ∀ (i : Nat), i + d = n → (i = 0 ∨ pos + i ≤ 8 * s.size) →
  Ev (fun k=>celluloidref04_Bits.l0 k s pos n (Bn s pos i) (2 ^ i) i) (if pos+n≤8*s.size then (Bn s pos n,pos+n,0) else (0,0,2)):=by
 induction d with
 |zero =>
  intro i hi hb
  obtain rfl:i=n:=by omega
  refine Ev.step (f:=fun _=>some (if pos+i≤8*s.size then (Bn s pos i,pos+i,0) else (0,0,2))) (fun k=>?_) (Ev.now _)
  simp only [celluloidref04_Bits.l0]
  rw [if_neg (by omega),wrap_in (n:=8*(s.size:Int)) (by omega) (by omega),wrap_in (n:=pos+i) (by omega) (by omega)]
  by_cases hi0:i=0
  ·subst hi0
   rw [if_pos (by rfl)]
   by_cases h:pos > 8*s.size
   ·rw [if_pos h,if_neg (by omega)]
   ·rw [if_neg h,if_pos (by omega)]
  ·rw [if_neg (by omega),if_pos (by omega)]
 |succ d ih =>
  intro i hi hb
  obtain ⟨K1,hbit⟩:=refbit_is s hs (pos+i) (by omega) (by omega)
  dsimp only at hbit
  have hwp:wrap64 (pos+i)=pos+i:=wrap_in (by omega) (by omega)
  by_cases h:pos+i < 8*s.size
  ·rw [if_pos (show 0≤pos+(i:Int)∧pos+(i:Int) < 8*s.size from ⟨by omega,h⟩)] at hbit
   have hbr:=bitN_rng s (pos+i)
   have hBr:=Bn_rng s pos i
   have hpw:=pow_16 i (by omega)
   obtain ⟨K2,hi'⟩:=ih (i+1) (by omega) (.inr (by omega))
   dsimp only at hi'
   have e1:Bn s pos (i+1)=Bn s pos i+2 ^ i*bitN s (pos+i):=rfl
   have e2:(2:Int) ^ (i+1)=2 ^ i*2:=Int.pow_succ 2 i
   rw [e1,e2] at hi'
   have hm0:0≤2 ^ i*bitN s (pos+i):=Int.mul_nonneg (by omega) hbr.1
   have hm1:2 ^ i*bitN s (pos+i)≤65536*1:=Int.mul_le_mul hpw.2 hbr.2 hbr.1 (by omega)
   have e3:wrap64 ((i:Int)+1)=((i+1:Nat):Int):=by rw [wrap_in (by omega) (by omega)];rfl
   have e4:wrap64 (2 ^ i*bitN s (pos+i))=2 ^ i*bitN s (pos+i):=wrap_in (by omega) (by omega)
   have e5:wrap64 ((2:Int) ^ i*2)=2 ^ i*2:=wrap_in (by omega) (by omega)
   have e6:wrap64 (Bn s pos i+2 ^ i*bitN s (pos+i))=Bn s pos i+2 ^ i*bitN s (pos+i):=wrap_in (by omega) (by omega)
   have hin:(i:Int) < n:=by omega
   have hb0:¬ bitN s (pos+i) < 0:=by omega
   refine ⟨K1+K2+1,fun k hk=>?_⟩
   obtain ⟨k,rfl⟩:∃ m,k=m+1:=⟨k - 1,by omega⟩
   simp only [celluloidref04_Bits.l0]
   rw [if_pos hin,hwp,hbit k (by omega)]
   simp only [Option.bind_some]
   rw [if_neg hb0,e4,e5,e6,e3]
   exact hi' k (by omega)
  ·rw [if_neg (by omega)] at hbit
   rw [if_neg (by omega)]
   have hin:(i:Int) < n:=by omega
   refine ⟨K1+1,fun k hk=>?_⟩
   obtain ⟨k,rfl⟩:∃ m,k=m+1:=⟨k - 1,by omega⟩
   simp only [celluloidref04_Bits.l0]
   rw [if_pos hin,hwp,hbit k (by omega)]
   simp only [Option.bind_some]
   rw [if_pos (by decide)]
/-- A number of bits,or its error. -/
def bitsOf (s:ByteArray) (pos n:Int):Int × Int × Int :=
 if pos < 0 ∨ n < 0 ∨ 16 < n then (0,0,1) else if pos+n≤8*s.size then (Bn s pos n.toNat,pos+n,0) else (0,0,2)
theorem refbits_is (s:ByteArray) (hs:s.size≤140737488351232) (pos n:Int) (hp:pos≤9223372036854775807):Ev (fun k=>celluloidref04_Bits.f k s pos n) (bitsOf s pos n):=by
 have herr:Ev (fun k=>celluloidref04_Bits.j0 k s pos n true) (0,0,1):=Ev.step (fun k=>by simp only [celluloidref04_Bits.j0];rw [if_pos trivial]) (Ev.now _)
 unfold bitsOf
 by_cases h0:pos < 0
 ·rw [if_pos (.inl h0)]
  exact Ev.congr (fun k=>by unfold celluloidref04_Bits.f;rw [if_pos h0]) herr
 by_cases h1:n < 0
 ·rw [if_pos (.inr (.inl h1))]
  exact Ev.congr (fun k=>by unfold celluloidref04_Bits.f;rw [if_neg h0,if_pos h1]) herr
 by_cases h2:n > 16
 ·rw [if_pos (.inr (.inr h2))]
  exact Ev.congr (fun k=>by unfold celluloidref04_Bits.f;rw [if_neg h0,if_neg h1,decide_eq_true h2]) herr
 rw [if_neg (by omega)]
 obtain ⟨m,rfl⟩:∃ m:Nat,n=m:=⟨n.toNat,by omega⟩
 rw [Int.toNat_natCast]
 by_cases hbig:pos≤4611686018427387904
 ·obtain ⟨K,h⟩:=refbits_l s hs pos (by omega) hbig m (by omega) m 0 (by omega) (.inl rfl)
  refine ⟨K+1,fun k hk=>?_⟩
  obtain ⟨k,rfl⟩:∃ q,k=q+1:=⟨k - 1,by omega⟩
  dsimp only
  unfold celluloidref04_Bits.f
  rw [if_neg h0,if_neg h1,decide_eq_false h2]
  simp only [celluloidref04_Bits.j0]
  rw [if_neg (by simp)]
  exact h k (by omega)
 ·have e8:wrap64 (8*(s.size:Int))=8*s.size:=wrap_in (by omega) (by omega)
  rw [if_neg (by omega)]
  by_cases hm:m=0
  ·subst hm
   refine ⟨2,fun k hk=>?_⟩
   obtain ⟨k,rfl⟩:∃ q,k=q+2:=⟨k - 2,by omega⟩
   dsimp only
   unfold celluloidref04_Bits.f
   rw [if_neg h0,if_neg h1,decide_eq_false h2]
   simp only [celluloidref04_Bits.j0]
   rw [if_neg (by simp)]
   simp only [celluloidref04_Bits.l0]
   rw [if_neg (by simp),if_pos (by rfl),e8,if_pos (by omega)]
  ·obtain ⟨K1,hbit⟩:=refbit_is s hs pos hp (by omega)
   dsimp only at hbit
   rw [if_neg (by omega)] at hbit
   refine ⟨K1+2,fun k hk=>?_⟩
   obtain ⟨k,rfl⟩:∃ q,k=q+2:=⟨k - 2,by omega⟩
   dsimp only
   unfold celluloidref04_Bits.f
   rw [if_neg h0,if_neg h1,decide_eq_false h2]
   simp only [celluloidref04_Bits.j0]
   rw [if_neg (by simp)]
   simp only [celluloidref04_Bits.l0]
   rw [if_pos (by omega),Int.add_zero,wrap_in (n:=pos) (by omega) hp,hbit k (by omega)]
   simp only [Option.bind_some]
   rw [if_pos (by decide)]
theorem or_comm64 (x y:Int):Go.bits .or .i64 x y=Go.bits .or .i64 y x:=by unfold Go.bits;simp only;rw [BitVec.or_comm]
theorem or_shl (v b:Int) (i:Nat) (hi:i < 16) (hv0:0≤v) (hv:v < 2 ^ i) (hb0:0≤b) (hb:b≤1):Go.bits .or .i64 v (shl .i64 b i)=v+2 ^ i*b:=by
 have hpw:=pow_16 i (by omega)
 have hm0:0≤b*2 ^ i:=Int.mul_nonneg hb0 (by omega)
 have hm1:b*2 ^ i≤1*65536:=Int.mul_le_mul hb hpw.2 (by omega) (by omega)
 have e:shl .i64 b i=b*2 ^ i:=by
  unfold shl
  rw [Int.toNat_natCast,Nat.min_eq_left (by show i≤64;omega),IntKind.wrap_i64]
  omega
 rw [e,or_comm64]
 have hw:∀ n:Int,0≤n → n < 2 ^ 40 → IntKind.i64.wrap n=n:=fun n h₀ h₁=>by rw [IntKind.wrap_i64];omega
 rw [Go.bits_join .i64 40 (by decide) hw i (b*2 ^ i) v hm0 (Int.mul_emod_left _ _) (by omega) hv0 hv (by omega),Int.mul_comm b]
 omega
theorem bits_l (s : ByteArray) (hs : s.size ≤ 140737488351232) (pos : Int) (h0 : 0 ≤ pos) (n : Nat) (hn : n ≤ 16) (hb : pos + n ≤ 8 * s.size) (d : Nat) : ∀ (i : Nat), i + d = n →
  Ev (fun k=>huff_Bits.l0 k s pos n (Bn s pos i) n i) (Bn s pos n,pos+n,0):=by
 induction d with
 |zero =>
  intro i hi
  obtain rfl:i=n:=by omega
  refine Ev.step (f:=fun _=>some (Bn s pos i,pos+i,0)) (fun k=>?_) (Ev.now _)
  simp only [huff_Bits.l0]
  rw [if_neg (by omega),wrap_in (n:=pos+i) (by omega) (by omega)]
 |succ d ih =>
  intro i hi
  obtain ⟨K,h⟩:=ih (i+1) (by omega)
  dsimp only at h
  have hbr:=bitN_rng s (pos+i)
  have hBr:=Bn_rng s pos i
  have hwp:wrap64 (pos+i)=pos+i:=wrap_in (by omega) (by omega)
  have e3:wrap64 ((i:Int)+1)=((i+1:Nat):Int):=by rw [wrap_in (by omega) (by omega)];rfl
  have e1:Bn s pos (i+1)=Bn s pos i+2 ^ i*bitN s (pos+i):=rfl
  have hin:(i:Int) < n:=by omega
  have hbt:=bit_is' s hs (pos+i) (by omega) (by omega)
  rw [if_pos (by omega)] at hbt
  refine ⟨K+1,fun k hk=>?_⟩
  obtain ⟨k,rfl⟩:∃ m,k=m+1:=⟨k - 1,by omega⟩
  simp only [huff_Bits.l0]
  rw [if_pos hin,hwp,hbt]
  simp only [Option.bind_some]
  rw [if_pos (Int.natCast_nonneg _),or_shl _ _ i (by omega) hBr.1 hBr.2 hbr.1 hbr.2,e3,← e1]
  exact h k (by omega)
theorem bits_is (s:ByteArray) (hs:s.size≤140737488351232) (pos n:Int) (hp:pos≤9223372036854775807):Ev (fun k=>huff_Bits.f k s pos n) (bitsOf s pos n):=by
 have herr:Ev (fun k=>huff_Bits.j0 k s pos n true) (0,0,1):=Ev.step (fun k=>by simp only [huff_Bits.j0];rw [if_pos trivial]) (Ev.now _)
 unfold bitsOf
 by_cases h0:pos < 0
 ·rw [if_pos (.inl h0)]
  exact Ev.congr (fun k=>by unfold huff_Bits.f;rw [if_pos h0]) herr
 by_cases h1:n < 0
 ·rw [if_pos (.inr (.inl h1))]
  exact Ev.congr (fun k=>by unfold huff_Bits.f;rw [if_neg h0,if_pos h1]) herr
 by_cases h2:n > 16
 ·rw [if_pos (.inr (.inr h2))]
  exact Ev.congr (fun k=>by unfold huff_Bits.f;rw [if_neg h0,if_neg h1,decide_eq_true h2]) herr
 rw [if_neg (by omega)]
 have e8:wrap64 (8*(s.size:Int))=8*s.size:=wrap_in (by omega) (by omega)
 have e9:wrap64 (8*(s.size:Int) - n)=8*s.size - n:=wrap_in (by omega) (by omega)
 obtain ⟨m,rfl⟩:∃ m:Nat,n=m:=⟨n.toNat,by omega⟩
 rw [Int.toNat_natCast]
 by_cases hb:pos+m≤8*s.size
 ·rw [if_pos hb]
  obtain ⟨K,h⟩:=bits_l s hs pos (by omega) m (by omega) hb m 0 (by omega)
  dsimp only at h
  refine ⟨K+1,fun k hk=>?_⟩
  obtain ⟨k,rfl⟩:∃ q,k=q+1:=⟨k - 1,by omega⟩
  dsimp only
  unfold huff_Bits.f
  rw [if_neg h0,if_neg h1,decide_eq_false h2]
  simp only [huff_Bits.j0]
  rw [if_neg (by simp),e8,e9,if_neg (by omega)]
  exact h k (by omega)
 ·rw [if_neg hb]
  refine ⟨1,fun k hk=>?_⟩
  obtain ⟨k,rfl⟩:∃ q,k=q+1:=⟨k - 1,by omega⟩
  dsimp only
  unfold huff_Bits.f
  rw [if_neg h0,if_neg h1,decide_eq_false h2]
  simp only [huff_Bits.j0]
  rw [if_neg (by simp),e8,e9,if_pos (by omega)]
/-- 2^15,halved. -/
def half (n:Nat):Int:=32768 / 2 ^ n
theorem half_succ (n:Nat):half (n+1)=half n / 2:=by
 unfold half
 rw [Int.pow_succ,Int.ediv_ediv_of_nonneg (Int.le_of_lt (Int.pow_pos (by decide)))]
theorem half_rng (n:Nat):0≤half n∧half n≤32768:=by
 unfold half
 exact ⟨Int.ediv_nonneg (by decide) (Int.le_of_lt (Int.pow_pos (by decide))),Int.ediv_le_self _ (by decide)⟩
theorem half_is (n:Nat) (h:n≤15):half n=2 ^ (15 - n):=by
 unfold half
 have e:(32768:Int)=2 ^ (15 - n)*2 ^ n:=by rw [← Int.pow_add,show 15 - n+n=15 by omega];decide
 rw [e,Int.mul_ediv_cancel _ (Int.ne_of_gt (Int.pow_pos (by decide)))]
/-- What the first k lengths take;how many of them there are;how many of one bit. -/
def takes (l:List Int):Nat → Int
 |0=>0
 |k+1=>takes l k+if 0 < l.getD k 0 then half (l.getD k 0).toNat else 0
def manyK (l:List Int):Nat → Int
 |0=>0
 |k+1=>manyK l k+if 0 < l.getD k 0 then 1 else 0
def onesK (l:List Int):Nat → Int
 |0=>0
 |k+1=>onesK l k+if l.getD k 0=1 then 1 else 0
theorem takes_rng (l:List Int) (k:Nat):0≤takes l k∧takes l k≤32768*k∧0≤manyK l k∧manyK l k≤k∧0≤onesK l k∧onesK l k≤k:=by
 induction k with
 |zero=>simp [takes,manyK,onesK]
 |succ k ih =>
  have:=half_rng (l.getD k 0).toNat
  simp only [takes,manyK,onesK]
  by_cases h:0 < l.getD k 0
  ·rw [if_pos h,if_pos h]
   split <;> omega
  ·rw [if_neg h,if_neg h,if_neg (by omega)]
   omega
theorem referr_l1 (l : List Int) (hl : l.length ≤ 320) (i : Nat) (hi : i < l.length) (n : Nat) (hn : l.getD i 0 = n) (hn1 : n ≤ 15) (x3 x4 x5 : Int) (h3 : 0 ≤ x3) (h3' : x3 ≤ 32768 * 400) (h5 : 0 ≤ x5) (h5' : x5 ≤ 400) (r : Int)
  (h:Ev (fun k=>celluloidref04_Error.l0 k l (x3+half n) x4 (x5+if n=1 then 1 else 0) ((i+1:Nat):Int)) r) (d:Nat):∀ j:Nat,j+d=n →
  Ev (fun k=>celluloidref04_Error.l1 k l x3 x4 x5 i (half j) j) r:=by
 have hrd:rd l i=n:=by rw [rd_nat];exact hn
 have hi1:(i:Int) < l.length:=by omega
 have e1:wrap64 ((i:Int)+1)=((i+1:Nat):Int):=by rw [wrap_in (by omega) (by omega)];rfl
 induction d with
 |zero =>
  intro j hj
  obtain rfl:j=n:=by omega
  have hh:=half_rng j
  obtain ⟨K,h⟩:=h
  dsimp only at h
  refine ⟨K+1,fun k hk=>?_⟩
  obtain ⟨k,rfl⟩:∃ q,k=q+1:=⟨k - 1,by omega⟩
  have h':=h k (by omega)
  simp only [celluloidref04_Error.l1]
  have e2:wrap64 (x3+half j)=x3+half j:=wrap_in (by omega) (by omega)
  have e3:wrap64 (x5+1)=x5+1:=wrap_in (by omega) (by omega)
  rw [if_pos (Int.natCast_nonneg _),if_pos hi1,hrd,if_neg (Int.lt_irrefl _),e2,e3,e1]
  by_cases hj1:j=1
  ·rw [if_pos hj1] at h'
   rw [if_pos (by exact_mod_cast hj1)]
   exact h'
  ·rw [if_neg hj1,Int.add_zero] at h'
   rw [if_neg (by exact_mod_cast hj1)]
   exact h'
 |succ d ih =>
  intro j hj
  obtain ⟨K,hd⟩:=ih (j+1) (by omega)
  dsimp only at hd
  have hh:=half_rng j
  rw [half_succ] at hd
  refine ⟨K+1,fun k hk=>?_⟩
  obtain ⟨k,rfl⟩:∃ q,k=q+1:=⟨k - 1,by omega⟩
  simp only [celluloidref04_Error.l1]
  have e2:wrap64 (half j / 2)=half j / 2:=wrap_in (by omega) (by omega)
  have e3:wrap64 ((j:Int)+1)=((j+1:Nat):Int):=by rw [wrap_in (by omega) (by omega)];rfl
  have hjn:(j:Int) < n:=by omega
  rw [if_pos (Int.natCast_nonneg _),if_pos hi1,hrd,if_pos hjn,Int.tdiv_eq_ediv_of_nonneg hh.1,e2,e3]
  exact hd k (by omega)
def refErrOf (l:List Int):Int:=if takes l l.length=32768 then 0 else if manyK l l.length=0 then 0 else if manyK l l.length=1 then (if onesK l l.length=1 then 0 else 4) else 4
theorem referr_l0 (l : List Int) (hl : l.length ≤ 320) (d : Nat) : ∀ i : Nat, i + d = l.length → (∀ q : Nat, q < i → badLen (rd l q) = false) →
  Ev (fun k=>celluloidref04_Error.l0 k l (takes l i) (manyK l i) (onesK l i) i) (if okL l=true then refErrOf l else 1):=by
 induction d with
 |zero =>
  intro i hi hg
  obtain rfl:i=l.length:=by omega
  rw [if_pos ((ok_is l).1 hg)]
  refine Ev.step (f:=fun _=>some (refErrOf l)) (fun k=>?_) (Ev.now _)
  simp only [celluloidref04_Error.l0]
  rw [if_neg (by omega)]
  unfold refErrOf
  repeat' split
  all_goals rfl
 |succ d ih =>
  intro i hi hg
  have hil:(i:Int) < l.length:=by omega
  by_cases hb:badLen (rd l i)=true
  ·have hok : ¬ okL l = true := fun h => by
    have:=(ok_is l).2 h i (by omega)
    rw [hb] at this
    cases this
   rw [if_neg hok]
   refine ⟨2,fun k hk=>?_⟩
   obtain ⟨k,rfl⟩:∃ q,k=q+2:=⟨k - 2,by omega⟩
   simp only [celluloidref04_Error.l0]
   rw [if_pos hil,if_pos (Int.natCast_nonneg _)]
   by_cases h0:rd l i < 0
   ·rw [if_pos h0]
    simp only [celluloidref04_Error.j1]
    rw [if_pos trivial]
   ·rw [if_neg h0,decide_eq_true (by simp [badLen] at hb;omega)]
    simp only [celluloidref04_Error.j1]
    rw [if_pos trivial]
  ·have hb':badLen (rd l i)=false:=by simpa using hb
   obtain ⟨n,en,hn⟩:=good_is l i hb'
   have hgi:∀ q:Nat,q < i+1 → badLen (rd l q)=false:=fun q hq=>by
    rcases Nat.lt_or_ge q i with h | h
    ·exact hg q h
    ·obtain rfl:q=i:=by omega
     exact hb'
   have hi':=ih (i+1) (by omega) hgi
   have hg0:l.getD i 0=n:=by rw [← rd_nat];exact en
   have htr:=takes_rng l i
   have e4:Aside0 (wrap64 (manyK l i+1)=manyK l i+1):=⟨wrap_in (by omega) (by omega)⟩
   have e1:Aside0 (wrap64 ((i:Int)+1)=((i+1:Nat):Int)):=⟨by rw [wrap_in (by omega) (by omega)];rfl⟩
   simp only [takes,manyK,onesK] at hi'
   rw [hg0,Int.toNat_natCast] at hi'
   by_cases hn0:n=0
   ·subst hn0
    rw [if_neg (by simp),if_neg (by simp),if_neg (by simp),Int.add_zero,Int.add_zero,Int.add_zero] at hi'
    obtain ⟨K,hK⟩:=hi'
    dsimp only at hK
    refine ⟨K+2,fun k hk=>?_⟩
    obtain ⟨k,rfl⟩:∃ q,k=q+2:=⟨k - 2,by omega⟩
    simp only [celluloidref04_Error.l0]
    rw [if_pos hil,if_pos (Int.natCast_nonneg _),en,if_neg (by simp),decide_eq_false (by simp)]
    simp only [celluloidref04_Error.j1]
    rw [if_neg (by simp),if_pos (Int.natCast_nonneg _),if_pos hil,en,if_neg (by simp),if_neg (by simp),e1.out]
    exact hK k (by omega)
   ·rw [if_pos (by omega),if_pos (by omega)] at hi'
    have hif:(if (n:Int)=1 then (1:Int) else 0)=if n=1 then 1 else 0:=by
     by_cases h:n=1
     ·rw [if_pos h,if_pos (by exact_mod_cast h)]
     ·rw [if_neg h,if_neg (by exact_mod_cast h)]
    rw [hif] at hi'
    have hl1:=referr_l1 l hl i (by omega) n hg0 (by omega) (takes l i) (manyK l i+1) (onesK l i) htr.1 (by omega) htr.2.2.2.2.1 (by omega) _ hi' n 0 (by omega)
    rw [show half 0=32768 from rfl] at hl1
    obtain ⟨K,hK⟩:=hl1
    dsimp only at hK
    refine ⟨K+2,fun k hk=>?_⟩
    obtain ⟨k,rfl⟩:∃ q,k=q+2:=⟨k - 2,by omega⟩
    simp only [celluloidref04_Error.l0]
    rw [if_pos hil,if_pos (Int.natCast_nonneg _),en,if_neg (by omega),decide_eq_false (by omega)]
    simp only [celluloidref04_Error.j1]
    rw [if_neg (by simp),if_pos (Int.natCast_nonneg _),if_pos hil,en,if_pos (by omega),e4.out]
    exact hK k (by omega)
end Go.Proofs.Ytpbhkdamkbopkaa.RefA
set_option linter.unusedSimpArgs false
set_option linter.unusedVariables false
namespace Go.Proofs.Ytpbhkdamkbopkaa.RefA
open Go.RowKit Go.Proofs.Ytpbhkdamkbopkaa.Ext Go.Proofs.Ytpbhkdamkbopkaa.GHuff Go.Proofs.YtpbhkdamkbopkaaW.PrintWords Go.Proofs.YtpbhkdamkbopkaaW.PrintLast Go.Proofs.YtpbhkdamkbopkaaW.PrintMore
theorem cz_snoc (a:List Int) (x:Int) (n:Nat) (h:n < 16):cz (a ++ [x]) n=cz a n+if x=n∧0 < n then 1 else 0:=by
 unfold cz
 rw [List.getD_eq_getElem?_getD,List.getD_eq_getElem?_getD,cnts_get _ _ h,cnts_get _ _ h]
 simp only [Option.getD_some]
 by_cases h0:n=0
 ·rw [if_pos h0,if_pos h0,if_neg (by omega)];rfl
 ·rw [if_neg h0,if_neg h0,cnt_snoc]
  by_cases hx:x=(n:Int)
  ·rw [if_pos hx,if_pos ⟨hx,by omega⟩]
  ·rw [if_neg hx,if_neg (fun h=>hx h.1)]
theorem room_snoc (a:List Int) (x:Int) (n:Nat) (h:n≤16):roomN (cnts (a ++ [x])) n=roomN (cnts a) n - if 0 < x∧x < n then 2 ^ (15 - x.toNat) else 0:=by
 induction n with
 |zero=>rw [if_neg (by omega)];rfl
 |succ n ih =>
  have h1:roomN (cnts (a ++ [x])) (n+1)=roomN (cnts (a ++ [x])) n - cz (a ++ [x]) n*2 ^ (15 - n):=rfl
  have h2:roomN (cnts a) (n+1)=roomN (cnts a) n - cz a n*2 ^ (15 - n):=rfl
  have hc:=cz_snoc a x n (by omega)
  rw [h1,h2,ih (by omega)]
  by_cases hx:x=(n:Int)
  ·by_cases h0:0 < n
   ·rw [if_pos (show x=(n:Int)∧0 < n from ⟨hx,h0⟩)] at hc
    rw [hc,if_neg (show ¬ (0 < x∧x < (n:Int)) by omega),if_pos (show 0 < x∧x < ((n+1:Nat):Int) by omega),Int.add_mul,hx,Int.toNat_natCast]
    omega
   ·rw [if_neg (show ¬ (x=(n:Int)∧0 < n) by omega)] at hc
    rw [hc,if_neg (show ¬ (0 < x∧x < (n:Int)) by omega),if_neg (show ¬ (0 < x∧x < ((n+1:Nat):Int)) by omega),Int.add_zero]
    omega
  ·rw [if_neg (show ¬ (x=(n:Int)∧0 < n) from fun h=>hx h.1),Int.add_zero] at hc
   rw [hc]
   by_cases h3:0 < x∧x < n
   ·rw [if_pos h3,if_pos (show 0 < x∧x < ((n+1:Nat):Int) by omega)]
    omega
   ·rw [if_neg h3,if_neg (show ¬ (0 < x∧x < ((n+1:Nat):Int)) by omega)]
    omega
theorem many_snoc (a:List Int) (x:Int) (n:Nat) (h:n≤16):manyN (cnts (a ++ [x])) n=manyN (cnts a) n+if 0 < x∧x < n then 1 else 0:=by
 induction n with
 |zero=>rw [if_neg (by omega)];rfl
 |succ n ih =>
  have h1:manyN (cnts (a ++ [x])) (n+1)=manyN (cnts (a ++ [x])) n+cz (a ++ [x]) n:=rfl
  have h2:manyN (cnts a) (n+1)=manyN (cnts a) n+cz a n:=rfl
  have hc:=cz_snoc a x n (by omega)
  rw [h1,h2,ih (by omega)]
  by_cases hx:x=(n:Int)
  ·by_cases h0:0 < n
   ·rw [if_pos (show x=(n:Int)∧0 < n from ⟨hx,h0⟩)] at hc
    rw [hc,if_neg (show ¬ (0 < x∧x < (n:Int)) by omega),if_pos (show 0 < x∧x < ((n+1:Nat):Int) by omega)]
    omega
   ·rw [if_neg (show ¬ (x=(n:Int)∧0 < n) by omega)] at hc
    rw [hc,if_neg (show ¬ (0 < x∧x < (n:Int)) by omega),if_neg (show ¬ (0 < x∧x < ((n+1:Nat):Int)) by omega),Int.add_zero]
    omega
  ·rw [if_neg (show ¬ (x=(n:Int)∧0 < n) from fun h=>hx h.1),Int.add_zero] at hc
   rw [hc]
   by_cases h3:0 < x∧x < n
   ·rw [if_pos h3,if_pos (show 0 < x∧x < ((n+1:Nat):Int) by omega)]
    omega
   ·rw [if_neg h3,if_neg (show ¬ (0 < x∧x < ((n+1:Nat):Int)) by omega)]
    omega
theorem room_nil (n:Nat) (h:n≤16):roomN (cnts []) n=32768∧manyN (cnts []) n=0:=by
 have hz:∀ m,cz [] m=0:=fun m=>by have:=cz_rng [] m;simp at this;omega
 induction n with
 |zero=>exact ⟨rfl,rfl⟩
 |succ n ih =>
  have h1:roomN (cnts []) (n+1)=roomN (cnts []) n - cz [] n*2 ^ (15 - n):=rfl
  have h2:manyN (cnts []) (n+1)=manyN (cnts []) n+cz [] n:=rfl
  rw [h1,h2,hz n,(ih (by omega)).1,(ih (by omega)).2]
  simp
theorem ok_at (l:List Int) (h:okL l=true) (i:Nat) (hi:i < l.length):∃ n:Nat,l.getD i 0=n∧n≤15:=by
 obtain ⟨n,e,hn⟩:=good_is l i ((ok_is l).2 h i hi)
 exact ⟨n,by rw [← rd_nat];exact e,by omega⟩
theorem takes_is (l:List Int) (h:okL l=true):∀ k,k≤l.length → takes l k=32768 - roomN (cnts (l.take k)) 16∧manyK l k=manyN (cnts (l.take k)) 16∧onesK l k=cnt (l.take k) 1:=by
 intro k
 induction k with
 |zero=>intro _;rw [List.take_zero,(room_nil 16 (Nat.le_refl _)).1,(room_nil 16 (Nat.le_refl _)).2];simp [takes,manyK,onesK,cnt]
 |succ k ih =>
  intro hk
  obtain ⟨h1,h2,h3⟩:=ih (by omega)
  obtain ⟨n,en,hn⟩:=ok_at l h k (by omega)
  rw [take_snoc' l k (by omega),room_snoc _ _ 16 (Nat.le_refl _),many_snoc _ _ 16 (Nat.le_refl _),cnt_snoc,en]
  simp only [takes,manyK,onesK]
  rw [h1,h2,h3,en,Int.toNat_natCast,half_is n hn]
  refine ⟨?_,?_,rfl⟩
  ·by_cases h0:0 < (n:Int)
   ·rw [if_pos h0,if_pos ⟨h0,by omega⟩];omega
   ·rw [if_neg h0,if_neg (fun h=>h0 h.1)];omega
  ·by_cases h0:0 < (n:Int)
   ·rw [if_pos h0,if_pos ⟨h0,by omega⟩]
   ·rw [if_neg h0,if_neg (fun h=>h0 h.1)]
theorem refErr_is (l:List Int) (h:okL l=true):refErrOf l=if badSum l=true then 4 else 0:=by
 obtain ⟨h1,h2,h3⟩:=takes_is l h l.length (Nat.le_refl _)
 rw [List.take_length] at h1 h2 h3
 have hG:=Gn_room l 15 (Nat.le_refl _)
 have hS:=many_Sn l 15 (Nat.le_refl _)
 have hc1:cz l 1=cnt l 1:=cz_is l 1 (by decide) (by decide)
 rw [show (15:Nat)+1=16 from rfl] at hG hS
 simp only [Nat.sub_self,Int.pow_zero,Int.mul_one] at hG
 have hz:Sn l 15=0 → Gn l 15=0:=fun h0=>by
  have:=Gn_stop l 0 15 (by decide) (by decide) (by rw [h0];rfl)
  rw [Gn_zero] at this
  simpa using this
 have ho:Sn l 15=1 → cz l 1=1 → Gn l 15=16384:=fun h0 hc=>by
  have hs1:=Sn_succ l 0 (by decide)
  have hs0:Sn l 0=0:=rfl
  have:=Gn_stop l 1 15 (by decide) (by decide) (by rw [h0,hs1,hs0,hc];rfl)
  rw [this,Gn_succ,Gn_zero,hc]
  decide
 have hs0:0≤Sn l 15:=Int.natCast_nonneg _
 unfold refErrOf badSum
 rw [h1,h2,h3,hS]
 rw [hS] at h2
 generalize roomN (cnts l) 16=r at *
 generalize Sn l 15=m at *
 rw [hc1] at ho
 generalize cnt l 1=c at *
 generalize Gn l 15=g at *
 by_cases hr:r=0
 ·subst hr;rw [if_pos (by omega),if_neg (by simp)]
 rw [if_neg (by omega)]
 by_cases hm:m=0
 ·have:=hz hm
  rw [if_pos hm,if_neg]
  subst hm
  simp
  omega
 rw [if_neg hm]
 by_cases hm1:m=1
 ·rw [if_pos hm1]
  by_cases hcc:c=1
  ·have:=ho hm1 hcc
   rw [if_pos hcc,if_neg]
   subst hm1 hcc
   simp
   omega
  ·rw [if_neg hcc,if_pos]
   subst hm1
   simp [hcc]
   omega
 ·rw [if_neg hm1,if_pos]
  simp [hm1]
  omega
theorem referr_is (l:List Int):Ev (fun k=>celluloidref04_Error.f k l) (errOf l):=by
 unfold errOf
 by_cases h:320 < l.length
 ·rw [if_pos h]
  exact Ev.congr (f:=fun _=>some 1) (fun k=>by unfold celluloidref04_Error.f;rw [if_pos (by omega)]) (Ev.now _)
 rw [if_neg h]
 have h0:=referr_l0 l (by omega) l.length 0 (by omega) (fun q hq=>absurd hq (Nat.not_lt_zero q))
 have e:(if okL l=true then refErrOf l else 1)=if okL l=false then 1 else if badSum l=true then 4 else 0:=by
  by_cases hk:okL l=true
  ·rw [if_pos hk,if_neg (by rw [hk];decide),refErr_is l hk]
  ·rw [if_neg hk,if_pos (by simpa using hk)]
 rw [e] at h0
 exact Ev.congr (fun k=>by unfold celluloidref04_Error.f;rw [if_neg (by omega)];rfl) h0
/-- What the codes ahead of symbol i take,among the first q. -/
def ahead (l:List Int) (i:Nat):Nat → Int
 |0=>0
 |q+1=>ahead l i q+if 0 < l.getD q 0∧(l.getD q 0 < l.getD i 0 ∨ l.getD q 0=l.getD i 0∧q < i) then half (l.getD q 0).toNat else 0
theorem ahead_rng (l:List Int) (i q:Nat):0≤ahead l i q∧ahead l i q≤32768*q:=by
 induction q with
 |zero=>simp [ahead]
 |succ q ih =>
  have:=half_rng (l.getD q 0).toNat
  simp only [ahead]
  split <;> omega
theorem ahead_is (l : List Int) (h : okL l = true) (i : Nat) (hi : i < l.length) (n : Nat) (hn : l.getD i 0 = n) (h0 : 0 < n) (hn15 : n ≤ 15) : ∀ q, q ≤ l.length →
  ahead l i q=32768 - roomN (cnts (l.take q)) n+((idxN l n (min q i)).length:Int)*2 ^ (15 - n):=by
 intro q
 induction q with
 |zero=>intro _;rw [List.take_zero,(room_nil n (by omega)).1,Nat.zero_min];simp [ahead,idxN]
 |succ q ih =>
  intro hq
  obtain ⟨m,em,hm⟩:=ok_at l h q (by omega)
  have ih:=ih (by omega)
  rw [take_snoc' l q (by omega),room_snoc _ _ n (by omega),em]
  simp only [ahead]
  rw [ih,em,hn,Int.toNat_natCast,half_is m hm]
  by_cases hqi:q < i
  ·rw [show min (q+1) i=q+1 by omega,show min q i=q by omega,idxN_succ,em,List.length_append]
   by_cases hmn:m=n
   ·subst hmn
    rw [if_pos (show 0 < (m:Int)∧((m:Int) < m ∨ (m:Int)=m∧q < i) from ⟨by omega,.inr ⟨rfl,hqi⟩⟩),if_neg (show ¬ (0 < (m:Int)∧(m:Int) < m) by omega),if_pos rfl]
    simp only [List.length_singleton,Int.natCast_add,Int.add_mul]
    omega
   ·have hz : ((idxN l n q).length + (if (m : Int) = (n : Int) then [(q : Int)] else []).length : Nat) = (idxN l n q).length := by
     rw [if_neg (by omega)];rfl
    rw [hz]
    by_cases hlt:0 < (m:Int)∧(m:Int) < n
    ·rw [if_pos hlt,if_pos (show 0 < (m:Int)∧((m:Int) < n ∨ (m:Int)=n∧q < i) from ⟨hlt.1,.inl hlt.2⟩)]
     omega
    ·rw [if_neg hlt,if_neg (show ¬ (0 < (m:Int)∧((m:Int) < n ∨ (m:Int)=n∧q < i)) by omega)]
     omega
  ·rw [show min (q+1) i=i by omega,show min q i=i by omega]
   by_cases hlt:0 < (m:Int)∧(m:Int) < n
   ·rw [if_pos hlt,if_pos (show 0 < (m:Int)∧((m:Int) < n ∨ (m:Int)=n∧q < i) from ⟨hlt.1,.inl hlt.2⟩)]
    omega
   ·rw [if_neg hlt,if_neg (show ¬ (0 < (m:Int)∧((m:Int) < n ∨ (m:Int)=n∧q < i)) by omega)]
    omega
theorem firstC_room (l:List Int) (n:Nat) (h0:0 < n) (hn:n≤15):firstC l n*2 ^ (15 - n)=32768 - roomN (cnts l) n:=by
 obtain ⟨m,rfl⟩:∃ m,n=m+1:=⟨n - 1,by omega⟩
 have h1:=Gn_room l m (by omega)
 rw [pow_split m hn] at h1
 rw [firstC_succ,Int.mul_comm 2,Int.mul_assoc]
 exact h1
/-- All that stands ahead,in units of the code's own last bit. -/
theorem ahead_code (l:List Int) (h:okL l=true) (i:Nat) (hi:i < l.length) (n:Nat) (hn:l.getD i 0=n) (h0:0 < n) (hn15:n≤15):ahead l i l.length / 2 ^ (15 - n)=codeAt l i:=by
 rw [ahead_is l h i hi n hn h0 hn15 l.length (Nat.le_refl _),List.take_length,← firstC_room l n h0 hn15,show min l.length i=i by omega,← Int.add_mul,
  Int.mul_ediv_cancel _ (Int.ne_of_gt (Int.pow_pos (by decide)))]
 unfold codeAt
 rw [rank_n l i n hn,hn,Int.toNat_natCast]
theorem refcodes_l2 (l out : List Int) (i q : Nat) (hq : q < l.length) (n : Nat) (hn : l.getD q 0 = n) (hn15 : n ≤ 15) (sum : Int) (hs0 : 0 ≤ sum) (hs1 : sum ≤ 32768 * 400) (hl : l.length ≤ 320) (r : List Int)
  (h:Ev (fun k=>celluloidref04_Codes.l1 k l out i (sum+half n) ((q+1:Nat):Int)) r) (d:Nat):∀ j:Nat,j+d=n →
  Ev (fun k=>celluloidref04_Codes.l2 k l out i sum q (half j) j) r:=by
 have hrd:rd l q=n:=by rw [rd_nat];exact hn
 have hq1:(q:Int) < l.length:=by omega
 have e1:Aside0 (wrap64 ((q:Int)+1)=((q+1:Nat):Int)):=⟨by rw [wrap_in (by omega) (by omega)];rfl⟩
 induction d with
 |zero =>
  intro j hj
  obtain rfl:j=n:=by omega
  have hh:=half_rng j
  obtain ⟨K,h⟩:=h
  dsimp only at h
  have e2:Aside0 (wrap64 (sum+half j)=sum+half j):=⟨wrap_in (by omega) (by omega)⟩
  refine ⟨K+1,fun k hk=>?_⟩
  obtain ⟨k,rfl⟩:∃ q,k=q+1:=⟨k - 1,by omega⟩
  simp only [celluloidref04_Codes.l2]
  rw [if_pos (Int.natCast_nonneg _),if_pos hq1,hrd,if_neg (Int.lt_irrefl _),e2.out,e1.out]
  exact h k (by omega)
 |succ d ih =>
  intro j hj
  obtain ⟨K,hd⟩:=ih (j+1) (by omega)
  dsimp only at hd
  have hh:=half_rng j
  rw [half_succ] at hd
  have hjn:(j:Int) < n:=by omega
  have e2:Aside0 (wrap64 (half j / 2)=half j / 2):=⟨wrap_in (by omega) (by omega)⟩
  have e3:Aside0 (wrap64 ((j:Int)+1)=((j+1:Nat):Int)):=⟨by rw [wrap_in (by omega) (by omega)];rfl⟩
  refine ⟨K+1,fun k hk=>?_⟩
  obtain ⟨k,rfl⟩:∃ q,k=q+1:=⟨k - 1,by omega⟩
  simp only [celluloidref04_Codes.l2]
  rw [if_pos (Int.natCast_nonneg _),if_pos hq1,hrd,if_pos hjn,Int.tdiv_eq_ediv_of_nonneg hh.1,e2.out,e3.out]
  exact hd k (by omega)
theorem refcodes_l3 (l out : List Int) (i : Nat) (hi : i < out.length) (hol : out.length ≤ 320) (r : List Int) (d : Nat) : ∀ (j : Nat) (sum : Int), j + d = 15 → 0 ≤ sum → sum ≤ 32768 * 400 →
  Ev (fun k=>celluloidref04_Codes.l0 k l (out.set i (sum / 2 ^ d)) ((i+1:Nat):Int)) r → Ev (fun k=>celluloidref04_Codes.l3 k l out i sum j) r:=by
 have e1:Aside0 (wrap64 ((i:Int)+1)=((i+1:Nat):Int)):=⟨by rw [wrap_in (by omega) (by omega)];rfl⟩
 induction d with
 |zero =>
  intro j sum hj hs0 hs1 h
  obtain ⟨K,h⟩:=h
  dsimp only at h
  rw [Int.pow_zero,Int.ediv_one] at h
  have hj':¬ (j:Int) < 15:=by omega
  have hi':(i:Int) < out.length:=by omega
  refine ⟨K+1,fun k hk=>?_⟩
  obtain ⟨k,rfl⟩:∃ q,k=q+1:=⟨k - 1,by omega⟩
  simp only [celluloidref04_Codes.l3]
  rw [if_neg hj',if_pos (Int.natCast_nonneg _),if_pos hi',Int.toNat_natCast,e1.out]
  exact h k (by omega)
 |succ d ih =>
  intro j sum hj hs0 hs1 h
  have e:sum / 2 ^ (d+1)=sum / 2 / 2 ^ d:=by rw [Int.pow_succ,Int.mul_comm,Int.ediv_ediv_of_nonneg (by decide)]
  rw [e] at h
  obtain ⟨K,h⟩:=ih (j+1) (sum / 2) (by omega) (by omega) (by omega) h
  dsimp only at h
  have hj':(j:Int) < 15:=by omega
  have e2:Aside0 (wrap64 (sum / 2)=sum / 2):=⟨wrap_in (by omega) (by omega)⟩
  have e3:Aside0 (wrap64 ((j:Int)+1)=((j+1:Nat):Int)):=⟨by rw [wrap_in (by omega) (by omega)];rfl⟩
  refine ⟨K+1,fun k hk=>?_⟩
  obtain ⟨k,rfl⟩:∃ q,k=q+1:=⟨k - 1,by omega⟩
  simp only [celluloidref04_Codes.l3]
  rw [if_pos hj',Int.tdiv_eq_ediv_of_nonneg hs0,e2.out,e3.out]
  exact h k (by omega)
theorem refcodes_l1 (l out : List Int) (hl : l.length ≤ 320) (hok : okL l = true) (i : Nat) (hi : i < l.length) (r : List Int)
  (h:Ev (fun k=>celluloidref04_Codes.l3 k l out i (ahead l i l.length) (l.getD i 0)) r) (d:Nat):∀ q:Nat,q+d=l.length →
  Ev (fun k=>celluloidref04_Codes.l1 k l out i (ahead l i q) q) r:=by
 have hri:rd l i=l.getD i 0:=rd_nat l i
 have hi1:(i:Int) < l.length:=by omega
 induction d with
 |zero =>
  intro q hq
  obtain rfl:q=l.length:=by omega
  obtain ⟨K,h⟩:=h
  dsimp only at h
  refine ⟨K+1,fun k hk=>?_⟩
  obtain ⟨k,rfl⟩:∃ q,k=q+1:=⟨k - 1,by omega⟩
  simp only [celluloidref04_Codes.l1]
  rw [if_neg (Int.lt_irrefl _),if_pos (Int.natCast_nonneg _),if_pos hi1,hri]
  exact h k (by omega)
 |succ d ih =>
  intro q hq
  have hrq:rd l q=l.getD q 0:=rd_nat l q
  have hq1:(q:Int) < l.length:=by omega
  obtain ⟨m,em,hm⟩:=ok_at l hok q (by omega)
  have hd:=ih (q+1) (by omega)
  have har:=ahead_rng l i q
  have e1:Aside0 (wrap64 ((q:Int)+1)=((q+1:Nat):Int)):=⟨by rw [wrap_in (by omega) (by omega)];rfl⟩
  simp only [ahead] at hd
  -- the test comes to this
  have key:Ev (fun k=>celluloidref04_Codes.j2 k l out i (ahead l i q) q (decide (0 < l.getD q 0∧(l.getD q 0 < l.getD i 0 ∨ l.getD q 0=l.getD i 0∧q < i)))) r:=by
   by_cases hc:0 < l.getD q 0∧(l.getD q 0 < l.getD i 0 ∨ l.getD q 0=l.getD i 0∧q < i)
   ·rw [decide_eq_true hc]
    rw [if_pos hc,em,Int.toNat_natCast] at hd
    have h2:=refcodes_l2 l out i q (by omega) m em hm (ahead l i q) har.1 (by omega) hl r hd m 0 (by omega)
    exact Ev.step (fun k=>by simp only [celluloidref04_Codes.j2];rw [if_pos trivial];rfl) h2
   ·rw [decide_eq_false hc]
    rw [if_neg hc,Int.add_zero] at hd
    exact Ev.step (fun k=>by simp only [celluloidref04_Codes.j2];rw [if_neg (by simp),e1.out]) hd
  refine Ev.step (fun k=>?_) key
  simp only [celluloidref04_Codes.l1]
  rw [if_pos hq1,if_pos (Int.natCast_nonneg _),hrq,hri]
  by_cases h0:l.getD q 0 > 0
  ·rw [if_pos h0,if_pos (Int.natCast_nonneg _),if_pos hi1]
   by_cases h1:l.getD q 0 < l.getD i 0
   ·rw [if_pos h1,decide_eq_true ⟨h0,.inl h1⟩]
   ·rw [if_neg h1]
    by_cases h2:l.getD q 0=l.getD i 0
    ·rw [if_pos h2]
     congr 1
     rw [Bool.eq_iff_iff]
     simp only [decide_eq_true_eq]
     omega
    ·rw [if_neg h2,decide_eq_false (fun h=>h.2.elim h1 (fun h=>h2 h.1))]
  ·rw [if_neg h0,decide_eq_false (fun h=>h0 h.1)]
theorem set_mid (a b:List Int) (x v:Int) (i:Nat) (h:a.length=i):(a ++ x :: b).set i v=a ++ v :: b:=by
 subst h
 simp [List.set_append]
theorem codesOf_length (l:List Int):(codesOf l).length=l.length:=by simp [codesOf]
theorem codesOf_get (l:List Int) (i:Nat) (hi:i < l.length):(codesOf l)[i]?=some (if l.getD i 0≤0 then 0 else codeAt l i):=by simp [codesOf,hi]
theorem refcodes_l0 (l : List Int) (hl : l.length ≤ 320) (hok : okL l = true) (d : Nat) : ∀ i : Nat, i + d = l.length →
  Ev (fun k=>celluloidref04_Codes.l0 k l ((codesOf l).take i ++ List.replicate d 0) i) (codesOf l):=by
 induction d with
 |zero =>
  intro i hi
  obtain rfl:i=l.length:=by omega
  refine Ev.step (f:=fun _=>some (codesOf l)) (fun k=>?_) (Ev.now _)
  simp only [celluloidref04_Codes.l0]
  rw [if_neg (Int.lt_irrefl _),List.take_of_length_le (by rw [codesOf_length];omega)]
  simp
 |succ d ih =>
  intro i hi
  have hd:=ih (i+1) (by omega)
  have hil:(i:Int) < l.length:=by omega
  have hri:rd l i=l.getD i 0:=rd_nat l i
  have hget:=codesOf_get l i (by omega)
  have hci:i < (codesOf l).length:=by rw [codesOf_length];omega
  have e1:Aside0 (wrap64 ((i:Int)+1)=((i+1:Nat):Int)):=⟨by rw [wrap_in (by omega) (by omega)];rfl⟩
  have hset:∀ v,(codesOf l)[i]?=some v → ((codesOf l).take i ++ List.replicate (d+1) 0).set i v=(codesOf l).take (i+1) ++ List.replicate d 0:=by
   intro v hv
   rw [List.take_succ_eq_append_getElem hci,List.replicate_succ,set_mid _ _ _ _ i (by rw [List.length_take];omega),List.append_assoc,List.singleton_append]
   rw [List.getElem?_eq_getElem hci] at hv
   injection hv with hv
   rw [hv]
  obtain ⟨n,en,hn⟩:=ok_at l hok i (by omega)
  by_cases h0:l.getD i 0=0
  ·rw [if_pos (by omega)] at hget
   have hs:=hset 0 hget
   have hsame:((codesOf l).take i ++ List.replicate (d+1) 0).set i 0=(codesOf l).take i ++ List.replicate (d+1) (0:Int):=by
    rw [List.replicate_succ,set_mid _ _ _ _ i (by rw [List.length_take];omega)]
   rw [hsame] at hs
   rw [hs]
   refine Ev.step (fun k=>?_) hd
   simp only [celluloidref04_Codes.l0]
   rw [if_pos hil,if_pos (Int.natCast_nonneg _),hri,if_pos h0,e1.out]
  ·rw [if_neg (by omega)] at hget
   have hs:=hset _ hget
   have hol:((codesOf l).take i ++ List.replicate (d+1) (0:Int)).length=l.length:=by
    rw [List.length_append,List.length_take,List.length_replicate];omega
   have har:=ahead_rng l i l.length
   rw [← hs,← ahead_code l hok i (by omega) n en (by omega) hn] at hd
   have h3:=refcodes_l3 l _ i (by rw [hol];omega) (by rw [hol];omega) _ (15 - n) n (ahead l i l.length) (by omega) har.1 (by omega) hd
   rw [← en] at h3
   have h1:=refcodes_l1 l _ hl hok i (by omega) _ h3 l.length 0 (by omega)
   refine Ev.step (fun k=>?_) h1
   simp only [celluloidref04_Codes.l0]
   rw [if_pos hil,if_pos (Int.natCast_nonneg _),hri,if_neg h0]
   rfl
theorem refcodes_is (l:List Int) (hl:l.length≤320) (hok:okL l=true):Ev (fun k=>celluloidref04_Codes.f k l) (codesOf l):=by
 refine Ev.congr (fun k=>?_) (refcodes_l0 l hl hok l.length 0 (by omega))
 unfold celluloidref04_Codes.f
 rw [if_pos (Int.natCast_nonneg _),Int.toNat_natCast,if_pos (by omega)]
 rfl
end Go.Proofs.Ytpbhkdamkbopkaa.RefA
