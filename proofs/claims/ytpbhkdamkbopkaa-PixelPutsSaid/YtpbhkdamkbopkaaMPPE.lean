/- Parts of the proof, glued by a program of this session (wip/tools/claimfit.py). -/
import Derived.Test.YtpbhkdamkbopkaaMPPD
namespace Go.Proofs.Ytpbhkdamkbopkaa.GBack2
open Go.Proofs.Ytpbhkdamkbopkaa.Sq
open Go.RowKit Go.Proofs.YtpbhkdamkbopkaaW.PrintWords Go.Proofs.YtpbhkdamkbopkaaW.PrintLast Go.Proofs.YtpbhkdamkbopkaaW.PrintMore Go.Proofs.Ytpbhkdamkbopkaa.Wr2 Go.Proofs.Ytpbhkdamkbopkaa.Wr1 Go.Proofs.Ytpbhkdamkbopkaa.GRuns
attribute [local go_sem] max2_int min2_int max_two min_two max_three min_three max_four min_four
set_option linter.unusedVariables false
set_option linter.unusedSimpArgs false
def adler_parts.f (a0:Int):Option (Int × Int):=some (Int.tmod (wrap64 (Go.bits .and .u32 ((a0) % 4294967296) 65535)) 65521,(((a0) % 4294967296) / 65536) % 65521)
set_option maxHeartbeats 8000000 in
set_option maxRecDepth 100000 in
theorem adler_parts.calls (a0 : Int) (r1 : Int) (r2 : Int) (w : World) (h : adler_parts.f a0 = some (r1, r2)) :
  Calls Try.prog 102 #[.int .i64 a0] w fun e w'=>e=.returned (.tuple #[.int .i64 r1,.int .i64 r2])∧Drawn0 w w':=by
 have H:=h;unfold adler_parts.f at H;clear h;simp only [Option.some.injEq,Prod.mk.injEq] at H;obtain ⟨rfl,rfl⟩:=H;go_enter Try.func102,Try.ntmps102;go_wp2;go_ret2;exact ⟨by first | rfl | (simp;done) | (simp [*];done),by repeat (first | exact Drawn0.refl _ | apply Drawn0.step)⟩
def adler_More.l0:Nat → ByteArray → Int → Int → Int → Int → Option (Int)
 |0,_,_,_,_,_=>none
 |k+1,x1,x5,x6,x14,x15=>if x15 < x14 then (if 0≤x15 then (if x15 < (x1.size:Int) then (adler_More.l0 k x1 (Int.tmod (wrap64 (x5+(wrap64 (bt x1 x15)))) 65521) (Int.tmod (wrap64 (x6+(Int.tmod (wrap64 (x5+(wrap64 (bt x1 x15)))) 65521))) 65521) x14 (wrap64 (x15+1))) else (none)) else (none)) else (some (Go.bits .or .i64 (wrap64 (x6*65536)) x5))
def adler_More.f (k:Nat) (a0:Int) (a1:ByteArray):Option (Int):=(adler_parts.f a0).bind fun bt103=>(adler_More.l0 k a1 bt103.1 bt103.2 (a1.size:Int) 0)
theorem adler_More.mono_l:∀ k,(∀ y0 y1 y2 y3 y4,LeO (adler_More.l0 k y0 y1 y2 y3 y4) (adler_More.l0 (k+1) y0 y1 y2 y3 y4))
 |0=>fun _ _ _ _ _ r h=>by simp [adler_More.l0] at h
 |k+1=>by
  have ih0:=adler_More.mono_l k
  ·intro y0 y1 y2 y3 y4;unfold adler_More.l0;repeat' first
   |(with_reducible exact ih0 _ _ _ _ _)
   |(with_reducible exact LeO.refl _)
   |(with_reducible exact LeO.none _)
   |(with_reducible refine LeO.ite ?_ ?_)
   |(with_reducible refine LeO.bind ?_ (fun _=>?_))
   |exact ih0 _ _ _ _ _
   |exact LeO.none _
   |refine LeO.ite ?_ ?_
   |refine LeO.bind ?_ (fun _=>?_)
theorem adler_More.mono:∀ a0 a1 k,LeO (adler_More.f k a0 a1) (adler_More.f (k+1) a0 a1):=by
 intro a0 a1 k;have ih0:=adler_More.mono_l k;unfold adler_More.f
 repeat' first
   |(with_reducible exact ih0 _ _ _ _ _)
   |(with_reducible exact LeO.refl _)
   |(with_reducible exact LeO.none _)
   |(with_reducible refine LeO.ite ?_ ?_)
   |(with_reducible refine LeO.bind ?_ (fun _=>?_))
   |exact ih0 _ _ _ _ _
   |exact LeO.none _
   |refine LeO.ite ?_ ?_
   |refine LeO.bind ?_ (fun _=>?_)
set_option maxHeartbeats 8000000 in
set_option maxRecDepth 100000 in
theorem adler_More.calls (k : Nat) (a0 : Int) (a1 : ByteArray) (r : Int) (w : World) (h : adler_More.f k a0 a1 = some r) :
  Calls Try.prog 77 #[.int .i64 a0,.string a1] w fun e w'=>e=.returned (.int .i64 r)∧Drawn0 w w':=by
 have H:=h;unfold adler_More.f at H;clear h;replace H:=Option.bind_eq_some_iff.mp H;obtain ⟨⟨Qd,Qe⟩,A30,H⟩:=H;have A3:=Aside0.mk A30;clear A30;have H':=Aside0.mk H;clear H;go_enter Try.func77,Try.ntmps77;go_wp2_with (first | ((with_reducible refine gate_callee (f:=102) rfl ?_);refine goesQ (some 10) Try.func102 #[.int .i64 a0] ?_;(with_reducible refine (adler_parts.calls a0 Qd Qe _ A3.out).mono ?_);rintro e w' ⟨rfl,⟨nd,rfl⟩⟩;refine ⟨_,rfl,?_⟩))
 go_loopg [5,6,15] k (fun kq v5 v6 v15 w'=>∃ (Qb:Int) (Qc:Int) (Qa:Int),v5=.int .i64 Qb∧v6=.int .i64 Qc∧v15=.int .i64 Qa∧Aside0 (adler_More.l0 kq a1 Qb Qc (a1.size:Int) Qa=some r)∧Aside0 (kq≤k)∧Drawn0 w w')
 case atStart=>exact ⟨(Qd),(Qe),(0),(by first | rfl | (simp;done) | (simp [*];done)),(by first | rfl | (simp;done) | (simp [*];done)),(by first | rfl | (simp;done) | (simp [*];done)),H',⟨Nat.le_refl _⟩,by repeat (first | exact Drawn0.refl _ | apply Drawn0.step)⟩
 clear H';obtain ⟨Qb,Qc,Qa,rfl,rfl,rfl,HA,HK1,⟨m1,rfl⟩⟩:=hrel
 rcases gk with _ | k1
 ·exact absurd HA.out (by simp [adler_More.l0])
 have H:=HA.out;clear HA;simp only [adler_More.l0] at H;by_cases c4:Qa < (a1.size:Int);rotate_left
 ·rw [if_neg c4] at H;have Qf:=decide_eq_false c4;clear c4;obtain rfl:=Option.some.inj H;go_wp2;go_ret;exact ⟨by first | rfl | (simp;done) | (simp [*];done),by repeat (first | exact Drawn0.refl _ | apply Drawn0.step)⟩
 rw [if_pos c4] at H;have Qf:=decide_eq_true c4;clear c4;by_cases c5:0≤Qa;rotate_left
 ·rw [if_neg c5] at H;exact absurd H (by simp)
 rw [if_pos c5] at H;have c5b0:=decide_eq_true c5;clear c5;by_cases c6:Qa < (a1.size:Int);rotate_left
 ·rw [if_neg c6] at H;exact absurd H (by simp)
 rw [if_pos c6] at H;have c6b0:=decide_eq_true c6;clear c6;have H':=Aside0.mk H;clear H;have p7:0≤(Qa:Int):=pd;have q7:Qa < (a1.size:Int):=pd;have hx7:=bt_at a1 Qa;replace p7:=eq_true p7;replace q7:=eq_true q7;go_wp2;go_roundg k1
 case measure=>have:=HK1.out;omega
 case rel=>exact ⟨(Int.tmod (wrap64 (Qb+(wrap64 (bt a1 Qa)))) 65521),(Int.tmod (wrap64 (Qc+(Int.tmod (wrap64 (Qb+(wrap64 (bt a1 Qa)))) 65521))) 65521),(wrap64 (Qa+1)),(by first | rfl | (simp;done) | (simp [*];done)),(by first | rfl | (simp;done) | (simp [*];done)),(by first | rfl | (simp;done) | (simp [*];done)),H',⟨by have:=HK1.out;omega⟩,by repeat (first | exact Drawn0.refl _ | apply Drawn0.step)⟩
def adler_Sum.f (k:Nat) (a0:ByteArray):Option (Int):=(adler_More.f k 1 a0).bind fun t105=>(some t105)
theorem adler_Sum.mono:∀ a0 k,LeO (adler_Sum.f k a0) (adler_Sum.f (k+1) a0):=by
 intro a0 k;unfold adler_Sum.f
 repeat' first
   |(with_reducible exact adler_More.mono _ _ _)
   |(with_reducible exact LeO.refl _)
   |(with_reducible exact LeO.none _)
   |(with_reducible refine LeO.ite ?_ ?_)
   |(with_reducible refine LeO.bind ?_ (fun _=>?_))
   |exact adler_More.mono _ _ _
   |exact LeO.none _
   |refine LeO.ite ?_ ?_
   |refine LeO.bind ?_ (fun _=>?_)
set_option maxHeartbeats 8000000 in
set_option maxRecDepth 100000 in
theorem adler_Sum.calls (k : Nat) (a0 : ByteArray) (r : Int) (w : World) (h : adler_Sum.f k a0 = some r) :
  Calls Try.prog 48 #[.string a0] w fun e w'=>e=.returned (.int .i64 r)∧Drawn0 w w':=by
 have H:=h;unfold adler_Sum.f at H;clear h;replace H:=Option.bind_eq_some_iff.mp H;obtain ⟨Qa,A20,H⟩:=H;have A2:=Aside0.mk A20;clear A20;obtain rfl:=Option.some.inj H;go_enter Try.func48,Try.ntmps48;go_wp2_with (first | ((with_reducible refine gate_callee (f:=77) rfl ?_);refine goesQ (some 4) Try.func77 #[.int .i64 1,.string a0] ?_;(with_reducible refine (adler_More.calls k 1 a0 Qa _ A2.out).mono ?_);rintro e w' ⟨rfl,⟨nd,rfl⟩⟩;refine ⟨_,rfl,?_⟩))
 go_ret;exact ⟨by first | rfl | (simp;done) | (simp [*];done),by repeat (first | exact Drawn0.refl _ | apply Drawn0.step)⟩
def deflate_Close.f (k:Nat) (a0:ByteArray):Option (ByteArray × Int):=(deflate_Raw.f a0).bind fun bt106=>(if bt106.2=0 then ((adler_Sum.f k a0).bind fun t108=>(if 2+bt106.1.size≤9223372036854775807 then ((some (([(t108 / 16777216) % 256,(t108 / 65536) % 256,(t108 / 256) % 256,(t108) % 256]:List Int):List Int)).bind fun y109=>(if ((⟨#[120,156]⟩:ByteArray) ++ bt106.1).size+(strOfNums y109).size≤9223372036854775807 then (some (((⟨#[120,156]⟩:ByteArray) ++ bt106.1) ++ (strOfNums y109),0)) else (none))) else (none))) else (some ((⟨#[]⟩:ByteArray),bt106.2)))
theorem deflate_Close.mono:∀ a0 k,LeO (deflate_Close.f k a0) (deflate_Close.f (k+1) a0):=by
 intro a0 k;unfold deflate_Close.f
 repeat' first
   |(with_reducible exact adler_Sum.mono _ _)
   |(with_reducible exact LeO.refl _)
   |(with_reducible exact LeO.none _)
   |(with_reducible refine LeO.ite ?_ ?_)
   |(with_reducible refine LeO.bind ?_ (fun _=>?_))
   |exact adler_Sum.mono _ _
   |exact LeO.none _
   |refine LeO.ite ?_ ?_
   |refine LeO.bind ?_ (fun _=>?_)
set_option maxHeartbeats 8000000 in
set_option maxRecDepth 100000 in
theorem deflate_Close.calls (k : Nat) (a0 : ByteArray) (r1 : ByteArray) (r2 : Int) (w : World) (h : deflate_Close.f k a0 = some (r1, r2)) :
  Calls Try.prog 40 #[.string a0] w fun e w'=>e=.returned (.tuple #[.string r1,.int .i64 r2])∧Below w.heap.size w w':=by
 have HB:=Aside0.mk (Below.refl w.heap.size w);have H:=h;unfold deflate_Close.f at H;clear h;replace H:=Option.bind_eq_some_iff.mp H;obtain ⟨⟨Qc,Qb⟩,A20,H⟩:=H;have A2:=Aside0.mk A20;clear A20;by_cases c3:Qb=0;rotate_left
 ·rw [if_neg c3] at H;have Qg:(Qb == 0)=false:=beq_eq_false_iff_ne.mpr c3;have Qh:(Qb != 0)=true:=bne_iff_ne.mpr c3;simp only [Option.some.injEq,Prod.mk.injEq] at H;obtain ⟨rfl,rfl⟩:=H;go_enter Try.func40,Try.ntmps40;go_wp2_with (first | ((with_reducible refine gate_callee (f:=39) rfl ?_);refine goesQ (some 9) Try.func39 #[.string a0] ?_;(with_reducible refine (deflate_Raw.calls a0 Qc Qb _ A2.out).mono ?_);rintro e w11 ⟨rfl,hb⟩;refine ⟨_,rfl,?_⟩;replace HB:=hs HB hb;(try clear hb)))
  go_ret2;exact ⟨by first | rfl | (simp [errW_none,errW_some] <;> rfl) | (simp [*,errW_none,errW_some] <;> rfl),hn HB⟩
 rw [if_pos c3] at H;have Qg:(Qb == 0)=true:=beq_iff_eq.mpr c3;have Qh:(Qb != 0)=false:=bne_eq_false_iff_eq.mpr c3;clear c3;replace H:=Option.bind_eq_some_iff.mp H;obtain ⟨Qa,A40,H⟩:=H;have A4:=Aside0.mk A40;clear A40;by_cases c5:2+Qc.size≤9223372036854775807;rotate_left
 ·rw [if_neg c5] at H;exact absurd H (by simp)
 rw [if_pos c5] at H;have c5b0:=eq_true c5;have c5b1:=decide_eq_true c5;try have c5b2:=eq_false (Nat.not_lt.2 c5)
 obtain ⟨Qe,hy109⟩:∃ y_:List Int,y_=(([(Qa / 16777216) % 256,(Qa / 65536) % 256,(Qa / 256) % 256,(Qa) % 256]:List Int)):=⟨_,rfl⟩;replace H:(if ((⟨#[120,156]⟩:ByteArray) ++ Qc).size+(strOfNums Qe).size≤9223372036854775807 then (some (((⟨#[120,156]⟩:ByteArray) ++ Qc) ++ (strOfNums Qe),0)) else (none))=some (r1,r2):=by first | (rw [hy109];with_reducible exact H) | (have H2_:=(Option.bind_some _ _).symm.trans H;rw [hy109];with_reducible exact H2_) | (have H2_:=(Option.bind_some _ _).symm.trans H;with_reducible exact H2_) | with_reducible exact H | (rw [hy109];exact H) | exact H
 have Qd:=Aside0.mk hy109;clear hy109;by_cases c6:((⟨#[120,156]⟩:ByteArray) ++ Qc).size+(strOfNums Qe).size≤9223372036854775807;rotate_left
 ·rw [if_neg c6] at H;exact absurd H (by simp)
 rw [if_pos c6] at H;have c6b0:=eq_true c6;have c6b1:=decide_eq_true c6;try have Qi:=eq_false (Nat.not_lt.2 c6)
 have Qj:=Qi;simp only [ByteArray.size_append,show (⟨#[120,156]⟩:ByteArray).size=2 from rfl] at Qj;simp only [Option.some.injEq,Prod.mk.injEq] at H;obtain ⟨rfl,rfl⟩:=H;go_enter Try.func40,Try.ntmps40;go_wp2_with (first | ((with_reducible refine gate_callee (f:=39) rfl ?_);refine goesQ (some 9) Try.func39 #[.string a0] ?_;(with_reducible refine (deflate_Raw.calls a0 Qc Qb _ A2.out).mono ?_);rintro e w7 ⟨rfl,hb⟩;refine ⟨_,rfl,?_⟩;replace HB:=hs HB hb;(try clear hb)) | ((with_reducible refine gate_callee (f:=48) rfl ?_);refine goesQ (some 16) Try.func48 #[.string a0] ?_;(with_reducible refine (adler_Sum.calls k a0 Qa _ A4.out).mono ?_);rintro e w' ⟨rfl,⟨nd,rfl⟩⟩;refine ⟨_,rfl,?_⟩) | ((with_reducible refine gate_dst (N:=30) rfl ?_);refine Kd.R_lit (Kd.int .u8) _ 5 ?hg (N:=30) ?hd (xs:=([(Qa / 16777216) % 256,(Qa / 65536) % 256,(Qa / 256) % 256,(Qa) % 256]:List Int)) (inner:=[.int .u8 ((Qa / 16777216) % 256),.int .u8 ((Qa / 65536) % 256),.int .u8 ((Qa / 256) % 256),.int .u8 ((Qa) % 256)]) (ok:=fun _=>True) (okp:=fun _=>True) ?hr ?hp (fun _ hk=>hk) trivial (Below.refl _ _) (Nat.le_refl _) (by simp) ?_;(case hd=>rfl);(case hg=>rfl);(case hr=>first | (go_simp;done) | (go_simp;rfl));(case hp=>exact (Reps.one (show Kd.M (Kd.int .u8) _ _ _ ((Qa / 16777216) % 256) [.int .u8 ((Qa / 16777216) % 256)] from rfl) (Reps.one (show Kd.M (Kd.int .u8) _ _ _ ((Qa / 65536) % 256) [.int .u8 ((Qa / 65536) % 256)] from rfl) (Reps.one (show Kd.M (Kd.int .u8) _ _ _ ((Qa / 256) % 256) [.int .u8 ((Qa / 256) % 256)] from rfl) (Reps.one (show Kd.M (Kd.int .u8) _ _ _ ((Qa) % 256) [.int .u8 ((Qa) % 256)] from rfl) (Reps.none _ _))))));intro v110 w8 ho9 hb hg_ hnew_;clear hg_ hnew_;(first | rw [← Qd.out] at ho9 | (simp only [Int.reduceToNat] at ho9;rw [← Qd.out] at ho9));have Qf:=Aside0.mk (Kd.R_lower ho9 (below_size (hn HB)));replace HB:=hs HB hb;clear hb ho9;have hcv10:=own_string (P:=Try.prog) Try.underlying40 Try.underlying5 Try.underlying9 (Kd.own_of_R Qf.out)))
 go_ret2;exact ⟨by first | rfl | (simp [errW_none,errW_some] <;> rfl) | (simp [*,errW_none,errW_some] <;> rfl),hn HB⟩
def inflate_Open.j0:Nat → ByteArray → Int → Bool → Option (ByteArray × Int)
 |0,_,_,_=>none
 |k+1,x0,x1,x11=>if x11=true then (some ((⟨#[]⟩:ByteArray),1)) else (if (x0.size:Int) < 2 then (some ((⟨#[]⟩:ByteArray),2)) else (if 0 < (x0.size:Int) then (if (Go.bits .and .u8 (bt x0 0) 15)=8 then (if ((bt x0 0) / 16) > 7 then (some ((⟨#[]⟩:ByteArray),3)) else (if 1 < (x0.size:Int) then (if (Int.tmod (Go.bits .or .i64 (wrap64 ((wrap64 (bt x0 0))*256)) (wrap64 (bt x0 1))) 31)=0 then (if (Go.bits .and .u8 (bt x0 1) 32)=0 then (if 2≤(x0.size:Int) then ((inflate_Raw.f (x0.extract 2 x0.size) x1).bind fun bt212=>(if bt212.2.2=0 then (if 0≤(wrap64 (2+bt212.2.1)) then (if (wrap64 (2+bt212.2.1))≤(x0.size:Int) then (if ((x0.extract ((wrap64 (2+bt212.2.1)):Int).toNat x0.size).size:Int) < 4 then (some ((⟨#[]⟩:ByteArray),2)) else (if 0 < ((x0.extract ((wrap64 (2+bt212.2.1)):Int).toNat x0.size).size:Int) then (if 1 < ((x0.extract ((wrap64 (2+bt212.2.1)):Int).toNat x0.size).size:Int) then (if 2 < ((x0.extract ((wrap64 (2+bt212.2.1)):Int).toNat x0.size).size:Int) then (if 3 < ((x0.extract ((wrap64 (2+bt212.2.1)):Int).toNat x0.size).size:Int) then ((adler_Sum.f k bt212.1).bind fun t215=>(if (Go.bits .or .i64 (Go.bits .or .i64 (Go.bits .or .i64 (wrap64 ((wrap64 (bt (x0.extract ((wrap64 (2+bt212.2.1)):Int).toNat x0.size) 0))*16777216)) (wrap64 ((wrap64 (bt (x0.extract ((wrap64 (2+bt212.2.1)):Int).toNat x0.size) 1))*65536))) (wrap64 ((wrap64 (bt (x0.extract ((wrap64 (2+bt212.2.1)):Int).toNat x0.size) 2))*256))) (wrap64 (bt (x0.extract ((wrap64 (2+bt212.2.1)):Int).toNat x0.size) 3)))=t215 then (if ((x0.extract ((wrap64 (2+bt212.2.1)):Int).toNat x0.size).size:Int) > 4 then (some ((⟨#[]⟩:ByteArray),3)) else (some (bt212.1,0))) else (some ((⟨#[]⟩:ByteArray),5)))) else (none)) else (none)) else (none)) else (none))) else (none)) else (none)) else (some ((⟨#[]⟩:ByteArray),bt212.2.2)))) else (none)) else (some ((⟨#[]⟩:ByteArray),3))) else (some ((⟨#[]⟩:ByteArray),3))) else (none))) else (some ((⟨#[]⟩:ByteArray),3))) else (none)))
def inflate_Open.f (k:Nat) (a0:ByteArray) (a1:Int):Option (ByteArray × Int):=if a1 < 0 then (inflate_Open.j0 k a0 a1 true) else (inflate_Open.j0 k a0 a1 (decide (a1 > 262144)))
theorem inflate_Open.mono_l:∀ k,(∀ y0 y1 y2,LeO (inflate_Open.j0 k y0 y1 y2) (inflate_Open.j0 (k+1) y0 y1 y2))
 |0=>fun _ _ _ r h=>by simp [inflate_Open.j0] at h
 |k+1=>by
  have ih0:=inflate_Open.mono_l k
  ·intro y0 y1 y2;unfold inflate_Open.j0;repeat' first
   |(with_reducible exact ih0 _ _ _)
   |(with_reducible exact adler_Sum.mono _ _)
   |(with_reducible exact LeO.refl _)
   |(with_reducible exact LeO.none _)
   |(with_reducible refine LeO.ite ?_ ?_)
   |(with_reducible refine LeO.bind ?_ (fun _=>?_))
   |exact ih0 _ _ _
   |exact adler_Sum.mono _ _
   |exact LeO.none _
   |refine LeO.ite ?_ ?_
   |refine LeO.bind ?_ (fun _=>?_)
theorem inflate_Open.mono:∀ a0 a1 k,LeO (inflate_Open.f k a0 a1) (inflate_Open.f (k+1) a0 a1):=by
 intro a0 a1 k;have ih0:=inflate_Open.mono_l k;unfold inflate_Open.f
 repeat' first
   |(with_reducible exact ih0 _ _ _)
   |(with_reducible exact adler_Sum.mono _ _)
   |(with_reducible exact LeO.refl _)
   |(with_reducible exact LeO.none _)
   |(with_reducible refine LeO.ite ?_ ?_)
   |(with_reducible refine LeO.bind ?_ (fun _=>?_))
   |exact ih0 _ _ _
   |exact adler_Sum.mono _ _
   |exact LeO.none _
   |refine LeO.ite ?_ ?_
   |refine LeO.bind ?_ (fun _=>?_)
set_option maxHeartbeats 8000000 in
set_option maxRecDepth 100000 in
theorem inflate_Open.calls (k : Nat) (a0 : ByteArray) (a1 : Int) (r1 : ByteArray) (r2 : Int) (w : World) (h : inflate_Open.f k a0 a1 = some (r1, r2)) :
  Calls Try.prog 46 #[.string a0,.int .i64 a1] w fun e w'=>e=.returned (.tuple #[.string r1,.int .i64 r2])∧Below w.heap.size w w':=by
 have HB:=Aside0.mk (Below.refl w.heap.size w);have H:=h;unfold inflate_Open.f at H;clear h;have HC3:=Aside0.mk H;clear H;go_enter Try.func46,Try.ntmps46;go_upto_region 1 with (fail)
 repeat (go_quiet (fail);go_upto_region 1 with (fail))
 go_cut [11] (fun v11 wc=>∃ (kq:Nat) (Qm:Bool),v11=.bool Qm∧Aside0 (inflate_Open.j0 kq a0 a1 Qm=some (r1,r2))∧Aside0 (kq≤k)∧Aside0 (Below w.heap.size w wc))
 case first =>
  have H:=HC3.out;clear HC3;by_cases c4:a1 < 0
  ·rw [if_pos c4] at H;have Qp:=decide_eq_true c4;clear c4
   (first | rw [Qp] | (simp only [i64_w,i32_w];rw [Qp]) | skip)
   have H':=Aside0.mk H;clear H;go_wp2;(repeat (go_quiet (fail);try go_wp2));go_meet
   case rel=>exact ⟨_,(true),(by first | rfl | (simp;done) | (simp [*];done)),H',⟨by first | omega | exact Nat.le_refl _⟩,⟨hn HB⟩⟩
  rw [if_neg c4] at H;have Qp:=decide_eq_false c4;clear c4
  (first | rw [Qp] | (simp only [i64_w,i32_w];rw [Qp]) | skip)
  have H':=Aside0.mk H;clear H;go_wp2;repeat (go_quiet (fail);try go_wp2)
  go_meet
  case rel=>exact ⟨_,(decide (a1 > 262144)),(by first | rfl | (simp;done) | (simp [*];done)),H',⟨by first | omega | exact Nat.le_refl _⟩,⟨hn HB⟩⟩
 clear HC3;obtain ⟨kq,Qm,rfl,HA,HJ2,HB⟩:=hcut
 rcases kq with _ | kj2
 ·exact absurd HA.out (by simp [inflate_Open.j0])
 have H:=HA.out;clear HA;simp only [inflate_Open.j0] at H;by_cases c5:Qm=true
 ·subst c5;have H1:(some ((⟨#[]⟩:ByteArray),1))=some (r1,r2):=by rw [if_pos rfl] at H;exact H
  clear H;have H:=H1;clear H1;simp only [Option.some.injEq,Prod.mk.injEq] at H;obtain ⟨rfl,rfl⟩:=H;go_wp2;repeat (go_quiet (fail);try go_wp2)
  go_ret2;exact ⟨by first | rfl | (simp [errW_none,errW_some] <;> rfl) | (simp [*,errW_none,errW_some] <;> rfl),hn HB⟩
 replace c5:=Bool.eq_false_iff.mpr c5;subst c5;have H1:(if (a0.size:Int) < 2 then (some ((⟨#[]⟩:ByteArray),2)) else (if 0 < (a0.size:Int) then (if (Go.bits .and .u8 (bt a0 0) 15)=8 then (if ((bt a0 0) / 16) > 7 then (some ((⟨#[]⟩:ByteArray),3)) else (if 1 < (a0.size:Int) then (if (Int.tmod (Go.bits .or .i64 (wrap64 ((wrap64 (bt a0 0))*256)) (wrap64 (bt a0 1))) 31)=0 then (if (Go.bits .and .u8 (bt a0 1) 32)=0 then (if 2≤(a0.size:Int) then ((inflate_Raw.f (a0.extract 2 a0.size) a1).bind fun Qb=>(if Qb.2.2=0 then (if 0≤(wrap64 (2+Qb.2.1)) then (if (wrap64 (2+Qb.2.1))≤(a0.size:Int) then (if ((a0.extract ((wrap64 (2+Qb.2.1)):Int).toNat a0.size).size:Int) < 4 then (some ((⟨#[]⟩:ByteArray),2)) else (if 0 < ((a0.extract ((wrap64 (2+Qb.2.1)):Int).toNat a0.size).size:Int) then (if 1 < ((a0.extract ((wrap64 (2+Qb.2.1)):Int).toNat a0.size).size:Int) then (if 2 < ((a0.extract ((wrap64 (2+Qb.2.1)):Int).toNat a0.size).size:Int) then (if 3 < ((a0.extract ((wrap64 (2+Qb.2.1)):Int).toNat a0.size).size:Int) then ((adler_Sum.f kj2 Qb.1).bind fun Qd=>(if (Go.bits .or .i64 (Go.bits .or .i64 (Go.bits .or .i64 (wrap64 ((wrap64 (bt (a0.extract ((wrap64 (2+Qb.2.1)):Int).toNat a0.size) 0))*16777216)) (wrap64 ((wrap64 (bt (a0.extract ((wrap64 (2+Qb.2.1)):Int).toNat a0.size) 1))*65536))) (wrap64 ((wrap64 (bt (a0.extract ((wrap64 (2+Qb.2.1)):Int).toNat a0.size) 2))*256))) (wrap64 (bt (a0.extract ((wrap64 (2+Qb.2.1)):Int).toNat a0.size) 3)))=Qd then (if ((a0.extract ((wrap64 (2+Qb.2.1)):Int).toNat a0.size).size:Int) > 4 then (some ((⟨#[]⟩:ByteArray),3)) else (some (Qb.1,0))) else (some ((⟨#[]⟩:ByteArray),5)))) else (none)) else (none)) else (none)) else (none))) else (none)) else (none)) else (some ((⟨#[]⟩:ByteArray),Qb.2.2)))) else (none)) else (some ((⟨#[]⟩:ByteArray),3))) else (some ((⟨#[]⟩:ByteArray),3))) else (none))) else (some ((⟨#[]⟩:ByteArray),3))) else (none)))=some (r1,r2):=by rw [if_neg (show ¬ (false=true) by decide)] at H;exact H
 clear H;have H:=H1;clear H1;by_cases c6:(a0.size:Int) < 2
 ·rw [if_pos c6] at H;have QG:=decide_eq_true c6;have QH:decide (a0.size < 2)=true:=decide_eq_true (by omega);clear c6;simp only [Option.some.injEq,Prod.mk.injEq] at H;obtain ⟨rfl,rfl⟩:=H;go_wp2;repeat (go_quiet (fail);try go_wp2)
  go_ret2;exact ⟨by first | rfl | (simp [errW_none,errW_some] <;> rfl) | (simp [*,errW_none,errW_some] <;> rfl),hn HB⟩
 rw [if_neg c6] at H;have QG:=decide_eq_false c6;have QH:decide (a0.size < 2)=false:=decide_eq_false (by omega);clear c6;by_cases c7:0 < (a0.size:Int);rotate_left
 ·rw [if_neg c7] at H;exact absurd H (by simp)
 rw [if_pos c7] at H;have c7b0:=decide_eq_true c7;have c7b1:decide (0 < a0.size)=true:=decide_eq_true (by omega);clear c7;by_cases c9:(Go.bits .and .u8 (bt a0 0) 15)=8
 ·rw [if_pos c9] at H;have QI:((Go.bits .and .u8 (bt a0 0) 15) == 8)=true:=beq_iff_eq.mpr c9;have QJ:((Go.bits .and .u8 (bt a0 0) 15) != 8)=false:=bne_eq_false_iff_eq.mpr c9;clear c9;by_cases c11:((bt a0 0) / 16) > 7
  ·rw [if_pos c11] at H;have Qr:=decide_eq_true c11;clear c11;simp only [Option.some.injEq,Prod.mk.injEq] at H;obtain ⟨rfl,rfl⟩:=H;have p8:0≤(0:Int):=(by omega);have q8:0 < a0.size:=(by have:(0:Int) < (a0.size:Int):=pd;omega);have hx8:∀ h:0 < a0.size,((a0[0]'h).toNat:Int)=bt a0 0:=bt_at a0 0;clear p8;have qi8:(0 < (a0.size:Int))=True:=eq_true pd;replace q8:=eq_true q8;have p10:0≤(0:Int):=(by omega);have q10:0 < a0.size:=(by have:(0:Int) < (a0.size:Int):=pd;omega);have Ql:∀ h:0 < a0.size,((a0[0]'h).toNat:Int)=bt a0 0:=bt_at a0 0;clear p10;have qi10:(0 < (a0.size:Int))=True:=eq_true pd;replace q10:=eq_true q10;go_wp2;(repeat (go_quiet (fail);try go_wp2));go_ret2;exact ⟨by first | rfl | (simp [errW_none,errW_some] <;> rfl) | (simp [*,errW_none,errW_some] <;> rfl),hn HB⟩
  ·rw [if_neg c11] at H;have Qr:=decide_eq_false c11;clear c11;by_cases c13:1 < (a0.size:Int);rotate_left
   ·rw [if_neg c13] at H;exact absurd H (by simp)
   rw [if_pos c13] at H;have c13b0:=decide_eq_true c13;have c13b1:decide (1 < a0.size)=true:=decide_eq_true (by omega);clear c13;by_cases c15:(Int.tmod (Go.bits .or .i64 (wrap64 ((wrap64 (bt a0 0))*256)) (wrap64 (bt a0 1))) 31)=0
   ·rw [if_pos c15] at H;have Qs:((Int.tmod (Go.bits .or .i64 (wrap64 ((wrap64 (bt a0 0))*256)) (wrap64 (bt a0 1))) 31) == 0)=true:=beq_iff_eq.mpr c15;have Qt:((Int.tmod (Go.bits .or .i64 (wrap64 ((wrap64 (bt a0 0))*256)) (wrap64 (bt a0 1))) 31) != 0)=false:=bne_eq_false_iff_eq.mpr c15;clear c15;by_cases c17:(Go.bits .and .u8 (bt a0 1) 32)=0
    ·rw [if_pos c17] at H;have Qu:((Go.bits .and .u8 (bt a0 1) 32) == 0)=true:=beq_iff_eq.mpr c17;have Qv:((Go.bits .and .u8 (bt a0 1) 32) != 0)=false:=bne_eq_false_iff_eq.mpr c17;clear c17;by_cases c18:2≤(a0.size:Int);rotate_left
     ·rw [if_neg c18] at H;exact absurd H (by simp)
     rw [if_pos c18] at H;have c18b0:=eq_true c18;have c18b1:=decide_eq_true c18;clear c18;replace H:=Option.bind_eq_some_iff.mp H;obtain ⟨⟨Qa,Qe,Qc⟩,Qw,H⟩:=H;have A19:=Aside0.mk Qw;clear Qw;by_cases c20:Qc=0
     ·rw [if_pos c20] at H;have Qx:(Qc == 0)=true:=beq_iff_eq.mpr c20;have Qy:(Qc != 0)=false:=bne_eq_false_iff_eq.mpr c20;clear c20;obtain ⟨Qf,Qg⟩:∃ j_:Int,(wrap64 (2+Qe))=j_:=⟨_,rfl⟩;(replace H:(if 0≤(Qf) then (if (Qf)≤(a0.size:Int) then (if ((a0.extract ((Qf):Int).toNat a0.size).size:Int) < 4 then (some ((⟨#[]⟩:ByteArray),2)) else (if 0 < ((a0.extract ((Qf):Int).toNat a0.size).size:Int) then (if 1 < ((a0.extract ((Qf):Int).toNat a0.size).size:Int) then (if 2 < ((a0.extract ((Qf):Int).toNat a0.size).size:Int) then (if 3 < ((a0.extract ((Qf):Int).toNat a0.size).size:Int) then ((adler_Sum.f kj2 Qa).bind fun Qd=>(if (Go.bits .or .i64 (Go.bits .or .i64 (Go.bits .or .i64 (wrap64 ((wrap64 (bt (a0.extract ((Qf):Int).toNat a0.size) 0))*16777216)) (wrap64 ((wrap64 (bt (a0.extract ((Qf):Int).toNat a0.size) 1))*65536))) (wrap64 ((wrap64 (bt (a0.extract ((Qf):Int).toNat a0.size) 2))*256))) (wrap64 (bt (a0.extract ((Qf):Int).toNat a0.size) 3)))=Qd then (if ((a0.extract ((Qf):Int).toNat a0.size).size:Int) > 4 then (some ((⟨#[]⟩:ByteArray),3)) else (some (Qa,0))) else (some ((⟨#[]⟩:ByteArray),5)))) else (none)) else (none)) else (none)) else (none))) else (none)) else (none))=some (r1,r2):=by first | (rw [Qg] at H;exact H) | (simp only [Qg] at H ⊢;exact H))
      (try rw [Qg] at A19)
      have hji21w:(IntKind.i64.wrap (2+Qe))=Qf:=(i64_w _).trans Qg;by_cases c22:0≤(Qf);rotate_left
      ·rw [if_neg c22] at H;exact absurd H (by simp)
      rw [if_pos c22] at H;have c22b0:=eq_true c22;have c22b1:=decide_eq_true c22;clear c22;by_cases c23:(Qf)≤(a0.size:Int);rotate_left
      ·rw [if_neg c23] at H;exact absurd H (by simp)
      rw [if_pos c23] at H;have c23b0:=eq_true c23;have c23b1:=decide_eq_true c23;clear c23;obtain ⟨rs_,hrs_⟩:∃ y:ByteArray,a0.extract ((Qf):Int).toNat a0.size=y:=⟨_,rfl⟩;simp only [hrs_] at H;by_cases c24:(rs_.size:Int) < 4
      ·rw [if_pos c24] at H;have Qz:=decide_eq_true c24;have QA:decide (rs_.size < 4)=true:=decide_eq_true (by omega);clear c24;simp only [Option.some.injEq,Prod.mk.injEq] at H;obtain ⟨rfl,rfl⟩:=H;have p8:0≤(0:Int):=(by omega);have q8:0 < a0.size:=(by have:(0:Int) < (a0.size:Int):=pd;omega);have hx8:∀ h:0 < a0.size,((a0[0]'h).toNat:Int)=bt a0 0:=bt_at a0 0;clear p8;have qi8:(0 < (a0.size:Int))=True:=eq_true pd;replace q8:=eq_true q8;have p10:0≤(0:Int):=(by omega);have q10:0 < a0.size:=(by have:(0:Int) < (a0.size:Int):=pd;omega);have Ql:∀ h:0 < a0.size,((a0[0]'h).toNat:Int)=bt a0 0:=bt_at a0 0;clear p10;have qi10:(0 < (a0.size:Int))=True:=eq_true pd;replace q10:=eq_true q10;have p12:0≤(0:Int):=(by omega);have q12:0 < a0.size:=(by have:(0:Int) < (a0.size:Int):=pd;omega);have Qn:∀ h:0 < a0.size,((a0[0]'h).toNat:Int)=bt a0 0:=bt_at a0 0;clear p12;have qi12:(0 < (a0.size:Int))=True:=eq_true pd;replace q12:=eq_true q12;have p14:0≤(1:Int):=(by omega);have q14:1 < a0.size:=(by have:(1:Int) < (a0.size:Int):=pd;omega);have Qo:∀ h:1 < a0.size,((a0[1]'h).toNat:Int)=bt a0 1:=bt_at a0 1;clear p14;have qi14:(1 < (a0.size:Int))=True:=eq_true pd;replace q14:=eq_true q14;have p16:0≤(1:Int):=(by omega);have q16:1 < a0.size:=(by have:(1:Int) < (a0.size:Int):=pd;omega);have Qq:∀ h:1 < a0.size,((a0[1]'h).toNat:Int)=bt a0 1:=bt_at a0 1;clear p16;have qi16:(1 < (a0.size:Int))=True:=eq_true pd;replace q16:=eq_true q16;(go_wp2_with (first | (go_at_call 44;(with_reducible refine (inflate_Raw.calls (a0.extract 2 a0.size) a1 Qa Qe Qc _ A19.out).mono ?_);rintro e w25 ⟨rfl,hb⟩;replace HB:=hs HB hb;(try clear hb))))
       (repeat (go_quiet (first | (go_at_call 44;(with_reducible refine (inflate_Raw.calls (a0.extract 2 a0.size) a1 Qa Qe Qc _ A19.out).mono ?_);rintro e w25 ⟨rfl,hb⟩;replace HB:=hs HB hb;(try clear hb)));try go_wp2_with (first | (go_at_call 44;(with_reducible refine (inflate_Raw.calls (a0.extract 2 a0.size) a1 Qa Qe Qc _ A19.out).mono ?_);rintro e w25 ⟨rfl,hb⟩;have n0_:=hs HB hb;clear HB;have HB:=n0_;clear n0_;(try clear hb)))));go_ret2;exact ⟨by first | rfl | (simp [errW_none,errW_some] <;> rfl) | (simp only [← Qg];first | rfl | (simp [errW_none,errW_some] <;> rfl)) | (simp [*,errW_none,errW_some] <;> rfl),hn HB⟩
      ·rw [if_neg c24] at H;have Qz:=decide_eq_false c24;have QA:decide (rs_.size < 4)=false:=decide_eq_false (by omega);clear c24;by_cases c26:0 < (rs_.size:Int);rotate_left
       ·rw [if_neg c26] at H;exact absurd H (by simp)
       rw [if_pos c26] at H;have c26b0:=decide_eq_true c26;have c26b1:decide (0 < rs_.size)=true:=decide_eq_true (by omega);clear c26;by_cases c28:1 < (rs_.size:Int);rotate_left
       ·rw [if_neg c28] at H;exact absurd H (by simp)
       rw [if_pos c28] at H;have c28b0:=decide_eq_true c28;have c28b1:decide (1 < rs_.size)=true:=decide_eq_true (by omega);clear c28;by_cases c30:2 < (rs_.size:Int);rotate_left
       ·rw [if_neg c30] at H;exact absurd H (by simp)
       rw [if_pos c30] at H;have c30b0:=decide_eq_true c30;have c30b1:decide (2 < rs_.size)=true:=decide_eq_true (by omega);clear c30;by_cases c32:3 < (rs_.size:Int);rotate_left
       ·rw [if_neg c32] at H;exact absurd H (by simp)
       rw [if_pos c32] at H;have c32b0:=decide_eq_true c32;have c32b1:decide (3 < rs_.size)=true:=decide_eq_true (by omega);clear c32;replace H:=Option.bind_eq_some_iff.mp H;obtain ⟨Qd,QB,H⟩:=H;have A34:=Aside0.mk QB;clear QB;by_cases c35:(Go.bits .or .i64 (Go.bits .or .i64 (Go.bits .or .i64 (wrap64 ((wrap64 (bt rs_ 0))*16777216)) (wrap64 ((wrap64 (bt rs_ 1))*65536))) (wrap64 ((wrap64 (bt rs_ 2))*256))) (wrap64 (bt rs_ 3)))=Qd
       ·rw [if_pos c35] at H;have QC:((Go.bits .or .i64 (Go.bits .or .i64 (Go.bits .or .i64 (wrap64 ((wrap64 (bt rs_ 0))*16777216)) (wrap64 ((wrap64 (bt rs_ 1))*65536))) (wrap64 ((wrap64 (bt rs_ 2))*256))) (wrap64 (bt rs_ 3))) == Qd)=true:=beq_iff_eq.mpr c35;have QD:((Go.bits .or .i64 (Go.bits .or .i64 (Go.bits .or .i64 (wrap64 ((wrap64 (bt rs_ 0))*16777216)) (wrap64 ((wrap64 (bt rs_ 1))*65536))) (wrap64 ((wrap64 (bt rs_ 2))*256))) (wrap64 (bt rs_ 3))) != Qd)=false:=bne_eq_false_iff_eq.mpr c35;clear c35;by_cases c36:(rs_.size:Int) > 4
        ·rw [if_pos c36] at H;have QE:=decide_eq_true c36;have QF:decide (4 < rs_.size)=true:=decide_eq_true (by omega);clear c36;simp only [Option.some.injEq,Prod.mk.injEq] at H;obtain ⟨rfl,rfl⟩:=H;have p8:0≤(0:Int):=(by omega);have q8:0 < a0.size:=(by have:(0:Int) < (a0.size:Int):=pd;omega);have hx8:∀ h:0 < a0.size,((a0[0]'h).toNat:Int)=bt a0 0:=bt_at a0 0;clear p8;have qi8:(0 < (a0.size:Int))=True:=eq_true pd;replace q8:=eq_true q8;have p10:0≤(0:Int):=(by omega);have q10:0 < a0.size:=(by have:(0:Int) < (a0.size:Int):=pd;omega);have Ql:∀ h:0 < a0.size,((a0[0]'h).toNat:Int)=bt a0 0:=bt_at a0 0;clear p10;have qi10:(0 < (a0.size:Int))=True:=eq_true pd;replace q10:=eq_true q10;have p12:0≤(0:Int):=(by omega);have q12:0 < a0.size:=(by have:(0:Int) < (a0.size:Int):=pd;omega);have Qn:∀ h:0 < a0.size,((a0[0]'h).toNat:Int)=bt a0 0:=bt_at a0 0;clear p12;have qi12:(0 < (a0.size:Int))=True:=eq_true pd;replace q12:=eq_true q12;have p14:0≤(1:Int):=(by omega);have q14:1 < a0.size:=(by have:(1:Int) < (a0.size:Int):=pd;omega);have Qo:∀ h:1 < a0.size,((a0[1]'h).toNat:Int)=bt a0 1:=bt_at a0 1;clear p14;have qi14:(1 < (a0.size:Int))=True:=eq_true pd;replace q14:=eq_true q14;have p16:0≤(1:Int):=(by omega);have q16:1 < a0.size:=(by have:(1:Int) < (a0.size:Int):=pd;omega);have Qq:∀ h:1 < a0.size,((a0[1]'h).toNat:Int)=bt a0 1:=bt_at a0 1;clear p16;have qi16:(1 < (a0.size:Int))=True:=eq_true pd;replace q16:=eq_true q16;(go_wp2_with (first | (go_at_call 44;(with_reducible refine (inflate_Raw.calls (a0.extract 2 a0.size) a1 Qa Qe Qc _ A19.out).mono ?_);rintro e w37 ⟨rfl,hb⟩;replace HB:=hs HB hb;(try clear hb);have p27:0≤(0:Int):=(by omega);have q27:0 < rs_.size:=(by have:(0:Int) < (rs_.size:Int):=pd;omega);have Qh:∀ h:0 < rs_.size,((rs_[0]'h).toNat:Int)=bt rs_ 0:=bt_at rs_ 0;clear p27;have qi27:(0 < (rs_.size:Int))=True:=eq_true pd;replace q27:=eq_true q27;have p29:0≤(1:Int):=(by omega);have q29:1 < rs_.size:=(by have:(1:Int) < (rs_.size:Int):=pd;omega);have Qi:∀ h:1 < rs_.size,((rs_[1]'h).toNat:Int)=bt rs_ 1:=bt_at rs_ 1;clear p29;have qi29:(1 < (rs_.size:Int))=True:=eq_true pd;replace q29:=eq_true q29;have p31:0≤(2:Int):=(by omega);have q31:2 < rs_.size:=(by have:(2:Int) < (rs_.size:Int):=pd;omega);have Qj:∀ h:2 < rs_.size,((rs_[2]'h).toNat:Int)=bt rs_ 2:=bt_at rs_ 2;clear p31;have qi31:(2 < (rs_.size:Int))=True:=eq_true pd;replace q31:=eq_true q31;have p33:0≤(3:Int):=(by omega);have q33:3 < rs_.size:=(by have:(3:Int) < (rs_.size:Int):=pd;omega);have Qk:∀ h:3 < rs_.size,((rs_[3]'h).toNat:Int)=bt rs_ 3:=bt_at rs_ 3;clear p33;have qi33:(3 < (rs_.size:Int))=True:=eq_true pd;replace q33:=eq_true q33) | (go_at_call 48;(with_reducible refine (adler_Sum.calls kj2 Qa Qd _ A34.out).mono ?_);rintro e w' ⟨rfl,⟨nd,rfl⟩⟩;(try first | exact ⟨rfl,_,World.drewN_drewN _ _ _⟩ | exact ⟨rfl,_,Eq.trans (World.drewN_drewN _ _ _) (congrArg (World.drewN _) (Nat.add_assoc _ _ _))⟩))))
         (repeat (go_quiet (first | (go_at_call 44;(with_reducible refine (inflate_Raw.calls (a0.extract 2 a0.size) a1 Qa Qe Qc _ A19.out).mono ?_);rintro e w37 ⟨rfl,hb⟩;replace HB:=hs HB hb;(try clear hb);have p27:0≤(0:Int):=(by omega);have q27:0 < rs_.size:=(by have:(0:Int) < (rs_.size:Int):=pd;omega);have Qh:∀ h:0 < rs_.size,((rs_[0]'h).toNat:Int)=bt rs_ 0:=bt_at rs_ 0;clear p27;have qi27:(0 < (rs_.size:Int))=True:=eq_true pd;replace q27:=eq_true q27;have p29:0≤(1:Int):=(by omega);have q29:1 < rs_.size:=(by have:(1:Int) < (rs_.size:Int):=pd;omega);have Qi:∀ h:1 < rs_.size,((rs_[1]'h).toNat:Int)=bt rs_ 1:=bt_at rs_ 1;clear p29;have qi29:(1 < (rs_.size:Int))=True:=eq_true pd;replace q29:=eq_true q29;have p31:0≤(2:Int):=(by omega);have q31:2 < rs_.size:=(by have:(2:Int) < (rs_.size:Int):=pd;omega);have Qj:∀ h:2 < rs_.size,((rs_[2]'h).toNat:Int)=bt rs_ 2:=bt_at rs_ 2;clear p31;have qi31:(2 < (rs_.size:Int))=True:=eq_true pd;replace q31:=eq_true q31;have p33:0≤(3:Int):=(by omega);have q33:3 < rs_.size:=(by have:(3:Int) < (rs_.size:Int):=pd;omega);have Qk:∀ h:3 < rs_.size,((rs_[3]'h).toNat:Int)=bt rs_ 3:=bt_at rs_ 3;clear p33;have qi33:(3 < (rs_.size:Int))=True:=eq_true pd;replace q33:=eq_true q33) | (go_at_call 48;(with_reducible refine (adler_Sum.calls kj2 Qa Qd _ A34.out).mono ?_);rintro e w' ⟨rfl,⟨nd,rfl⟩⟩;(try first | exact ⟨rfl,_,World.drewN_drewN _ _ _⟩ | exact ⟨rfl,_,Eq.trans (World.drewN_drewN _ _ _) (congrArg (World.drewN _) (Nat.add_assoc _ _ _))⟩)));try go_wp2_with (first | (go_at_call 44;(with_reducible refine (inflate_Raw.calls (a0.extract 2 a0.size) a1 Qa Qe Qc _ A19.out).mono ?_);rintro e w37 ⟨rfl,hb⟩;have n0_:=hs HB hb;clear HB;have HB:=n0_;clear n0_;(try clear hb);have p27:0≤(0:Int):=(by omega);have q27:0 < rs_.size:=(by have:(0:Int) < (rs_.size:Int):=pd;omega);have Qh:∀ h:0 < rs_.size,((rs_[0]'h).toNat:Int)=bt rs_ 0:=bt_at rs_ 0;clear p27;have qi27:(0 < (rs_.size:Int))=True:=eq_true pd;replace q27:=eq_true q27;have p29:0≤(1:Int):=(by omega);have q29:1 < rs_.size:=(by have:(1:Int) < (rs_.size:Int):=pd;omega);have Qi:∀ h:1 < rs_.size,((rs_[1]'h).toNat:Int)=bt rs_ 1:=bt_at rs_ 1;clear p29;have qi29:(1 < (rs_.size:Int))=True:=eq_true pd;replace q29:=eq_true q29;have p31:0≤(2:Int):=(by omega);have q31:2 < rs_.size:=(by have:(2:Int) < (rs_.size:Int):=pd;omega);have Qj:∀ h:2 < rs_.size,((rs_[2]'h).toNat:Int)=bt rs_ 2:=bt_at rs_ 2;clear p31;have qi31:(2 < (rs_.size:Int))=True:=eq_true pd;replace q31:=eq_true q31;have p33:0≤(3:Int):=(by omega);have q33:3 < rs_.size:=(by have:(3:Int) < (rs_.size:Int):=pd;omega);have Qk:∀ h:3 < rs_.size,((rs_[3]'h).toNat:Int)=bt rs_ 3:=bt_at rs_ 3;clear p33;have qi33:(3 < (rs_.size:Int))=True:=eq_true pd;replace q33:=eq_true q33) | (go_at_call 48;(with_reducible refine (adler_Sum.calls kj2 Qa Qd _ A34.out).mono ?_);rintro e w' ⟨rfl,⟨nd,rfl⟩⟩;(try first | exact ⟨rfl,_,World.drewN_drewN _ _ _⟩ | exact ⟨rfl,_,Eq.trans (World.drewN_drewN _ _ _) (congrArg (World.drewN _) (Nat.add_assoc _ _ _))⟩)))));go_ret2
         exact ⟨by first | rfl | (simp [errW_none,errW_some] <;> rfl) | (simp only [← Qg];first | rfl | (simp [errW_none,errW_some] <;> rfl)) | (simp [*,errW_none,errW_some] <;> rfl),hn HB⟩
        ·rw [if_neg c36] at H;have QE:=decide_eq_false c36;have QF:decide (4 < rs_.size)=false:=decide_eq_false (by omega);clear c36;simp only [Option.some.injEq,Prod.mk.injEq] at H;obtain ⟨rfl,rfl⟩:=H;have p8:0≤(0:Int):=(by omega);have q8:0 < a0.size:=(by have:(0:Int) < (a0.size:Int):=pd;omega);have hx8:∀ h:0 < a0.size,((a0[0]'h).toNat:Int)=bt a0 0:=bt_at a0 0;clear p8;have qi8:(0 < (a0.size:Int))=True:=eq_true pd;replace q8:=eq_true q8;have p10:0≤(0:Int):=(by omega);have q10:0 < a0.size:=(by have:(0:Int) < (a0.size:Int):=pd;omega);have Ql:∀ h:0 < a0.size,((a0[0]'h).toNat:Int)=bt a0 0:=bt_at a0 0;clear p10;have qi10:(0 < (a0.size:Int))=True:=eq_true pd;replace q10:=eq_true q10;have p12:0≤(0:Int):=(by omega);have q12:0 < a0.size:=(by have:(0:Int) < (a0.size:Int):=pd;omega);have Qn:∀ h:0 < a0.size,((a0[0]'h).toNat:Int)=bt a0 0:=bt_at a0 0;clear p12;have qi12:(0 < (a0.size:Int))=True:=eq_true pd;replace q12:=eq_true q12;have p14:0≤(1:Int):=(by omega);have q14:1 < a0.size:=(by have:(1:Int) < (a0.size:Int):=pd;omega);have Qo:∀ h:1 < a0.size,((a0[1]'h).toNat:Int)=bt a0 1:=bt_at a0 1;clear p14;have qi14:(1 < (a0.size:Int))=True:=eq_true pd;replace q14:=eq_true q14;have p16:0≤(1:Int):=(by omega);have q16:1 < a0.size:=(by have:(1:Int) < (a0.size:Int):=pd;omega);have Qq:∀ h:1 < a0.size,((a0[1]'h).toNat:Int)=bt a0 1:=bt_at a0 1;clear p16;have qi16:(1 < (a0.size:Int))=True:=eq_true pd;replace q16:=eq_true q16;(go_wp2_with (first | (go_at_call 44;(with_reducible refine (inflate_Raw.calls (a0.extract 2 a0.size) a1 Qa Qe Qc _ A19.out).mono ?_);rintro e w38 ⟨rfl,hb⟩;replace HB:=hs HB hb;(try clear hb);have p27:0≤(0:Int):=(by omega);have q27:0 < rs_.size:=(by have:(0:Int) < (rs_.size:Int):=pd;omega);have Qh:∀ h:0 < rs_.size,((rs_[0]'h).toNat:Int)=bt rs_ 0:=bt_at rs_ 0;clear p27;have qi27:(0 < (rs_.size:Int))=True:=eq_true pd;replace q27:=eq_true q27;have p29:0≤(1:Int):=(by omega);have q29:1 < rs_.size:=(by have:(1:Int) < (rs_.size:Int):=pd;omega);have Qi:∀ h:1 < rs_.size,((rs_[1]'h).toNat:Int)=bt rs_ 1:=bt_at rs_ 1;clear p29;have qi29:(1 < (rs_.size:Int))=True:=eq_true pd;replace q29:=eq_true q29;have p31:0≤(2:Int):=(by omega);have q31:2 < rs_.size:=(by have:(2:Int) < (rs_.size:Int):=pd;omega);have Qj:∀ h:2 < rs_.size,((rs_[2]'h).toNat:Int)=bt rs_ 2:=bt_at rs_ 2;clear p31;have qi31:(2 < (rs_.size:Int))=True:=eq_true pd;replace q31:=eq_true q31;have p33:0≤(3:Int):=(by omega);have q33:3 < rs_.size:=(by have:(3:Int) < (rs_.size:Int):=pd;omega);have Qk:∀ h:3 < rs_.size,((rs_[3]'h).toNat:Int)=bt rs_ 3:=bt_at rs_ 3;clear p33;have qi33:(3 < (rs_.size:Int))=True:=eq_true pd;replace q33:=eq_true q33) | (go_at_call 48;(with_reducible refine (adler_Sum.calls kj2 Qa Qd _ A34.out).mono ?_);rintro e w' ⟨rfl,⟨nd,rfl⟩⟩;(try first | exact ⟨rfl,_,World.drewN_drewN _ _ _⟩ | exact ⟨rfl,_,Eq.trans (World.drewN_drewN _ _ _) (congrArg (World.drewN _) (Nat.add_assoc _ _ _))⟩))))
         (repeat (go_quiet (first | (go_at_call 44;(with_reducible refine (inflate_Raw.calls (a0.extract 2 a0.size) a1 Qa Qe Qc _ A19.out).mono ?_);rintro e w38 ⟨rfl,hb⟩;replace HB:=hs HB hb;(try clear hb);have p27:0≤(0:Int):=(by omega);have q27:0 < rs_.size:=(by have:(0:Int) < (rs_.size:Int):=pd;omega);have Qh:∀ h:0 < rs_.size,((rs_[0]'h).toNat:Int)=bt rs_ 0:=bt_at rs_ 0;clear p27;have qi27:(0 < (rs_.size:Int))=True:=eq_true pd;replace q27:=eq_true q27;have p29:0≤(1:Int):=(by omega);have q29:1 < rs_.size:=(by have:(1:Int) < (rs_.size:Int):=pd;omega);have Qi:∀ h:1 < rs_.size,((rs_[1]'h).toNat:Int)=bt rs_ 1:=bt_at rs_ 1;clear p29;have qi29:(1 < (rs_.size:Int))=True:=eq_true pd;replace q29:=eq_true q29;have p31:0≤(2:Int):=(by omega);have q31:2 < rs_.size:=(by have:(2:Int) < (rs_.size:Int):=pd;omega);have Qj:∀ h:2 < rs_.size,((rs_[2]'h).toNat:Int)=bt rs_ 2:=bt_at rs_ 2;clear p31;have qi31:(2 < (rs_.size:Int))=True:=eq_true pd;replace q31:=eq_true q31;have p33:0≤(3:Int):=(by omega);have q33:3 < rs_.size:=(by have:(3:Int) < (rs_.size:Int):=pd;omega);have Qk:∀ h:3 < rs_.size,((rs_[3]'h).toNat:Int)=bt rs_ 3:=bt_at rs_ 3;clear p33;have qi33:(3 < (rs_.size:Int))=True:=eq_true pd;replace q33:=eq_true q33) | (go_at_call 48;(with_reducible refine (adler_Sum.calls kj2 Qa Qd _ A34.out).mono ?_);rintro e w' ⟨rfl,⟨nd,rfl⟩⟩;(try first | exact ⟨rfl,_,World.drewN_drewN _ _ _⟩ | exact ⟨rfl,_,Eq.trans (World.drewN_drewN _ _ _) (congrArg (World.drewN _) (Nat.add_assoc _ _ _))⟩)));try go_wp2_with (first | (go_at_call 44;(with_reducible refine (inflate_Raw.calls (a0.extract 2 a0.size) a1 Qa Qe Qc _ A19.out).mono ?_);rintro e w38 ⟨rfl,hb⟩;have n0_:=hs HB hb;clear HB;have HB:=n0_;clear n0_;(try clear hb);have p27:0≤(0:Int):=(by omega);have q27:0 < rs_.size:=(by have:(0:Int) < (rs_.size:Int):=pd;omega);have Qh:∀ h:0 < rs_.size,((rs_[0]'h).toNat:Int)=bt rs_ 0:=bt_at rs_ 0;clear p27;have qi27:(0 < (rs_.size:Int))=True:=eq_true pd;replace q27:=eq_true q27;have p29:0≤(1:Int):=(by omega);have q29:1 < rs_.size:=(by have:(1:Int) < (rs_.size:Int):=pd;omega);have Qi:∀ h:1 < rs_.size,((rs_[1]'h).toNat:Int)=bt rs_ 1:=bt_at rs_ 1;clear p29;have qi29:(1 < (rs_.size:Int))=True:=eq_true pd;replace q29:=eq_true q29;have p31:0≤(2:Int):=(by omega);have q31:2 < rs_.size:=(by have:(2:Int) < (rs_.size:Int):=pd;omega);have Qj:∀ h:2 < rs_.size,((rs_[2]'h).toNat:Int)=bt rs_ 2:=bt_at rs_ 2;clear p31;have qi31:(2 < (rs_.size:Int))=True:=eq_true pd;replace q31:=eq_true q31;have p33:0≤(3:Int):=(by omega);have q33:3 < rs_.size:=(by have:(3:Int) < (rs_.size:Int):=pd;omega);have Qk:∀ h:3 < rs_.size,((rs_[3]'h).toNat:Int)=bt rs_ 3:=bt_at rs_ 3;clear p33;have qi33:(3 < (rs_.size:Int))=True:=eq_true pd;replace q33:=eq_true q33) | (go_at_call 48;(with_reducible refine (adler_Sum.calls kj2 Qa Qd _ A34.out).mono ?_);rintro e w' ⟨rfl,⟨nd,rfl⟩⟩;(try first | exact ⟨rfl,_,World.drewN_drewN _ _ _⟩ | exact ⟨rfl,_,Eq.trans (World.drewN_drewN _ _ _) (congrArg (World.drewN _) (Nat.add_assoc _ _ _))⟩)))));go_ret2
         exact ⟨by first | rfl | (simp [errW_none,errW_some] <;> rfl) | (simp only [← Qg];first | rfl | (simp [errW_none,errW_some] <;> rfl)) | (simp [*,errW_none,errW_some] <;> rfl),hn HB⟩
       ·rw [if_neg c35] at H;have QC:((Go.bits .or .i64 (Go.bits .or .i64 (Go.bits .or .i64 (wrap64 ((wrap64 (bt rs_ 0))*16777216)) (wrap64 ((wrap64 (bt rs_ 1))*65536))) (wrap64 ((wrap64 (bt rs_ 2))*256))) (wrap64 (bt rs_ 3))) == Qd)=false:=beq_eq_false_iff_ne.mpr c35;have QD:((Go.bits .or .i64 (Go.bits .or .i64 (Go.bits .or .i64 (wrap64 ((wrap64 (bt rs_ 0))*16777216)) (wrap64 ((wrap64 (bt rs_ 1))*65536))) (wrap64 ((wrap64 (bt rs_ 2))*256))) (wrap64 (bt rs_ 3))) != Qd)=true:=bne_iff_ne.mpr c35;simp only [Option.some.injEq,Prod.mk.injEq] at H;obtain ⟨rfl,rfl⟩:=H;have p8:0≤(0:Int):=(by omega);have q8:0 < a0.size:=(by have:(0:Int) < (a0.size:Int):=pd;omega);have hx8:∀ h:0 < a0.size,((a0[0]'h).toNat:Int)=bt a0 0:=bt_at a0 0;clear p8;have qi8:(0 < (a0.size:Int))=True:=eq_true pd;replace q8:=eq_true q8;have p10:0≤(0:Int):=(by omega);have q10:0 < a0.size:=(by have:(0:Int) < (a0.size:Int):=pd;omega);have Ql:∀ h:0 < a0.size,((a0[0]'h).toNat:Int)=bt a0 0:=bt_at a0 0;clear p10;have qi10:(0 < (a0.size:Int))=True:=eq_true pd;replace q10:=eq_true q10;have p12:0≤(0:Int):=(by omega);have q12:0 < a0.size:=(by have:(0:Int) < (a0.size:Int):=pd;omega);have Qn:∀ h:0 < a0.size,((a0[0]'h).toNat:Int)=bt a0 0:=bt_at a0 0;clear p12;have qi12:(0 < (a0.size:Int))=True:=eq_true pd;replace q12:=eq_true q12;have p14:0≤(1:Int):=(by omega);have q14:1 < a0.size:=(by have:(1:Int) < (a0.size:Int):=pd;omega);have Qo:∀ h:1 < a0.size,((a0[1]'h).toNat:Int)=bt a0 1:=bt_at a0 1;clear p14;have qi14:(1 < (a0.size:Int))=True:=eq_true pd;replace q14:=eq_true q14
        have p16:0≤(1:Int):=(by omega);have q16:1 < a0.size:=(by have:(1:Int) < (a0.size:Int):=pd;omega);have Qq:∀ h:1 < a0.size,((a0[1]'h).toNat:Int)=bt a0 1:=bt_at a0 1;clear p16;have qi16:(1 < (a0.size:Int))=True:=eq_true pd;replace q16:=eq_true q16;(go_wp2_with (first | (go_at_call 44;(with_reducible refine (inflate_Raw.calls (a0.extract 2 a0.size) a1 Qa Qe Qc _ A19.out).mono ?_);rintro e w39 ⟨rfl,hb⟩;replace HB:=hs HB hb;(try clear hb);have p27:0≤(0:Int):=(by omega);have q27:0 < rs_.size:=(by have:(0:Int) < (rs_.size:Int):=pd;omega);have Qh:∀ h:0 < rs_.size,((rs_[0]'h).toNat:Int)=bt rs_ 0:=bt_at rs_ 0;clear p27;have qi27:(0 < (rs_.size:Int))=True:=eq_true pd;replace q27:=eq_true q27;have p29:0≤(1:Int):=(by omega);have q29:1 < rs_.size:=(by have:(1:Int) < (rs_.size:Int):=pd;omega);have Qi:∀ h:1 < rs_.size,((rs_[1]'h).toNat:Int)=bt rs_ 1:=bt_at rs_ 1;clear p29;have qi29:(1 < (rs_.size:Int))=True:=eq_true pd;replace q29:=eq_true q29;have p31:0≤(2:Int):=(by omega);have q31:2 < rs_.size:=(by have:(2:Int) < (rs_.size:Int):=pd;omega);have Qj:∀ h:2 < rs_.size,((rs_[2]'h).toNat:Int)=bt rs_ 2:=bt_at rs_ 2;clear p31;have qi31:(2 < (rs_.size:Int))=True:=eq_true pd;replace q31:=eq_true q31;have p33:0≤(3:Int):=(by omega);have q33:3 < rs_.size:=(by have:(3:Int) < (rs_.size:Int):=pd;omega);have Qk:∀ h:3 < rs_.size,((rs_[3]'h).toNat:Int)=bt rs_ 3:=bt_at rs_ 3;clear p33;have qi33:(3 < (rs_.size:Int))=True:=eq_true pd;replace q33:=eq_true q33) | (go_at_call 48;(with_reducible refine (adler_Sum.calls kj2 Qa Qd _ A34.out).mono ?_);rintro e w' ⟨rfl,⟨nd,rfl⟩⟩;(try first | exact ⟨rfl,_,World.drewN_drewN _ _ _⟩ | exact ⟨rfl,_,Eq.trans (World.drewN_drewN _ _ _) (congrArg (World.drewN _) (Nat.add_assoc _ _ _))⟩))))
        (repeat (go_quiet (first | (go_at_call 44;(with_reducible refine (inflate_Raw.calls (a0.extract 2 a0.size) a1 Qa Qe Qc _ A19.out).mono ?_);rintro e w39 ⟨rfl,hb⟩;replace HB:=hs HB hb;(try clear hb);have p27:0≤(0:Int):=(by omega);have q27:0 < rs_.size:=(by have:(0:Int) < (rs_.size:Int):=pd;omega);have Qh:∀ h:0 < rs_.size,((rs_[0]'h).toNat:Int)=bt rs_ 0:=bt_at rs_ 0;clear p27;have qi27:(0 < (rs_.size:Int))=True:=eq_true pd;replace q27:=eq_true q27;have p29:0≤(1:Int):=(by omega);have q29:1 < rs_.size:=(by have:(1:Int) < (rs_.size:Int):=pd;omega);have Qi:∀ h:1 < rs_.size,((rs_[1]'h).toNat:Int)=bt rs_ 1:=bt_at rs_ 1;clear p29;have qi29:(1 < (rs_.size:Int))=True:=eq_true pd;replace q29:=eq_true q29;have p31:0≤(2:Int):=(by omega);have q31:2 < rs_.size:=(by have:(2:Int) < (rs_.size:Int):=pd;omega);have Qj:∀ h:2 < rs_.size,((rs_[2]'h).toNat:Int)=bt rs_ 2:=bt_at rs_ 2;clear p31;have qi31:(2 < (rs_.size:Int))=True:=eq_true pd;replace q31:=eq_true q31;have p33:0≤(3:Int):=(by omega);have q33:3 < rs_.size:=(by have:(3:Int) < (rs_.size:Int):=pd;omega);have Qk:∀ h:3 < rs_.size,((rs_[3]'h).toNat:Int)=bt rs_ 3:=bt_at rs_ 3;clear p33;have qi33:(3 < (rs_.size:Int))=True:=eq_true pd;replace q33:=eq_true q33) | (go_at_call 48;(with_reducible refine (adler_Sum.calls kj2 Qa Qd _ A34.out).mono ?_);rintro e w' ⟨rfl,⟨nd,rfl⟩⟩;(try first | exact ⟨rfl,_,World.drewN_drewN _ _ _⟩ | exact ⟨rfl,_,Eq.trans (World.drewN_drewN _ _ _) (congrArg (World.drewN _) (Nat.add_assoc _ _ _))⟩)));try go_wp2_with (first | (go_at_call 44;(with_reducible refine (inflate_Raw.calls (a0.extract 2 a0.size) a1 Qa Qe Qc _ A19.out).mono ?_);rintro e w39 ⟨rfl,hb⟩;have n0_:=hs HB hb;clear HB;have HB:=n0_;clear n0_;(try clear hb);have p27:0≤(0:Int):=(by omega);have q27:0 < rs_.size:=(by have:(0:Int) < (rs_.size:Int):=pd;omega);have Qh:∀ h:0 < rs_.size,((rs_[0]'h).toNat:Int)=bt rs_ 0:=bt_at rs_ 0;clear p27;have qi27:(0 < (rs_.size:Int))=True:=eq_true pd;replace q27:=eq_true q27;have p29:0≤(1:Int):=(by omega);have q29:1 < rs_.size:=(by have:(1:Int) < (rs_.size:Int):=pd;omega);have Qi:∀ h:1 < rs_.size,((rs_[1]'h).toNat:Int)=bt rs_ 1:=bt_at rs_ 1;clear p29;have qi29:(1 < (rs_.size:Int))=True:=eq_true pd;replace q29:=eq_true q29;have p31:0≤(2:Int):=(by omega);have q31:2 < rs_.size:=(by have:(2:Int) < (rs_.size:Int):=pd;omega);have Qj:∀ h:2 < rs_.size,((rs_[2]'h).toNat:Int)=bt rs_ 2:=bt_at rs_ 2;clear p31;have qi31:(2 < (rs_.size:Int))=True:=eq_true pd;replace q31:=eq_true q31;have p33:0≤(3:Int):=(by omega);have q33:3 < rs_.size:=(by have:(3:Int) < (rs_.size:Int):=pd;omega);have Qk:∀ h:3 < rs_.size,((rs_[3]'h).toNat:Int)=bt rs_ 3:=bt_at rs_ 3;clear p33;have qi33:(3 < (rs_.size:Int))=True:=eq_true pd;replace q33:=eq_true q33) | (go_at_call 48;(with_reducible refine (adler_Sum.calls kj2 Qa Qd _ A34.out).mono ?_);rintro e w' ⟨rfl,⟨nd,rfl⟩⟩;(try first | exact ⟨rfl,_,World.drewN_drewN _ _ _⟩ | exact ⟨rfl,_,Eq.trans (World.drewN_drewN _ _ _) (congrArg (World.drewN _) (Nat.add_assoc _ _ _))⟩)))));go_ret2
        exact ⟨by first | rfl | (simp [errW_none,errW_some] <;> rfl) | (simp only [← Qg];first | rfl | (simp [errW_none,errW_some] <;> rfl)) | (simp [*,errW_none,errW_some] <;> rfl),hn HB⟩
     ·rw [if_neg c20] at H;have Qx:(Qc == 0)=false:=beq_eq_false_iff_ne.mpr c20;have Qy:(Qc != 0)=true:=bne_iff_ne.mpr c20;simp only [Option.some.injEq,Prod.mk.injEq] at H;obtain ⟨rfl,rfl⟩:=H;have p8:0≤(0:Int):=(by omega);have q8:0 < a0.size:=(by have:(0:Int) < (a0.size:Int):=pd;omega);have hx8:∀ h:0 < a0.size,((a0[0]'h).toNat:Int)=bt a0 0:=bt_at a0 0;clear p8;have qi8:(0 < (a0.size:Int))=True:=eq_true pd;replace q8:=eq_true q8;have p10:0≤(0:Int):=(by omega);have q10:0 < a0.size:=(by have:(0:Int) < (a0.size:Int):=pd;omega);have Ql:∀ h:0 < a0.size,((a0[0]'h).toNat:Int)=bt a0 0:=bt_at a0 0;clear p10;have qi10:(0 < (a0.size:Int))=True:=eq_true pd;replace q10:=eq_true q10;have p12:0≤(0:Int):=(by omega);have q12:0 < a0.size:=(by have:(0:Int) < (a0.size:Int):=pd;omega);have Qn:∀ h:0 < a0.size,((a0[0]'h).toNat:Int)=bt a0 0:=bt_at a0 0;clear p12;have qi12:(0 < (a0.size:Int))=True:=eq_true pd;replace q12:=eq_true q12;have p14:0≤(1:Int):=(by omega);have q14:1 < a0.size:=(by have:(1:Int) < (a0.size:Int):=pd;omega);have Qo:∀ h:1 < a0.size,((a0[1]'h).toNat:Int)=bt a0 1:=bt_at a0 1;clear p14;have qi14:(1 < (a0.size:Int))=True:=eq_true pd;replace q14:=eq_true q14;have p16:0≤(1:Int):=(by omega);have q16:1 < a0.size:=(by have:(1:Int) < (a0.size:Int):=pd;omega);have Qq:∀ h:1 < a0.size,((a0[1]'h).toNat:Int)=bt a0 1:=bt_at a0 1;clear p16;have qi16:(1 < (a0.size:Int))=True:=eq_true pd;replace q16:=eq_true q16;(go_wp2_with (first | (go_at_call 44;(with_reducible refine (inflate_Raw.calls (a0.extract 2 a0.size) a1 Qa Qe Qc _ A19.out).mono ?_);rintro e w40 ⟨rfl,hb⟩;replace HB:=hs HB hb;(try clear hb))))
      (repeat (go_quiet (first | (go_at_call 44;(with_reducible refine (inflate_Raw.calls (a0.extract 2 a0.size) a1 Qa Qe Qc _ A19.out).mono ?_);rintro e w40 ⟨rfl,hb⟩;replace HB:=hs HB hb;(try clear hb)));try go_wp2_with (first | (go_at_call 44;(with_reducible refine (inflate_Raw.calls (a0.extract 2 a0.size) a1 Qa Qe Qc _ A19.out).mono ?_);rintro e w40 ⟨rfl,hb⟩;have n0_:=hs HB hb;clear HB;have HB:=n0_;clear n0_;(try clear hb)))));go_ret2;exact ⟨by first | rfl | (simp [errW_none,errW_some] <;> rfl) | (simp [*,errW_none,errW_some] <;> rfl),hn HB⟩
    ·rw [if_neg c17] at H;have Qu:((Go.bits .and .u8 (bt a0 1) 32) == 0)=false:=beq_eq_false_iff_ne.mpr c17;have Qv:((Go.bits .and .u8 (bt a0 1) 32) != 0)=true:=bne_iff_ne.mpr c17;simp only [Option.some.injEq,Prod.mk.injEq] at H;obtain ⟨rfl,rfl⟩:=H;have p8:0≤(0:Int):=(by omega);have q8:0 < a0.size:=(by have:(0:Int) < (a0.size:Int):=pd;omega);have hx8:∀ h:0 < a0.size,((a0[0]'h).toNat:Int)=bt a0 0:=bt_at a0 0;clear p8;have qi8:(0 < (a0.size:Int))=True:=eq_true pd;replace q8:=eq_true q8;have p10:0≤(0:Int):=(by omega);have q10:0 < a0.size:=(by have:(0:Int) < (a0.size:Int):=pd;omega);have Ql:∀ h:0 < a0.size,((a0[0]'h).toNat:Int)=bt a0 0:=bt_at a0 0;clear p10;have qi10:(0 < (a0.size:Int))=True:=eq_true pd;replace q10:=eq_true q10;have p12:0≤(0:Int):=(by omega);have q12:0 < a0.size:=(by have:(0:Int) < (a0.size:Int):=pd;omega);have Qn:∀ h:0 < a0.size,((a0[0]'h).toNat:Int)=bt a0 0:=bt_at a0 0;clear p12;have qi12:(0 < (a0.size:Int))=True:=eq_true pd;replace q12:=eq_true q12;have p14:0≤(1:Int):=(by omega);have q14:1 < a0.size:=(by have:(1:Int) < (a0.size:Int):=pd;omega);have Qo:∀ h:1 < a0.size,((a0[1]'h).toNat:Int)=bt a0 1:=bt_at a0 1;clear p14;have qi14:(1 < (a0.size:Int))=True:=eq_true pd;replace q14:=eq_true q14;have p16:0≤(1:Int):=(by omega);have q16:1 < a0.size:=(by have:(1:Int) < (a0.size:Int):=pd;omega);have Qq:∀ h:1 < a0.size,((a0[1]'h).toNat:Int)=bt a0 1:=bt_at a0 1;clear p16;have qi16:(1 < (a0.size:Int))=True:=eq_true pd;replace q16:=eq_true q16;go_wp2;(repeat (go_quiet (fail);try go_wp2));go_ret2;exact ⟨by first | rfl | (simp [errW_none,errW_some] <;> rfl) | (simp [*,errW_none,errW_some] <;> rfl),hn HB⟩
   ·rw [if_neg c15] at H;have Qs:((Int.tmod (Go.bits .or .i64 (wrap64 ((wrap64 (bt a0 0))*256)) (wrap64 (bt a0 1))) 31) == 0)=false:=beq_eq_false_iff_ne.mpr c15;have Qt:((Int.tmod (Go.bits .or .i64 (wrap64 ((wrap64 (bt a0 0))*256)) (wrap64 (bt a0 1))) 31) != 0)=true:=bne_iff_ne.mpr c15;simp only [Option.some.injEq,Prod.mk.injEq] at H;obtain ⟨rfl,rfl⟩:=H;have p8:0≤(0:Int):=(by omega);have q8:0 < a0.size:=(by have:(0:Int) < (a0.size:Int):=pd;omega);have hx8:∀ h:0 < a0.size,((a0[0]'h).toNat:Int)=bt a0 0:=bt_at a0 0;clear p8;have qi8:(0 < (a0.size:Int))=True:=eq_true pd;replace q8:=eq_true q8;have p10:0≤(0:Int):=(by omega);have q10:0 < a0.size:=(by have:(0:Int) < (a0.size:Int):=pd;omega);have Ql:∀ h:0 < a0.size,((a0[0]'h).toNat:Int)=bt a0 0:=bt_at a0 0;clear p10;have qi10:(0 < (a0.size:Int))=True:=eq_true pd;replace q10:=eq_true q10;have p12:0≤(0:Int):=(by omega);have q12:0 < a0.size:=(by have:(0:Int) < (a0.size:Int):=pd;omega);have Qn:∀ h:0 < a0.size,((a0[0]'h).toNat:Int)=bt a0 0:=bt_at a0 0;clear p12;have qi12:(0 < (a0.size:Int))=True:=eq_true pd;replace q12:=eq_true q12;have p14:0≤(1:Int):=(by omega);have q14:1 < a0.size:=(by have:(1:Int) < (a0.size:Int):=pd;omega);have Qo:∀ h:1 < a0.size,((a0[1]'h).toNat:Int)=bt a0 1:=bt_at a0 1;clear p14;have qi14:(1 < (a0.size:Int))=True:=eq_true pd;replace q14:=eq_true q14;go_wp2;(repeat (go_quiet (fail);try go_wp2));go_ret2;exact ⟨by first | rfl | (simp [errW_none,errW_some] <;> rfl) | (simp [*,errW_none,errW_some] <;> rfl),hn HB⟩
 ·rw [if_neg c9] at H;have QI:((Go.bits .and .u8 (bt a0 0) 15) == 8)=false:=beq_eq_false_iff_ne.mpr c9;have QJ:((Go.bits .and .u8 (bt a0 0) 15) != 8)=true:=bne_iff_ne.mpr c9;simp only [Option.some.injEq,Prod.mk.injEq] at H;obtain ⟨rfl,rfl⟩:=H;have p8:0≤(0:Int):=(by omega);have q8:0 < a0.size:=(by have:(0:Int) < (a0.size:Int):=pd;omega);have hx8:∀ h:0 < a0.size,((a0[0]'h).toNat:Int)=bt a0 0:=bt_at a0 0;clear p8;have qi8:(0 < (a0.size:Int))=True:=eq_true pd;replace q8:=eq_true q8;go_wp2;repeat (go_quiet (fail);try go_wp2)
  go_ret2;exact ⟨by first | rfl | (simp [errW_none,errW_some] <;> rfl) | (simp [*,errW_none,errW_some] <;> rfl),hn HB⟩
end Go.Proofs.Ytpbhkdamkbopkaa.GBack2
namespace Go.Proofs.Ytpbhkdamkbopkaa.GPix
open Go.RowKit Go.Proofs.YtpbhkdamkbopkaaW.PrintWords Go.Proofs.YtpbhkdamkbopkaaW.PrintLast Go.Proofs.YtpbhkdamkbopkaaW.PrintMore Go.Proofs.Ytpbhkdamkbopkaa.Wr2 Go.Proofs.Ytpbhkdamkbopkaa.Wr1 Go.Proofs.Ytpbhkdamkbopkaa.GRuns Go.Proofs.Ytpbhkdamkbopkaa.GBack2
attribute [local go_sem] max2_int min2_int max_two min_two max_three min_three max_four min_four
set_option linter.unusedVariables false
set_option linter.unusedSimpArgs false
def errW:Option Int → Value
 |none=>.nilIface
 |some c=>.iface 0 (.int .i64 c)
theorem errW_none:errW none=.nilIface:=rfl
theorem errW_some (c:Int):errW (some c)=.iface 0 (.int .i64 c):=rfl
theorem info3:(Try.prog.info? 3).map (fun i=>(i.zero,i.size,i.bytes))=some (some (.int .i64 0),1,8):=by kernel_rfl
theorem info5:(Try.prog.info? 5).map (fun i=>(i.zero,i.size,i.bytes))=some (some (.int .u8 0),1,1):=by kernel_rfl
theorem info89:(Try.prog.info? 89).map (fun i=>(i.zero,i.size,i.bytes))=some (some (.agg #[(.int .i64 0),(.int .i64 0),(.int .i64 0),(.int .i64 0)]),4,32):=by kernel_rfl
structure S89 where
 f0:Int
 f1:Int
 f2:Int
 f3:Int
def z89:S89:=⟨(0:Int),(0:Int),(0:Int),(0:Int)⟩
def k89:Kd S89:=Kd.iso (Kd.pair (Kd.int .i64) (Kd.pair (Kd.int .i64) (Kd.pair (Kd.int .i64) (Kd.int .i64)))) (fun x:S89=>(x.f0,x.f1,x.f2,x.f3))
theorem k89_open {w:World} {x:S89} {cs:List Value} (h:k89.K w x cs):cs=[.int .i64 x.f0,.int .i64 x.f1,.int .i64 x.f2,.int .i64 x.f3]:=by
 obtain ⟨_,_,rfl,rfl,⟨_,_,rfl,rfl,⟨_,_,rfl,rfl,rfl⟩⟩⟩:=h;exact rfl
theorem k89_mkM (w:World) (base:Nat) (ok:Nat → Prop) (x:S89) :k89.M w base ok x [.int .i64 x.f0,.int .i64 x.f1,.int .i64 x.f2,.int .i64 x.f3]:=⟨[.int .i64 x.f0],[.int .i64 x.f1,.int .i64 x.f2,.int .i64 x.f3],rfl,rfl,⟨[.int .i64 x.f1],[.int .i64 x.f2,.int .i64 x.f3],rfl,rfl,⟨[.int .i64 x.f2],[.int .i64 x.f3],rfl,rfl,rfl⟩⟩⟩
def rd_T89 (xs:List S89) (i:Int):S89:=xs.getD i.toNat z89
theorem at_T89 {w:World} {A:Option Addr} {n:Nat} {xs:List S89} (h:Kd.C k89 w A n xs) (i:Int) (h0:0≤i) (h1:i < n):∃ ad ,A=some ad∧w.cell? (ad.add (i.toNat*4))=some (.int .i64 (rd_T89 xs i).f0)∧w.cell? ⟨(ad.add (i.toNat*4)).block,(ad.add (i.toNat*4)).off+1,none⟩=some (.int .i64 (rd_T89 xs i).f1)∧w.cell? ⟨(ad.add (i.toNat*4)).block,(ad.add (i.toNat*4)).off+2,none⟩=some (.int .i64 (rd_T89 xs i).f2)∧w.cell? ⟨(ad.add (i.toNat*4)).block,(ad.add (i.toNat*4)).off+3,none⟩=some (.int .i64 (rd_T89 xs i).f3):=by
 obtain ⟨ad,c,e,_,hK,hc0⟩:=Kd.C_get h z89 i h0 h1;have hc:∀ j u,c[j]?=some u → w.cell? (ad.add (i.toNat*4+j))=some u:=hc0;obtain rfl:=k89_open hK;exact ⟨ad,e,hc 0 _ rfl,by rw [← add_field _ _ 1 (by omega)];exact hc 1 _ rfl,by rw [← add_field _ _ 2 (by omega)];exact hc 2 _ rfl,by rw [← add_field _ _ 3 (by omega)];exact hc 3 _ rfl⟩
end Go.Proofs.Ytpbhkdamkbopkaa.GPix
namespace Go.Proofs.Ytpbhkdamkbopkaa.Opens
open Go.RowKit Go.Proofs.Ytpbhkdamkbopkaa.GPix Go.Proofs.YtpbhkdamkbopkaaW.PrintWords
/-- The numbers of a colour are Go's. -/
def G89 (x:S89):Prop:=(Lit.int .i64 x.f0).wf=true∧(Lit.int .i64 x.f1).wf=true∧(Lit.int .i64 x.f2).wf=true∧(Lit.int .i64 x.f3).wf=true
theorem P89:Opens Try.prog (Kd.pair (Kd.int .i64) (Kd.pair (Kd.int .i64) (Kd.pair (Kd.int .i64) (Kd.int .i64)))) 89 (fun p=>(Lit.int .i64 p.1).wf=true∧(Lit.int .i64 p.2.1).wf=true∧(Lit.int .i64 p.2.2.1).wf=true∧(Lit.int .i64 p.2.2.2).wf=true):=Opens.good (
 Opens.fields Try.underlying89 (by kernel_rfl) (OpensF.cons rfl (by kernel_rfl) (Opens.int Try.underlying3) (OpensF.cons rfl (by kernel_rfl) (Opens.int Try.underlying3) (OpensF.cons rfl (by kernel_rfl) (Opens.int Try.underlying3) (OpensF.one rfl (by kernel_rfl) (Opens.int Try.underlying3)))))) (fun _ h=>h)
theorem opens89:Opens Try.prog k89 89 G89:=Opens.good (Opens.iso P89 (fun x:S89=>(x.f0,x.f1,x.f2,x.f3)) (fun p=>(⟨p.1,p.2.1,p.2.2.1,p.2.2.2⟩:S89)) (fun _=>rfl)) (fun _ h=>h)
theorem opens74:Opens Try.prog (Kd.slice 89 k89) 74 (fun l=>l.length≤maxLen∧∀ x ∈ l,G89 x):=Opens.slice Try.underlying74 (by kernel_rfl) opens89
theorem P76:Opens Try.prog (Kd.pair (Kd.int .i64) (Kd.pair (Kd.int .i64) (Kd.pair (Kd.int .i64) (Kd.slice 89 k89)))) 76 (fun p=>(Lit.int .i64 p.1).wf=true∧(Lit.int .i64 p.2.1).wf=true∧(Lit.int .i64 p.2.2.1).wf=true∧(p.2.2.2.length≤maxLen∧∀ x ∈ p.2.2.2,G89 x)):=Opens.good (
 Opens.fields Try.underlying76 (by kernel_rfl) (OpensF.cons rfl (by kernel_rfl) (Opens.int Try.underlying3) (OpensF.cons rfl (by kernel_rfl) (Opens.int Try.underlying3) (OpensF.cons rfl (by kernel_rfl) (Opens.int Try.underlying3) (OpensF.one rfl (by kernel_rfl) opens74))))) (fun _ h=>h)
end Go.Proofs.Ytpbhkdamkbopkaa.Opens
namespace Go.Proofs.Ytpbhkdamkbopkaa.GPix
open Go.Proofs.Ytpbhkdamkbopkaa.Sq
open Go.RowKit Go.Proofs.YtpbhkdamkbopkaaW.PrintWords Go.Proofs.YtpbhkdamkbopkaaW.PrintLast Go.Proofs.YtpbhkdamkbopkaaW.PrintMore Go.Proofs.Ytpbhkdamkbopkaa.Wr2 Go.Proofs.Ytpbhkdamkbopkaa.Wr1 Go.Proofs.Ytpbhkdamkbopkaa.GRuns Go.Proofs.Ytpbhkdamkbopkaa.GBack2
attribute [local go_sem] max2_int min2_int max_two min_two max_three min_three max_four min_four
set_option linter.unusedVariables false
set_option linter.unusedSimpArgs false
mutual
def celluloidref11_Right.j0:Nat → Bool → Int → Int → Int → List (S89) → Option (Bool)
 |0,_,_,_,_,_=>none
 |k+1,x43,x299000,x299001,x299002,x299003=>if x43=true then (some false) else (celluloidref11_Right.l0 k 0 x299000 x299001 x299002 x299003)
def celluloidref11_Right.l0:Nat → Int → Int → Int → Int → List (S89) → Option (Bool)
 |0,_,_,_,_,_=>none
 |k+1,x3,x299000,x299001,x299002,x299003=>if x3 < (x299003.length:Int) then (if 0≤x3 then (if ((rd_T89 x299003 x3).f3) > 255 then (some false) else (if ((rd_T89 x299003 x3).f0) < 0 then (some false) else (if ((rd_T89 x299003 x3).f1) < 0 then (some false) else (if ((rd_T89 x299003 x3).f2) < 0 then (some false) else (if ((rd_T89 x299003 x3).f0) > ((rd_T89 x299003 x3).f3) then (some false) else (if ((rd_T89 x299003 x3).f1) > ((rd_T89 x299003 x3).f3) then (some false) else (if ((rd_T89 x299003 x3).f2) > ((rd_T89 x299003 x3).f3) then (some false) else (celluloidref11_Right.l0 k (wrap64 (x3+1)) x299000 x299001 x299002 x299003)))))))) else (none)) else (some true)
end
def celluloidref11_Right.f (k:Nat) (a0_0:Int) (a0_1:Int) (a0_2:Int) (l0_3:List (S89)):Option (Bool):=if a0_0 < 0 then (celluloidref11_Right.j0 k true a0_0 a0_1 a0_2 l0_3) else (if a0_0 > 65535 then (celluloidref11_Right.j0 k true a0_0 a0_1 a0_2 l0_3) else (if a0_1 < 1 then (celluloidref11_Right.j0 k true a0_0 a0_1 a0_2 l0_3) else (if a0_1 > 64 then (celluloidref11_Right.j0 k true a0_0 a0_1 a0_2 l0_3) else (if a0_2 < 1 then (celluloidref11_Right.j0 k true a0_0 a0_1 a0_2 l0_3) else (if a0_2 > 64 then (celluloidref11_Right.j0 k true a0_0 a0_1 a0_2 l0_3) else (celluloidref11_Right.j0 k ((l0_3.length:Int) != (wrap64 (a0_1*a0_2))) a0_0 a0_1 a0_2 l0_3))))))
set_option maxHeartbeats 8000000 in
set_option maxRecDepth 100000 in
theorem celluloidref11_Right.calls (k : Nat) (Qu : Int) (Qo : Int) (Qp : Int) (Qw : Option Addr) (Qx : Nat) (Qj : List (S89)) (r : Bool) (w : World) (hr0_3 : Kd.C k89 w Qw Qj.length Qj) (hc0_3 : Qj.length ≤ Qx) (h : celluloidref11_Right.f k Qu Qo Qp Qj = some r) :
  Calls Try.prog 51 #[.agg #[.int .i64 Qu,.int .i64 Qo,.int .i64 Qp,.slice Qw Qj.length Qx]] w fun e w'=>e=.returned (.bool r)∧Below w.heap.size w w':=by
 have hu79:=Try.underlying79;have hu89:=Try.underlying89;have Qn:=Aside0.mk hr0_3;have HC0_3:=Aside0.mk hc0_3;clear hr0_3 hc0_3;have HB:=Aside0.mk (Below.refl w.heap.size w);have H:=h;unfold celluloidref11_Right.f at H;clear h;have HC2:=Aside0.mk H;clear H;go_enter Try.func51,Try.ntmps51;go_upto_region 1 with (first | ((with_reducible refine gate_dst (N:=1) rfl ?_);(try (refine gate_guard (by rfl) ?_;dsimp only));refine boxQ 1 #[.int .i64 Qu,.int .i64 Qo,.int .i64 Qp,.slice Qw Qj.length Qx] 79 ?_;intro Qz hg w3 hbox hb;have Qa:=Aside0.mk hbox;have GW298:=gs HB hg;have GE298:=gs HB hg;replace HB:=hs HB hb;clear hb hbox hg))
 (try simp only [Act.put,List.setIfInBounds_toArray,List.set_cons_zero,List.set_cons_succ])
 go_cut [43] (fun v43 wc=>∃ (kq:Nat) (Qv:Bool),v43=.bool Qv∧Aside0 (celluloidref11_Right.j0 kq Qv Qu Qo Qp Qj=some r)∧Aside0 (kq≤k)∧Aside0 (wc.heap[Qz]?=some (.cells #[.int .i64 Qu,.int .i64 Qo,.int .i64 Qp,(.slice Qw Qj.length Qx)] 79 (0,0)))∧Aside0 (Below w.heap.size w wc))
 case first =>
  have H:=HC2.out;clear HC2;by_cases c4:Qu < 0
  ·rw [if_pos c4] at H;have Qy:=decide_eq_true c4;clear c4
   (first | rw [Qy] | (simp only [i64_w,i32_w];rw [Qy]) | skip)
   have H':=Aside0.mk H;clear H;obtain ⟨_,_,_,_⟩:=cc4 Qa;obtain ⟨_,_,_,_⟩:=ff4 Qa;go_wp2;go_meet
   case rel=>exact ⟨_,(true),(by first | rfl | (simp;done) | (simp [*];done)),H',⟨by first | omega | exact Nat.le_refl _⟩,⟨bk Qa⟩,⟨hn HB⟩⟩
  rw [if_neg c4] at H;have Qy:=decide_eq_false c4;clear c4
  (first | rw [Qy] | (simp only [i64_w,i32_w];rw [Qy]) | skip)
  by_cases c6:Qu > 65535
  ·rw [if_pos c6] at H;have QL:=decide_eq_true c6;clear c6;have H':=Aside0.mk H;clear H;obtain ⟨hcz7_0,hcz7_1,hcz7_2,hcz7_3⟩:=cc4 Qa;obtain ⟨hfz7_0,hfz7_1,hfz7_2,hfz7_3⟩:=ff4 Qa;go_wp2;go_meet
   case rel=>exact ⟨_,(true),(by first | rfl | (simp;done) | (simp [*];done)),H',⟨by first | omega | exact Nat.le_refl _⟩,⟨bk Qa⟩,⟨hn HB⟩⟩
  rw [if_neg c6] at H;have QL:=decide_eq_false c6;clear c6;by_cases c8:Qo < 1
  ·rw [if_pos c8] at H;have QM:=decide_eq_true c8;clear c8;have H':=Aside0.mk H;clear H;obtain ⟨hcz9_0,hcz9_1,hcz9_2,hcz9_3⟩:=cc4 Qa;obtain ⟨hfz9_0,hfz9_1,hfz9_2,hfz9_3⟩:=ff4 Qa;go_wp2;go_meet
   case rel=>exact ⟨_,(true),(by first | rfl | (simp;done) | (simp [*];done)),H',⟨by first | omega | exact Nat.le_refl _⟩,⟨bk Qa⟩,⟨hn HB⟩⟩
  rw [if_neg c8] at H;have QM:=decide_eq_false c8;clear c8;by_cases c10:Qo > 64
  ·rw [if_pos c10] at H;have QA:=decide_eq_true c10;clear c10;have H':=Aside0.mk H;clear H;obtain ⟨hcz11_0,hcz11_1,hcz11_2,hcz11_3⟩:=cc4 Qa;obtain ⟨hfz11_0,hfz11_1,hfz11_2,hfz11_3⟩:=ff4 Qa;go_wp2;go_meet
   case rel=>exact ⟨_,(true),(by first | rfl | (simp;done) | (simp [*];done)),H',⟨by first | omega | exact Nat.le_refl _⟩,⟨bk Qa⟩,⟨hn HB⟩⟩
  rw [if_neg c10] at H;have QA:=decide_eq_false c10;clear c10;by_cases c12:Qp < 1
  ·rw [if_pos c12] at H;have QB:=decide_eq_true c12;clear c12;have H':=Aside0.mk H;clear H;obtain ⟨_,_,_,_⟩:=cc4 Qa;obtain ⟨_,_,_,_⟩:=ff4 Qa;go_wp2;go_meet
   case rel=>exact ⟨_,(true),(by first | rfl | (simp;done) | (simp [*];done)),H',⟨by first | omega | exact Nat.le_refl _⟩,⟨bk Qa⟩,⟨hn HB⟩⟩
  rw [if_neg c12] at H;have QB:=decide_eq_false c12;clear c12;by_cases c14:Qp > 64
  ·rw [if_pos c14] at H;have QC:=decide_eq_true c14;clear c14;have H':=Aside0.mk H;clear H;obtain ⟨_,_,_,_⟩:=cc4 Qa;obtain ⟨_,_,_,_⟩:=ff4 Qa;go_wp2;go_meet
   case rel=>exact ⟨_,(true),(by first | rfl | (simp;done) | (simp [*];done)),H',⟨by first | omega | exact Nat.le_refl _⟩,⟨bk Qa⟩,⟨hn HB⟩⟩
  rw [if_neg c14] at H;have QC:=decide_eq_false c14;clear c14;have H':=Aside0.mk H;clear H;obtain ⟨_,_,_,_⟩:=cc4 Qa;obtain ⟨_,_,_,_⟩:=ff4 Qa;go_wp2;go_meet
  case rel=>exact ⟨_,(((Qj.length:Int) != (wrap64 (Qo*Qp)))),(by first | rfl | (simp;done) | (simp [*];done)),H',⟨by first | omega | exact Nat.le_refl _⟩,⟨bk Qa⟩,⟨hn HB⟩⟩
 clear HC2;obtain ⟨kq,Qv,rfl,HA,HJ1,Qa,HB⟩:=hcut
 rcases kq with _ | kj1
 ·exact absurd HA.out (by simp [celluloidref11_Right.j0])
 have H:=HA.out;clear HA;simp only [celluloidref11_Right.j0] at H;by_cases c17:Qv=true
 ·subst c17;have H1:(some false)=some r:=by rw [if_pos rfl] at H;exact H
  clear H;have H:=H1;clear H1;obtain rfl:=Option.some.inj H;go_wp2;go_ret;exact ⟨by first | rfl | (simp [errW_none,errW_some] <;> rfl) | (simp [*,errW_none,errW_some] <;> rfl),hn HB⟩
 replace c17:=Bool.eq_false_iff.mpr c17;subst c17;have H1:(celluloidref11_Right.l0 kj1 0 Qu Qo Qp Qj)=some r:=by rw [if_neg (show ¬ (false=true) by decide)] at H;exact H
 clear H;have H:=H1;clear H1;have H':=Aside0.mk H;clear H;go_wp2
 go_loopg [3] kj1 (fun kq v3 w'=>∃ (Qh:Int),v3=.int .i64 Qh∧Aside0 (celluloidref11_Right.l0 kq Qh Qu Qo Qp Qj=some r)∧Aside0 (kq≤kj1)∧Aside0 (w'.heap[Qz]?=some (.cells #[.int .i64 Qu,.int .i64 Qo,.int .i64 Qp,(.slice Qw Qj.length Qx)] 79 (0,0)))∧Aside0 (Below w.heap.size w w'))
 case atStart=>exact ⟨(0),(by first | rfl | (simp;done) | (simp [*];done)),H',⟨Nat.le_refl _⟩,⟨bk Qa⟩,⟨hn HB⟩⟩
 clear H';obtain ⟨Qh,rfl,HA,HK2,Qa,HB⟩:=hrel
 rcases gk with _ | k2
 ·exact absurd HA.out (by simp [celluloidref11_Right.l0])
 have H:=HA.out;clear HA;simp only [celluloidref11_Right.l0] at H;by_cases c18:Qh < (Qj.length:Int);rotate_left
 ·rw [if_neg c18] at H;have QD:=decide_eq_false c18;clear c18;obtain rfl:=Option.some.inj H;obtain ⟨_,_,_,_⟩:=cc4 Qa;obtain ⟨_,_,_,_⟩:=ff4 Qa;go_wp2;go_ret;exact ⟨by first | rfl | (simp [errW_none,errW_some] <;> rfl) | (simp [*,errW_none,errW_some] <;> rfl),hn HB⟩
 rw [if_pos c18] at H;have QD:=decide_eq_true c18;clear c18;by_cases c19:0≤Qh;rotate_left
 ·rw [if_neg c19] at H;exact absurd H (by simp)
 rw [if_pos c19] at H;have c19b0:=decide_eq_true c19;clear c19;by_cases c20:((rd_T89 Qj Qh).f3) > 255
 ·rw [if_pos c20] at H;have QE:=decide_eq_true c20;clear c20;obtain rfl:=Option.some.inj H;obtain ⟨_,_,_,_⟩:=cc4 Qa;obtain ⟨_,_,_,_⟩:=ff4 Qa;have Qk:0≤(Qh:Int):=pd;have Ql:Qh < (Qj.length:Int):=pd;obtain ⟨Qq,Qm,Qb,Qc,Qd,Qe⟩:=at_T89 Qn.out Qh Qk Ql;cases Qm;replace Qb:=(HB.out.cell (World.block_lt_of_cell? w _ Qb)).trans Qb;replace Qc:=(HB.out.cell (World.block_lt_of_cell? w _ Qc)).trans Qc;replace Qd:=(HB.out.cell (World.block_lt_of_cell? w _ Qd)).trans Qd;replace Qe:=(HB.out.cell (World.block_lt_of_cell? w _ Qe)).trans Qe;replace Qk:=eq_true Qk;replace Ql:=eq_true Ql;go_wp2_with (first | ((with_reducible refine gate_dst (N:=4) rfl ?_);(try (refine gate_guard (by rfl) ?_;dsimp only));refine boxQ 4 #[.int .i64 0,.int .i64 0,.int .i64 0,.int .i64 0] 89 ?_;intro Qr hg w22 hbox hb;have Qi:=Aside0.mk hbox;have Qs:=gs HB hg;have Qt:=gs HB hg;replace HB:=hs HB hb;have Qf:=nl Qa hg;have Qg:=ng Qa hg;replace Qa:=bb Qa hb;clear hb hbox hg;have hnb23:=Qg.out;have hnc23:=Qf.out;obtain ⟨_,_,_,_⟩:=cc4 Qi;obtain ⟨_,_,_,_⟩:=ff4 Qi))
  go_ret;exact ⟨by first | rfl | (simp [errW_none,errW_some] <;> rfl) | (simp [*,errW_none,errW_some] <;> rfl),hn HB⟩
 ·rw [if_neg c20] at H;have QE:=decide_eq_false c20;clear c20;by_cases c25:((rd_T89 Qj Qh).f0) < 0
  ·rw [if_pos c25] at H;have QF:=decide_eq_true c25;clear c25;obtain rfl:=Option.some.inj H;obtain ⟨_,_,_,_⟩:=cc4 Qa;obtain ⟨_,_,_,_⟩:=ff4 Qa;have Qk:0≤(Qh:Int):=pd;have Ql:Qh < (Qj.length:Int):=pd;obtain ⟨Qq,Qm,Qb,Qc,Qd,Qe⟩:=at_T89 Qn.out Qh Qk Ql;cases Qm;replace Qb:=(HB.out.cell (World.block_lt_of_cell? w _ Qb)).trans Qb;replace Qc:=(HB.out.cell (World.block_lt_of_cell? w _ Qc)).trans Qc;replace Qd:=(HB.out.cell (World.block_lt_of_cell? w _ Qd)).trans Qd;replace Qe:=(HB.out.cell (World.block_lt_of_cell? w _ Qe)).trans Qe;replace Qk:=eq_true Qk;replace Ql:=eq_true Ql;(go_wp2_with (first | ((with_reducible refine gate_dst (N:=4) rfl ?_);(try (refine gate_guard (by rfl) ?_;dsimp only));refine boxQ 4 #[.int .i64 0,.int .i64 0,.int .i64 0,.int .i64 0] 89 ?_;intro Qr hg w27 hbox hb;have Qi:=Aside0.mk hbox;have Qs:=gs HB hg;have Qt:=gs HB hg;replace HB:=hs HB hb;have Qf:=nl Qa hg;have Qg:=ng Qa hg;replace Qa:=bb Qa hb;clear hb hbox hg;have hnb28:=Qg.out;have hnc28:=Qf.out;obtain ⟨_,_,_,_⟩:=cc4 Qi;obtain ⟨_,_,_,_⟩:=ff4 Qi)));go_ret;exact ⟨by first | rfl | (simp [errW_none,errW_some] <;> rfl) | (simp [*,errW_none,errW_some] <;> rfl),hn HB⟩
  ·rw [if_neg c25] at H;have QF:=decide_eq_false c25;clear c25;by_cases c30:((rd_T89 Qj Qh).f1) < 0
   ·rw [if_pos c30] at H;have QG:=decide_eq_true c30;clear c30;obtain rfl:=Option.some.inj H;obtain ⟨_,_,_,_⟩:=cc4 Qa;obtain ⟨_,_,_,_⟩:=ff4 Qa;have Qk:0≤(Qh:Int):=pd;have Ql:Qh < (Qj.length:Int):=pd;obtain ⟨Qq,Qm,Qb,Qc,Qd,Qe⟩:=at_T89 Qn.out Qh Qk Ql;cases Qm;replace Qb:=(HB.out.cell (World.block_lt_of_cell? w _ Qb)).trans Qb;replace Qc:=(HB.out.cell (World.block_lt_of_cell? w _ Qc)).trans Qc;replace Qd:=(HB.out.cell (World.block_lt_of_cell? w _ Qd)).trans Qd;replace Qe:=(HB.out.cell (World.block_lt_of_cell? w _ Qe)).trans Qe;replace Qk:=eq_true Qk;replace Ql:=eq_true Ql;(go_wp2_with (first | ((with_reducible refine gate_dst (N:=4) rfl ?_);(try (refine gate_guard (by rfl) ?_;dsimp only));refine boxQ 4 #[.int .i64 0,.int .i64 0,.int .i64 0,.int .i64 0] 89 ?_;intro Qr hg w32 hbox hb;have Qi:=Aside0.mk hbox;have Qs:=gs HB hg;have Qt:=gs HB hg;replace HB:=hs HB hb;have Qf:=nl Qa hg;have Qg:=ng Qa hg;replace Qa:=bb Qa hb;clear hb hbox hg;have hnb33:=Qg.out;have hnc33:=Qf.out;obtain ⟨_,_,_,_⟩:=cc4 Qi;obtain ⟨_,_,_,_⟩:=ff4 Qi)));go_ret;exact ⟨by first | rfl | (simp [errW_none,errW_some] <;> rfl) | (simp [*,errW_none,errW_some] <;> rfl),hn HB⟩
   ·rw [if_neg c30] at H;have QG:=decide_eq_false c30;clear c30;by_cases c35:((rd_T89 Qj Qh).f2) < 0
    ·rw [if_pos c35] at H;have QH:=decide_eq_true c35;clear c35;obtain rfl:=Option.some.inj H;obtain ⟨_,_,_,_⟩:=cc4 Qa;obtain ⟨_,_,_,_⟩:=ff4 Qa;have Qk:0≤(Qh:Int):=pd;have Ql:Qh < (Qj.length:Int):=pd;obtain ⟨Qq,Qm,Qb,Qc,Qd,Qe⟩:=at_T89 Qn.out Qh Qk Ql;cases Qm;replace Qb:=(HB.out.cell (World.block_lt_of_cell? w _ Qb)).trans Qb;replace Qc:=(HB.out.cell (World.block_lt_of_cell? w _ Qc)).trans Qc;replace Qd:=(HB.out.cell (World.block_lt_of_cell? w _ Qd)).trans Qd;replace Qe:=(HB.out.cell (World.block_lt_of_cell? w _ Qe)).trans Qe;replace Qk:=eq_true Qk;replace Ql:=eq_true Ql;(go_wp2_with (first | ((with_reducible refine gate_dst (N:=4) rfl ?_);(try (refine gate_guard (by rfl) ?_;dsimp only));refine boxQ 4 #[.int .i64 0,.int .i64 0,.int .i64 0,.int .i64 0] 89 ?_;intro Qr hg w37 hbox hb;have Qi:=Aside0.mk hbox;have Qs:=gs HB hg;have Qt:=gs HB hg;replace HB:=hs HB hb;have Qf:=nl Qa hg;have Qg:=ng Qa hg;replace Qa:=bb Qa hb;clear hb hbox hg;have hnb38:=Qg.out;have hnc38:=Qf.out;obtain ⟨_,_,_,_⟩:=cc4 Qi;obtain ⟨_,_,_,_⟩:=ff4 Qi)));go_ret;exact ⟨by first | rfl | (simp [errW_none,errW_some] <;> rfl) | (simp [*,errW_none,errW_some] <;> rfl),hn HB⟩
    ·rw [if_neg c35] at H;have QH:=decide_eq_false c35;clear c35;by_cases c40:((rd_T89 Qj Qh).f0) > ((rd_T89 Qj Qh).f3)
     ·rw [if_pos c40] at H;have QI:=decide_eq_true c40;clear c40;obtain rfl:=Option.some.inj H;obtain ⟨_,_,_,_⟩:=cc4 Qa;obtain ⟨_,_,_,_⟩:=ff4 Qa;have Qk:0≤(Qh:Int):=pd;have Ql:Qh < (Qj.length:Int):=pd;obtain ⟨Qq,Qm,Qb,Qc,Qd,Qe⟩:=at_T89 Qn.out Qh Qk Ql;cases Qm;replace Qb:=(HB.out.cell (World.block_lt_of_cell? w _ Qb)).trans Qb;replace Qc:=(HB.out.cell (World.block_lt_of_cell? w _ Qc)).trans Qc;replace Qd:=(HB.out.cell (World.block_lt_of_cell? w _ Qd)).trans Qd;replace Qe:=(HB.out.cell (World.block_lt_of_cell? w _ Qe)).trans Qe;replace Qk:=eq_true Qk;replace Ql:=eq_true Ql;(go_wp2_with (first | ((with_reducible refine gate_dst (N:=4) rfl ?_);(try (refine gate_guard (by rfl) ?_;dsimp only));refine boxQ 4 #[.int .i64 0,.int .i64 0,.int .i64 0,.int .i64 0] 89 ?_;intro Qr hg w42 hbox hb;have Qi:=Aside0.mk hbox;have Qs:=gs HB hg;have Qt:=gs HB hg;replace HB:=hs HB hb;have Qf:=nl Qa hg;have Qg:=ng Qa hg;replace Qa:=bb Qa hb;clear hb hbox hg;have hnb43:=Qg.out;have hnc43:=Qf.out;obtain ⟨_,_,_,_⟩:=cc4 Qi;obtain ⟨_,_,_,_⟩:=ff4 Qi)));go_ret;exact ⟨by first | rfl | (simp [errW_none,errW_some] <;> rfl) | (simp [*,errW_none,errW_some] <;> rfl),hn HB⟩
     ·rw [if_neg c40] at H;have QI:=decide_eq_false c40;clear c40;by_cases c45:((rd_T89 Qj Qh).f1) > ((rd_T89 Qj Qh).f3)
      ·rw [if_pos c45] at H;have QJ:=decide_eq_true c45;clear c45;obtain rfl:=Option.some.inj H;obtain ⟨_,_,_,_⟩:=cc4 Qa;obtain ⟨_,_,_,_⟩:=ff4 Qa;have Qk:0≤(Qh:Int):=pd;have Ql:Qh < (Qj.length:Int):=pd;obtain ⟨Qq,Qm,Qb,Qc,Qd,Qe⟩:=at_T89 Qn.out Qh Qk Ql;cases Qm;replace Qb:=(HB.out.cell (World.block_lt_of_cell? w _ Qb)).trans Qb;replace Qc:=(HB.out.cell (World.block_lt_of_cell? w _ Qc)).trans Qc;replace Qd:=(HB.out.cell (World.block_lt_of_cell? w _ Qd)).trans Qd;replace Qe:=(HB.out.cell (World.block_lt_of_cell? w _ Qe)).trans Qe;replace Qk:=eq_true Qk;replace Ql:=eq_true Ql;(go_wp2_with (first | ((with_reducible refine gate_dst (N:=4) rfl ?_);(try (refine gate_guard (by rfl) ?_;dsimp only));refine boxQ 4 #[.int .i64 0,.int .i64 0,.int .i64 0,.int .i64 0] 89 ?_;intro Qr hg w47 hbox hb;have Qi:=Aside0.mk hbox;have Qs:=gs HB hg;have Qt:=gs HB hg;replace HB:=hs HB hb;have Qf:=nl Qa hg;have Qg:=ng Qa hg;replace Qa:=bb Qa hb;clear hb hbox hg;have hnb48:=Qg.out;have hnc48:=Qf.out;obtain ⟨_,_,_,_⟩:=cc4 Qi;obtain ⟨_,_,_,_⟩:=ff4 Qi)));go_ret;exact ⟨by first | rfl | (simp [errW_none,errW_some] <;> rfl) | (simp [*,errW_none,errW_some] <;> rfl),hn HB⟩
      ·rw [if_neg c45] at H;have QJ:=decide_eq_false c45;clear c45;by_cases c50:((rd_T89 Qj Qh).f2) > ((rd_T89 Qj Qh).f3)
       ·rw [if_pos c50] at H;have QK:=decide_eq_true c50;clear c50;obtain rfl:=Option.some.inj H;obtain ⟨_,_,_,_⟩:=cc4 Qa;obtain ⟨_,_,_,_⟩:=ff4 Qa;have Qk:0≤(Qh:Int):=pd;have Ql:Qh < (Qj.length:Int):=pd;obtain ⟨Qq,Qm,Qb,Qc,Qd,Qe⟩:=at_T89 Qn.out Qh Qk Ql;cases Qm;replace Qb:=(HB.out.cell (World.block_lt_of_cell? w _ Qb)).trans Qb;replace Qc:=(HB.out.cell (World.block_lt_of_cell? w _ Qc)).trans Qc;replace Qd:=(HB.out.cell (World.block_lt_of_cell? w _ Qd)).trans Qd;replace Qe:=(HB.out.cell (World.block_lt_of_cell? w _ Qe)).trans Qe;replace Qk:=eq_true Qk;replace Ql:=eq_true Ql;(go_wp2_with (first | ((with_reducible refine gate_dst (N:=4) rfl ?_);(try (refine gate_guard (by rfl) ?_;dsimp only));refine boxQ 4 #[.int .i64 0,.int .i64 0,.int .i64 0,.int .i64 0] 89 ?_;intro Qr hg w52 hbox hb;have Qi:=Aside0.mk hbox;have Qs:=gs HB hg;have Qt:=gs HB hg;replace HB:=hs HB hb;have Qf:=nl Qa hg;have Qg:=ng Qa hg;replace Qa:=bb Qa hb;clear hb hbox hg;have hnb53:=Qg.out;have hnc53:=Qf.out;obtain ⟨_,_,_,_⟩:=cc4 Qi;obtain ⟨_,_,_,_⟩:=ff4 Qi)));go_ret;exact ⟨by first | rfl | (simp [errW_none,errW_some] <;> rfl) | (simp [*,errW_none,errW_some] <;> rfl),hn HB⟩
       ·rw [if_neg c50] at H;have QK:=decide_eq_false c50;clear c50;have H':=Aside0.mk H;clear H;obtain ⟨_,_,_,_⟩:=cc4 Qa;obtain ⟨_,_,_,_⟩:=ff4 Qa;have Qk:0≤(Qh:Int):=pd;have Ql:Qh < (Qj.length:Int):=pd;obtain ⟨Qq,Qm,Qb,Qc,Qd,Qe⟩:=at_T89 Qn.out Qh Qk Ql;cases Qm;replace Qb:=(HB.out.cell (World.block_lt_of_cell? w _ Qb)).trans Qb;replace Qc:=(HB.out.cell (World.block_lt_of_cell? w _ Qc)).trans Qc;replace Qd:=(HB.out.cell (World.block_lt_of_cell? w _ Qd)).trans Qd;replace Qe:=(HB.out.cell (World.block_lt_of_cell? w _ Qe)).trans Qe;replace Qk:=eq_true Qk;replace Ql:=eq_true Ql;(go_wp2_with (first | ((with_reducible refine gate_dst (N:=4) rfl ?_);(try (refine gate_guard (by rfl) ?_;dsimp only));refine boxQ 4 #[.int .i64 0,.int .i64 0,.int .i64 0,.int .i64 0] 89 ?_;intro Qr hg w56 hbox hb;have Qi:=Aside0.mk hbox;have Qs:=gs HB hg;have Qt:=gs HB hg;replace HB:=hs HB hb;have Qf:=nl Qa hg;have Qg:=ng Qa hg;replace Qa:=bb Qa hb;clear hb hbox hg;have hnb57:=Qg.out;have hnc57:=Qf.out;obtain ⟨_,_,_,_⟩:=cc4 Qi;obtain ⟨_,_,_,_⟩:=ff4 Qi)));go_roundg k2
        case measure=>have:=HJ1.out;have:=HK2.out;omega
        case rel=>exact ⟨(wrap64 (Qh+1)),(by first | rfl | (simp;done) | (simp [*];done)),H',⟨by have:=HJ1.out;have:=HK2.out;omega⟩,⟨by (with_reducible repeat (first | refine blk_drewN ?_ _ | refine blk_drew ?_ | refine blk_alloc ?_ _));refine blk_far ?_ Qf.out _;(with_reducible repeat (first | refine blk_drewN ?_ _ | refine blk_drew ?_ | refine blk_alloc ?_ _));refine blk_far ?_ Qf.out _;(with_reducible repeat (first | refine blk_drewN ?_ _ | refine blk_drew ?_ | refine blk_alloc ?_ _));refine blk_far ?_ Qf.out _;(with_reducible repeat (first | refine blk_drewN ?_ _ | refine blk_drew ?_ | refine blk_alloc ?_ _));refine blk_far ?_ Qf.out _;(with_reducible repeat (first | refine blk_drewN ?_ _ | refine blk_drew ?_ | refine blk_alloc ?_ _));exact Qa.out⟩,⟨hn HB⟩⟩
def field_within.l0:Nat → Int → Int → List Int → Int → Int → Option (Bool)
 |0,_,_,_,_,_=>none
 |k+1,x0,x1,x9,x10,x11=>if x11 < x10 then (if 0≤x11 then (if x11 < (x9.length:Int) then (if (rd x9 x11) < x0 then (some false) else (if (rd x9 x11) > x1 then (some false) else (field_within.l0 k x0 x1 x9 x10 (wrap64 (x11+1))))) else (none)) else (none)) else (some true)
def field_within.f (k:Nat) (a0:Int) (a1:Int) (l2:List Int):Option (Bool):=field_within.l0 k a0 a1 l2 (l2.length:Int) 0
theorem field_within.mono_l:∀ k,(∀ y0 y1 y2 y3 y4,LeO (field_within.l0 k y0 y1 y2 y3 y4) (field_within.l0 (k+1) y0 y1 y2 y3 y4))
 |0=>fun _ _ _ _ _ r h=>by simp [field_within.l0] at h
 |k+1=>by
  have ih0:=field_within.mono_l k
  ·intro y0 y1 y2 y3 y4;unfold field_within.l0;repeat' first
   |(with_reducible exact ih0 _ _ _ _ _)
   |(with_reducible exact LeO.refl _)
   |(with_reducible exact LeO.none _)
   |(with_reducible refine LeO.ite ?_ ?_)
   |(with_reducible refine LeO.bind ?_ (fun _=>?_))
   |exact ih0 _ _ _ _ _
   |exact LeO.none _
   |refine LeO.ite ?_ ?_
   |refine LeO.bind ?_ (fun _=>?_)
theorem field_within.mono:∀ a0 a1 a2 k,LeO (field_within.f k a0 a1 a2) (field_within.f (k+1) a0 a1 a2):=by
 intro a0 a1 a2 k;have ih0:=field_within.mono_l k;unfold field_within.f
 repeat' first
   |(with_reducible exact ih0 _ _ _ _ _)
   |(with_reducible exact LeO.refl _)
   |(with_reducible exact LeO.none _)
   |(with_reducible refine LeO.ite ?_ ?_)
   |(with_reducible refine LeO.bind ?_ (fun _=>?_))
   |exact ih0 _ _ _ _ _
   |exact LeO.none _
   |refine LeO.ite ?_ ?_
   |refine LeO.bind ?_ (fun _=>?_)
set_option maxHeartbeats 8000000 in
set_option maxRecDepth 100000 in
theorem field_within.calls (k : Nat) (a0 : Int) (a1 : Int) (A2 : Option Addr) (c2 : Nat) (l2 : List Int) (r : Bool) (w : World) (hr2 : Kd.C (Kd.int .i64) w A2 l2.length l2) (hc2 : l2.length ≤ c2) (h : field_within.f k a0 a1 l2 = some r) :
  Calls Try.prog 113 #[.int .i64 a0,.int .i64 a1,.slice A2 l2.length c2] w fun e w'=>e=.returned (.bool r)∧Drawn0 w w':=by
 have HR2:=Aside0.mk hr2;have HC2:=Aside0.mk hc2;clear hr2 hc2;have H:=h;unfold field_within.f at H;clear h;have H':=Aside0.mk H;clear H;go_enter Try.func113,Try.ntmps113;go_wp2
 go_loopg [11] k (fun kq v11 w'=>∃ (Qa:Int),v11=.int .i64 Qa∧Aside0 (field_within.l0 kq a0 a1 l2 (l2.length:Int) Qa=some r)∧Aside0 (kq≤k)∧Drawn0 w w')
 case atStart=>exact ⟨(0),(by first | rfl | (simp;done) | (simp [*];done)),H',⟨Nat.le_refl _⟩,by repeat (first | exact Drawn0.refl _ | apply Drawn0.step)⟩
 clear H';obtain ⟨Qa,rfl,HA,HK1,⟨m1,rfl⟩⟩:=hrel
 rcases gk with _ | k1
 ·exact absurd HA.out (by simp [field_within.l0])
 have H:=HA.out;clear HA;simp only [field_within.l0] at H;by_cases c4:Qa < (l2.length:Int);rotate_left
 ·rw [if_neg c4] at H;have Qg:=decide_eq_false c4;clear c4;obtain rfl:=Option.some.inj H;go_wp2;go_ret;exact ⟨by first | rfl | (simp;done) | (simp [*];done),by repeat (first | exact Drawn0.refl _ | apply Drawn0.step)⟩
 rw [if_pos c4] at H;have Qg:=decide_eq_true c4;clear c4;by_cases c5:0≤Qa;rotate_left
 ·rw [if_neg c5] at H;exact absurd H (by simp)
 rw [if_pos c5] at H;have c5b0:=decide_eq_true c5;clear c5;by_cases c6:Qa < (l2.length:Int);rotate_left
 ·rw [if_neg c6] at H;exact absurd H (by simp)
 rw [if_pos c6] at H;have c6b0:=decide_eq_true c6;clear c6;by_cases c7:(rd l2 Qa) < a0
 ·rw [if_pos c7] at H;have Qh:=decide_eq_true c7;clear c7;obtain rfl:=Option.some.inj H;have Qb:0≤(Qa:Int):=pd;have Qc:Qa < (l2.length:Int):=pd;obtain ⟨Qf,Qe,Qd⟩:=Kd.at_int HR2.out Qa Qb Qc;cases Qe;replace Qb:=eq_true Qb;replace Qc:=eq_true Qc;go_wp2;go_ret;exact ⟨by first | rfl | (simp;done) | (simp [*];done),by repeat (first | exact Drawn0.refl _ | apply Drawn0.step)⟩
 rw [if_neg c7] at H;have Qh:=decide_eq_false c7;clear c7;by_cases c8:(rd l2 Qa) > a1
 ·rw [if_pos c8] at H;have Qi:=decide_eq_true c8;clear c8;obtain rfl:=Option.some.inj H;have Qb:0≤(Qa:Int):=pd;have Qc:Qa < (l2.length:Int):=pd;obtain ⟨Qf,Qe,Qd⟩:=Kd.at_int HR2.out Qa Qb Qc;cases Qe;replace Qb:=eq_true Qb;replace Qc:=eq_true Qc;go_wp2;go_ret;exact ⟨by first | rfl | (simp;done) | (simp [*];done),by repeat (first | exact Drawn0.refl _ | apply Drawn0.step)⟩
 rw [if_neg c8] at H;have Qi:=decide_eq_false c8;clear c8;have H':=Aside0.mk H;clear H;have Qb:0≤(Qa:Int):=pd;have Qc:Qa < (l2.length:Int):=pd;obtain ⟨Qf,Qe,Qd⟩:=Kd.at_int HR2.out Qa Qb Qc;cases Qe;replace Qb:=eq_true Qb;replace Qc:=eq_true Qc;go_wp2;go_roundg k1
 case measure=>have:=HK1.out;omega
 case rel=>exact ⟨(wrap64 (Qa+1)),(by first | rfl | (simp;done) | (simp [*];done)),H',⟨by have:=HK1.out;omega⟩,by repeat (first | exact Drawn0.refl _ | apply Drawn0.step)⟩
def field_RightRGBA.f (k:Nat) (a0_0:Int) (a0_1:Int) (a0_2:Int) (a0_3:Int):Option (Bool):=(field_within.f k 0 255 (([a0_0,a0_1,a0_2,a0_3]:List Int))).bind fun t308=>(some t308)
theorem field_RightRGBA.mono:∀ a0 a1 a2 a3 k,LeO (field_RightRGBA.f k a0 a1 a2 a3) (field_RightRGBA.f (k+1) a0 a1 a2 a3):=by
 intro a0 a1 a2 a3 k;unfold field_RightRGBA.f
 repeat' first
   |(with_reducible exact field_within.mono _ _ _ _)
   |(with_reducible exact LeO.refl _)
   |(with_reducible exact LeO.none _)
   |(with_reducible refine LeO.ite ?_ ?_)
   |(with_reducible refine LeO.bind ?_ (fun _=>?_))
   |exact field_within.mono _ _ _ _
   |exact LeO.none _
   |refine LeO.ite ?_ ?_
   |refine LeO.bind ?_ (fun _=>?_)
set_option maxHeartbeats 8000000 in
set_option maxRecDepth 100000 in
theorem field_RightRGBA.calls (k : Nat) (Qa : Int) (Qb : Int) (Qc : Int) (Qd : Int) (r : Bool) (w : World) (h : field_RightRGBA.f k Qa Qb Qc Qd = some r) :
  Calls Try.prog 104 #[.agg #[.int .i64 Qa,.int .i64 Qb,.int .i64 Qc,.int .i64 Qd]] w fun e w'=>e=.returned (.bool r)∧Below w.heap.size w w':=by
 have hu89:=Try.underlying89;have HB:=Aside0.mk (Below.refl w.heap.size w);have H:=h;unfold field_RightRGBA.f at H;clear h;obtain ⟨Qh,hy305⟩:∃ y_:List Int,y_=(([Qa,Qb,Qc,Qd]:List Int)):=⟨_,rfl⟩;replace H:((field_within.f k 0 255 Qh).bind fun Qi=>(some Qi))=some r:=by first | (rw [hy305];with_reducible exact H) | (have H2_:=(Option.bind_some _ _).symm.trans H;rw [hy305];with_reducible exact H2_) | (have H2_:=(Option.bind_some _ _).symm.trans H;with_reducible exact H2_) | with_reducible exact H | (rw [hy305];exact H) | exact H
 have Qg:=Aside0.mk hy305;clear hy305;replace H:=Option.bind_eq_some_iff.mp H;obtain ⟨Qi,A20,H⟩:=H;have A2:=Aside0.mk A20;clear A20;obtain rfl:=Option.some.inj H;go_enter Try.func104,Try.ntmps104;go_wp2_with (first | ((with_reducible refine gate_dst (N:=1) rfl ?_);refine boxQ 1 #[.int .i64 Qa,.int .i64 Qb,.int .i64 Qc,.int .i64 Qd] 89 ?_;intro gb304 hg w3 hbox hb;have Qe:=Aside0.mk hbox;have GW304:=gs HB hg;have GE304:=gs HB hg;replace HB:=hs HB hb;clear hb hbox hg;obtain ⟨_,_,_,_⟩:=cc4 Qe;obtain ⟨_,_,_,_⟩:=ff4 Qe) | ((with_reducible refine gate_dst (N:=11) rfl ?_);refine Kd.R_lit (Kd.int .i64) _ 3 ?hg (N:=11) ?hd (xs:=([Qa,Qb,Qc,Qd]:List Int)) (inner:=[.int .i64 Qa,.int .i64 Qb,.int .i64 Qc,.int .i64 Qd]) (ok:=fun _=>True) (okp:=fun _=>True) ?hr ?hp (fun _ hk=>hk) trivial (Below.refl _ _) (Nat.le_refl _) (by simp) ?_;(case hd=>rfl);(case hg=>rfl);(case hr=>first | (go_simp;done) | (go_simp;rfl));(case hp=>exact (Reps.one (show Kd.M (Kd.int .i64) _ _ _ Qa [.int .i64 Qa] from rfl) (Reps.one (show Kd.M (Kd.int .i64) _ _ _ Qb [.int .i64 Qb] from rfl) (Reps.one (show Kd.M (Kd.int .i64) _ _ _ Qc [.int .i64 Qc] from rfl) (Reps.one (show Kd.M (Kd.int .i64) _ _ _ Qd [.int .i64 Qd] from rfl) (Reps.none _ _))))));intro v306 w5 ho6 hb hg_ hnew_;clear hg_ hnew_;(first | rw [← Qg.out] at ho6 | (simp only [Int.reduceToNat] at ho6;rw [← Qg.out] at ho6));have Qf:=Aside0.mk (Kd.R_lower ho6 (below_size (hn HB)));replace Qe:=bb Qe hb;replace HB:=hs HB hb;clear hb ho6;obtain ⟨Ao7,co7,eo7⟩:=Kd.R_slice Qf.out;subst eo7) | ((with_reducible refine gate_callee (f:=113) rfl ?_);refine goesQ (some 12) Try.func113 #[.int .i64 0,.int .i64 255,.slice Ao7 Qh.length co7] ?_;(with_reducible refine (field_within.calls k 0 255 _ _ Qh Qi _ ?side1 ?side2 A2.out).mono ?_);(case side1=>repeat (first | exact (Kd.R_reads' Qf.out).2.2 | (with_reducible refine Kd.C_alloc ?_ _) | (with_reducible refine Kd.C_drewN ?_ _) | (with_reducible refine Kd.C_drew ?_)));(case side2=>exact (Kd.R_reads' Qf.out).2.1);rintro e w' ⟨rfl,⟨nd,rfl⟩⟩;refine ⟨_,rfl,?_⟩))
 go_ret;exact ⟨by first | rfl | (simp [errW_none,errW_some] <;> rfl) | (simp [*,errW_none,errW_some] <;> rfl),hn HB⟩
def pixel_faint.f (k:Nat) (a0_0:Int) (a0_1:Int) (a0_2:Int) (a0_3:Int):Option (Bool):=(field_RightRGBA.f k a0_0 a0_1 a0_2 a0_3).bind fun t310=>(if t310=true then (some (decide ((mx (mx a0_0 a0_1) a0_2)≤a0_3))) else (some false))
theorem pixel_faint.mono:∀ a0 a1 a2 a3 k,LeO (pixel_faint.f k a0 a1 a2 a3) (pixel_faint.f (k+1) a0 a1 a2 a3):=by
 intro a0 a1 a2 a3 k;unfold pixel_faint.f
 repeat' first
   |(with_reducible exact field_RightRGBA.mono _ _ _ _ _)
   |(with_reducible exact LeO.refl _)
   |(with_reducible exact LeO.none _)
   |(with_reducible refine LeO.ite ?_ ?_)
   |(with_reducible refine LeO.bind ?_ (fun _=>?_))
   |exact field_RightRGBA.mono _ _ _ _ _
   |exact LeO.none _
   |refine LeO.ite ?_ ?_
   |refine LeO.bind ?_ (fun _=>?_)
set_option maxHeartbeats 8000000 in
set_option maxRecDepth 100000 in
theorem pixel_faint.calls (k : Nat) (Qc : Int) (Qd : Int) (Qb : Int) (Qe : Int) (r : Bool) (w : World) (h : pixel_faint.f k Qc Qd Qb Qe = some r) :
  Calls Try.prog 82 #[.agg #[.int .i64 Qc,.int .i64 Qd,.int .i64 Qb,.int .i64 Qe]] w fun e w'=>e=.returned (.bool r)∧Below w.heap.size w w':=by
 have hu89:=Try.underlying89;have HB:=Aside0.mk (Below.refl w.heap.size w);have H:=h;unfold pixel_faint.f at H;clear h;replace H:=Option.bind_eq_some_iff.mp H;obtain ⟨Qk,A20,H⟩:=H;have A2:=Aside0.mk A20;clear A20;by_cases c3:Qk=true
 ·subst c3;have H1:(some (decide ((mx (mx Qc Qd) Qb)≤Qe)))=some r:=by rw [if_pos rfl] at H;exact H
  clear H;have H:=H1;clear H1;obtain ⟨ji4,Qf⟩:∃ j_:Int,(mx Qc Qd)=j_:=⟨_,rfl⟩;replace H:(some (decide ((mx (ji4) Qb)≤Qe)))=some r:=by first | (rw [Qf] at H;exact H) | (simp only [Qf] at H ⊢;exact H)
  (try rw [Qf] at A2)
  have hji4_:(if Qc < Qd then Qd else Qc)=ji4:=Qf;obtain ⟨ji5,Qg⟩:∃ j_:Int,(mx (ji4) Qb)=j_:=⟨_,rfl⟩;replace H:(some (decide ((ji5)≤Qe)))=some r:=by first | (rw [Qg] at H;exact H) | (simp only [Qg] at H ⊢;exact H)
  (try rw [Qg] at A2)
  have hji5_:(if (ji4) < Qb then Qb else (ji4))=ji5:=Qg;obtain rfl:=Option.some.inj H;go_enter Try.func82,Try.ntmps82;go_wp2_with (first | ((with_reducible refine gate_dst (N:=1) rfl ?_);(try (refine gate_guard (by rfl) ?_;dsimp only));refine boxQ 1 #[.int .i64 Qc,.int .i64 Qd,.int .i64 Qb,.int .i64 Qe] 89 ?_;intro Qh hg w6 hbox hb;have Qa:=Aside0.mk hbox;have Qi:=gs HB hg;have Qj:=gs HB hg;replace HB:=hs HB hb;clear hb hbox hg;obtain ⟨hcz7_0,hcz7_1,hcz7_2,hcz7_3⟩:=cc4 Qa;obtain ⟨hfz7_0,hfz7_1,hfz7_2,hfz7_3⟩:=ff4 Qa) | ((with_reducible refine gate_callee (f:=104) rfl ?_);refine goesQ (some 4) Try.func104 #[.agg #[.int .i64 Qc,.int .i64 Qd,.int .i64 Qb,.int .i64 Qe]] ?_;(with_reducible refine (field_RightRGBA.calls k Qc Qd Qb Qe true _ A2.out).mono ?_);rintro e w8 ⟨rfl,hb⟩;refine ⟨_,rfl,?_⟩;replace Qa:=bb Qa hb;replace HB:=hs HB hb;(try clear hb);obtain ⟨hcz9_0,hcz9_1,hcz9_2,hcz9_3⟩:=cc4 Qa;obtain ⟨hfz9_0,hfz9_1,hfz9_2,hfz9_3⟩:=ff4 Qa))
  go_ret;exact ⟨by first | rfl | (simp [errW_none,errW_some] <;> rfl) | (simp only [← Qf,← Qg];first | rfl | (simp [errW_none,errW_some] <;> rfl)) | (simp [*,errW_none,errW_some] <;> rfl),hn HB⟩
 ·replace c3:=Bool.eq_false_iff.mpr c3;subst c3;have H1:(some false)=some r:=by rw [if_neg (show ¬ (false=true) by decide)] at H;exact H
  clear H;have H:=H1;clear H1;obtain rfl:=Option.some.inj H;go_enter Try.func82,Try.ntmps82;go_wp2_with (first | ((with_reducible refine gate_dst (N:=1) rfl ?_);(try (refine gate_guard (by rfl) ?_;dsimp only));refine boxQ 1 #[.int .i64 Qc,.int .i64 Qd,.int .i64 Qb,.int .i64 Qe] 89 ?_;intro Qh hg w10 hbox hb;have Qa:=Aside0.mk hbox;have Qi:=gs HB hg;have Qj:=gs HB hg;replace HB:=hs HB hb;clear hb hbox hg;obtain ⟨hcz11_0,hcz11_1,hcz11_2,hcz11_3⟩:=cc4 Qa;obtain ⟨hfz11_0,hfz11_1,hfz11_2,hfz11_3⟩:=ff4 Qa) | ((with_reducible refine gate_callee (f:=104) rfl ?_);refine goesQ (some 4) Try.func104 #[.agg #[.int .i64 Qc,.int .i64 Qd,.int .i64 Qb,.int .i64 Qe]] ?_;(with_reducible refine (field_RightRGBA.calls k Qc Qd Qb Qe false _ A2.out).mono ?_);rintro e w12 ⟨rfl,hb⟩;refine ⟨_,rfl,?_⟩;replace Qa:=bb Qa hb;replace HB:=hs HB hb;(try clear hb)))
  go_ret;exact ⟨by first | rfl | (simp [errW_none,errW_some] <;> rfl) | (simp [*,errW_none,errW_some] <;> rfl),hn HB⟩
end Go.Proofs.Ytpbhkdamkbopkaa.GPix
namespace Go.Proofs.Ytpbhkdamkbopkaa.PR
set_option linter.unusedSimpArgs false
set_option linter.unusedVariables false
open Go.RowKit Go.Proofs.Ytpbhkdamkbopkaa.GPix Go.Proofs.YtpbhkdamkbopkaaW.PrintWords Go.Proofs.YtpbhkdamkbopkaaW.PrintLast Go.Proofs.YtpbhkdamkbopkaaW.PrintMore
/-- Are all colours faint? -/
def allF (k:Nat):List S89 → Option Bool
 |[]=>some true
 |x :: t=>(pixel_faint.f k x.f0 x.f1 x.f2 x.f3).bind fun b=>if b=true then allF k t else some false
theorem allF_mono (l:List S89) (k:Nat):LeO (allF k l) (allF (k+1) l):=by
 induction l with
 |nil=>exact LeO.refl _
 |cons x t ih=>exact LeO.bind (pixel_faint.mono _ _ _ _ k) (fun b=>LeO.ite ih (LeO.refl _))
theorem drop_rd (l:List S89) (j:Nat) (h:j < l.length):l.drop j=rd_T89 l j :: l.drop (j+1):=by
 rw [List.drop_eq_getElem_cons h];unfold rd_T89;rw [Int.toNat_natCast,List.getD_eq_getElem?_getD,List.getElem?_eq_getElem h];rfl
theorem notF (k : Nat) (x0 x1 x2 x3 : Int) (b : Bool) (w : World) (h : pixel_faint.f k x0 x1 x2 x3 = some b) :
  Calls Try.prog 81 #[.agg #[.int .i64 x0,.int .i64 x1,.int .i64 x2,.int .i64 x3]] w fun e w'=>e=.returned (.bool (!b))∧Below w.heap.size w w':=by
 have H:=Aside0.mk h;clear h;go_enter Try.func81,Try.ntmps81
 go_wp2_with (first
  |((with_reducible refine gate_dst (N:=1) rfl ?_);refine box_event ?hg (N:=1) ?hd (cs:=#[.int .i64 x0,.int .i64 x1,.int .i64 x2,.int .i64 x3]) (t:=89) ?hr ?_;(case hd=>rfl);(case hg=>rfl);(case hr=>first | (go_simp;done) | (go_simp;rfl));intro g1 hg w1 hx hb;have B1:=Aside0.mk hx;have L1:=Aside0.mk hb;clear hx hb hg;have hc0:w1.cell? ⟨g1,0,none⟩=some (.int .i64 x0):=(blk_cell B1.out 0).trans rfl;have hc1:w1.cell? ⟨g1,1,none⟩=some (.int .i64 x1):=(blk_cell B1.out 1).trans rfl;have hc2:w1.cell? ⟨g1,2,none⟩=some (.int .i64 x2):=(blk_cell B1.out 2).trans rfl;have hc3:w1.cell? ⟨g1,3,none⟩=some (.int .i64 x3):=(blk_cell B1.out 3).trans rfl)
  |(go_at_call 82;refine (pixel_faint.calls k x0 x1 x2 x3 b _ H.out).mono ?_;rintro e w2 ⟨rfl,hb⟩;have L2:=Aside0.mk (below_step L1.out hb);clear hb))
 go_ret;exact ⟨rfl,L2.out⟩
set_option maxHeartbeats 4000000 in
theorem index_any (k : Nat) (A : Option Addr) (c : Nat) (l : List S89) (r : Bool) (w : World) (hr : Kd.C k89 w A l.length l) (h : allF k l = some r) :
  Calls Try.prog 103 #[.slice A l.length c,.func (.func 81) #[] #[]] w fun e w'=>∃ i:Int,e=.returned (.int .i64 i)∧decide (0≤i)=!r∧Below w.heap.size w w':=by
 have HR:=Aside0.mk hr;have HH:Aside0 (allF k (l.drop 0)=some r):=⟨h⟩;have hm:=Kd.C_max hr;clear hr h;go_enter Try.func103,Try.ntmps103;go_wp2
 go_loopw [4,8] (fun v4 v8 w'=>∃ j:Nat,j≤l.length∧v4=.int .i64 0∧v8=.int .i64 j∧Aside0 (allF k (l.drop j)=some r)∧Aside0 (Below w.heap.size w w')) (fun _ v8 _=>l.length - (intOf v8).toNat)
 case atStart=>exact ⟨0,Nat.zero_le _,rfl,rfl,HH,⟨Below.refl _ _⟩⟩
 clear HH;obtain ⟨j,hj,rfl,rfl,HJ,HB⟩:=hrel;by_cases hlt:j < l.length;rotate_left
 ·have hrt : r = true := by
   have:=HJ.out;rw [List.drop_eq_nil_of_le (by omega)] at this
   simpa [allF] using this.symm
  subst hrt;go_wp2;go_ret;exact ⟨_,rfl,rfl,HB.out⟩
 have hj0:=HJ.out;rw [drop_rd l j hlt] at hj0;simp only [allF] at hj0;obtain ⟨b,hb,hrest⟩:=Option.bind_eq_some_iff.mp hj0;have HF:=Aside0.mk hb;have HQ:=Aside0.mk hrest;clear hb hrest hj0 HJ;obtain ⟨ad,ead,hx0,hx1,hx2,hx3⟩:=at_T89 HR.out j (by omega) (by omega);cases ead;rw [Int.toNat_natCast] at hx0 hx1 hx2 hx3;replace hx0:=(HB.out.cell (World.block_lt_of_cell? w _ hx0)).trans hx0;replace hx1:=(HB.out.cell (World.block_lt_of_cell? w _ hx1)).trans hx1;replace hx2:=(HB.out.cell (World.block_lt_of_cell? w _ hx2)).trans hx2;replace hx3:=(HB.out.cell (World.block_lt_of_cell? w _ hx3)).trans hx3;cases b with
 |true =>
  go_wp2_with (go_at_call 81;refine (notF k _ _ _ _ true _ HF.out).mono ?_;rintro e w2 ⟨rfl,hb⟩;have L2:=Aside0.mk (below_step HB.out hb);clear hb)
  go_roundw
  case rel=>exact ⟨j+1,by omega,rfl,by go_num,⟨by have:=HQ.out;simpa using this⟩,L2⟩
  case measure=>simp [intOf];omega
 |false =>
  have hrf:r=false:=by have:=HQ.out;simpa using this.symm
  subst hrf;go_wp2_with (go_at_call 81;refine (notF k _ _ _ _ false _ HF.out).mono ?_;rintro e w2 ⟨rfl,hb⟩;have L2:=Aside0.mk (below_step HB.out hb);clear hb)
  go_ret;exact ⟨_,rfl,by simp,L2.out⟩
theorem contains_any (k : Nat) (A : Option Addr) (c : Nat) (l : List S89) (r : Bool) (w : World) (hr : Kd.C k89 w A l.length l) (h : allF k l = some r) :
  Calls Try.prog 80 #[.slice A l.length c,.func (.func 81) #[] #[]] w fun e w'=>e=.returned (.bool (!r))∧Below w.heap.size w w':=by
 have HR:=Aside0.mk hr;have HH:=Aside0.mk h;clear hr h;go_enter Try.func80,Try.ntmps80;go_wp2_with (go_at_call 103;refine (index_any k A c l r _ HR.out HH.out).mono ?_;rintro e w' ⟨i,rfl,hi,hb⟩;have HB:=Aside0.mk hb;have HI:=Aside0.mk hi;clear hb hi)
 go_ret;exact ⟨by rw [← HI.out];rfl,HB.out⟩
/-- Right,as the print would tell it. -/
def pixel_Right.f (k:Nat) (a0_0:Int) (a0_1:Int) (a0_2:Int) (l0_3:List S89):Option Bool :=
 if 0≤a0_0 then (if a0_0 < 65536 then (if 1≤a0_1 then (if a0_1≤64 then (if 1≤a0_2 then (if a0_2≤64 then (if (l0_3.length:Int)=wrap64 (a0_1*a0_2) then (allF k l0_3) else some false) else some false) else some false) else some false) else some false) else some false) else some false
theorem pixel_Right.mono:∀ a0 a1 a2 a3 k,LeO (pixel_Right.f k a0 a1 a2 a3) (pixel_Right.f (k+1) a0 a1 a2 a3):=by
 intro a0 a1 a2 a3 k;unfold pixel_Right.f;exact LeO.ite (LeO.ite (LeO.ite (LeO.ite (LeO.ite (LeO.ite (LeO.ite (allF_mono _ _) (LeO.refl _)) (LeO.refl _)) (LeO.refl _)) (LeO.refl _)) (LeO.refl _)) (LeO.refl _)) (LeO.refl _)
set_option maxHeartbeats 4000000 in
theorem right_all (k : Nat) (Qd : Int) (Qa : Int) (Qb : Int) (Qe : Option Addr) (Qf : Nat) (Qc : List S89) (r : Bool) (w : World) (hr0_3 : Kd.C k89 w Qe Qc.length Qc)
  (h1:0≤Qd) (h2:Qd < 65536) (h3:1≤Qa) (h4:Qa≤64) (h5:1≤Qb) (h6:Qb≤64) (h7:((Qc.length:Int) == wrap64 (Qa*Qb))=true) (h:allF k Qc=some r) :
  Calls Try.prog 53 #[.agg #[.int .i64 Qd,.int .i64 Qa,.int .i64 Qb,.slice Qe Qc.length Qf]] w fun e w'=>e=.returned (.bool r)∧Below w.heap.size w w':=by
 have HR:=Aside0.mk hr0_3;have HF:=Aside0.mk h;have d1:decide (0≤Qd)=true:=decide_eq_true h1;have d2:decide (Qd < 65536)=true:=decide_eq_true h2;have d3:decide (1≤Qa)=true:=decide_eq_true h3;have d4:decide (Qa≤64)=true:=decide_eq_true h4;have d5:decide (1≤Qb)=true:=decide_eq_true h5;have d6:decide (Qb≤64)=true:=decide_eq_true h6;clear hr0_3 h h1 h2 h3 h4 h5 h6;go_enter Try.func53,Try.ntmps53
 go_wp2_with (first
  |((with_reducible refine gate_dst (N:=1) rfl ?_);refine box_event ?hg (N:=1) ?hd (cs:=#[.int .i64 Qd,.int .i64 Qa,.int .i64 Qb,.slice Qe Qc.length Qf]) (t:=76) ?hr ?_;(case hd=>rfl);(case hg=>rfl);(case hr=>first | (go_simp;done) | (go_simp;rfl));intro g1 hg w1 hx hb;have B1:=Aside0.mk hx;have L1:=Aside0.mk hb;clear hx hb hg;have hc0:w1.cell? ⟨g1,0,none⟩=some (.int .i64 Qd):=(blk_cell B1.out 0).trans rfl;have hc1:w1.cell? ⟨g1,1,none⟩=some (.int .i64 Qa):=(blk_cell B1.out 1).trans rfl;have hc2:w1.cell? ⟨g1,2,none⟩=some (.int .i64 Qb):=(blk_cell B1.out 2).trans rfl;have hc3:w1.cell? ⟨g1,3,none⟩=some (.slice Qe Qc.length Qf):=(blk_cell B1.out 3).trans rfl)
  |(go_at_call 80;refine (contains_any k Qe Qf Qc r _ (Kd.C_below HR.out L1.out) HF.out).mono ?_;rintro e w2 ⟨rfl,hb⟩;have L2:=Aside0.mk (below_step L1.out hb);clear hb))
 go_ret;exact ⟨by simp,L2.out⟩
set_option maxHeartbeats 4000000 in
theorem right_no (Qc : Int) (Qa : Int) (Qb : Int) (Qe : Option Addr) (Qf : Nat) (Qd : List S89) (w : World)
  (b1 b2 b3 b4 b5 b6 b7:Bool) (h1:decide (0≤Qc)=b1) (h2:decide (Qc < 65536)=b2) (h3:decide (1≤Qa)=b3) (h4:decide (Qa≤64)=b4) (h5:decide (1≤Qb)=b5) (h6:decide (Qb≤64)=b6) (h7:((Qd.length:Int) == wrap64 (Qa*Qb))=b7) (h:b1=false ∨ b1=true∧b2=false ∨ b1=true∧b2=true∧b3=false ∨ b1=true∧b2=true∧b3=true∧b4=false ∨ b1=true∧b2=true∧b3=true∧b4=true∧b5=false ∨ b1=true∧b2=true∧b3=true∧b4=true∧b5=true∧b6=false ∨ b1=true∧b2=true∧b3=true∧b4=true∧b5=true∧b6=true∧b7=false) :
  Calls Try.prog 53 #[.agg #[.int .i64 Qc,.int .i64 Qa,.int .i64 Qb,.slice Qe Qd.length Qf]] w fun e w'=>e=.returned (.bool false)∧Below w.heap.size w w':=by
 rcases h with rfl | ⟨rfl,rfl⟩ | ⟨rfl,rfl,rfl⟩ | ⟨rfl,rfl,rfl,rfl⟩ | ⟨rfl,rfl,rfl,rfl,rfl⟩ | ⟨rfl,rfl,rfl,rfl,rfl,rfl⟩ | ⟨rfl,rfl,rfl,rfl,rfl,rfl,rfl⟩
 all_goals
  go_enter Try.func53,Try.ntmps53
  go_wp2_with (first
   |((with_reducible refine gate_dst (N:=1) rfl ?_);refine box_event ?hg (N:=1) ?hd (cs:=#[.int .i64 Qc,.int .i64 Qa,.int .i64 Qb,.slice Qe Qd.length Qf]) (t:=76) ?hr ?_;(case hd=>rfl);(case hg=>rfl);(case hr=>first | (go_simp;done) | (go_simp;rfl));intro g1 hg w1 hx hb;have B1:=Aside0.mk hx;have L1:=Aside0.mk hb;clear hx hb hg;have hc0:w1.cell? ⟨g1,0,none⟩=some (.int .i64 Qc):=(blk_cell B1.out 0).trans rfl;have hc1:w1.cell? ⟨g1,1,none⟩=some (.int .i64 Qa):=(blk_cell B1.out 1).trans rfl;have hc2:w1.cell? ⟨g1,2,none⟩=some (.int .i64 Qb):=(blk_cell B1.out 2).trans rfl;have hc3:w1.cell? ⟨g1,3,none⟩=some (.slice Qe Qd.length Qf):=(blk_cell B1.out 3).trans rfl))
  go_ret;exact ⟨by simp,L1.out⟩
theorem pixel_Right.calls (k : Nat) (Qd : Int) (Qb : Int) (Qc : Int) (Qe : Option Addr) (Qf : Nat) (Qa : List S89) (r : Bool) (w : World) (hr0_3 : Kd.C k89 w Qe Qa.length Qa) (hc0_3 : Qa.length ≤ Qf) (h : pixel_Right.f k Qd Qb Qc Qa = some r) :
  Calls Try.prog 53 #[.agg #[.int .i64 Qd,.int .i64 Qb,.int .i64 Qc,.slice Qe Qa.length Qf]] w fun e w'=>e=.returned (.bool r)∧Below w.heap.size w w':=by
 unfold pixel_Right.f at h;by_cases c1:0≤Qd;rotate_left
 ·rw [if_neg c1] at h;obtain rfl:=Option.some.inj h;exact right_no Qd Qb Qc Qe Qf Qa w false _ _ _ _ _ _ (decide_eq_false c1) rfl rfl rfl rfl rfl rfl (.inl rfl)
 rw [if_pos c1] at h;by_cases c2:Qd < 65536;rotate_left
 ·rw [if_neg c2] at h;obtain rfl:=Option.some.inj h;exact right_no Qd Qb Qc Qe Qf Qa w true false _ _ _ _ _ (decide_eq_true c1) (decide_eq_false c2) rfl rfl rfl rfl rfl (.inr (.inl ⟨rfl,rfl⟩))
 rw [if_pos c2] at h;by_cases c3:1≤Qb;rotate_left
 ·rw [if_neg c3] at h;obtain rfl:=Option.some.inj h;exact right_no Qd Qb Qc Qe Qf Qa w true true false _ _ _ _ (decide_eq_true c1) (decide_eq_true c2) (decide_eq_false c3) rfl rfl rfl rfl (.inr (.inr (.inl ⟨rfl,rfl,rfl⟩)))
 rw [if_pos c3] at h;by_cases c4:Qb≤64;rotate_left
 ·rw [if_neg c4] at h;obtain rfl:=Option.some.inj h;exact right_no Qd Qb Qc Qe Qf Qa w true true true false _ _ _ (decide_eq_true c1) (decide_eq_true c2) (decide_eq_true c3) (decide_eq_false c4) rfl rfl rfl (.inr (.inr (.inr (.inl ⟨rfl,rfl,rfl,rfl⟩))))
 rw [if_pos c4] at h;by_cases c5:1≤Qc;rotate_left
 ·rw [if_neg c5] at h;obtain rfl:=Option.some.inj h;exact right_no Qd Qb Qc Qe Qf Qa w true true true true false _ _ (decide_eq_true c1) (decide_eq_true c2) (decide_eq_true c3) (decide_eq_true c4) (decide_eq_false c5) rfl rfl (.inr (.inr (.inr (.inr (.inl ⟨rfl,rfl,rfl,rfl,rfl⟩)))))
 rw [if_pos c5] at h;by_cases c6:Qc≤64;rotate_left
 ·rw [if_neg c6] at h;obtain rfl:=Option.some.inj h;exact right_no Qd Qb Qc Qe Qf Qa w true true true true true false _ (decide_eq_true c1) (decide_eq_true c2) (decide_eq_true c3) (decide_eq_true c4) (decide_eq_true c5) (decide_eq_false c6) rfl (.inr (.inr (.inr (.inr (.inr (.inl ⟨rfl,rfl,rfl,rfl,rfl,rfl⟩))))))
 rw [if_pos c6] at h;by_cases c7:(Qa.length:Int)=wrap64 (Qb*Qc)
 ·rw [if_pos c7] at h;exact right_all k Qd Qb Qc Qe Qf Qa r w hr0_3 c1 c2 c3 c4 c5 c6 (beq_iff_eq.2 c7) h
 ·rw [if_neg c7] at h;obtain rfl:=Option.some.inj h;exact right_no Qd Qb Qc Qe Qf Qa w true true true true true true false (decide_eq_true c1) (decide_eq_true c2) (decide_eq_true c3) (decide_eq_true c4) (decide_eq_true c5) (decide_eq_true c6) (beq_eq_false_iff_ne.2 c7) (.inr (.inr (.inr (.inr (.inr (.inr (⟨rfl,rfl,rfl,rfl,rfl,rfl,rfl⟩)))))))
end Go.Proofs.Ytpbhkdamkbopkaa.PR
namespace Go.Proofs.Ytpbhkdamkbopkaa.GPix
open Go.Proofs.Ytpbhkdamkbopkaa.Sq
open Go.RowKit Go.Proofs.YtpbhkdamkbopkaaW.PrintWords Go.Proofs.YtpbhkdamkbopkaaW.PrintLast Go.Proofs.YtpbhkdamkbopkaaW.PrintMore Go.Proofs.Ytpbhkdamkbopkaa.Wr2 Go.Proofs.Ytpbhkdamkbopkaa.Wr1 Go.Proofs.Ytpbhkdamkbopkaa.GRuns Go.Proofs.Ytpbhkdamkbopkaa.GBack2
attribute [local go_sem] max2_int min2_int max_two min_two max_three min_three max_four min_four
set_option linter.unusedVariables false
set_option linter.unusedSimpArgs false
def bits_PutBytes.f (a0_0:ByteArray) (a0_1:Int) (a1:ByteArray):Option (ByteArray × Int):=if a0_0.size+a1.size≤9223372036854775807 then (some (a0_0 ++ a1,0)) else (none)
set_option maxHeartbeats 8000000 in
set_option maxRecDepth 100000 in
theorem bits_PutBytes.calls (Qd : ByteArray) (Qf : Int) (a1 : ByteArray) (r1 : ByteArray) (r2 : Int) (w : World) (h : bits_PutBytes.f Qd Qf a1 = some (r1, r2)) :
  Calls Try.prog 79 #[.agg #[.string Qd,.int .i64 Qf],.string a1] w fun e w'=>e=.returned (.agg #[.string r1,.int .i64 r2])∧Below w.heap.size w w':=by
 have hu124:=Try.underlying124;have HB:=Aside0.mk (Below.refl w.heap.size w);have H:=h;unfold bits_PutBytes.f at H;clear h;by_cases c3:Qd.size+a1.size≤9223372036854775807;rotate_left
 ·rw [if_neg c3] at H;exact absurd H (by simp)
 rw [if_pos c3] at H;have c3b0:=eq_true c3;have c3b1:=decide_eq_true c3;try have c3b2:=eq_false (Nat.not_lt.2 c3)
 simp only [Option.some.injEq,Prod.mk.injEq] at H;obtain ⟨rfl,rfl⟩:=H;go_enter Try.func79,Try.ntmps79;go_wp2_with (first | ((with_reducible refine gate_dst (N:=2) rfl ?_);refine boxQ 2 #[.string Qd,.int .i64 Qf] 124 ?_;intro gb104 hg w4 hbox hb;have Qa:=Aside0.mk hbox;have GW104:=gs HB hg;have GE104:=gs HB hg;replace HB:=hs HB hb;clear hb hbox hg) | ((with_reducible refine gate_dst (N:=4) rfl ?_);refine boxQ 4 #[.string (⟨#[]⟩:ByteArray),.int .i64 0] 124 ?_;intro Qg hg w5 hbox hb;have Qe:=Aside0.mk hbox;have GW105:=gs HB hg;have GE105:=gs HB hg;replace HB:=hs HB hb;have Qb:=nl Qa hg;have Qc:=ng Qa hg;replace Qa:=bb Qa hb;clear hb hbox hg;have hnb6:=Qb.out;have hnc6:=Qc.out;obtain ⟨hcz7_0,hcz7_1⟩:=cc2 Qa;obtain ⟨hfz7_0,hfz7_1⟩:=ff2 Qa;obtain ⟨_,_⟩:=cc2 Qe;obtain ⟨_,_⟩:=ff2 Qe))
 refine bodyPost_ret (results_cell_row rfl _ _ Qg 124 #[.string (Qd ++ a1),.int .i64 0] (0,0) _ rfl (bq Qe) Try.underlying124 rfl (by kernel_rfl)) rfl ?_;exact ⟨by first | rfl | (simp [errW_none,errW_some] <;> rfl) | (simp [*,errW_none,errW_some] <;> rfl),hn HB⟩
mutual
def bits_PutLittle.j0:Nat → Int → Int → Bool → ByteArray → Int → Option (ByteArray × Int × Int)
 |0,_,_,_,_,_=>none
 |k+1,x1,x2,x26,x107000,x107001=>if x26=true then (some ((⟨#[]⟩:ByteArray),0,1)) else (if 0≤x2 then (if (x2:Int).toNat≤281474976710656 then ((some (List.replicate (x2:Int).toNat 0:List Int)).bind fun y108=>(bits_PutLittle.l0 k x1 y108 (y108.length:Int) 0 x107000 x107001)) else (none)) else (none))
def bits_PutLittle.l0:Nat → Int → List Int → Int → Int → ByteArray → Int → Option (ByteArray × Int × Int)
 |0,_,_,_,_,_,_=>none
 |k+1,x1,x8,x31,x32,x107000,x107001=>if x32 < x31 then (if 0≤(wrap64 (8*x32)) then (if 0≤x32 then (if x32 < (x8.length:Int) then (bits_PutLittle.l0 k x1 (x8.set (x32:Int).toNat ((shr .i64 x1 (wrap64 (8*x32))) % 256)) x31 (wrap64 (x32+1)) x107000 x107001) else (none)) else (none)) else (none)) else ((bits_PutBytes.f x107000 x107001 (strOfNums x8)).bind fun bt112=>(some (bt112.1,bt112.2,0)))
end
def bits_PutLittle.f (k:Nat) (a0_0:ByteArray) (a0_1:Int) (a1:Int) (a2:Int):Option (ByteArray × Int × Int):=if a2 < 1 then (bits_PutLittle.j0 k a1 a2 true a0_0 a0_1) else (if a2 > 4 then (bits_PutLittle.j0 k a1 a2 true a0_0 a0_1) else (if a1 < 0 then (bits_PutLittle.j0 k a1 a2 true a0_0 a0_1) else (if 0≤(wrap64 (8*a2)) then (bits_PutLittle.j0 k a1 a2 ((shr .i64 a1 (wrap64 (8*a2))) != 0) a0_0 a0_1) else (none))))
theorem bits_PutLittle.mono_l:∀ k,(∀ y0 y1 y2 y3 y4,LeO (bits_PutLittle.j0 k y0 y1 y2 y3 y4) (bits_PutLittle.j0 (k+1) y0 y1 y2 y3 y4))∧(∀ y0 y1 y2 y3 y4 y5,LeO (bits_PutLittle.l0 k y0 y1 y2 y3 y4 y5) (bits_PutLittle.l0 (k+1) y0 y1 y2 y3 y4 y5))
 |0=>⟨fun _ _ _ _ _ r h=>by simp [bits_PutLittle.j0] at h,fun _ _ _ _ _ _ r h=>by simp [bits_PutLittle.l0] at h⟩
 |k+1=>by
  obtain ⟨ih0,ih1⟩:=bits_PutLittle.mono_l k;refine ⟨?_,?_⟩
  ·intro y0 y1 y2 y3 y4;unfold bits_PutLittle.j0;repeat' first
   |(with_reducible exact ih0 _ _ _ _ _)
   |(with_reducible exact ih1 _ _ _ _ _ _)
   |(with_reducible exact LeO.refl _)
   |(with_reducible exact LeO.none _)
   |(with_reducible refine LeO.ite ?_ ?_)
   |(with_reducible refine LeO.bind ?_ (fun _=>?_))
   |exact ih0 _ _ _ _ _
   |exact ih1 _ _ _ _ _ _
   |exact LeO.none _
   |refine LeO.ite ?_ ?_
   |refine LeO.bind ?_ (fun _=>?_)
  ·intro y0 y1 y2 y3 y4 y5;unfold bits_PutLittle.l0;repeat' first
   |(with_reducible exact ih0 _ _ _ _ _)
   |(with_reducible exact ih1 _ _ _ _ _ _)
   |(with_reducible exact LeO.refl _)
   |(with_reducible exact LeO.none _)
   |(with_reducible refine LeO.ite ?_ ?_)
   |(with_reducible refine LeO.bind ?_ (fun _=>?_))
   |exact ih0 _ _ _ _ _
   |exact ih1 _ _ _ _ _ _
   |exact LeO.none _
   |refine LeO.ite ?_ ?_
   |refine LeO.bind ?_ (fun _=>?_)
theorem bits_PutLittle.mono:∀ a0 a1 a2 a3 k,LeO (bits_PutLittle.f k a0 a1 a2 a3) (bits_PutLittle.f (k+1) a0 a1 a2 a3):=by
 intro a0 a1 a2 a3 k;obtain ⟨ih0,ih1⟩:=bits_PutLittle.mono_l k;unfold bits_PutLittle.f
 repeat' first
   |(with_reducible exact ih0 _ _ _ _ _)
   |(with_reducible exact ih1 _ _ _ _ _ _)
   |(with_reducible exact LeO.refl _)
   |(with_reducible exact LeO.none _)
   |(with_reducible refine LeO.ite ?_ ?_)
   |(with_reducible refine LeO.bind ?_ (fun _=>?_))
   |exact ih0 _ _ _ _ _
   |exact ih1 _ _ _ _ _ _
   |exact LeO.none _
   |refine LeO.ite ?_ ?_
   |refine LeO.bind ?_ (fun _=>?_)
set_option maxHeartbeats 8000000 in
set_option maxRecDepth 100000 in
theorem bits_PutLittle.calls (k : Nat) (Qd : ByteArray) (Qe : Int) (a1 : Int) (a2 : Int) (r1 : ByteArray) (r2 : Int) (r3 : Int) (w : World) (h : bits_PutLittle.f k Qd Qe a1 a2 = some (r1, r2, r3)) :
  Calls Try.prog 78 #[.agg #[.string Qd,.int .i64 Qe],.int .i64 a1,.int .i64 a2] w fun e w'=>e=.returned (.tuple #[.agg #[.string r1,.int .i64 r2],.int .i64 r3])∧Below w.heap.size w w':=by
 have hu124:=Try.underlying124;have HB:=Aside0.mk (Below.refl w.heap.size w);have H:=h;unfold bits_PutLittle.f at H;clear h;have HC4:=Aside0.mk H;clear H;go_enter Try.func78,Try.ntmps78;go_upto_region 1 with (first | ((with_reducible refine gate_dst (N:=3) rfl ?_);refine boxQ 3 #[.string Qd,.int .i64 Qe] 124 ?_;intro Qr hg w5 hbox hb;have Qb:=Aside0.mk hbox;have GW106:=gs HB hg;have GE106:=gs HB hg;replace HB:=hs HB hb;clear hb hbox hg) | ((with_reducible refine gate_dst (N:=6) rfl ?_);refine boxQ 6 #[.string (⟨#[]⟩:ByteArray),.int .i64 0] 124 ?_;intro Qk hg w6 hbox hb;have Qc:=Aside0.mk hbox;have GW107:=gs HB hg;have GE107:=gs HB hg;replace HB:=hs HB hb;have Qi:=nl Qb hg;have Qj:=ng Qb hg;replace Qb:=bb Qb hb;clear hb hbox hg))
 (try simp only [Act.put,List.setIfInBounds_toArray,List.set_cons_zero,List.set_cons_succ])
 go_cut [26] (fun v26 wc=>∃ (kq:Nat) (Qo:Bool),v26=.bool Qo∧Aside0 (bits_PutLittle.j0 kq a1 a2 Qo Qd Qe=some (r1,r2,r3))∧Aside0 (kq≤k)∧Aside0 (wc.heap[Qr]?=some (.cells #[.string Qd,.int .i64 Qe] 124 (0,0)))∧Aside0 (wc.heap[Qk]?=some (.cells #[.string (⟨#[]⟩:ByteArray),.int .i64 0] 124 (0,0)))∧Aside0 (Below w.heap.size w wc))
 case first =>
  have H:=HC4.out;clear HC4;by_cases c7:a2 < 1
  ·rw [if_pos c7] at H;have Qs:=decide_eq_true c7;clear c7
   (first | rw [Qs] | (simp only [i64_w,i32_w];rw [Qs]) | skip)
   have H':=Aside0.mk H;clear H;go_wp2;go_meet
   case rel=>exact ⟨_,(true),(by first | rfl | (simp;done) | (simp [*];done)),H',⟨by first | omega | exact Nat.le_refl _⟩,⟨bk Qb⟩,⟨bk Qc⟩,⟨hn HB⟩⟩
  rw [if_neg c7] at H;have Qs:=decide_eq_false c7;clear c7
  (first | rw [Qs] | (simp only [i64_w,i32_w];rw [Qs]) | skip)
  by_cases c8:a2 > 4
  ·rw [if_pos c8] at H;have QL:=decide_eq_true c8;clear c8;have H':=Aside0.mk H;clear H;go_wp2;go_meet
   case rel=>exact ⟨_,(true),(by first | rfl | (simp;done) | (simp [*];done)),H',⟨by first | omega | exact Nat.le_refl _⟩,⟨bk Qb⟩,⟨bk Qc⟩,⟨hn HB⟩⟩
  rw [if_neg c8] at H;have QL:=decide_eq_false c8;clear c8;by_cases c9:a1 < 0
  ·rw [if_pos c9] at H;have QM:=decide_eq_true c9;clear c9;have H':=Aside0.mk H;clear H;go_wp2;go_meet
   case rel=>exact ⟨_,(true),(by first | rfl | (simp;done) | (simp [*];done)),H',⟨by first | omega | exact Nat.le_refl _⟩,⟨bk Qb⟩,⟨bk Qc⟩,⟨hn HB⟩⟩
  rw [if_neg c9] at H;have QM:=decide_eq_false c9;clear c9;obtain ⟨Ql,Qt⟩:∃ j_:Int,(wrap64 (8*a2))=j_:=⟨_,rfl⟩;replace H:(if 0≤(Ql) then (bits_PutLittle.j0 k a1 a2 ((shr .i64 a1 (Ql)) != 0) Qd Qe) else (none))=some (r1,r2,r3):=by first | (rw [Qt] at H;exact H) | (simp only [Qt] at H ⊢;exact H)
  have hji10w:(IntKind.i64.wrap (8*a2))=Ql:=(i64_w _).trans Qt;by_cases c11:0≤(Ql);rotate_left
  ·rw [if_neg c11] at H;exact absurd H (by simp)
  rw [if_pos c11] at H;have c11b0:=eq_true c11;have c11b1:=decide_eq_true c11;clear c11;obtain ⟨Qv,Qm⟩:∃ j_:Int,(shr .i64 a1 (Ql))=j_:=⟨_,rfl⟩;replace H:(bits_PutLittle.j0 k a1 a2 ((Qv) != 0) Qd Qe)=some (r1,r2,r3):=by first | (rw [Qm] at H;exact H) | (simp only [Qm] at H ⊢;exact H)
  have hji12_:(a1 / 2 ^ min (Ql).toNat 64)=Qv:=Qm;have hji12z:(Ql)≤64 → (a1 / 2 ^ (Ql).toNat)=Qv:=shr_small Qm;have H':=Aside0.mk H;clear H;go_wp2;go_meet
  case rel=>exact ⟨_,(((Qv) != 0)),(by first | rfl | (simp;done) | (simp only [← Qm] <;> (first | rfl | simp)) | (simp [*];done)),H',⟨by first | omega | exact Nat.le_refl _⟩,⟨bk Qb⟩,⟨bk Qc⟩,⟨hn HB⟩⟩
 clear HC4;obtain ⟨kq,Qo,rfl,HA,HJ3,Qb,Qc,HB⟩:=hcut
 rcases kq with _ | kj3
 ·exact absurd HA.out (by simp [bits_PutLittle.j0])
 have H:=HA.out;clear HA;simp only [bits_PutLittle.j0] at H;by_cases c13:Qo=true
 ·subst c13;have H1:(some ((⟨#[]⟩:ByteArray),0,1))=some (r1,r2,r3):=by rw [if_pos rfl] at H;exact H
  clear H;have H:=H1;clear H1;simp only [Option.some.injEq,Prod.mk.injEq] at H;obtain ⟨rfl,rfl,rfl⟩:=H;have hnb14:=Qj.out;have hnc14:=Qi.out;obtain ⟨_,_⟩:=cc2 Qc;obtain ⟨_,_⟩:=ff2 Qc;go_wp2;refine bodyPost_ret (results_ct rfl _ _ Qk 124 #[.string (⟨#[]⟩:ByteArray),.int .i64 0] (0,0) _ rfl (bq Qc) Try.underlying124 rfl (by kernel_rfl)) rfl ?_;exact ⟨by first | rfl | (simp [errW_none,errW_some] <;> rfl) | (simp [*,errW_none,errW_some] <;> rfl),hn HB⟩
 replace c13:=Bool.eq_false_iff.mpr c13;subst c13;have H1:(if 0≤a2 then (if (a2:Int).toNat≤281474976710656 then ((some (List.replicate (a2:Int).toNat 0:List Int)).bind fun Qg=>(bits_PutLittle.l0 kj3 a1 Qg (Qg.length:Int) 0 Qd Qe)) else (none)) else (none))=some (r1,r2,r3):=by rw [if_neg (show ¬ (false=true) by decide)] at H;exact H
 clear H;have H:=H1;clear H1;by_cases c16:0≤a2;rotate_left
 ·rw [if_neg c16] at H;exact absurd H (by simp)
 rw [if_pos c16] at H;have QA:=eq_true c16;have QB:=decide_eq_true c16;clear c16;by_cases c17:(a2:Int).toNat≤281474976710656;rotate_left
 ·rw [if_neg c17] at H;exact absurd H (by simp)
 rw [if_pos c17] at H;have QC:=eq_true c17;have QD:=decide_eq_true c17;clear c17;obtain ⟨Qg,hy108⟩:∃ y_:List Int,y_=(List.replicate (a2:Int).toNat 0):=⟨_,rfl⟩;replace H:(bits_PutLittle.l0 kj3 a1 Qg (Qg.length:Int) 0 Qd Qe)=some (r1,r2,r3):=by first | (rw [hy108];with_reducible exact H) | (have H2_:=(Option.bind_some _ _).symm.trans H;rw [hy108];with_reducible exact H2_) | (have H2_:=(Option.bind_some _ _).symm.trans H;with_reducible exact H2_) | with_reducible exact H | (rw [hy108];exact H) | exact H
 have Qw:=Aside0.mk hy108;clear hy108;have H':=Aside0.mk H;clear H;go_wp2_with (first | ((with_reducible refine gate_dst (N:=29) rfl ?_);refine Kd.R_make (Kd.int .u8) _ 5 rfl (N:=29) rfl 40 _ _ rfl a2 rfl rfl Try.underlying40 (.int .u8 0) 1 info5 rfl (by decide) (by omega) 0 (ok:=fun _=>True) (okp:=fun _=>True) rfl (fun _ hk=>hk) trivial pd (Nat.le_trans (Nat.mul_le_mul_right _ (pd:a2.toNat≤281474976710656)) (by omega)) (Below.refl _ _) (Nat.le_refl _) ?_;intro v109 w18 ho19 hb hg_ hnew_;clear hg_ hnew_;(first | rw [← Qw.out] at ho19 | (simp only [Int.reduceToNat] at ho19;rw [← Qw.out] at ho19));have Qx:=Aside0.mk (Kd.R_lower ho19 (below_size (hn HB)));replace Qb:=bb Qb hb;replace Qc:=bb Qc hb;replace HB:=hs HB hb;clear hb ho19;obtain ⟨QN,QE,QO⟩:=Kd.R_slice Qx.out;subst QO))
 go_loopg [32] kj3 (fun kq v32 w'=>∃ (Qf:List Int) (Qa:Int),v32=.int .i64 Qa∧Aside0 (bits_PutLittle.l0 kq a1 Qf (Qg.length:Int) Qa Qd Qe=some (r1,r2,r3))∧Aside0 (kq≤kj3)∧Aside0 (Kd.R (Kd.int .u8) 5 w' w.heap.size (fun _=>True) (.slice QN Qg.length QE) Qf)∧Aside0 (w'.heap[Qr]?=some (.cells #[.string Qd,.int .i64 Qe] 124 (0,0)))∧Aside0 (w'.heap[Qk]?=some (.cells #[.string (⟨#[]⟩:ByteArray),.int .i64 0] 124 (0,0)))∧Aside0 (Below w.heap.size w w'))
 case atStart=>exact ⟨(Qg),(0),(by first | rfl | (simp;done) | (simp [*];done)),H',⟨Nat.le_refl _⟩,⟨rr Qx⟩,⟨bk Qb⟩,⟨bk Qc⟩,⟨hn HB⟩⟩
 clear H';clear QA QB QC QD;obtain ⟨Qf,Qa,rfl,HA,HK2,Qh,Qb,Qc,HB⟩:=hrel;have hl8_2:=(Kd.R_reads' Qh.out).1;rw [hl8_2] at Qh
 (try simp only [hl8_2])
 (try simp only [hl8_2] at Qb)
 (try simp only [hl8_2] at Qc)
 rcases gk with _ | k2
 ·exact absurd HA.out (by simp [bits_PutLittle.l0])
 have H:=HA.out;clear HA;simp only [bits_PutLittle.l0] at H;by_cases c21:Qa < (Qg.length:Int)
 ·rw [if_pos c21] at H;have Qy:=decide_eq_true c21;clear c21;obtain ⟨Qn,Qu⟩:∃ j_:Int,(wrap64 (8*Qa))=j_:=⟨_,rfl⟩;replace H:(if 0≤(Qn) then (if 0≤Qa then (if Qa < (Qf.length:Int) then (bits_PutLittle.l0 k2 a1 (Qf.set (Qa:Int).toNat ((shr .i64 a1 (Qn)) % 256)) (Qg.length:Int) (wrap64 (Qa+1)) Qd Qe) else (none)) else (none)) else (none))=some (r1,r2,r3):=by first | (rw [Qu] at H;exact H) | (simp only [Qu] at H ⊢;exact H)
  have hji22w:(IntKind.i64.wrap (8*Qa))=Qn:=(i64_w _).trans Qu;by_cases c23:0≤(Qn);rotate_left
  ·rw [if_neg c23] at H;exact absurd H (by simp)
  rw [if_pos c23] at H;have c23b0:=eq_true c23;have c23b1:=decide_eq_true c23;clear c23;obtain ⟨Qq,Qp⟩:∃ j_:Int,(shr .i64 a1 (Qn))=j_:=⟨_,rfl⟩;replace H:(if 0≤Qa then (if Qa < (Qf.length:Int) then (bits_PutLittle.l0 k2 a1 (Qf.set (Qa:Int).toNat ((Qq) % 256)) (Qg.length:Int) (wrap64 (Qa+1)) Qd Qe) else (none)) else (none))=some (r1,r2,r3):=by first | (rw [Qp] at H;exact H) | (simp only [Qp] at H ⊢;exact H)
  have hji24_:(a1 / 2 ^ min (Qn).toNat 64)=Qq:=Qp;have hji24z:(Qn)≤64 → (a1 / 2 ^ (Qn).toNat)=Qq:=shr_small Qp;by_cases c25:0≤Qa;rotate_left
  ·rw [if_neg c25] at H;exact absurd H (by simp)
  rw [if_pos c25] at H;have c25b0:=decide_eq_true c25;clear c25;by_cases c26:Qa < (Qf.length:Int);rotate_left
  ·rw [if_neg c26] at H;exact absurd H (by simp)
  rw [if_pos c26] at H;have c26b0:=decide_eq_true c26;clear c26;obtain ⟨Qz,hy111⟩:∃ y_:List Int,y_=(Qf.set (Qa:Int).toNat ((Qq) % 256)):=⟨_,rfl⟩;replace H:(bits_PutLittle.l0 k2 a1 Qz (Qg.length:Int) (wrap64 (Qa+1)) Qd Qe)=some (r1,r2,r3):=by first | (rw [hy111];with_reducible exact H) | (have H2_:=(Option.bind_some _ _).symm.trans H;rw [hy111];with_reducible exact H2_) | (have H2_:=(Option.bind_some _ _).symm.trans H;with_reducible exact H2_) | with_reducible exact H | (rw [hy111];exact H) | exact H
  have QF:=Aside0.mk hy111;clear hy111;have H':=Aside0.mk H;clear H;have p27:0≤(Qa:Int):=pd;have q27:(Qa:Int) < ((Qf.length:Int):Int):=pd;obtain ⟨go27,co27,QG,QH,gl27,cl27,HG27⟩:=Kd.R_form Qh.out (by omega)
  (first | cases QG | (injection QG with ea_ en_ ec_;(first | subst ea_ | (injection ea_ with ea_;subst ea_));subst ec_;clear en_))
  have GB27:=Aside0.mk QH;have GG27:=Aside0.mk HG27;clear QH gl27 HG27;obtain ⟨hx27_0,hf27_0⟩:=Kd.R_celln 0 Qh.out (Qa:Int) p27 q27;replace p27:=eq_true p27;replace q27:=eq_true q27;have HP28:=Kd.R_putg Qh.out (Qa:Int) ((Qq) % 256);go_wp2_with (first | ((with_reducible refine gate_store (t:=5) (p:=42) rfl ?_);refine stQ 5 42 ((wr.setCell ⟨go27,(Qa:Int).toNat,none⟩ (.int .u8 ((Qq) % 256)))) ?_;intro w29 hw;have hg:wr.grownBy w29 (some go27):=(by rw [hw];exact HP28.2);have hp_:Kd.R (Kd.int .u8) 5 w29 w.heap.size (fun _=>True) (.slice (some ⟨go27,0,none⟩) Qf.length QE) Qz:=(by rw [hw,QF.out];exact HP28.1);clear HP28;replace Qb:=Aside0.mk (blk_grown (g:=Qr) (o:=.cells #[.string Qd,.int .i64 Qe] 124 (0,0)) (bk Qb) hg (Kd.R_ne Qh.out Qb.out (by decide)));replace Qc:=Aside0.mk (blk_grown (g:=Qk) (o:=.cells #[.string (⟨#[]⟩:ByteArray),.int .i64 0] 124 (0,0)) (bk Qc) hg (Kd.R_ne Qh.out Qc.out (by decide)));replace Qh:=Aside0.mk (hp_);replace HB:=Aside0.mk ((by rw [hw];exact below_set (HB.out) GB27.out:Below w.heap.size w w29));clear hg hw hp_))
  (try simp only [← hl8_2])
  go_roundg k2
  case measure=>have:=HJ3.out;have:=HK2.out;omega
  case rel=>exact ⟨(Qz),(wrap64 (Qa+1)),(by first | rfl | (simp;done) | (simp [*];done)),H',⟨by have:=HJ3.out;have:=HK2.out;omega⟩,⟨by (try simp only [hl8_2]);(with_reducible repeat (first | apply Kd.R_alloc | apply Kd.R_drewN | apply Kd.R_drew));exact Qh.out⟩,⟨by (try simp only [hl8_2]);(with_reducible repeat (first | refine blk_drewN ?_ _ | refine blk_drew ?_ | refine blk_alloc ?_ _));exact Qb.out⟩,⟨by (try simp only [hl8_2]);(with_reducible repeat (first | refine blk_drewN ?_ _ | refine blk_drew ?_ | refine blk_alloc ?_ _));exact Qc.out⟩,⟨hn HB⟩⟩
 ·rw [if_neg c21] at H;have Qy:=decide_eq_false c21;have c21d0:=Qy
  (try simp only [hl8_2] at c21d0)
  clear c21;replace H:=Option.bind_eq_some_iff.mp H;obtain ⟨⟨QI,QJ⟩,QK,H⟩:=H;have A30:=Aside0.mk QK;clear QK;simp only [Option.some.injEq,Prod.mk.injEq] at H;obtain ⟨rfl,rfl,rfl⟩:=H;have hnb31:=Qi.out;have hnc31:=Qj.out;obtain ⟨_,_⟩:=cc2 Qb;obtain ⟨_,_⟩:=ff2 Qb;have hcv33:=own_string (P:=Try.prog) Try.underlying40 Try.underlying5 Try.underlying9 (Kd.own_of_R Qh.out);go_wp2_with (first | ((with_reducible refine gate_callee (f:=79) rfl ?_);refine goesQ (some 47) Try.func79 #[.agg #[.string Qd,.int .i64 Qe],.string (strOfNums Qf)] ?_;(with_reducible refine (bits_PutBytes.calls Qd Qe (strOfNums Qf) QI QJ _ A30.out).mono ?_);rintro e w34 ⟨rfl,hb⟩;refine ⟨_,rfl,?_⟩;replace Qh:=rk Qh hb;replace Qb:=bb Qb hb;replace Qc:=bb Qc hb;replace HB:=hs HB hb;(try clear hb);obtain ⟨_,_⟩:=cc2 Qc;obtain ⟨_,_⟩:=ff2 Qc))
  refine bodyPost_ret (results_ct rfl _ _ Qk 124 #[.string QI,.int .i64 QJ] (0,0) _ rfl (bq Qc) Try.underlying124 rfl (by kernel_rfl)) rfl ?_;exact ⟨by first | rfl | (simp [errW_none,errW_some] <;> rfl) | (simp [*,errW_none,errW_some] <;> rfl),hn HB⟩
def bits_right.f (a0_0:ByteArray) (a0_1:Int):Option (Bool):=if a0_1 ≥ 0 then (some (decide (a0_1≤(wrap64 (8*(a0_0.size:Int)))))) else (some false)
set_option maxHeartbeats 8000000 in
set_option maxRecDepth 100000 in
theorem bits_right.calls (Qc : ByteArray) (Qb : Int) (r : Bool) (w : World) (h : bits_right.f Qc Qb = some r) :
  Calls Try.prog 116 #[.agg #[.string Qc,.int .i64 Qb]] w fun e w'=>e=.returned (.bool r)∧Below w.heap.size w w':=by
 have hu133:=Try.underlying133;have HB:=Aside0.mk (Below.refl w.heap.size w);have H:=h;unfold bits_right.f at H;clear h;by_cases c2:Qb ≥ 0
 ·rw [if_pos c2] at H;have Qg:=decide_eq_true c2;clear c2;obtain rfl:=Option.some.inj H;go_enter Try.func116,Try.ntmps116;go_wp2_with (first | ((with_reducible refine gate_dst (N:=1) rfl ?_);(try (refine gate_guard (by rfl) ?_;dsimp only));refine boxQ 1 #[.string Qc,.int .i64 Qb] 133 ?_;intro Qd hg w3 hbox hb;have Qa:=Aside0.mk hbox;have Qe:=gs HB hg;have Qf:=gs HB hg;replace HB:=hs HB hb;clear hb hbox hg;obtain ⟨_,_⟩:=cc2 Qa;obtain ⟨_,_⟩:=ff2 Qa))
  go_ret;exact ⟨by first | rfl | (simp [errW_none,errW_some] <;> rfl) | (simp [*,errW_none,errW_some] <;> rfl),hn HB⟩
 rw [if_neg c2] at H;have Qg:=decide_eq_false c2;clear c2;obtain rfl:=Option.some.inj H;go_enter Try.func116,Try.ntmps116;go_wp2_with (first | ((with_reducible refine gate_dst (N:=1) rfl ?_);(try (refine gate_guard (by rfl) ?_;dsimp only));refine boxQ 1 #[.string Qc,.int .i64 Qb] 133 ?_;intro Qd hg w5 hbox hb;have Qa:=Aside0.mk hbox;have Qe:=gs HB hg;have Qf:=gs HB hg;replace HB:=hs HB hb;clear hb hbox hg;obtain ⟨_,_⟩:=cc2 Qa;obtain ⟨_,_⟩:=ff2 Qa))
 go_ret;exact ⟨by first | rfl | (simp [errW_none,errW_some] <;> rfl) | (simp [*,errW_none,errW_some] <;> rfl),hn HB⟩
def bits_Align.f (a0_0:ByteArray) (a0_1:Int):Option (ByteArray × Int):=(bits_right.f a0_0 a0_1).bind fun t218=>(if t218=true then (some (a0_0,wrap64 ((wrap64 (Int.tdiv (wrap64 (a0_1+7)) 8))*8))) else (some (a0_0,a0_1)))
set_option maxHeartbeats 8000000 in
set_option maxRecDepth 100000 in
theorem bits_Align.calls (Qe : ByteArray) (Qf : Int) (r1 : ByteArray) (r2 : Int) (w : World) (h : bits_Align.f Qe Qf = some (r1, r2)) :
  Calls Try.prog 117 #[.agg #[.string Qe,.int .i64 Qf]] w fun e w'=>e=.returned (.agg #[.string r1,.int .i64 r2])∧Below w.heap.size w w':=by
 have hu133:=Try.underlying133;have HB:=Aside0.mk (Below.refl w.heap.size w);have H:=h;unfold bits_Align.f at H;clear h;replace H:=Option.bind_eq_some_iff.mp H;obtain ⟨Qm,A20,H⟩:=H;have A2:=Aside0.mk A20;clear A20;by_cases c3:Qm=true
 ·subst c3;have H1:(some (Qe,wrap64 ((wrap64 (Int.tdiv (wrap64 (Qf+7)) 8))*8)))=some (r1,r2):=by rw [if_pos rfl] at H;exact H
  clear H;have H:=H1;clear H1;simp only [Option.some.injEq,Prod.mk.injEq] at H;obtain ⟨rfl,rfl⟩:=H;go_enter Try.func117,Try.ntmps117;go_wp2_with (first | ((with_reducible refine gate_dst (N:=1) rfl ?_);refine boxQ 1 #[.string Qe,.int .i64 Qf] 133 ?_;intro Qh hg w4 hbox hb;have Qa:=Aside0.mk hbox;have Qi:=gs HB hg;have Qj:=gs HB hg;replace HB:=hs HB hb;clear hb hbox hg) | ((with_reducible refine gate_dst (N:=2) rfl ?_);refine boxQ 2 #[.string (⟨#[]⟩:ByteArray),.int .i64 0] 133 ?_;intro Qg hg w5 hbox hb;have Qb:=Aside0.mk hbox;have Qk:=gs HB hg;have Ql:=gs HB hg;replace HB:=hs HB hb;have Qc:=nl Qa hg;have Qd:=ng Qa hg;replace Qa:=bb Qa hb;clear hb hbox hg;have hnb6:=Qc.out;have hnc6:=Qd.out;obtain ⟨hcz7_0,hcz7_1⟩:=cc2 Qa;obtain ⟨hfz7_0,hfz7_1⟩:=ff2 Qa) | ((with_reducible refine gate_callee (f:=116) rfl ?_);refine goesQ (some 4) Try.func116 #[.agg #[.string Qe,.int .i64 Qf]] ?_;(with_reducible refine (bits_right.calls Qe Qf true _ A2.out).mono ?_);rintro e w8 ⟨rfl,hb⟩;refine ⟨_,rfl,?_⟩;replace Qa:=bb Qa hb;replace Qb:=bb Qb hb;replace HB:=hs HB hb;(try clear hb);obtain ⟨hcz9_0,hcz9_1⟩:=cc2 Qa;obtain ⟨hfz9_0,hfz9_1⟩:=ff2 Qa;obtain ⟨_,_⟩:=cc2 Qb;obtain ⟨_,_⟩:=ff2 Qb))
  refine bodyPost_ret (results_cell_row rfl _ _ Qg 133 #[.string Qe,.int .i64 (wrap64 ((wrap64 (Int.tdiv (wrap64 (Qf+7)) 8))*8))] (0,0) _ rfl (bq Qb) Try.underlying133 rfl (by kernel_rfl)) rfl ?_;exact ⟨by first | rfl | (simp [errW_none,errW_some] <;> rfl) | (simp [*,errW_none,errW_some] <;> rfl),hn HB⟩
 ·replace c3:=Bool.eq_false_iff.mpr c3;subst c3;have H1:(some (Qe,Qf))=some (r1,r2):=by rw [if_neg (show ¬ (false=true) by decide)] at H;exact H
  clear H;have H:=H1;clear H1;simp only [Option.some.injEq,Prod.mk.injEq] at H;obtain ⟨rfl,rfl⟩:=H;go_enter Try.func117,Try.ntmps117;go_wp2_with (first | ((with_reducible refine gate_dst (N:=1) rfl ?_);refine boxQ 1 #[.string Qe,.int .i64 Qf] 133 ?_;intro Qh hg w11 hbox hb;have Qa:=Aside0.mk hbox;have Qi:=gs HB hg;have Qj:=gs HB hg;replace HB:=hs HB hb;clear hb hbox hg) | ((with_reducible refine gate_dst (N:=2) rfl ?_);refine boxQ 2 #[.string (⟨#[]⟩:ByteArray),.int .i64 0] 133 ?_;intro Qg hg w12 hbox hb;have Qb:=Aside0.mk hbox;have Qk:=gs HB hg;have Ql:=gs HB hg;replace HB:=hs HB hb;have Qc:=nl Qa hg;have Qd:=ng Qa hg;replace Qa:=bb Qa hb;clear hb hbox hg;have hnb13:=Qc.out;have hnc13:=Qd.out;obtain ⟨_,_⟩:=cc2 Qa;obtain ⟨_,_⟩:=ff2 Qa) | ((with_reducible refine gate_callee (f:=116) rfl ?_);refine goesQ (some 4) Try.func116 #[.agg #[.string Qe,.int .i64 Qf]] ?_;(with_reducible refine (bits_right.calls Qe Qf false _ A2.out).mono ?_);rintro e w15 ⟨rfl,hb⟩;refine ⟨_,rfl,?_⟩;replace Qa:=bb Qa hb;replace Qb:=bb Qb hb;replace HB:=hs HB hb;(try clear hb);obtain ⟨hcz16_0,hcz16_1⟩:=cc2 Qa;obtain ⟨hfz16_0,hfz16_1⟩:=ff2 Qa;obtain ⟨_,_⟩:=cc2 Qb;obtain ⟨_,_⟩:=ff2 Qb))
  refine bodyPost_ret (results_cell_row rfl _ _ Qg 133 #[.string Qe,.int .i64 Qf] (0,0) _ rfl (bq Qb) Try.underlying133 rfl (by kernel_rfl)) rfl ?_;exact ⟨by first | rfl | (simp [errW_none,errW_some] <;> rfl) | (simp [*,errW_none,errW_some] <;> rfl),hn HB⟩
def bits_Bytes.j0:Nat → Int → Bool → ByteArray → Int → Option (ByteArray × ByteArray × Int × Int)
 |0,_,_,_,_=>none
 |k+1,x1,x14,x220000,x220001=>if x14=true then (some ((⟨#[]⟩:ByteArray),(⟨#[]⟩:ByteArray),0,1)) else ((bits_Align.f x220000 x220001).bind fun bt222=>(if x1 > (wrap64 ((x220000.size:Int) - (wrap64 (Int.tdiv bt222.2 8)))) then (some ((⟨#[]⟩:ByteArray),(⟨#[]⟩:ByteArray),0,2)) else (if 0≤(wrap64 (Int.tdiv bt222.2 8)) then (if (wrap64 (Int.tdiv bt222.2 8))≤(wrap64 ((wrap64 (Int.tdiv bt222.2 8))+x1)) then (if (wrap64 ((wrap64 (Int.tdiv bt222.2 8))+x1))≤(x220000.size:Int) then (some (x220000.extract ((wrap64 (Int.tdiv bt222.2 8)):Int).toNat ((wrap64 ((wrap64 (Int.tdiv bt222.2 8))+x1)):Int).toNat,x220000,wrap64 (8*(wrap64 ((wrap64 (Int.tdiv bt222.2 8))+x1))),0)) else (none)) else (none)) else (none))))
def bits_Bytes.f (k:Nat) (a0_0:ByteArray) (a0_1:Int) (a1:Int):Option (ByteArray × ByteArray × Int × Int):=(bits_right.f a0_0 a0_1).bind fun t221=>(if t221=true then (bits_Bytes.j0 k a1 (decide (a1 < 0)) a0_0 a0_1) else (bits_Bytes.j0 k a1 true a0_0 a0_1))
theorem bits_Bytes.mono_l:∀ k,(∀ y0 y1 y2 y3,LeO (bits_Bytes.j0 k y0 y1 y2 y3) (bits_Bytes.j0 (k+1) y0 y1 y2 y3))
 |0=>fun _ _ _ _ r h=>by simp [bits_Bytes.j0] at h
 |k+1=>by
  have ih0:=bits_Bytes.mono_l k
  ·intro y0 y1 y2 y3;unfold bits_Bytes.j0;repeat' first
   |(with_reducible exact ih0 _ _ _ _)
   |(with_reducible exact LeO.refl _)
   |(with_reducible exact LeO.none _)
   |(with_reducible refine LeO.ite ?_ ?_)
   |(with_reducible refine LeO.bind ?_ (fun _=>?_))
   |exact ih0 _ _ _ _
   |exact LeO.none _
   |refine LeO.ite ?_ ?_
   |refine LeO.bind ?_ (fun _=>?_)
theorem bits_Bytes.mono:∀ a0 a1 a2 k,LeO (bits_Bytes.f k a0 a1 a2) (bits_Bytes.f (k+1) a0 a1 a2):=by
 intro a0 a1 a2 k;have ih0:=bits_Bytes.mono_l k;unfold bits_Bytes.f
 repeat' first
   |(with_reducible exact ih0 _ _ _ _)
   |(with_reducible exact LeO.refl _)
   |(with_reducible exact LeO.none _)
   |(with_reducible refine LeO.ite ?_ ?_)
   |(with_reducible refine LeO.bind ?_ (fun _=>?_))
   |exact ih0 _ _ _ _
   |exact LeO.none _
   |refine LeO.ite ?_ ?_
   |refine LeO.bind ?_ (fun _=>?_)
def bits_Bytes.T6:Bool × List (List Nat × List Nat):=(true,[([],[]),([0],[0]),([],[]),([],[]),([],[]),([3,4],[3,4]),([1,2,5],[1,2,5]),([],[]),([7],[7]),([],[]),([],[]),([9,10],[9,10]),([11],[11]),([8,12],[8,12]),([6,0,1,2,3,4,5,6],[6]),([13,14,0,1,2,3,4,5,6,7,8,9,10,11,12,13,14],[13]),([15,0,1,2,3,4,5,6,7,8,9,10,11,12,13,14,15],[])])
def bits_Bytes.B6:List Nat:=[0,1,0,0,0,24,63,0,128,0,0,1536,3584,8064,127,32767,65535]
theorem bits_Bytes.tab6:rtab .any (opsOf Try.f114 6)=bits_Bytes.T6:=by kernel_rfl
theorem bits_Bytes.bits6:waitsOk bits_Bytes.T6.2 bits_Bytes.B6=true:=by kernel_rfl
set_option maxHeartbeats 8000000 in
set_option maxRecDepth 100000 in
theorem bits_Bytes.calls (k : Nat) (Qd : ByteArray) (Qf : Int) (a1 : Int) (r1 : ByteArray) (r2 : ByteArray) (r3 : Int) (r4 : Int) (w : World) (h : bits_Bytes.f k Qd Qf a1 = some (r1, r2, r3, r4)) :
  Calls Try.prog 114 #[.agg #[.string Qd,.int .i64 Qf],.int .i64 a1] w fun e w'=>e=.returned (.tuple #[.string r1,.agg #[.string r2,.int .i64 r3],.int .i64 r4])∧Below w.heap.size w w':=by
 have hu133:=Try.underlying133;have hfd133:∀ (s:ByteArray) (x:Int) (w:World),(Instr.field 133 (.agg #[.string s,.int .i64 x]) 1).run Try.prog w=.ok (.int .i64 x) w:=fun _ _ _=>by kernel_rfl
 have HB:=Aside0.mk (Below.refl w.heap.size w);have H:=h;unfold bits_Bytes.f at H;clear h;have HC3:=Aside0.mk H;clear H;go_enter Try.func114,Try.ntmps114;go_upto_region 1 with (first | ((with_reducible refine gate_dst (N:=2) rfl ?_);refine boxQ 2 #[.string Qd,.int .i64 Qf] 133 ?_;intro Ql hg w4 hbox hb;have Qa:=Aside0.mk hbox;have GW219:=gs HB hg;have GE219:=gs HB hg;replace HB:=hs HB hb;clear hb hbox hg) | ((with_reducible refine gate_dst (N:=5) rfl ?_);refine boxQ 5 #[.string (⟨#[]⟩:ByteArray),.int .i64 0] 133 ?_;intro Qg hg w5 hbox hb;have Qc:=Aside0.mk hbox;have GW220:=gs HB hg;have GE220:=gs HB hg;replace HB:=hs HB hb;have Qb:=nl Qa hg;have Qe:=ng Qa hg;replace Qa:=bb Qa hb;clear hb hbox hg))
 (try simp only [Act.put,List.setIfInBounds_toArray,List.set_cons_zero,List.set_cons_succ])
 go_cut [14] (fun v14 wc=>∃ (kq:Nat) (Qk:Bool),v14=.bool Qk∧Aside0 (bits_Bytes.j0 kq a1 Qk Qd Qf=some (r1,r2,r3,r4))∧Aside0 (kq≤k)∧Aside0 (wc.heap[Ql]?=some (.cells #[.string Qd,.int .i64 Qf] 133 (0,0)))∧Aside0 (wc.heap[Qg]?=some (.cells #[.string (⟨#[]⟩:ByteArray),.int .i64 0] 133 (0,0)))∧Aside0 (Below w.heap.size w wc))
 case first =>
  have H:=HC3.out;clear HC3;replace H:=Option.bind_eq_some_iff.mp H;obtain ⟨Qq,A60,H⟩:=H;have A6:=Aside0.mk A60;clear A60;by_cases c7:Qq=true
  ·subst c7;(have H1:(bits_Bytes.j0 k a1 (decide (a1 < 0)) Qd Qf)=some (r1,r2,r3,r4):=by rw [if_pos rfl] at H;exact H);clear H;have H:=H1;clear H1;have H':=Aside0.mk H;clear H;have hnb8:=Qb.out;have hnc8:=Qe.out;obtain ⟨hcz9_0,hcz9_1⟩:=cc2 Qa;obtain ⟨hfz9_0,hfz9_1⟩:=ff2 Qa;(go_wp2_with (first | ((with_reducible refine gate_callee (f:=116) rfl ?_);refine goesQ (some 9) Try.func116 #[.agg #[.string Qd,.int .i64 Qf]] ?_;(with_reducible refine (bits_right.calls Qd Qf true _ A6.out).mono ?_);rintro e w10 ⟨rfl,hb⟩;refine ⟨_,rfl,?_⟩;replace Qa:=bb Qa hb;replace Qc:=bb Qc hb;replace HB:=hs HB hb;(try clear hb))));go_meet
   case rel=>exact ⟨_,(decide (a1 < 0)),(by first | rfl | (simp;done) | (simp [*];done)),H',⟨by first | omega | exact Nat.le_refl _⟩,⟨bk Qa⟩,⟨bk Qc⟩,⟨hn HB⟩⟩
  ·replace c7:=Bool.eq_false_iff.mpr c7;subst c7;(have H1:(bits_Bytes.j0 k a1 true Qd Qf)=some (r1,r2,r3,r4):=by rw [if_neg (show ¬ (false=true) by decide)] at H;exact H);clear H;have H:=H1;clear H1;have H':=Aside0.mk H;clear H;have hnb11:=Qb.out;have hnc11:=Qe.out;obtain ⟨_,_⟩:=cc2 Qa;obtain ⟨_,_⟩:=ff2 Qa;(go_wp2_with (first | ((with_reducible refine gate_callee (f:=116) rfl ?_);refine goesQ (some 9) Try.func116 #[.agg #[.string Qd,.int .i64 Qf]] ?_;(with_reducible refine (bits_right.calls Qd Qf false _ A6.out).mono ?_);rintro e w13 ⟨rfl,hb⟩;refine ⟨_,rfl,?_⟩;replace Qa:=bb Qa hb;replace Qc:=bb Qc hb;replace HB:=hs HB hb;(try clear hb))));go_meet
   case rel=>exact ⟨_,(true),(by first | rfl | (simp;done) | (simp [*];done)),H',⟨by first | omega | exact Nat.le_refl _⟩,⟨bk Qa⟩,⟨bk Qc⟩,⟨hn HB⟩⟩
 clear HC3;obtain ⟨kq,Qk,rfl,HA,HJ2,Qa,Qc,HB⟩:=hcut
 rcases kq with _ | kj2
 ·exact absurd HA.out (by simp [bits_Bytes.j0])
 have H:=HA.out;clear HA;simp only [bits_Bytes.j0] at H;by_cases c14:Qk=true
 ·subst c14;have H1:(some ((⟨#[]⟩:ByteArray),(⟨#[]⟩:ByteArray),0,1))=some (r1,r2,r3,r4):=by rw [if_pos rfl] at H;exact H
  clear H;have H:=H1;clear H1;simp only [Option.some.injEq,Prod.mk.injEq] at H;obtain ⟨rfl,rfl,rfl,rfl⟩:=H;have hnb15:=Qe.out;have hnc15:=Qb.out;obtain ⟨hcz16_0,hcz16_1⟩:=cc2 Qc;obtain ⟨hfz16_0,hfz16_1⟩:=ff2 Qc;go_wp2;refine bodyPost_ret (results_list (rs:=[.tmp 4,.cell 5 133,.tmp 6]) rfl (by simp) (.tmp (.cell Qg 133 #[.string (⟨#[]⟩:ByteArray),.int .i64 0] (0,0) _ rfl (bq Qc) Try.underlying133 rfl (by kernel_rfl) (.tmp .nil)))) rfl ?_;exact ⟨by first | rfl | (simp [errW_none,errW_some] <;> rfl) | (simp [*,errW_none,errW_some] <;> rfl),hn HB⟩
 ·replace c14:=Bool.eq_false_iff.mpr c14;subst c14;have H1:((bits_Align.f Qd Qf).bind fun Qi=>(if a1 > (wrap64 ((Qd.size:Int) - (wrap64 (Int.tdiv Qi.2 8)))) then (some ((⟨#[]⟩:ByteArray),(⟨#[]⟩:ByteArray),0,2)) else (if 0≤(wrap64 (Int.tdiv Qi.2 8)) then (if (wrap64 (Int.tdiv Qi.2 8))≤(wrap64 ((wrap64 (Int.tdiv Qi.2 8))+a1)) then (if (wrap64 ((wrap64 (Int.tdiv Qi.2 8))+a1))≤(Qd.size:Int) then (some (Qd.extract ((wrap64 (Int.tdiv Qi.2 8)):Int).toNat ((wrap64 ((wrap64 (Int.tdiv Qi.2 8))+a1)):Int).toNat,Qd,wrap64 (8*(wrap64 ((wrap64 (Int.tdiv Qi.2 8))+a1))),0)) else (none)) else (none)) else (none))))=some (r1,r2,r3,r4):=by rw [if_neg (show ¬ (false=true) by decide)] at H;exact H
  clear H;have H:=H1;clear H1;replace H:=Option.bind_eq_some_iff.mp H;obtain ⟨⟨Qo,Qm⟩,Qp,H⟩:=H;have A17:=Aside0.mk Qp;clear Qp;by_cases c18:a1 > (wrap64 ((Qd.size:Int) - (wrap64 (Int.tdiv Qm 8))))
  ·rw [if_pos c18] at H;have Qn:=decide_eq_true c18;clear c18;simp only [Option.some.injEq,Prod.mk.injEq] at H;obtain ⟨rfl,rfl,rfl,rfl⟩:=H;have hnb19:=Qb.out;have hnc19:=Qe.out;obtain ⟨_,_⟩:=cc2 Qa;obtain ⟨_,_⟩:=ff2 Qa;(go_wp2_with (first | ((with_reducible refine gate_callee (f:=117) rfl ?_);refine goesQ (some 17) Try.func117 #[.agg #[.string Qd,.int .i64 Qf]] ?_;(with_reducible refine (bits_Align.calls Qd Qf Qo Qm _ A17.out).mono ?_);rintro e w21 ⟨rfl,hb⟩;refine ⟨_,rfl,?_⟩;replace Qa:=bb Qa hb;replace Qc:=bb Qc hb;replace HB:=hs HB hb;(try clear hb);obtain ⟨_,_⟩:=cc2 Qa;obtain ⟨_,_⟩:=ff2 Qa;obtain ⟨_,_⟩:=cc2 Qc;obtain ⟨_,_⟩:=ff2 Qc)));refine bodyPost_ret (results_list (rs:=[.tmp 4,.cell 5 133,.tmp 6]) rfl (by simp) (.tmp (.cell Qg 133 #[.string (⟨#[]⟩:ByteArray),.int .i64 0] (0,0) _ rfl (bq Qc) Try.underlying133 rfl (by kernel_rfl) (.tmp .nil)))) rfl ?_;exact ⟨by first | rfl | (simp [errW_none,errW_some] <;> rfl) | (simp [*,errW_none,errW_some] <;> rfl),hn HB⟩
  ·rw [if_neg c18] at H;have Qn:=decide_eq_false c18;clear c18;obtain ⟨Qh,Qj⟩:∃ j_:Int,(wrap64 (Int.tdiv Qm 8))=j_:=⟨_,rfl⟩;(replace H:(if 0≤(Qh) then (if (Qh)≤(wrap64 ((Qh)+a1)) then (if (wrap64 ((Qh)+a1))≤(Qd.size:Int) then (some (Qd.extract ((Qh):Int).toNat ((wrap64 ((Qh)+a1)):Int).toNat,Qd,wrap64 (8*(wrap64 ((Qh)+a1))),0)) else (none)) else (none)) else (none))=some (r1,r2,r3,r4):=by first | (rw [Qj] at H;exact H) | (simp only [Qj] at H ⊢;exact H))
   (try rw [Qj] at Qn)
   (try rw [Qj] at A17)
   have hji24w:(IntKind.i64.wrap (Int.tdiv Qm 8))=Qh:=(i64_w _).trans Qj;by_cases c25:0≤(Qh);rotate_left
   ·rw [if_neg c25] at H;exact absurd H (by simp)
   rw [if_pos c25] at H;have c25b0:=eq_true c25;have c25b1:=decide_eq_true c25;clear c25;by_cases c26:(Qh)≤(wrap64 ((Qh)+a1));rotate_left
   ·rw [if_neg c26] at H;exact absurd H (by simp)
   rw [if_pos c26] at H;have c26b0:=eq_true c26;have c26b1:=decide_eq_true c26;by_cases c27:(wrap64 ((Qh)+a1))≤(Qd.size:Int);rotate_left
   ·rw [if_neg c27] at H;exact absurd H (by simp)
   rw [if_pos c27] at H;have c27b0:=eq_true c27;have c27b1:=decide_eq_true c27;simp only [Option.some.injEq,Prod.mk.injEq] at H;obtain ⟨rfl,rfl,rfl,rfl⟩:=H;have hnb28:=Qb.out;have hnc28:=Qe.out;obtain ⟨_,_⟩:=cc2 Qa;obtain ⟨_,_⟩:=ff2 Qa;(try go_wp2_with (first | ((with_reducible refine gate_callee (f:=117) rfl ?_);refine goesQ (some 17) Try.func117 #[.agg #[.string Qd,.int .i64 Qf]] ?_;(with_reducible refine (bits_Align.calls Qd Qf Qo Qm _ A17.out).mono ?_);rintro e w30 ⟨rfl,hb⟩;refine ⟨_,rfl,?_⟩;replace Qa:=bb Qa hb;replace Qc:=bb Qc hb;replace HB:=hs HB hb;(try clear hb);obtain ⟨_,_⟩:=cc2 Qa;obtain ⟨_,_⟩:=ff2 Qa)));replace Qa:=Aside0.mk (blk_drew Qa.out);replace Qc:=Aside0.mk (blk_drew Qc.out);replace HB:=Aside0.mk (below_drew1 HB.out);refine start_ (n:=17) (S:=fun w'=>w'.cell? ⟨Ql,0,none⟩=some (.string Qd)∧w'.cell? ⟨Ql,1,none⟩=some (.int .i64 Qf)) (ds:=[]) #[false,false,false,false,false,false,false,false,false,false,false,false,false,false,false,false,false] (by kernel_rfl) rfl rfl (cc2 Qa) (fun hHeld=>?_);refine with_tabW bits_Bytes.tab6 bits_Bytes.bits6 (fun HT_ HW_=>?_);generalize w30.drew=w32 at Qa Qc HB hHeld ⊢;refine pureQ 0 (some 28) (tk 1 16) (any_of HT_.out (by kernel_rfl)) ?_;refine pureQ 2 (some 30) #[true,false,true,false,false,false,false,false,false,false,false,false,false,false,false,false,false] (any_of HT_.out (by kernel_rfl)) ?_;refine pureQ 3 (some 31) #[true,false,true,true,false,false,false,false,false,false,false,false,false,false,false,false,false] (any_of HT_.out (by kernel_rfl)) ?_
   refine pureQ 4 (some 32) #[true,false,true,true,true,false,false,false,false,false,false,false,false,false,false,false,false] (any_of HT_.out (by kernel_rfl)) ?_;refine pureQ 5 (some 33) #[true,false,true,true,true,true,false,false,false,false,false,false,false,false,false,false,false] (any_of HT_.out (by kernel_rfl)) ?_;refine pureQ 7 (some 35) #[true,false,true,true,true,true,false,true,false,false,false,false,false,false,false,false,false] (any_of HT_.out (by kernel_rfl)) ?_;refine pureQ 9 (some 37) #[true,false,true,true,true,true,false,true,false,true,false,false,false,false,false,false,false] (any_of HT_.out (by kernel_rfl)) ?_;refine pureQ 10 (some 38) #[true,false,true,true,true,true,false,true,false,true,true,false,false,false,false,false,false] (any_of HT_.out (by kernel_rfl)) ?_;refine pureQ 11 (some 39) #[true,false,true,true,true,true,false,true,false,true,true,true,false,false,false,false,false] (any_of HT_.out (by kernel_rfl)) ?_;refine pureQ 12 (some 40) #[true,false,true,true,true,true,false,true,false,true,true,true,true,false,false,false,false] (any_of HT_.out (by kernel_rfl)) ?_;refine take_ (i:=1) (N:=some 29) (v:=?_) (a':=?_) #[true,true,true,true,true,true,false,true,false,true,true,true,true,false,false,false,false] rfl rfl (take_ofW HT_.out HW_.out (by kernel_rfl)) (fun _ _ _ h=>h) (Or.inl ⟨by rfl,?_⟩) hHeld ?_ ?_;rotate_left
   ·rintro w' ⟨s0,s1⟩;go_simp;with_reducible rfl
   rotate_left
   ·simp only [Act.put,List.setIfInBounds_toArray,List.set_cons_zero,List.set_cons_succ,i64_w,i32_w];rfl
   refine pureQ 6 (some 34) #[true,true,true,true,true,true,true,true,false,true,true,true,true,false,false,false,false] (any_of HT_.out (by kernel_rfl)) ?_;refine pureQ 14 (some 4) #[true,true,true,true,true,true,true,true,false,true,true,true,true,false,true,false,false] (any_of HT_.out (by kernel_rfl)) ?_;refine take_ (i:=8) (N:=some 36) (v:=?_) (a':=?_) #[true,true,true,true,true,true,true,true,true,true,true,true,true,false,true,false,false] rfl rfl (take_ofW HT_.out HW_.out (by kernel_rfl)) (fun _ _ _ h=>h) (Or.inl ⟨by rfl,?_⟩) hHeld ?_ ?_;rotate_left
   ·rintro w' ⟨s0,s1⟩;go_simp;with_reducible rfl
   rotate_left
   ·simp only [Act.put,List.setIfInBounds_toArray,List.set_cons_zero,List.set_cons_succ,i64_w,i32_w];rfl
   refine pureQ 13 (some 41) (tk 15 2) (any_of HT_.out (by kernel_rfl)) ?_;refine one_ (i:=15) (N:=none) (tk 16 1) rfl rfl (one_of HT_.out (by kernel_rfl)) (by decide) (fun K hK=>?_);have hs33:w32.cell? ⟨Qg,0,none⟩=some (.string (⟨#[]⟩:ByteArray)):=(blk_cell Qc.out 0).trans rfl;have hfs33:=blk_frozen Qc.out 0;have hns33_0:=Qb.out;have hms33_0:=Qe.out;have hs34:w32.cell? ⟨Qg,1,none⟩=some (.int .i64 0):=(blk_cell Qc.out 1).trans rfl;have hfs34:=blk_frozen Qc.out 1;have hns34_0:=Qb.out;have hms34_0:=Qe.out;refine skip_ (w1:=?_) (by rfl) rfl ?_ ?_;rotate_left
   ·go_simp;rfl
   refine hK.out _ _ ⟨((cell_far (p:=⟨Qg,_,none⟩) Qb.out _).trans (((cell_far (p:=⟨Qg,_,none⟩) Qb.out _).trans (hHeld.1)))),((cell_far (p:=⟨Qg,_,none⟩) Qb.out _).trans (((cell_far (p:=⟨Qg,_,none⟩) Qb.out _).trans (hHeld.2))))⟩ (fun hHeld=>?_);clear hK K;refine pureQ 16 (some 6) (tk 17 0) (any_of HT_.out (by kernel_rfl)) ?_;refine done_ (done_of HT_.out (by kernel_rfl)) ?_;(try go_wp2);refine bodyPost_ret (results_list (rs:=[.tmp 4,.cell 5 133,.tmp 6]) rfl (by simp) (.tmp (.cell Qg 133 #[.string Qd,.int .i64 (wrap64 (8*(wrap64 ((Qh)+a1))))] (0,0) _ rfl (bq Qc) Try.underlying133 rfl (by kernel_rfl) (.tmp .nil)))) rfl ?_;exact ⟨by first | rfl | (simp [errW_none,errW_some] <;> rfl) | (simp only [← Qj];first | rfl | (simp [errW_none,errW_some] <;> rfl)) | (simp [*,errW_none,errW_some] <;> rfl),hn HB⟩
end Go.Proofs.Ytpbhkdamkbopkaa.GPix
namespace Go.Proofs.Ytpbhkdamkbopkaa.GPix
open Go.Proofs.Ytpbhkdamkbopkaa.Sq
open Go.RowKit Go.Proofs.YtpbhkdamkbopkaaW.PrintWords Go.Proofs.YtpbhkdamkbopkaaW.PrintLast Go.Proofs.YtpbhkdamkbopkaaW.PrintMore Go.Proofs.Ytpbhkdamkbopkaa.Wr2 Go.Proofs.Ytpbhkdamkbopkaa.Wr1 Go.Proofs.Ytpbhkdamkbopkaa.GRuns Go.Proofs.Ytpbhkdamkbopkaa.GBack2
attribute [local go_sem] max2_int min2_int max_two min_two max_three min_three max_four min_four
set_option linter.unusedVariables false
set_option linter.unusedSimpArgs false
mutual
def bits_Little.j0:Nat → Int → Bool → ByteArray → Int → Option (Int × ByteArray × Int × Int)
 |0,_,_,_,_=>none
 |k+1,x1,x17,x225000,x225001=>if x17=true then (some (0,(⟨#[]⟩:ByteArray),0,1)) else ((bits_Bytes.f k x225000 x225001 x1).bind fun bt226=>(bits_Little.l0 k bt226.1 bt226.2.2.2 0 (wrap64 ((bt226.1.size:Int) - 1)) bt226.2.1 bt226.2.2.1))
def bits_Little.l0:Nat → ByteArray → Int → Int → Int → ByteArray → Int → Option (Int × ByteArray × Int × Int)
 |0,_,_,_,_,_,_=>none
 |k+1,x7,x9,x10,x11,x231000,x231001=>if x11 ≥ 0 then (if 0≤x11 then (if x11 < (x7.size:Int) then (bits_Little.l0 k x7 x9 (Go.bits .or .i64 (wrap64 (x10*256)) (wrap64 (bt x7 x11))) (wrap64 (x11 - 1)) x231000 x231001) else (none)) else (none)) else (some (x10,x231000,x231001,x9))
end
def bits_Little.f (k:Nat) (a0_0:ByteArray) (a0_1:Int) (a1:Int):Option (Int × ByteArray × Int × Int):=if a1 < 1 then (bits_Little.j0 k a1 true a0_0 a0_1) else (bits_Little.j0 k a1 (decide (a1 > 4)) a0_0 a0_1)
theorem bits_Little.mono_l:∀ k,(∀ y0 y1 y2 y3,LeO (bits_Little.j0 k y0 y1 y2 y3) (bits_Little.j0 (k+1) y0 y1 y2 y3))∧(∀ y0 y1 y2 y3 y4 y5,LeO (bits_Little.l0 k y0 y1 y2 y3 y4 y5) (bits_Little.l0 (k+1) y0 y1 y2 y3 y4 y5))
 |0=>⟨fun _ _ _ _ r h=>by simp [bits_Little.j0] at h,fun _ _ _ _ _ _ r h=>by simp [bits_Little.l0] at h⟩
 |k+1=>by
  obtain ⟨ih0,ih1⟩:=bits_Little.mono_l k;refine ⟨?_,?_⟩
  ·intro y0 y1 y2 y3;unfold bits_Little.j0;repeat' first
   |(with_reducible exact ih0 _ _ _ _)
   |(with_reducible exact ih1 _ _ _ _ _ _)
   |(with_reducible exact bits_Bytes.mono _ _ _ _)
   |(with_reducible exact LeO.refl _)
   |(with_reducible exact LeO.none _)
   |(with_reducible refine LeO.ite ?_ ?_)
   |(with_reducible refine LeO.bind ?_ (fun _=>?_))
   |exact ih0 _ _ _ _
   |exact ih1 _ _ _ _ _ _
   |exact bits_Bytes.mono _ _ _ _
   |exact LeO.none _
   |refine LeO.ite ?_ ?_
   |refine LeO.bind ?_ (fun _=>?_)
  ·intro y0 y1 y2 y3 y4 y5;unfold bits_Little.l0;repeat' first
   |(with_reducible exact ih0 _ _ _ _)
   |(with_reducible exact ih1 _ _ _ _ _ _)
   |(with_reducible exact bits_Bytes.mono _ _ _ _)
   |(with_reducible exact LeO.refl _)
   |(with_reducible exact LeO.none _)
   |(with_reducible refine LeO.ite ?_ ?_)
   |(with_reducible refine LeO.bind ?_ (fun _=>?_))
   |exact ih0 _ _ _ _
   |exact ih1 _ _ _ _ _ _
   |exact bits_Bytes.mono _ _ _ _
   |exact LeO.none _
   |refine LeO.ite ?_ ?_
   |refine LeO.bind ?_ (fun _=>?_)
theorem bits_Little.mono:∀ a0 a1 a2 k,LeO (bits_Little.f k a0 a1 a2) (bits_Little.f (k+1) a0 a1 a2):=by
 intro a0 a1 a2 k;obtain ⟨ih0,ih1⟩:=bits_Little.mono_l k;unfold bits_Little.f
 repeat' first
   |(with_reducible exact ih0 _ _ _ _)
   |(with_reducible exact ih1 _ _ _ _ _ _)
   |(with_reducible exact bits_Bytes.mono _ _ _ _)
   |(with_reducible exact LeO.refl _)
   |(with_reducible exact LeO.none _)
   |(with_reducible refine LeO.ite ?_ ?_)
   |(with_reducible refine LeO.bind ?_ (fun _=>?_))
   |exact ih0 _ _ _ _
   |exact ih1 _ _ _ _ _ _
   |exact bits_Bytes.mono _ _ _ _
   |exact LeO.none _
   |refine LeO.ite ?_ ?_
   |refine LeO.bind ?_ (fun _=>?_)
set_option maxHeartbeats 8000000 in
set_option maxRecDepth 100000 in
theorem bits_Little.calls (k : Nat) (Qk : ByteArray) (Ql : Int) (a1 : Int) (r1 : Int) (r2 : ByteArray) (r3 : Int) (r4 : Int) (w : World) (h : bits_Little.f k Qk Ql a1 = some (r1, r2, r3, r4)) :
  Calls Try.prog 105 #[.agg #[.string Qk,.int .i64 Ql],.int .i64 a1] w fun e w'=>e=.returned (.tuple #[.int .i64 r1,.agg #[.string r2,.int .i64 r3],.int .i64 r4])∧Below w.heap.size w w':=by
 have hu133:=Try.underlying133;have HB:=Aside0.mk (Below.refl w.heap.size w);have H:=h;unfold bits_Little.f at H;clear h;have HC3:=Aside0.mk H;clear H;go_enter Try.func105,Try.ntmps105;go_upto_region 1 with (first | ((with_reducible refine gate_dst (N:=2) rfl ?_);refine boxQ 2 #[.string Qk,.int .i64 Ql] 133 ?_;intro QD hg w4 hbox hb;have Qb:=Aside0.mk hbox;have GW224:=gs HB hg;have GE224:=gs HB hg;replace HB:=hs HB hb;clear hb hbox hg) | ((with_reducible refine gate_dst (N:=5) rfl ?_);refine boxQ 5 #[.string (⟨#[]⟩:ByteArray),.int .i64 0] 133 ?_;intro Qh hg w5 hbox hb;have Qa:=Aside0.mk hbox;have GW225:=gs HB hg;have GE225:=gs HB hg;replace HB:=hs HB hb;have Qf:=nl Qb hg;have Qg:=ng Qb hg;replace Qb:=bb Qb hb;clear hb hbox hg))
 (try simp only [Act.put,List.setIfInBounds_toArray,List.set_cons_zero,List.set_cons_succ])
 go_cut [17] (fun v17 wc=>∃ (kq:Nat) (Qo:Bool),v17=.bool Qo∧Aside0 (bits_Little.j0 kq a1 Qo Qk Ql=some (r1,r2,r3,r4))∧Aside0 (kq≤k)∧Aside0 (wc.heap[QD]?=some (.cells #[.string Qk,.int .i64 Ql] 133 (0,0)))∧Aside0 (wc.heap[Qh]?=some (.cells #[.string (⟨#[]⟩:ByteArray),.int .i64 0] 133 (0,0)))∧Aside0 (Below w.heap.size w wc))
 case first =>
  have H:=HC3.out;clear HC3;by_cases c6:a1 < 1
  ·rw [if_pos c6] at H;have Qs:=decide_eq_true c6;clear c6
   (first | rw [Qs] | (simp only [i64_w,i32_w];rw [Qs]) | skip)
   have H':=Aside0.mk H;clear H;go_wp2;go_meet
   case rel=>exact ⟨_,(true),(by first | rfl | (simp;done) | (simp [*];done)),H',⟨by first | omega | exact Nat.le_refl _⟩,⟨bk Qb⟩,⟨bk Qa⟩,⟨hn HB⟩⟩
  rw [if_neg c6] at H;have Qs:=decide_eq_false c6;clear c6
  (first | rw [Qs] | (simp only [i64_w,i32_w];rw [Qs]) | skip)
  have H':=Aside0.mk H;clear H;go_wp2;go_meet
  case rel=>exact ⟨_,(decide (a1 > 4)),(by first | rfl | (simp;done) | (simp [*];done)),H',⟨by first | omega | exact Nat.le_refl _⟩,⟨bk Qb⟩,⟨bk Qa⟩,⟨hn HB⟩⟩
 clear HC3;obtain ⟨kq,Qo,rfl,HA,HJ2,Qb,Qa,HB⟩:=hcut
 rcases kq with _ | kj2
 ·exact absurd HA.out (by simp [bits_Little.j0])
 have H:=HA.out;clear HA;simp only [bits_Little.j0] at H;by_cases c7:Qo=true
 ·subst c7;have H1:(some (0,(⟨#[]⟩:ByteArray),0,1))=some (r1,r2,r3,r4):=by rw [if_pos rfl] at H;exact H
  clear H;have H:=H1;clear H1;simp only [Option.some.injEq,Prod.mk.injEq] at H;obtain ⟨rfl,rfl,rfl,rfl⟩:=H;have hnb8:=Qg.out;have hnc8:=Qf.out;obtain ⟨_,_⟩:=cc2 Qa;obtain ⟨_,_⟩:=ff2 Qa;go_wp2;refine bodyPost_ret (results_list (rs:=[.tmp 4,.cell 5 133,.tmp 6]) rfl (by simp) (.tmp (.cell Qh 133 #[.string (⟨#[]⟩:ByteArray),.int .i64 0] (0,0) _ rfl (bq Qa) Try.underlying133 rfl (by kernel_rfl) (.tmp .nil)))) rfl ?_;exact ⟨by first | rfl | (simp [errW_none,errW_some] <;> rfl) | (simp [*,errW_none,errW_some] <;> rfl),hn HB⟩
 replace c7:=Bool.eq_false_iff.mpr c7;subst c7;have H1:((bits_Bytes.f kj2 Qk Ql a1).bind fun Qm=>(bits_Little.l0 kj2 Qm.1 Qm.2.2.2 0 (wrap64 ((Qm.1.size:Int) - 1)) Qm.2.1 Qm.2.2.1))=some (r1,r2,r3,r4):=by rw [if_neg (show ¬ (false=true) by decide)] at H;exact H
 clear H;have H:=H1;clear H1;replace H:=Option.bind_eq_some_iff.mp H;obtain ⟨⟨Qn,Qq,Qt,QE⟩,QF,H⟩:=H;have A10:=Aside0.mk QF;clear QF;have H':=Aside0.mk H;clear H;have hnb11:=Qf.out;have hnc11:=Qg.out;obtain ⟨Qv,Qw⟩:=cc2 Qb;obtain ⟨Qx,Qy⟩:=ff2 Qb;go_wp2_with (first | ((with_reducible refine gate_callee (f:=114) rfl ?_);refine goesQ (some 22) Try.func114 #[.agg #[.string Qk,.int .i64 Ql],.int .i64 a1] ?_;(with_reducible refine (bits_Bytes.calls kj2 Qk Ql a1 Qn Qq Qt QE _ A10.out).mono ?_);rintro e w13 ⟨rfl,hb⟩;refine ⟨_,rfl,?_⟩;replace Qb:=bb Qb hb;replace Qa:=bb Qa hb;replace HB:=hs HB hb;(try clear hb)) | ((with_reducible refine gate_dst (N:=8) rfl ?_);refine boxQ 8 #[.string (⟨#[]⟩:ByteArray),.int .i64 0] 133 ?_;intro Qu hg w14 hbox hb;have Qi:=Aside0.mk hbox;have GW230:=gs HB hg;have GE230:=gs HB hg;replace HB:=hs HB hb;have Qj:=nl Qb hg;have Qr:=ng Qb hg;replace Qb:=bb Qb hb;have Qd:=nl Qa hg;have Qc:=ng Qa hg;replace Qa:=bb Qa hb;clear hb hbox hg;have hnb15:=Qr.out;have hnc15:=Qj.out;have hnb16:=Qc.out;have hnc16:=Qd.out;obtain ⟨Qz,QA⟩:=cc2 Qi;obtain ⟨QB,QC⟩:=ff2 Qi))
 go_loopg [10,11] kj2 (fun kq v10 v11 w'=>∃ (Qp:Int) (Qe:Int),v10=.int .i64 Qp∧v11=.int .i64 Qe∧Aside0 (bits_Little.l0 kq Qn QE Qp Qe Qq Qt=some (r1,r2,r3,r4))∧Aside0 (kq≤kj2)∧Aside0 (w'.heap[QD]?=some (.cells #[.string Qk,.int .i64 Ql] 133 (0,0)))∧Aside0 (w'.heap[Qh]?=some (.cells #[.string (⟨#[]⟩:ByteArray),.int .i64 0] 133 (0,0)))∧Aside0 (w'.heap[Qu]?=some (.cells #[.string Qq,.int .i64 Qt] 133 (0,0)))∧Aside0 (Below w.heap.size w w'))
 case atStart=>exact ⟨(0),(wrap64 ((Qn.size:Int) - 1)),(by first | rfl | (simp;done) | (simp [*];done)),(by first | rfl | (simp;done) | (simp [*];done)),H',⟨Nat.le_refl _⟩,⟨by (with_reducible repeat (first | refine blk_drewN ?_ _ | refine blk_drew ?_ | refine blk_alloc ?_ _));refine blk_far ?_ Qj.out _;(with_reducible repeat (first | refine blk_drewN ?_ _ | refine blk_drew ?_ | refine blk_alloc ?_ _));refine blk_far ?_ Qj.out _;(with_reducible repeat (first | refine blk_drewN ?_ _ | refine blk_drew ?_ | refine blk_alloc ?_ _));exact Qb.out⟩,⟨by (with_reducible repeat (first | refine blk_drewN ?_ _ | refine blk_drew ?_ | refine blk_alloc ?_ _));refine blk_far ?_ Qd.out _;(with_reducible repeat (first | refine blk_drewN ?_ _ | refine blk_drew ?_ | refine blk_alloc ?_ _));refine blk_far ?_ Qd.out _;(with_reducible repeat (first | refine blk_drewN ?_ _ | refine blk_drew ?_ | refine blk_alloc ?_ _));exact Qa.out⟩,⟨by (with_reducible repeat (first | refine blk_drewN ?_ _ | refine blk_drew ?_ | refine blk_alloc ?_ _));refine blk_put (cs:=#[.string Qq,.int .i64 0]) ?_ 1 _ rfl;(with_reducible repeat (first | refine blk_drewN ?_ _ | refine blk_drew ?_ | refine blk_alloc ?_ _));refine blk_put (cs:=#[.string (⟨#[]⟩:ByteArray),.int .i64 0]) ?_ 0 _ rfl;(with_reducible repeat (first | refine blk_drewN ?_ _ | refine blk_drew ?_ | refine blk_alloc ?_ _));exact Qi.out⟩,⟨hn HB⟩⟩
 clear H';clear Qv Qw Qz QA Qx Qy QB QC;obtain ⟨Qp,Qe,rfl,rfl,HA,HK2,Qb,Qa,Qi,HB⟩:=hrel
 rcases gk with _ | k2
 ·exact absurd HA.out (by simp [bits_Little.l0])
 have H:=HA.out;clear HA;simp only [bits_Little.l0] at H;by_cases c18:Qe ≥ 0
 ·rw [if_pos c18] at H;have QG:=decide_eq_true c18;clear c18;by_cases c19:0≤Qe;rotate_left
  ·rw [if_neg c19] at H;exact absurd H (by simp)
  rw [if_pos c19] at H;have c19b0:=decide_eq_true c19;clear c19;by_cases c20:Qe < (Qn.size:Int);rotate_left
  ·rw [if_neg c20] at H;exact absurd H (by simp)
  rw [if_pos c20] at H;have c20b0:=decide_eq_true c20;clear c20;have H':=Aside0.mk H;clear H;have p21:0≤(Qe:Int):=pd;have q21:Qe < (Qn.size:Int):=pd;have hx21:=bt_at Qn Qe;replace p21:=eq_true p21;replace q21:=eq_true q21;go_wp2;go_roundg k2
  case measure=>have:=HJ2.out;have:=HK2.out;omega
  case rel=>exact ⟨(Go.bits .or .i64 (wrap64 (Qp*256)) (wrap64 (bt Qn Qe))),(wrap64 (Qe - 1)),(by first | rfl | (simp;done) | (simp [*];done)),(by first | rfl | (simp;done) | (simp [*];done)),H',⟨by have:=HJ2.out;have:=HK2.out;omega⟩,⟨bk Qb⟩,⟨bk Qa⟩,⟨bk Qi⟩,⟨hn HB⟩⟩
 ·rw [if_neg c18] at H;have QG:=decide_eq_false c18;clear c18;simp only [Option.some.injEq,Prod.mk.injEq] at H;obtain ⟨rfl,rfl,rfl,rfl⟩:=H;try go_wp2
  replace Qb:=Aside0.mk (blk_drew Qb.out);replace Qa:=Aside0.mk (blk_drew Qa.out);replace Qi:=Aside0.mk (blk_drew Qi.out);replace HB:=Aside0.mk (below_drew1 HB.out);refine start_ (n:=6) (S:=fun w'=>w'.cell? ⟨Qu,0,none⟩=some (.string Qq)∧w'.cell? ⟨Qu,1,none⟩=some (.int .i64 Qt)) (ds:=[]) #[false,false,false,false,false,false] (by kernel_rfl) rfl rfl (cc2 Qi) (fun hHeld=>?_);generalize wr.drew=w22 at Qb Qa Qi HB hHeld ⊢;refine pureQ 0 (some 40) (tk 1 5) (by kernel_rfl) ?_;refine pureQ 2 (some 42) #[true,false,true,false,false,false] (by kernel_rfl) ?_;refine pureQ 3 (some 4) #[true,false,true,true,false,false] (by kernel_rfl) ?_;refine take_ (i:=1) (N:=some 41) (v:=?_) (a':=?_) (tk 4 2) rfl rfl (by kernel_rfl) (fun _ _ _ h=>h) (Or.inl ⟨by rfl,?_⟩) hHeld ?_ ?_;rotate_left
  ·rintro w' ⟨s0,s1⟩;go_simp;with_reducible rfl
  rotate_left
  ·simp only [Act.put,List.setIfInBounds_toArray,List.set_cons_zero,List.set_cons_succ,i64_w,i32_w];rfl
  refine one_ (i:=4) (N:=none) (tk 5 1) rfl rfl (by kernel_rfl) (by decide) (fun K hK=>?_);have hs23:w22.cell? ⟨Qh,0,none⟩=some (.string (⟨#[]⟩:ByteArray)):=(blk_cell Qa.out 0).trans rfl;have hfs23:=blk_frozen Qa.out 0;have hns23_0:=Qf.out;have hns23_2:=Qc.out;have hms23_0:=Qg.out;have hms23_2:=Qd.out;have hs24:w22.cell? ⟨Qh,1,none⟩=some (.int .i64 0):=(blk_cell Qa.out 1).trans rfl;have hfs24:=blk_frozen Qa.out 1;have hns24_0:=Qf.out;have hns24_2:=Qc.out;have hms24_0:=Qg.out;have hms24_2:=Qd.out;refine skip_ (w1:=?_) (by rfl) rfl ?_ ?_;rotate_left
  ·go_simp;rfl
  refine hK.out _ _ ⟨((cell_far (p:=⟨Qh,_,none⟩) Qc.out _).trans (((cell_far (p:=⟨Qh,_,none⟩) Qc.out _).trans (hHeld.1)))),((cell_far (p:=⟨Qh,_,none⟩) Qc.out _).trans (((cell_far (p:=⟨Qh,_,none⟩) Qc.out _).trans (hHeld.2))))⟩ (fun hHeld=>?_);clear hK K;refine pureQ 5 (some 6) (tk 6 0) (by kernel_rfl) ?_;refine done_ (by kernel_rfl) ?_;try go_wp2
  refine bodyPost_ret (results_list (rs:=[.tmp 4,.cell 5 133,.tmp 6]) rfl (by simp) (.tmp (.cell Qh 133 #[.string Qq,.int .i64 Qt] (0,0) _ rfl (bq Qa) Try.underlying133 rfl (by kernel_rfl) (.tmp .nil)))) rfl ?_;exact ⟨by first | rfl | (simp [errW_none,errW_some] <;> rfl) | (simp [*,errW_none,errW_some] <;> rfl),hn HB⟩
end Go.Proofs.Ytpbhkdamkbopkaa.GPix
