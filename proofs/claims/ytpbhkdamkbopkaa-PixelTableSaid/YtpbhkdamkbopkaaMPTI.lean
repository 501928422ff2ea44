/- Parts of the proof, glued by a program of this session (wip/tools/claimfit.py). -/
import Derived.Test.YtpbhkdamkbopkaaMPTH
namespace Go.Proofs.Ytpbhkdamkbopkaa.Pure
open Go.RowKit Go.Proofs.Ytpbhkdamkbopkaa.Ext Go.Proofs.Ytpbhkdamkbopkaa.GBack2 Go.Proofs.Ytpbhkdamkbopkaa.Wr1 Go.Proofs.Ytpbhkdamkbopkaa.Wr2 Go.Proofs.Ytpbhkdamkbopkaa.Inf Go.Proofs.Ytpbhkdamkbopkaa.Bk Go.Proofs.YtpbhkdamkbopkaaW.PrintWords Go.Proofs.YtpbhkdamkbopkaaW.PrintLast
open Go.Proofs.Ytpbhkdamkbopkaa.Wr (pk RB)
/-- The sum of bytes. -/
def sm (s:ByteArray):Int:=ASumB.fin (ASumB.run (1,0) (ASumB.bts s))
theorem sm_rng (s:ByteArray):0≤sm s∧sm s < 4294967296:=by
 have hrng:=ASumB.run_rng (ASumB.bts s) (1,0) ASumB.rng_one
 unfold sm ASumB.fin
 obtain ⟨r1,r2,r3,r4⟩:=hrng
 omega
def packed (s:ByteArray):ByteArray:=strOfNums (pk (RB s))
def tail4 (t:Int):ByteArray:=strOfNums [t / 16777216 % 256,t / 65536 % 256,t / 256 % 256,t % 256]
def clo (s:ByteArray):ByteArray:=(⟨#[120,156]⟩ ++ packed s) ++ tail4 (sm s)
theorem packed_size (s:ByteArray):(packed s).size=((RB s).length+7) / 8:=pk_size _
theorem packed_short (s:ByteArray):(packed s).size≤(9*s.size+17) / 8:=by
 have:=RB_short s
 rw [packed_size];omega
theorem tail4_size (t:Int):(tail4 t).size=4:=rfl
theorem clo_size (s:ByteArray):(clo s).size=(packed s).size+6:=by
 unfold clo
 rw [ByteArray.size_append,ByteArray.size_append,tail4_size,show (⟨#[120,156]⟩:ByteArray).size=2 from rfl]
 omega
theorem raw_is0 (s:ByteArray) (hs:s.size≤262144):deflate_Raw.f s=some (packed s,0):=by unfold deflate_Raw.f;rw [if_pos hs];rfl
theorem close_is (s:ByteArray) (hs:s.size≤262144) (k:Nat) (hk:s.size < k):deflate_Close.f k s=some (clo s,0):=by
 have hR:=packed_short s
 have e2:adler_Sum.f k s=some (sm s):=ASumB.sum_is s (by omega) k (by omega)
 have z4:∀ a b c d:Int,(strOfNums [a,b,c,d]).size=4:=fun _ _ _ _=>rfl
 unfold deflate_Close.f
 rw [raw_is0 s hs,Option.bind_some]
 simp only
 rw [if_pos trivial,e2,Option.bind_some,if_pos (by omega),Option.bind_some,z4,ByteArray.size_append,show (⟨#[120,156]⟩:ByteArray).size=2 from rfl,if_pos (by omega)]
 rfl
theorem back_raw (s X:ByteArray) (hs:s.size≤262144) (hX:X.size≤1000000):inflate_Raw.f (packed s ++ X) 262144=some (s,((packed s).size:Int),0):=by
 have hR:=packed_short s
 have hz:(packed s ++ X).size≤17592186044416:=by rw [ByteArray.size_append];omega
 unfold inflate_Raw.f
 rw [if_pos hz]
 exact congrArg some (raw_back s X 262144 (by omega) (by omega) (Nat.le_trans hz (by decide)))
theorem back_open (s:ByteArray) (hs:s.size≤262144) (k:Nat) (hk:s.size+1 < k):inflate_Open.f k (clo s) 262144=some (s,0):=by
 obtain ⟨k1,rfl⟩:∃ k1,k=k1+1:=⟨k - 1,by omega⟩
 have hR:=packed_short s
 have hv:=sm_rng s
 have e2:adler_Sum.f k1 s=some (sm s):=ASumB.sum_is s (by omega) k1 (by omega)
 have h:=back_raw s (tail4 (sm s)) hs (by rw [tail4_size];omega)
 have hz:(packed s ++ tail4 (sm s)).size≤17592186044416:=by rw [ByteArray.size_append,tail4_size];omega
 unfold inflate_Raw.f at h
 rw [if_pos hz] at h
 have ho:=OpenB.open_is k1 (packed s) (tail4 (sm s)) s 262144 (sm s) _ _ _ _ (by omega) (by omega) (by omega) (by omega) rfl (by decide) (by omega) (Option.some.inj h) e2
 rw [if_pos (by omega)] at ho
 exact ho
end Go.Proofs.Ytpbhkdamkbopkaa.Pure
namespace Go.Proofs.Ytpbhkdamkbopkaa.Px
set_option linter.unusedSimpArgs false
set_option linter.unusedVariables false
open Go.RowKit Go.Proofs.Ytpbhkdamkbopkaa.GPix Go.Proofs.Ytpbhkdamkbopkaa.GPixb Go.Proofs.Ytpbhkdamkbopkaa.PR Go.Proofs.YtpbhkdamkbopkaaW.PrintWords Go.Proofs.YtpbhkdamkbopkaaW.PrintLast Go.Proofs.YtpbhkdamkbopkaaW.PrintMore
open Go.Proofs.Ytpbhkdamkbopkaa.Pure (clo clo_size close_is packed packed_short)
open Go.Proofs.Ytpbhkdamkbopkaa.GBack2 (deflate_Close.f)
open Go.Proofs.Ytpbhkdamkbopkaa.Inf (strOfNums_append)
theorem wr {n:Int} (h0:-9223372036854775808≤n) (h1:n≤9223372036854775807):wrap64 n=n:=by unfold wrap64;omega
/-- A colour is right,and no part above its alpha. -/
def fb (x:S89):Bool:=decide (0≤x.f0∧x.f0≤x.f3∧0≤x.f1∧x.f1≤x.f3∧0≤x.f2∧x.f2≤x.f3∧x.f3≤255)
theorem within_step (l : List Int) (i n : Nat) (hn : l.length = n) (hi : i < n) (hb : n ≤ 1000) (k : Nat) (x : Int) (hx : l.getD i 0 = x) :
  field_within.l0 (k+1) 0 255 l (n:Int) (i:Int)=if x < 0 then some false else if x > 255 then some false else field_within.l0 k 0 255 l (n:Int) ((i+1:Nat):Int):=by
 have e:rd l (i:Int)=x:=by unfold rd;rw [Int.toNat_natCast];exact hx
 rw [field_within.l0,if_pos (by omega),if_pos (by omega),if_pos (by omega),e,wr (by omega) (by omega)]
 rfl
theorem within_is (a b c d:Int) (k:Nat):field_within.f (k+5) 0 255 [a,b,c,d]=some (decide (0≤a∧a≤255∧0≤b∧b≤255∧0≤c∧c≤255∧0≤d∧d≤255)):=by
 have h0:=within_step [a,b,c,d] 0 4 rfl (by decide) (by decide) (k+4) a rfl
 have h1:=within_step [a,b,c,d] 1 4 rfl (by decide) (by decide) (k+3) b rfl
 have h2:=within_step [a,b,c,d] 2 4 rfl (by decide) (by decide) (k+2) c rfl
 have h3:=within_step [a,b,c,d] 3 4 rfl (by decide) (by decide) (k+1) d rfl
 have h4:field_within.l0 (k+1) 0 255 [a,b,c,d] ((4:Nat):Int) ((3+1:Nat):Int)=some true:=by rw [field_within.l0,if_neg (by omega)]
 show field_within.l0 (k+4+1) 0 255 [a,b,c,d] ((4:Nat):Int) ((0:Nat):Int)=_
 rw [h0,show k+4=k+3+1 from rfl,show (0+1:Nat)=1 from rfl,h1,show k+3=k+2+1 from rfl,show (1+1:Nat)=2 from rfl,h2,show k+2=k+1+1 from rfl,show (2+1:Nat)=3 from rfl,h3,h4]
 (repeat' split) <;> first | rw [decide_eq_false (by omega)] | rw [decide_eq_true (by omega)]
theorem faint_is (x:S89) (k:Nat):pixel_faint.f (k+5) x.f0 x.f1 x.f2 x.f3=some (fb x):=by
 unfold pixel_faint.f field_RightRGBA.f
 rw [within_is,Option.bind_some,Option.bind_some]
 unfold fb mx
 by_cases p:0≤x.f0∧x.f0≤255∧0≤x.f1∧x.f1≤255∧0≤x.f2∧x.f2≤255∧0≤x.f3∧x.f3≤255
 ·rw [decide_eq_true p,if_pos rfl]
  (repeat' split) <;> exact congrArg some (decide_eq_decide.2 (by omega))
 ·rw [decide_eq_false p,if_neg (by decide),decide_eq_false (by omega)]
theorem allF_is (k:Nat) (l:List S89):allF (k+5) l=some (l.all fb):=by
 induction l with
 |nil=>rfl
 |cons x l ih =>
  show ((pixel_faint.f (k+5) x.f0 x.f1 x.f2 x.f3).bind fun b=>if b=true then allF (k+5) l else some false)=_
  rw [faint_is,Option.bind_some,ih,List.all_cons]
  cases fb x <;> rfl
/-- A bitmap's numbers are right. -/
def nb3 (id w h:Int) (n:Nat):Prop:=0≤id∧id < 65536∧1≤w∧w≤64∧1≤h∧h≤64∧(n:Int)=w*h
instance (id w h:Int) (n:Nat):Decidable (nb3 id w h n):=by unfold nb3;infer_instance
def rb (id w h:Int) (l:List S89):Bool:=decide (nb3 id w h l.length) && l.all fb
theorem side_mul {w h:Int} (hw:1≤w∧w≤64) (hh:1≤h∧h≤64):1≤w*h∧w*h≤4096:=by
 have h1:w*h≤64*64:=Int.mul_le_mul hw.2 hh.2 (by omega) (by omega)
 have h2:1*1≤w*h:=Int.mul_le_mul hw.1 hh.1 (by omega) (by omega)
 omega
theorem right_is (k:Nat) (id w h:Int) (l:List S89):pixel_Right.f (k+5) id w h l=some (rb id w h l):=by
 unfold pixel_Right.f rb
 rw [allF_is]
 by_cases c:nb3 id w h l.length
 ·obtain ⟨c1,c2,c3,c4,c5,c6,c7⟩:=c
  have hm:=side_mul ⟨c3,c4⟩ ⟨c5,c6⟩
  rw [if_pos c1,if_pos c2,if_pos c3,if_pos c4,if_pos c5,if_pos c6,if_pos (by rw [wr (by omega) (by omega)];exact c7),decide_eq_true ⟨c1,c2,c3,c4,c5,c6,c7⟩,Bool.true_and]
 ·rw [decide_eq_false c,Bool.false_and]
  by_cases c1:0≤id
  ·by_cases c2:id < 65536
   ·by_cases c3:1≤w
    ·by_cases c4:w≤64
     ·by_cases c5:1≤h
      ·by_cases c6:h≤64
       ·have hm:=side_mul ⟨c3,c4⟩ ⟨c5,c6⟩
        rw [if_pos c1,if_pos c2,if_pos c3,if_pos c4,if_pos c5,if_pos c6,if_neg]
        rw [wr (by omega) (by omega)]
        exact fun c7=>c ⟨c1,c2,c3,c4,c5,c6,c7⟩
       ·rw [if_pos c1,if_pos c2,if_pos c3,if_pos c4,if_pos c5,if_neg c6]
      ·rw [if_pos c1,if_pos c2,if_pos c3,if_pos c4,if_neg c5]
     ·rw [if_pos c1,if_pos c2,if_pos c3,if_neg c4]
    ·rw [if_pos c1,if_pos c2,if_neg c3]
   ·rw [if_pos c1,if_neg c2]
  ·rw [if_neg c1]
end Go.Proofs.Ytpbhkdamkbopkaa.Px
namespace Go.Proofs.Ytpbhkdamkbopkaa.Px
set_option linter.unusedSimpArgs false
set_option linter.unusedVariables false
open Go.RowKit Go.Proofs.Ytpbhkdamkbopkaa.GPix Go.Proofs.Ytpbhkdamkbopkaa.GPixb Go.Proofs.Ytpbhkdamkbopkaa.PR Go.Proofs.YtpbhkdamkbopkaaW.PrintWords Go.Proofs.YtpbhkdamkbopkaaW.PrintLast Go.Proofs.YtpbhkdamkbopkaaW.PrintMore
open Go.Proofs.Ytpbhkdamkbopkaa.Pure (clo clo_size close_is packed packed_short back_open)
open Go.Proofs.Ytpbhkdamkbopkaa.GBack2 (deflate_Close.f inflate_Open.f inflate_Open.j0 adler_Sum.f)
open Go.Proofs.Ytpbhkdamkbopkaa.Inf (strOfNums_append bt_left bt_nums cut cut_bytes raw raw_is run0)
open Go.Proofs.Ytpbhkdamkbopkaa.Wr2 (inflate_Raw.f)
/-- Something is told,and of it Q holds,by K rounds or more. -/
def Tot {α:Type} (Q:α → Prop) (K:Nat) (g:Nat → Option α):Prop:=∃ r,Q r∧∀ k,K≤k → g k=some r
section
variable {α β:Type} {Q:α → Prop} {Q1:β → Prop} {K K':Nat} {g f:Nat → Option α}
theorem Tot.now {r:α} (h:Q r):Tot Q K (fun _=>some r):=⟨r,h,fun _ _=>rfl⟩
theorem Tot.ite {c:Prop} [Decidable c] (ha:c → Tot Q K g) (hb:¬ c → Tot Q K f):Tot Q K (fun k=>if c then g k else f k):=by
 by_cases h:c
 ·obtain ⟨r,h1,h2⟩:=ha h;exact ⟨r,h1,fun k hk=>by show (if c then g k else f k)=_;rw [if_pos h];exact h2 k hk⟩
 ·obtain ⟨r,h1,h2⟩:=hb h;exact ⟨r,h1,fun k hk=>by show (if c then g k else f k)=_;rw [if_neg h];exact h2 k hk⟩
theorem Tot.bind {g:Nat → Option β} {f:Nat → β → Option α} (ha:Tot Q1 K g) (hb:∀ b,Q1 b → Tot Q K (fun k=>f k b)):Tot Q K (fun k=>(g k).bind (f k)):=by
 obtain ⟨b,h1,h2⟩:=ha
 obtain ⟨r,h3,h4⟩:=hb b h1
 exact ⟨r,h3,fun k hk=>by show (g k).bind (f k)=_;rw [h2 k hk];exact h4 k hk⟩
theorem Tot.step (h:∀ k,g (k+1)=f k) (t:Tot Q K f):Tot Q (K+1) g:=by
 obtain ⟨r,h1,h2⟩:=t
 refine ⟨r,h1,fun k hk=>?_⟩
 obtain ⟨k1,rfl⟩:∃ k1,k=k1+1:=⟨k - 1,by omega⟩
 rw [h];exact h2 k1 (by omega)
theorem Tot.mono (t:Tot Q K g) (h:K≤K'):Tot Q K' g:=by obtain ⟨r,h1,h2⟩:=t;exact ⟨r,h1,fun k hk=>h2 k (by omega)⟩
theorem Tot.congr (h:∀ k,g k=f k) (t:Tot Q K f):Tot Q K g:=by obtain ⟨r,h1,h2⟩:=t;exact ⟨r,h1,fun k hk=>(h k).trans (h2 k hk)⟩
end
theorem bt_ext (s:ByteArray) (a b:Nat) (j:Nat) (hj:a+j < b) (hb:b≤s.size):bt (s.extract a b) (j:Int)=bt s ((a+j:Nat):Int):=by
 have h:=cut_bytes (s:=s) (q:=a) (n:=b - a) (by omega)
 rw [show a+(b - a)=b by omega] at h
 rw [← rd_bytesOf,h]
 unfold rd cut
 rw [List.getD_eq_getElem?_getD,List.getElem?_map,Int.toNat_natCast,List.getElem?_range (by omega)]
 rfl
theorem four_is (s:ByteArray) (h:4≤s.size):pixel_four.f s=some (bt s 0,bt s 1,bt s 2,bt s 3):=by
 have w:∀ j,wrap64 (bt s j)=bt s j:=fun j=>by have:=bt_range s j;exact wr (by omega) (by omega)
 unfold pixel_four.f
 rw [if_pos (by omega),if_pos (by omega),if_pos (by omega),if_pos (by omega),w,w,w,w]
end Go.Proofs.Ytpbhkdamkbopkaa.Px
namespace Go.Proofs.Ytpbhkdamkbopkaa.Px
set_option linter.unusedSimpArgs false
set_option linter.unusedVariables false
open Go.RowKit Go.Proofs.Ytpbhkdamkbopkaa.GPix Go.Proofs.Ytpbhkdamkbopkaa.GPixb Go.Proofs.Ytpbhkdamkbopkaa.PR Go.Proofs.YtpbhkdamkbopkaaW.PrintWords Go.Proofs.YtpbhkdamkbopkaaW.PrintLast Go.Proofs.YtpbhkdamkbopkaaW.PrintMore
open Go.Proofs.Ytpbhkdamkbopkaa.Pure (clo clo_size close_is packed packed_short back_open)
open Go.Proofs.Ytpbhkdamkbopkaa.GBack2 (deflate_Close.f inflate_Open.f inflate_Open.j0 adler_Sum.f)
open Go.Proofs.Ytpbhkdamkbopkaa.Inf (strOfNums_append bt_left bt_nums cut cut_bytes raw raw_is run0)
open Go.Proofs.Ytpbhkdamkbopkaa.Wr2 (inflate_Raw.f)
def lv (s:ByteArray) (q n:Nat):Int:=if n=1 then bt s (q:Int) else bt s ((q+1:Nat):Int)*256+bt s (q:Int)
theorem lv_rng (s:ByteArray) (q n:Nat):0≤lv s q n∧lv s q n≤65535:=by
 have h0:=bt_range s (q:Int)
 have h1:=bt_range s ((q+1:Nat):Int)
 unfold lv
 split <;> omega
theorem bytes_at (s : ByteArray) (q n : Nat) (p : Int) (hp : p = 8 * (q : Int)) (hq : q ≤ s.size) (hs : s.size ≤ 1000000) (hn : n ≤ 4) (k : Nat) :
  bits_Bytes.f (k+1) s p (n:Int)=some (if q+n≤s.size then (s.extract q (q+n),s,((8*(q+n):Nat):Int),0) else (⟨#[]⟩,⟨#[]⟩,0,2)):=by
 subst hp
 have W0:Aside0 (wrap64 (8*(s.size:Int))=8*(s.size:Int)):=⟨wr (by omega) (by omega)⟩
 have W1:Aside0 (wrap64 (8*(q:Int)+7)=8*(q:Int)+7):=⟨wr (by omega) (by omega)⟩
 have W2:Aside0 (wrap64 (Int.tdiv (8*(q:Int)+7) 8)=(q:Int)):=⟨by rw [Int.tdiv_eq_ediv_of_nonneg (by omega),wr (by omega) (by omega)];omega⟩
 have W3:Aside0 (wrap64 ((q:Int)*8)=8*(q:Int)):=⟨by rw [wr (by omega) (by omega)];omega⟩
 have W4:Aside0 (wrap64 (Int.tdiv (8*(q:Int)) 8)=(q:Int)):=⟨by rw [Int.tdiv_eq_ediv_of_nonneg (by omega),wr (by omega) (by omega)];omega⟩
 have W5:Aside0 (wrap64 ((s.size:Int) - (q:Int))=(s.size:Int) - (q:Int)):=⟨wr (by omega) (by omega)⟩
 have W6:Aside0 (wrap64 ((q:Int)+(n:Int))=((q+n:Nat):Int)):=⟨by rw [wr (by omega) (by omega)];omega⟩
 have W7:Aside0 (wrap64 (8*((q+n:Nat):Int))=((8*(q+n):Nat):Int)):=⟨by rw [wr (by omega) (by omega)];omega⟩
 have hr:bits_right.f s (8*(q:Int))=some true:=by
  unfold bits_right.f
  rw [if_pos (by omega),W0.out,decide_eq_true (by omega)]
 unfold bits_Bytes.f
 rw [hr,Option.bind_some,if_pos rfl,bits_Bytes.j0,decide_eq_false (by omega),if_neg (by decide)]
 unfold bits_Align.f
 rw [hr,Option.bind_some,if_pos rfl,Option.bind_some,W1.out,W2.out,W3.out]
 simp only
 rw [W4.out,W5.out,W6.out,W7.out]
 by_cases c:q+n≤s.size
 ·rw [if_pos c,if_neg (by omega),if_pos (by omega),if_pos (by omega),if_pos (by omega),Int.toNat_natCast,Int.toNat_natCast]
 ·rw [if_neg c,if_pos (by omega)]
theorem or_byte (v b:Int) (hv:0≤v∧v≤255) (hb:0≤b∧b≤255):Go.bits .or .i64 (v*256) b=v*256+b:=by
 have W:∀ n:Int,0≤n → n < 2 ^ 40 → IntKind.i64.wrap n=n:=fun n h0 h1=>by
  rw [IntKind.wrap_i64]
  have:(2:Int) ^ 40=1099511627776:=by decide
  omega
 exact Go.bits_join .i64 40 (by decide) W 8 (v*256) b (by omega) (by omega) (by omega) (by omega) (by omega) (by omega)
theorem little_step (k : Nat) (b : ByteArray) (e v : Int) (i : Nat) (s : ByteArray) (a : Int) (hi : i < b.size) (hb : b.size ≤ 1000) (hv : 0 ≤ v ∧ v ≤ 255) :
  bits_Little.l0 (k+1) b e v (i:Int) s a=bits_Little.l0 k b e (v*256+bt b (i:Int)) ((i:Int) - 1) s a:=by
 have hr:=bt_range b (i:Int)
 rw [bits_Little.l0,if_pos (by omega),if_pos (by omega),if_pos (by omega),wr (n:=v*256) (by omega) (by omega),wr (n:=bt b (i:Int)) (by omega) (by omega),wr (n:=(i:Int) - 1) (by omega) (by omega),or_byte v _ hv hr]
theorem little_at (s : ByteArray) (q n : Nat) (p : Int) (hp : p = 8 * (q : Int)) (hq : q ≤ s.size) (hs : s.size ≤ 1000000) (hn : n = 1 ∨ n = 2) (k : Nat) :
  bits_Little.f (k+5) s p (n:Int)=some (if q+n≤s.size then (lv s q n,s,((8*(q+n):Nat):Int),0) else (0,⟨#[]⟩,0,2)):=by
 unfold bits_Little.f
 rw [if_neg (by omega),decide_eq_false (by omega),show k+5=(k+4)+1 from rfl,bits_Little.j0,if_neg (by decide),bytes_at s q n p hp hq hs (by omega) (k+3),Option.bind_some]
 by_cases c:q+n≤s.size
 ·rw [if_pos c,if_pos c]
  simp only
  have hz:(s.extract q (q+n)).size=n:=by rw [ByteArray.size_extract];omega
  have h0:=bt_ext s q (q+n) 0 (by omega) c
  have hr0:=bt_range s ((q+1:Nat):Int)
  rw [hz]
  rcases hn with rfl | rfl
  ·rw [show wrap64 (((1:Nat):Int) - 1)=((0:Nat):Int) from wr (by decide) (by decide),show k+4=(k+3)+1 from rfl,little_step _ _ _ 0 0 _ _ (by omega) (by omega) (by decide),show k+3=(k+2)+1 from rfl,bits_Little.l0,if_neg (by decide),h0]
   unfold lv
   rw [if_pos rfl]
   simp
  ·have h1:=bt_ext s q (q+2) 1 (by omega) c
   rw [show wrap64 (((2:Nat):Int) - 1)=((1:Nat):Int) from wr (by decide) (by decide),show k+4=(k+3)+1 from rfl,little_step _ _ _ 0 1 _ _ (by omega) (by omega) (by decide),show ((1:Nat):Int) - 1=((0:Nat):Int) from rfl,h1,show k+3=(k+2)+1 from rfl,show (0:Int)*256+bt s ((q+1:Nat):Int)=bt s ((q+1:Nat):Int) by omega,little_step _ _ _ _ 0 _ _ (by omega) (by omega) hr0,show k+2=(k+1)+1 from rfl,bits_Little.l0,if_neg (by decide),h0]
   unfold lv
   rw [if_neg (by decide)]
   rfl
 ·rw [if_neg c,if_neg c]
  simp only
  rw [show wrap64 (((⟨#[]⟩:ByteArray).size:Int) - 1)=-1 from wr (by decide) (by decide),show k+4=(k+3)+1 from rfl,bits_Little.l0,if_neg (by decide)]
abbrev HR:=Int × Int × Int × List S89 × Int × ByteArray × Int
/-- What the head tells. -/
def hdr (s:ByteArray):HR :=
 if s.size < 2 then (0,0,0,[],0,⟨#[]⟩,2)
 else if s.size < 3 then (lv s 0 2,0,0,[],0,⟨#[]⟩,2)
 else if lv s 2 1 ≠ 3∧lv s 2 1 ≠ 5 then (lv s 0 2,0,0,[],0,⟨#[]⟩,3)
 else if s.size < 5 then (lv s 0 2,0,0,[],0,⟨#[]⟩,2)
 else if s.size < 7 then (lv s 0 2,lv s 3 2,0,[],0,⟨#[]⟩,2)
 else if lv s 2 1=3 then
  (if s.size < 8 then (lv s 0 2,lv s 3 2,lv s 5 2,[],0,⟨#[]⟩,2)
  else if mn (lv s 3 2) (lv s 5 2) < 1 then (lv s 0 2,lv s 3 2,lv s 5 2,[],0,⟨#[]⟩,7)
  else if mx (lv s 3 2) (lv s 5 2) > 64 then (lv s 0 2,lv s 3 2,lv s 5 2,[],0,⟨#[]⟩,7)
  else (lv s 0 2,lv s 3 2,lv s 5 2,[],lv s 7 1+1,s.extract 8 s.size,0))
 else
  (if mn (lv s 3 2) (lv s 5 2) < 1 then (lv s 0 2,lv s 3 2,lv s 5 2,[],0,⟨#[]⟩,7)
  else if mx (lv s 3 2) (lv s 5 2) > 64 then (lv s 0 2,lv s 3 2,lv s 5 2,[],0,⟨#[]⟩,7)
  else (lv s 0 2,lv s 3 2,lv s 5 2,[],0,s.extract 7 s.size,0))
theorem head_rest (s : ByteArray) (hs : s.size ≤ 1000000) (k : Nat) (f : Int) (b : Bool) (h3 : 3 ≤ s.size) (hf : f = lv s 2 1) (hb : b = (f != 3 && f != 5)) :
  pixel_head.j0 (k+6) f 0 b s 24 (lv s 0 2) 0 0=some (hdr s):=by
 have L2:bits_Little.f (k+5) s 24 2=some (if 3+2≤s.size then (lv s 3 2,s,40,0) else (0,⟨#[]⟩,0,2)):=little_at s 3 2 24 rfl (by omega) hs (.inr rfl) k
 unfold hdr
 rw [if_neg (by omega),if_neg (by omega),show k+6=(k+5)+1 from rfl,pixel_head.j0,← hf]
 by_cases c:f ≠ 3∧f ≠ 5
 ·have hb1:b=true:=by rw [hb];simp [c.1,c.2]
  rw [if_pos hb1,if_pos c]
 ·have hb1 : ¬ b = true := by
   rw [hb]
   intro h
   simp at h
   exact c h
  rw [if_neg hb1,if_neg c]
  rw [L2,Option.bind_some]
  by_cases c5:s.size < 5
  ·rw [if_neg (show ¬ 3+2≤s.size by omega),if_pos c5]
   simp only
   rw [if_neg (by decide)]
  ·have L3:bits_Little.f (k+5) s 40 2=some (if 5+2≤s.size then (lv s 5 2,s,56,0) else (0,⟨#[]⟩,0,2)):=little_at s 5 2 40 rfl (by omega) hs (.inr rfl) k
   rw [if_pos (show 3+2≤s.size by omega),if_neg c5]
   simp only
   rw [if_pos trivial,L3,Option.bind_some]
   by_cases c7:s.size < 7
   ·rw [if_neg (show ¬ 5+2≤s.size by omega),if_pos c7]
    simp only
    rw [if_neg (by decide)]
   ·rw [if_pos (show 5+2≤s.size by omega),if_neg c7]
    simp only
    rw [if_pos trivial]
    have W0:Aside0 (wrap64 (Int.tdiv 56 8)=((7:Nat):Int)):=⟨by rw [show Int.tdiv 56 8=7 from rfl];exact wr (by decide) (by decide)⟩
    by_cases c3:f=3
    ·have L4:bits_Little.f (k+5) s 56 1=some (if 7+1≤s.size then (lv s 7 1,s,64,0) else (0,⟨#[]⟩,0,2)):=little_at s 7 1 56 rfl (by omega) hs (.inl rfl) k
     rw [if_pos c3,if_pos c3,L4,Option.bind_some]
     by_cases c8:s.size < 8
     ·rw [if_neg (show ¬ 7+1≤s.size by omega),if_pos c8]
      simp only
      rw [if_neg (by decide)]
     ·have W1:Aside0 (wrap64 (Int.tdiv 64 8)=((8:Nat):Int)):=⟨by rw [show Int.tdiv 64 8=8 from rfl];exact wr (by decide) (by decide)⟩
      have hr:=lv_rng s 7 1
      have W2:Aside0 (wrap64 (lv s 7 1+1)=lv s 7 1+1):=⟨wr (by omega) (by omega)⟩
      rw [if_pos (show 7+1≤s.size by omega),if_neg c8]
      simp only
      rw [if_pos trivial,W1.out,W2.out]
      by_cases d1:mn (lv s 3 2) (lv s 5 2) < 1
      ·rw [if_pos d1,if_pos d1]
      ·by_cases d2:mx (lv s 3 2) (lv s 5 2) > 64
       ·rw [if_neg d1,if_neg d1,if_pos d2,if_pos d2]
       ·rw [if_neg d1,if_neg d1,if_neg d2,if_neg d2,if_pos (by omega),if_pos (by omega),Int.toNat_natCast]
    ·rw [if_neg c3,if_neg c3,W0.out]
     by_cases d1:mn (lv s 3 2) (lv s 5 2) < 1
     ·rw [if_pos d1,if_pos d1]
     ·by_cases d2:mx (lv s 3 2) (lv s 5 2) > 64
      ·rw [if_neg d1,if_neg d1,if_pos d2,if_pos d2]
      ·rw [if_neg d1,if_neg d1,if_neg d2,if_neg d2,if_pos (by omega),if_pos (by omega),Int.toNat_natCast]
theorem head_is (s:ByteArray) (hs:s.size≤1000000) (k:Nat):pixel_head.f (k+6) s 0=some (hdr s):=by
 have L0:bits_Little.f (k+1+5) s 0 2=some (if 0+2≤s.size then (lv s 0 2,s,16,0) else (0,⟨#[]⟩,0,2)):=little_at s 0 2 0 rfl (by omega) hs (.inr rfl) (k+1)
 unfold pixel_head.f
 rw [show k+6=k+1+5 from rfl,L0,Option.bind_some]
 by_cases c2:s.size < 2
 ·rw [if_neg (show ¬ 0+2≤s.size by omega)]
  simp only
  rw [if_neg (by decide)]
  unfold hdr
  rw [if_pos c2]
 ·have L1:bits_Little.f (k+1+5) s 16 1=some (if 2+1≤s.size then (lv s 2 1,s,24,0) else (0,⟨#[]⟩,0,2)):=little_at s 2 1 16 rfl (by omega) hs (.inl rfl) (k+1)
  rw [if_pos (show 0+2≤s.size by omega)]
  simp only
  rw [if_pos trivial,L1,Option.bind_some]
  by_cases c3:s.size < 3
  ·rw [if_neg (show ¬ 2+1≤s.size by omega)]
   simp only
   rw [if_neg (by decide)]
   unfold hdr
   rw [if_neg c2,if_pos c3]
  ·rw [if_pos (show 2+1≤s.size by omega)]
   simp only
   rw [if_pos trivial]
   by_cases cf:lv s 2 1=3
   ·rw [if_pos cf]
    exact head_rest s hs k _ false (by omega) rfl (by rw [cf];rfl)
   ·rw [if_neg cf]
    exact head_rest s hs k _ _ (by omega) rfl (by simp [cf])
end Go.Proofs.Ytpbhkdamkbopkaa.Px
namespace Go.Proofs.Ytpbhkdamkbopkaa.Px
set_option linter.unusedSimpArgs false
set_option linter.unusedVariables false
open Go.RowKit Go.Proofs.Ytpbhkdamkbopkaa.GPix Go.Proofs.Ytpbhkdamkbopkaa.GPixb Go.Proofs.Ytpbhkdamkbopkaa.PR Go.Proofs.YtpbhkdamkbopkaaW.PrintWords Go.Proofs.YtpbhkdamkbopkaaW.PrintLast Go.Proofs.YtpbhkdamkbopkaaW.PrintMore
open Go.Proofs.Ytpbhkdamkbopkaa.Pure (clo clo_size close_is packed packed_short back_open)
open Go.Proofs.Ytpbhkdamkbopkaa.Inf (strOfNums_append bt_left bt_nums)
/-- Rows of numbers,w in each. -/
def grid {α:Type} (w:Nat) (f:Nat → Nat → α) (y:Nat):List α:=(List.range y).flatMap fun j=>(List.range w).map (f j)
theorem grid_succ {α:Type} (w:Nat) (f:Nat → Nat → α) (y:Nat):grid w f (y+1)=grid w f y ++ (List.range w).map (f y):=by
 unfold grid;rw [List.range_succ,List.flatMap_append];simp
theorem grid_len {α:Type} (w:Nat) (f:Nat → Nat → α) (y:Nat):(grid w f y).length=y*w:=by
 induction y with
 |zero=>simp [grid]
 |succ y ih=>rw [grid_succ,List.length_append,ih,List.length_map,List.length_range,Nat.succ_mul]
theorem grid_get (w:Nat) (f:Nat → Nat → Int) (h:Nat):∀ y x,y < h → x < w → (grid w f h).getD (y*w+x) 0=f y x:=by
 induction h with
 |zero=>intro y x hy;exact absurd hy (Nat.not_lt_zero _)
 |succ h ih =>
  intro y x hy hx
  rw [grid_succ]
  have hl:=grid_len w f h
  by_cases c:y < h
  ·have h1 : y * w + w ≤ h * w := by
    have:=Nat.mul_le_mul_right w (show y+1≤h by omega)
    rw [Nat.succ_mul] at this;exact this
   rw [List.getD_eq_getElem?_getD,List.getElem?_append_left (by omega),← List.getD_eq_getElem?_getD]
   exact ih y x c hx
  ·obtain rfl:y=h:=by omega
   rw [List.getD_eq_getElem?_getD,List.getElem?_append_right (by omega),hl,Nat.add_sub_cancel_left,List.getElem?_map,List.getElem?_range hx]
   rfl
/-- The bytes of a table's colours. -/
def tabL (l:List S89):List Int:=l.flatMap fun c=>[c.f0 % 256,c.f1 % 256,c.f2 % 256,c.f3 % 256]
theorem tab_len (l:List S89):(tabL l).length=4*l.length:=by
 induction l with
 |nil=>rfl
 |cons c l ih=>show (tabL l).length+4=_;rw [ih,List.length_cons];omega
theorem tab_snoc (l:List S89) (c:S89):tabL (l ++ [c])=tabL l ++ [c.f0 % 256,c.f1 % 256,c.f2 % 256,c.f3 % 256]:=by
 unfold tabL;rw [List.flatMap_append];rfl
theorem tab_get (l:List S89):∀ i,i < l.length → (tabL l).getD (4*i) 0=(rd_T89 l (i:Int)).f0 % 256∧(tabL l).getD (4*i+1) 0=(rd_T89 l (i:Int)).f1 % 256∧(tabL l).getD (4*i+2) 0=(rd_T89 l (i:Int)).f2 % 256∧(tabL l).getD (4*i+3) 0=(rd_T89 l (i:Int)).f3 % 256:=by
 induction l with
 |nil=>intro i h;exact absurd h (Nat.not_lt_zero _)
 |cons c l ih =>
  intro i h
  cases i with
  |zero=>exact ⟨rfl,rfl,rfl,rfl⟩
  |succ i =>
   have e:∀ j,(tabL (c :: l)).getD (4*(i+1)+j) 0=(tabL l).getD (4*i+j) 0:=fun j=>by
    rw [show 4*(i+1)+j=(4*i+j)+4 by omega];rfl
   have er:rd_T89 (c :: l) ((i+1:Nat):Int)=rd_T89 l (i:Int):=rfl
   have h2:=ih i (by simpa using h)
   rw [er]
   exact ⟨(e 0).trans h2.1,(e 1).trans h2.2.1,(e 2).trans h2.2.2.1,(e 3).trans h2.2.2.2⟩
/-- The bytes of a table and of its numbers. -/
def rawT (l:List S89) (wide:Nat) (c:Nat → Nat → Nat) (h:Nat):List Int:=tabL l ++ grid wide (fun y x=>((c y x:Nat):Int)) h
theorem rawT_len (l:List S89) (wide:Nat) (c:Nat → Nat → Nat) (h:Nat):(rawT l wide c h).length=4*l.length+h*wide:=by
 unfold rawT;rw [List.length_append,tab_len,grid_len]
theorem rawT_rng (l:List S89) (hl:l.length≤256) (wide:Nat) (c:Nat → Nat → Nat) (hc:∀ y x,c y x < l.length) (h:Nat):∀ z ∈ rawT l wide c h,0≤z∧z≤255:=by
 intro z hz
 unfold rawT at hz
 rcases List.mem_append.1 hz with hz | hz
 ·unfold tabL at hz
  obtain ⟨q,_,hq⟩:=List.mem_flatMap.1 hz
  simp only [List.mem_cons,List.not_mem_nil,or_false] at hq
  rcases hq with rfl | rfl | rfl | rfl <;> omega
 ·unfold grid at hz
  obtain ⟨y,_,hq⟩:=List.mem_flatMap.1 hz
  obtain ⟨x,_,rfl⟩:=List.mem_map.1 hq
  have:=hc y x
  show 0≤((c y x:Nat):Int)∧((c y x:Nat):Int)≤255
  omega
theorem rd_of (l:List S89) (i:Nat) (h:i < l.length):rd_T89 l (i:Int)=l[i]:=by unfold rd_T89;rw [Int.toNat_natCast,List.getD_eq_getElem?_getD,List.getElem?_eq_getElem h];rfl
section
variable (l:List S89) (hl:l.length≤256) (hf:l.all fb=true) (w h wide:Nat) (hw:w≤64) (hh:h≤64) (hwide:wide=(w+3) / 4*4) (c:Nat → Nat → Nat) (hc:∀ y x,c y x < l.length)
include hl hf hw hh hwide hc
theorem numbered_row (s : ByteArray) (hs : s = strOfNums (rawT l wide c h)) (y : Nat) (hy : y < h) (e : Nat) : ∀ (x k : Nat), x + e = w → 
  pixel_numbered.l1 (k+e+1) s (l.length:Int) (w:Int) (wide:Int) (grid w (fun y x=>rd_T89 l ((c y x:Nat):Int)) y ++ (List.range x).map (fun x=>rd_T89 l ((c y x:Nat):Int))) (y:Int) (h:Int) (y:Int) (w:Int) (x:Int) =
   pixel_numbered.l0 k s (l.length:Int) (w:Int) (wide:Int) (grid w (fun y x=>rd_T89 l ((c y x:Nat):Int)) (y+1)) (h:Int) ((y+1:Nat):Int):=by
 have hz:s.size=4*l.length+h*wide:=by rw [hs,strOfNums_size,rawT_len]
 have hr:=rawT_rng l hl wide c hc h
 have hrl:=rawT_len l wide c h
 have hyw:y*wide+wide≤h*wide:=by
  have:=Nat.mul_le_mul_right wide (show y+1≤h by omega)
  rw [Nat.succ_mul] at this;exact this
 have hwh:h*wide≤64*64:=Nat.mul_le_mul hh (by omega)
 have hyw2:y*w≤64*64:=Nat.mul_le_mul (by omega) hw
 have hgl:=grid_len w (fun y x=>rd_T89 l ((c y x:Nat):Int)) y
 induction e with
 |zero =>
  intro x k hx
  obtain rfl:x=w:=by omega
  have W1:Aside0 (wrap64 ((y:Int)+1)=((y+1:Nat):Int)):=⟨by rw [wr (by omega) (by omega)];omega⟩
  rw [pixel_numbered.l1,if_neg (by omega),W1.out,grid_succ]
 |succ e ih =>
  intro x k hx
  have h1:=ih (x+1) k (by omega)
  have hcx:=hc y x
  obtain ⟨n,hn⟩:∃ n,n=c y x:=⟨_,rfl⟩
  rw [← hn] at hcx
  have hb:bt s ((4*l.length+y*wide+x:Nat):Int)=n:=by
   rw [hs,bt_nums _ hr _ (by omega)]
   unfold rawT
   have ht:=tab_len l
   rw [List.getD_eq_getElem?_getD,List.getElem?_append_right (by omega),ht,← List.getD_eq_getElem?_getD,show 4*l.length+y*wide+x - 4*l.length=y*wide+x by omega]
   rw [grid_get wide _ h y x hy (by omega),hn]
  have hbn:∀ j:Nat,j < 4 → bt s ((4*n+j:Nat):Int)=(tabL l).getD (4*n+j) 0:=fun j hj=>by
   have ht:=tab_len l
   rw [hs,bt_nums _ hr _ (by omega)]
   unfold rawT
   rw [List.getD_eq_getElem?_getD,List.getElem?_append_left (by omega),← List.getD_eq_getElem?_getD]
  have hfn:fb l[n]=true:=List.all_eq_true.1 hf _ (List.getElem_mem hcx)
  have hg:=tab_get l n hcx
  have hex:∀ j:Nat,j < 4 → bt (s.extract (4*n) (4*n+4)) (j:Int)=(tabL l).getD (4*n+j) 0:=fun j hj=>by
   rw [bt_ext s (4*n) (4*n+4) j (by omega) (by omega),hbn j hj]
  have hezz:(s.extract (4*n) (4*n+4)).size=4:=by rw [ByteArray.size_extract];omega
  have hfour:pixel_four.f (s.extract (4*n) (4*n+4))=some ((rd_T89 l (n:Int)).f0,(rd_T89 l (n:Int)).f1,(rd_T89 l (n:Int)).f2,(rd_T89 l (n:Int)).f3):=by
   have e0:bt (s.extract (4*n) (4*n+4)) 0=(tabL l).getD (4*n) 0:=hex 0 (by decide)
   have e1:bt (s.extract (4*n) (4*n+4)) 1=(tabL l).getD (4*n+1) 0:=hex 1 (by decide)
   have e2:bt (s.extract (4*n) (4*n+4)) 2=(tabL l).getD (4*n+2) 0:=hex 2 (by decide)
   have e3:bt (s.extract (4*n) (4*n+4)) 3=(tabL l).getD (4*n+3) 0:=hex 3 (by decide)
   rw [four_is _ (by omega),e0,e1,e2,e3,hg.1,hg.2.1,hg.2.2.1,hg.2.2.2,rd_of l n hcx]
   generalize l[n]=q at hfn
   unfold fb at hfn
   rw [decide_eq_true_eq] at hfn
   rw [Int.emod_eq_of_lt (by omega) (by omega),Int.emod_eq_of_lt (by omega) (by omega),Int.emod_eq_of_lt (by omega) (by omega),Int.emod_eq_of_lt (by omega) (by omega)]
  have W1:Aside0 (wrap64 (4*(l.length:Int))=((4*l.length:Nat):Int)):=⟨by rw [wr (by omega) (by omega)];omega⟩
  have em:(y:Int)*(wide:Int)=((y*wide:Nat):Int):=by omega
  have W2:Aside0 (wrap64 ((y:Int)*(wide:Int))=((y*wide:Nat):Int)):=⟨by rw [em];exact wr (by omega) (by omega)⟩
  have W3:Aside0 (wrap64 (((4*l.length:Nat):Int)+((y*wide:Nat):Int))=((4*l.length+y*wide:Nat):Int)):=⟨by rw [wr (by omega) (by omega)];omega⟩
  have W4:Aside0 (wrap64 (((4*l.length+y*wide:Nat):Int)+(x:Int))=((4*l.length+y*wide+x:Nat):Int)):=⟨by rw [wr (by omega) (by omega)];omega⟩
  have W5:Aside0 (wrap64 (n:Int)=(n:Int)):=⟨wr (by omega) (by omega)⟩
  have W6:Aside0 (wrap64 (4*(n:Int))=((4*n:Nat):Int)):=⟨by rw [wr (by omega) (by omega)];omega⟩
  have W7:Aside0 (wrap64 (((4*n:Nat):Int)+4)=((4*n+4:Nat):Int)):=⟨by rw [wr (by omega) (by omega)];omega⟩
  have W8:Aside0 (wrap64 ((x:Int)+1)=((x+1:Nat):Int)):=⟨by rw [wr (by omega) (by omega)];omega⟩
  rw [show k+(e+1)+1=(k+e+1)+1 by omega,pixel_numbered.l1,W1.out,W2.out,W3.out,W4.out,if_pos (by omega),if_pos (by omega),if_pos (by omega),hb,W5.out,W6.out,W7.out,W8.out,if_neg (by omega),if_pos (by omega),if_pos (by omega),if_pos (by omega),Int.toNat_natCast,Int.toNat_natCast,hfour,Option.bind_some]
  simp only
  rw [if_pos (by rw [List.length_append,hgl,List.length_map,List.length_range];omega),← h1,List.range_succ,List.map_append,List.append_assoc]
  have ep:∀ q:S89,(⟨q.f0,q.f1,q.f2,q.f3⟩:S89)=q:=fun q=>rfl
  rw [ep,hn]
  rfl
theorem numbered_rows (s : ByteArray) (hs : s = strOfNums (rawT l wide c h)) (d : Nat) : ∀ (y k : Nat), y + d = h →
  pixel_numbered.l0 (k+d*(w+2)+1) s (l.length:Int) (w:Int) (wide:Int) (grid w (fun y x=>rd_T89 l ((c y x:Nat):Int)) y) (h:Int) (y:Int)=some (grid w (fun y x=>rd_T89 l ((c y x:Nat):Int)) h,true):=by
 induction d with
 |zero =>
  intro y k hy
  rw [pixel_numbered.l0,if_neg (by omega),show y=h by omega]
 |succ d ih =>
  intro y k hy
  have h1:=numbered_row l hl hf w h wide hw hh hwide c hc s hs y (by omega) w 0 (k+d*(w+2)+1) (by omega)
  rw [show k+(d+1)*(w+2)+1=(k+d*(w+2)+1+w+1)+1 by rw [Nat.succ_mul];omega,pixel_numbered.l0,if_pos (by omega)]
  have e0:grid w (fun y x=>rd_T89 l ((c y x:Nat):Int)) y ++ (List.range 0).map (fun x=>rd_T89 l ((c y x:Nat):Int))=grid w (fun y x=>rd_T89 l ((c y x:Nat):Int)) y:=by simp
  rw [e0] at h1
  exact h1.trans (ih (y+1) k (by omega))
theorem numbered_back (k:Nat) (hk:10000≤k):pixel_numbered.f k (strOfNums (rawT l wide c h)) (l.length:Int) (w:Int) (h:Int)=some (grid w (fun y x=>rd_T89 l ((c y x:Nat):Int)) h,true):=by
 have hz:(strOfNums (rawT l wide c h)).size=4*l.length+h*wide:=by rw [strOfNums_size,rawT_len]
 have hwh:h*wide≤64*64:=Nat.mul_le_mul hh (by omega)
 have hhw:h*(w+2)≤64*66:=Nat.mul_le_mul hh (by omega)
 have W1:Aside0 (wrap64 (4*(l.length:Int))=((4*l.length:Nat):Int)):=⟨by rw [wr (by omega) (by omega)];omega⟩
 have W2:Aside0 (wrap64 ((w:Int)+3)=((w+3:Nat):Int)):=⟨by rw [wr (by omega) (by omega)];omega⟩
 have W3:Aside0 (wrap64 (Int.tdiv ((w+3:Nat):Int) 4)=(((w+3) / 4:Nat):Int)):=⟨by rw [Int.tdiv_eq_ediv_of_nonneg (by omega),wr (by omega) (by omega)];omega⟩
 have W4:Aside0 (wrap64 ((((w+3) / 4:Nat):Int)*4)=(wide:Int)):=⟨by rw [wr (by omega) (by omega)];omega⟩
 have em:(wide:Int)*(h:Int)=((h*wide:Nat):Int):=by rw [Nat.mul_comm];omega
 have W5:Aside0 (wrap64 ((wide:Int)*(h:Int))=((h*wide:Nat):Int)):=⟨by rw [em];exact wr (by omega) (by omega)⟩
 have W6:Aside0 (wrap64 (((4*l.length:Nat):Int)+((h*wide:Nat):Int))=((4*l.length+h*wide:Nat):Int)):=⟨by rw [wr (by omega) (by omega)];omega⟩
 obtain ⟨k1,rfl⟩:∃ k1,k=k1+h*(w+2)+1:=⟨k - h*(w+2) - 1,by omega⟩
 unfold pixel_numbered.f
 rw [W1.out,W2.out,W3.out,W4.out,W5.out,W6.out,if_pos (by omega)]
 exact numbered_rows l hl hf w h wide hw hh hwide c hc _ rfl h 0 k1 (by omega)
end
end Go.Proofs.Ytpbhkdamkbopkaa.Px
namespace Go.Proofs.Ytpbhkdamkbopkaa.Pure
set_option linter.unusedSimpArgs false
set_option linter.unusedVariables false
open Go.RowKit Go.Proofs.Ytpbhkdamkbopkaa.GPix Go.Proofs.Ytpbhkdamkbopkaa.GPixb Go.Proofs.Ytpbhkdamkbopkaa.PR Go.Proofs.Ytpbhkdamkbopkaa.Px Go.Proofs.YtpbhkdamkbopkaaW.PrintWords Go.Proofs.YtpbhkdamkbopkaaW.PrintLast Go.Proofs.YtpbhkdamkbopkaaW.PrintMore
open Go.Proofs.Ytpbhkdamkbopkaa.Inf (strOfNums_append bt_left bt_nums)
open Go.Proofs.Ytpbhkdamkbopkaa.GBack2 (inflate_Open.f)
theorem again_awake (k:Nat) (h:300≤k):celluloidlaw11_awake.f k=some true:=by
 obtain ⟨d,rfl⟩:∃ d,k=300+d:=⟨k - 300,by omega⟩
 exact celluloidlaw11_awake.more _ _ celluloidlaw11_awake.at_ d
/-- Equal bitmaps are told as such. -/
theorem equal_l0 (id w h:Int) (l:List S89) (hl:l.length≤1000000) (d:Nat):∀ (i k:Nat),i+d=l.length → celluloidref11_Equal.l0 (k+d+1) (i:Int) id w h l id w h l=some true:=by
 induction d with
 |zero=>intro i k hi;rw [celluloidref11_Equal.l0,if_neg (by omega)]
 |succ d ih =>
  intro i k hi
  have h1:=ih (i+1) k (by omega)
  have e:wrap64 ((i:Int)+1)=((i+1:Nat):Int):=by rw [wr (by omega) (by omega)];omega
  rw [show k+(d+1)+1=(k+d+1)+1 by omega,celluloidref11_Equal.l0,if_pos (by omega),if_pos (by omega),if_pos (by omega),if_neg (by simp),e]
  exact h1
theorem equal_is (id w h:Int) (l:List S89) (hl:l.length≤1000000) (k:Nat) (hk:l.length+2≤k):celluloidref11_Equal.f k id w h l id w h l=some true:=by
 obtain ⟨k1,rfl⟩:∃ k1,k=k1+l.length+1+1:=⟨k - l.length - 2,by omega⟩
 unfold celluloidref11_Equal.f
 have e:((l.length:Int) != (l.length:Int))=false:=bne_self_eq_false _
 rw [if_pos rfl,if_pos rfl,if_pos rfl,e,celluloidref11_Equal.j0,if_neg (by decide)]
 exact equal_l0 id w h l hl l.length 0 k1 (by omega)
end Go.Proofs.Ytpbhkdamkbopkaa.Pure
namespace Go.Proofs.Ytpbhkdamkbopkaa.Pure
set_option linter.unusedSimpArgs false
set_option linter.unusedVariables false
open Go.RowKit Go.Proofs.Ytpbhkdamkbopkaa.Opens Go.Proofs.Ytpbhkdamkbopkaa.GPix Go.Proofs.Ytpbhkdamkbopkaa.GPixb Go.Proofs.Ytpbhkdamkbopkaa.PR Go.Proofs.Ytpbhkdamkbopkaa.Px Go.Proofs.YtpbhkdamkbopkaaW.PrintWords Go.Proofs.YtpbhkdamkbopkaaW.PrintLast Go.Proofs.YtpbhkdamkbopkaaW.PrintMore
open Go.Proofs.Ytpbhkdamkbopkaa.Inf (strOfNums_append bt_left bt_nums)
open Go.Proofs.Ytpbhkdamkbopkaa.GBack2 (inflate_Open.f deflate_Close.f)
theorem b8_rng (c:Int) (h:(Lit.int .u8 c).wf=true):0≤c∧c≤255:=by
 simp [Lit.wf,IntKind.min,IntKind.max,IntKind.signed,IntKind.bits] at h
 omega
theorem b16_rng (c:Int) (h:(Lit.int .u16 c).wf=true):0≤c∧c≤65535:=by
 simp [Lit.wf,IntKind.min,IntKind.max,IntKind.signed,IntKind.bits] at h
 omega
/-- The number of the colour of a place. -/
def num (q:List Int) (m w y x:Nat):Nat:=(q.getD ((y*w+x) % q.length) 0).toNat % m
def hd8 (id:Int) (w h m:Nat):List Int:=[id % 256,id / 256 % 256,3,(w:Int) % 256,0,(h:Int) % 256,0,((m:Int) - 1) % 256]
section
variable (id:Int) (hid:0≤id∧id≤65535) (l:List S89) (hl0:0 < l.length) (hl:l.length≤16) (q:List Int) (hq0:0 < q.length) (hq:q.length≤1000) (hqb:∀ z ∈ q,0≤z∧z≤255) (w h wide:Nat) (hw0:1≤w) (hw:w≤20) (hh0:1≤h) (hh:h≤20) (hwide:wide=(w+3) / 4*4)
include hl0 in
theorem num_lt (y x:Nat):num q l.length w y x < l.length:=Nat.mod_lt _ hl0
include hid hl0 hl hw0 hw hh0 hh in
theorem hdr_tab (B:ByteArray):hdr (strOfNums (hd8 id w h l.length) ++ B)=(id,(w:Int),(h:Int),[],(l.length:Int),B,0):=by
 obtain ⟨s,hS⟩:∃ s,s=strOfNums (hd8 id w h l.length) ++ B:=⟨_,rfl⟩
 have z8:(strOfNums (hd8 id w h l.length)).size=8:=rfl
 have hz:s.size=8+B.size:=by rw [hS,ByteArray.size_append,z8]
 have hr:∀ x ∈ hd8 id w h l.length,0≤x∧x≤255:=by
  intro x hx
  unfold hd8 at hx
  simp only [List.mem_cons,List.not_mem_nil,or_false] at hx
  rcases hx with rfl | rfl | rfl | rfl | rfl | rfl | rfl | rfl <;> omega
 have hb:∀ j:Nat,j < 8 → bt s (j:Int)=(hd8 id w h l.length).getD j 0:=fun j hj=>by
  rw [hS,bt_left _ _ _ (by omega) (by rw [z8];omega)]
  exact bt_nums _ hr j hj
 have b0:bt s ((0:Nat):Int)=id % 256:=hb 0 (by decide)
 have b1:bt s ((0+1:Nat):Int)=id / 256 % 256:=hb 1 (by decide)
 have b2:bt s ((2:Nat):Int)=3:=hb 2 (by decide)
 have b3:bt s ((3:Nat):Int)=(w:Int) % 256:=hb 3 (by decide)
 have b4:bt s ((3+1:Nat):Int)=0:=hb 4 (by decide)
 have b5:bt s ((5:Nat):Int)=(h:Int) % 256:=hb 5 (by decide)
 have b6:bt s ((5+1:Nat):Int)=0:=hb 6 (by decide)
 have b7:bt s ((7:Nat):Int)=((l.length:Int) - 1) % 256:=hb 7 (by decide)
 have l0:lv s 0 2=id:=by unfold lv;rw [if_neg (by decide),b0,b1];omega
 have l2:lv s 2 1=3:=by unfold lv;rw [if_pos rfl,b2]
 have l3:lv s 3 2=w:=by unfold lv;rw [if_neg (by decide),b3,b4];omega
 have l5:lv s 5 2=h:=by unfold lv;rw [if_neg (by decide),b5,b6];omega
 have l7:lv s 7 1+1=(l.length:Int):=by unfold lv;rw [if_pos rfl,b7];omega
 have hx:s.extract 8 s.size=B:=by
  rw [hz,hS]
  exact ByteArray.extract_append_eq_right (by rw [z8]) (by rw [z8])
 have hm1:¬ mn (w:Int) (h:Int) < 1:=by unfold mn;split <;> omega
 have hm2:¬ mx (w:Int) (h:Int) > 64:=by unfold mx;split <;> omega
 rw [← hS]
 unfold hdr
 rw [l0,l2,l3,l5,l7,if_neg (by omega),if_neg (by omega),if_neg (fun p=>p.1 rfl),if_neg (by omega),if_neg (by omega),if_pos rfl,if_neg (by omega),if_neg hm1,if_neg hm2,hx]
/-- The pixels that are wanted. -/
def want (l:List S89) (q:List Int) (w h:Nat):List S89:=grid w (fun y x=>rd_T89 l ((num q l.length w y x:Nat):Int)) h
include hid hl0 hl hw0 hw hh0 hh hwide in
theorem take_tab (hf:l.all fb=true) (k:Nat) (hk:300000≤k):pixel_Take.f k (strOfNums (hd8 id w h l.length) ++ clo (strOfNums (rawT l wide (num q l.length w) h)))=some (id,(w:Int),(h:Int),want l q w h,0):=by
 have hc:=fun y x=>num_lt l hl0 q w y x
 have hz:(strOfNums (rawT l wide (num q l.length w) h)).size=4*l.length+h*wide:=by rw [strOfNums_size,rawT_len]
 have hhw:h*wide≤20*20:=Nat.mul_le_mul hh (by omega)
 have hp:=packed_short (strOfNums (rawT l wide (num q l.length w) h))
 have hcs:=clo_size (strOfNums (rawT l wide (num q l.length w) h))
 have z8:(strOfNums (hd8 id w h l.length)).size=8:=rfl
 have hwl:(want l q w h).length=h*w:=grid_len _ _ _
 have hr:rb id (w:Int) (h:Int) (want l q w h)=true:=by
  unfold rb
  rw [Bool.and_eq_true,decide_eq_true_eq]
  refine ⟨⟨hid.1,by omega,by omega,by omega,by omega,by omega,?_⟩,?_⟩
  ·rw [hwl,Nat.mul_comm];omega
  ·rw [List.all_eq_true]
   intro z hzz
   unfold want grid at hzz
   obtain ⟨y,_,hq⟩:=List.mem_flatMap.1 hzz
   obtain ⟨x,_,rfl⟩:=List.mem_map.1 hq
   show fb (rd_T89 l ((num q l.length w y x:Nat):Int))=true
   rw [rd_of l _ (hc y x)]
   exact List.all_eq_true.1 hf _ (List.getElem_mem (hc y x))
 obtain ⟨k1,rfl⟩:∃ k1,k=k1+6:=⟨k - 6,by omega⟩
 have hnb:=numbered_back l (by omega) hf w h wide (by omega) (by omega) hwide (num q l.length w) hc (k1+6) (by omega)
 unfold pixel_Take.f
 rw [head_is _ (by rw [ByteArray.size_append,z8];omega),hdr_tab id hid l hl0 hl w h hw0 hw hh0 hh,Option.bind_some]
 simp only
 rw [if_pos trivial,back_open _ (by omega) _ (by omega),Option.bind_some]
 simp only
 rw [if_pos trivial,if_pos (by omega),hnb,Option.bind_some]
 simp only
 rw [if_pos trivial,show k1+6=(k1+1)+5 from rfl,right_is]
 unfold want at hr
 rw [hr,Option.bind_some,if_pos rfl]
 rfl
include hid hl0 hl hw0 hw hh0 hh hwide in
/-- All rows are laid down: the end. -/
theorem tab_end (hf : l.all fb = true) (k : Nat) (hk : 300000 ≤ k) :
  celluloidlaw11_PixelTable.l1 (k+1) id l q (w:Int) (h:Int) (strOfNums (rawT l wide (num q l.length w) h)) (h:Int) id (w:Int) (h:Int) (want l q w h)=some true:=by
 have hz:(strOfNums (rawT l wide (num q l.length w) h)).size=4*l.length+h*wide:=by rw [strOfNums_size,rawT_len]
 have hhw:h*wide≤20*20:=Nat.mul_le_mul hh (by omega)
 have hhw2:h*w≤20*20:=Nat.mul_le_mul hh hw
 have hp:=packed_short (strOfNums (rawT l wide (num q l.length w) h))
 have hcs:=clo_size (strOfNums (rawT l wide (num q l.length w) h))
 have hwl:(want l q w h).length=h*w:=grid_len _ _ _
 have z8:∀ a b c d e f g i:Int,(strOfNums [a,b,c,d,e,f,g,i]).size=8:=fun _ _ _ _ _ _ _ _=>rfl
 have ht:=take_tab id hid l hl0 hl q w h wide hw0 hw hh0 hh hwide hf k hk
 unfold hd8 at ht
 rw [celluloidlaw11_PixelTable.l1,if_neg (by omega),close_is _ (by omega) k (by omega),Option.bind_some,Option.bind_some,wr (n:=(l.length:Int) - 1) (by omega) (by omega),z8,if_pos (by show 8+(clo _).size≤_;omega)]
 simp only
 rw [ht,Option.bind_some]
 simp only
 unfold Go.Proofs.Ytpbhkdamkbopkaa.GPixb.celluloidlaw11_ref.f
 rw [if_pos trivial,if_pos trivial,Option.bind_some,Option.bind_some]
 simp only
 rw [equal_is id w h _ (by omega) k (by omega),Option.bind_some,if_pos rfl,again_awake k (by omega)]
 rfl
include hl0 hl hq0 hq hqb hw0 hw hh hwide in
theorem tab_row (y : Nat) (hy : y < h) (e : Nat) : ∀ (x k : Nat), x + e = wide →
  celluloidlaw11_PixelTable.l2 (k+e+1) id l q (w:Int) (h:Int) (strOfNums (rawT l wide (num q l.length w) y ++ (List.range x).map (fun x=>((num q l.length w y x:Nat):Int)))) (y:Int) (x:Int) id (w:Int) (h:Int) (want l q w y ++ (List.range (min x w)).map (fun x=>rd_T89 l ((num q l.length w y x:Nat):Int))) =
   celluloidlaw11_PixelTable.l1 k id l q (w:Int) (h:Int) (strOfNums (rawT l wide (num q l.length w) (y+1))) ((y+1:Nat):Int) id (w:Int) (h:Int) (want l q w (y+1)):=by
 have hc:=fun y x=>num_lt l hl0 q w y x
 have W2:Aside0 (wrap64 ((w:Int)+3)=((w+3:Nat):Int)):=⟨by rw [wr (by omega) (by omega)];omega⟩
 have W3:Aside0 (wrap64 (Int.tdiv ((w+3:Nat):Int) 4)=(((w+3) / 4:Nat):Int)):=⟨by rw [Int.tdiv_eq_ediv_of_nonneg (by omega),wr (by omega) (by omega)];omega⟩
 have W4:Aside0 (wrap64 ((((w+3) / 4:Nat):Int)*4)=(wide:Int)):=⟨by rw [wr (by omega) (by omega)];omega⟩
 have hyw:y*w≤20*20:=Nat.mul_le_mul (by omega) hw
 have hyw2:y*wide≤20*20:=Nat.mul_le_mul (by omega) (by omega)
 have hgl:(want l q w y).length=y*w:=grid_len _ _ _
 have hrl:=rawT_len l wide (num q l.length w) y
 induction e with
 |zero =>
  intro x k hx
  obtain rfl:x=wide:=by omega
  have W1:Aside0 (wrap64 ((y:Int)+1)=((y+1:Nat):Int)):=⟨by rw [wr (by omega) (by omega)];omega⟩
  have e1:rawT l x (num q l.length w) (y+1)=rawT l x (num q l.length w) y ++ (List.range x).map (fun x=>((num q l.length w y x:Nat):Int)):=by
   unfold rawT;rw [grid_succ,List.append_assoc]
  have e2:want l q w (y+1)=want l q w y ++ (List.range (min x w)).map (fun x=>rd_T89 l ((num q l.length w y x:Nat):Int)):=by
   unfold want;rw [grid_succ,show min x w=w by omega]
  rw [celluloidlaw11_PixelTable.l2,W2.out,W3.out,W4.out,if_neg (by omega),W1.out,e1,e2]
 |succ e ih =>
  intro x k hx
  have h1:=ih (x+1) k (by omega)
  have em:(y:Int)*(w:Int)=((y*w:Nat):Int):=by omega
  have W5:Aside0 (wrap64 ((y:Int)*(w:Int))=((y*w:Nat):Int)):=⟨by rw [em];exact wr (by omega) (by omega)⟩
  have W6:Aside0 (wrap64 (((y*w:Nat):Int)+(x:Int))=((y*w+x:Nat):Int)):=⟨by rw [wr (by omega) (by omega)];omega⟩
  have W7:Aside0 (Int.tmod ((y*w+x:Nat):Int) (q.length:Int)=(((y*w+x) % q.length:Nat):Int)):=⟨by rw [Int.tmod_eq_emod_of_nonneg (by omega)];omega⟩
  have hi:(y*w+x) % q.length < q.length:=Nat.mod_lt _ hq0
  obtain ⟨i,hii⟩:∃ i,i=(y*w+x) % q.length:=⟨_,rfl⟩
  obtain ⟨v,hv⟩:∃ v:Nat,q.getD i 0=v:=by
   have hm:q.getD i 0 ∈ q:=by rw [List.getD_eq_getElem?_getD,List.getElem?_eq_getElem (by omega)];exact List.getElem_mem _
   have:=hqb _ hm
   exact ⟨(q.getD i 0).toNat,by omega⟩
  have hvb:v≤255:=by
   have hm:q.getD i 0 ∈ q:=by rw [List.getD_eq_getElem?_getD,List.getElem?_eq_getElem (by omega)];exact List.getElem_mem _
   have:=hqb _ hm
   omega
  have hrd:rd q (i:Int)=(v:Int):=by unfold rd;rw [Int.toNat_natCast];exact hv
  have hnum:num q l.length w y x=v % l.length:=by unfold num;rw [← hii,hv,Int.toNat_natCast]
  have hnl:=hc y x
  have W8:Aside0 (wrap64 (v:Int)=(v:Int)):=⟨wr (by omega) (by omega)⟩
  have W9:Aside0 (Int.tmod (v:Int) (l.length:Int)=((num q l.length w y x:Nat):Int)):=⟨by rw [hnum,Int.tmod_eq_emod_of_nonneg (by omega)];omega⟩
  have WA:Aside0 (wrap64 ((x:Int)+1)=((x+1:Nat):Int)):=⟨by rw [wr (by omega) (by omega)];omega⟩
  have WB:Aside0 (((num q l.length w y x:Nat):Int) % 256=((num q l.length w y x:Nat):Int)):=⟨by omega⟩
  have z1:∀ a:Int,(strOfNums [a]).size=1:=fun _=>rfl
  have hsz:(strOfNums (rawT l wide (num q l.length w) y ++ (List.range x).map (fun x=>((num q l.length w y x:Nat):Int)))).size=4*l.length+y*wide+x:=by
   rw [strOfNums_size,List.length_append,hrl,List.length_map,List.length_range]
  have eB:strOfNums (rawT l wide (num q l.length w) y ++ (List.range x).map (fun x=>((num q l.length w y x:Nat):Int))) ++ strOfNums [((num q l.length w y x:Nat):Int)]=strOfNums (rawT l wide (num q l.length w) y ++ (List.range (x+1)).map (fun x=>((num q l.length w y x:Nat):Int))):=by
   rw [← strOfNums_append,List.range_succ,List.map_append,List.append_assoc];rfl
  rw [show k+(e+1)+1=(k+e+1)+1 by omega,celluloidlaw11_PixelTable.l2,W2.out,W3.out,W4.out,W5.out,W6.out,W7.out,if_pos (by omega),if_neg (by omega),if_pos (by omega),if_pos (by omega),if_neg (by omega),← hii,hrd,W8.out,W9.out,WB.out,Option.bind_some,z1,hsz,if_pos (by omega),WA.out,eB]
  by_cases c:x < w
  ·have em:min (x+1) w=x+1:=by omega
   rw [em] at h1
   rw [show min x w=x by omega,if_pos (by omega),if_pos (by omega),if_pos (by omega),if_pos (by rw [List.length_append,hgl,List.length_map,List.length_range];omega)]
   have eP:(want l q w y ++ (List.range x).map (fun x=>rd_T89 l ((num q l.length w y x:Nat):Int))) ++ [(⟨(rd_T89 l ((num q l.length w y x:Nat):Int)).f0,(rd_T89 l ((num q l.length w y x:Nat):Int)).f1,(rd_T89 l ((num q l.length w y x:Nat):Int)).f2,(rd_T89 l ((num q l.length w y x:Nat):Int)).f3⟩:S89)]=want l q w y ++ (List.range (x+1)).map (fun x=>rd_T89 l ((num q l.length w y x:Nat):Int)):=by
    rw [List.range_succ,List.map_append,List.append_assoc];rfl
   rw [eP]
   exact h1
  ·rw [if_neg (by omega),← h1,show min x w=w by omega,show min (x+1) w=w by omega]
include hid hl0 hl hq0 hq hqb hw0 hw hh0 hh hwide in
theorem tab_rows (hf : l.all fb = true) (d : Nat) : ∀ (y k : Nat), y + d = h → 300000 ≤ k →
  celluloidlaw11_PixelTable.l1 (k+d*(wide+2)+1) id l q (w:Int) (h:Int) (strOfNums (rawT l wide (num q l.length w) y)) (y:Int) id (w:Int) (h:Int) (want l q w y)=some true:=by
 induction d with
 |zero =>
  intro y k hy hk
  obtain rfl:y=h:=by omega
  rw [Nat.zero_mul,Nat.add_zero]
  exact tab_end id hid l hl0 hl q w y wide hw0 hw hh0 hh hwide hf k hk
 |succ d ih =>
  intro y k hy hk
  have h1:=tab_row id l hl0 hl q hq0 hq hqb w h wide hw0 hw hh hwide y (by omega) wide 0 (k+d*(wide+2)+1) (by omega)
  rw [show k+(d+1)*(wide+2)+1=(k+d*(wide+2)+1+wide+1)+1 by rw [Nat.succ_mul];omega,celluloidlaw11_PixelTable.l1,if_pos (by omega)]
  have e0:(List.range 0).map (fun x=>((num q l.length w y x:Nat):Int))=[]:=rfl
  have e1:(List.range (min 0 w)).map (fun x=>rd_T89 l ((num q l.length w y x:Nat):Int))=[]:=by rw [Nat.zero_min];rfl
  rw [e0,e1,List.append_nil,List.append_nil] at h1
  exact h1.trans (ih (y+1) k (by omega) hk)
include hid hl0 hl hq0 hq hqb hw0 hw hh0 hh hwide in
theorem tab_cols (d : Nat) : ∀ (i k : Nat), i + d = l.length → (l.take i).all fb = true → 400000 ≤ k →
  celluloidlaw11_PixelTable.l0 (k+d+1) id l q (w:Int) (h:Int) (strOfNums (tabL (l.take i))) l (l.length:Int) (i:Int)=some true:=by
 induction d with
 |zero =>
  intro i k hi hf hk
  obtain rfl:i=l.length:=by omega
  rw [List.take_length] at hf ⊢
  have hhw:h*(wide+2)≤20*22:=Nat.mul_le_mul hh (by omega)
  have h1:=tab_rows id hid l hl0 hl q hq0 hq hqb w h wide hw0 hw hh0 hh hwide hf h 0 (k - h*(wide+2) - 1) (by omega) (by omega)
  rw [show k - h*(wide+2) - 1+h*(wide+2)+1=k by omega] at h1
  have e0:rawT l wide (num q l.length w) 0=tabL l:=by unfold rawT grid;simp
  have e1:want l q w 0=[]:=rfl
  rw [e0,e1] at h1
  rw [celluloidlaw11_PixelTable.l0,if_neg (by omega),wr (by omega) (by omega)]
  exact h1
 |succ d ih =>
  intro i k hi hf hk
  have hw1:celluloidlaw11_awake.f (k+d+1)=some true:=again_awake _ (by omega)
  have haw:((celluloidlaw11_awake.f (k+d+1)).bind fun t=>some t)=some true:=by rw [hw1];rfl
  have W1:Aside0 (wrap64 ((i:Int)+1)=((i+1:Nat):Int)):=⟨by rw [wr (by omega) (by omega)];omega⟩
  have hil:i < l.length:=by omega
  have et:l.take (i+1)=l.take i ++ [rd_T89 l (i:Int)]:=by
   rw [List.take_succ_eq_append_getElem hil,rd_of l i hil]
  have htl:(tabL (l.take i)).length=4*i:=by rw [tab_len,List.length_take];omega
  have z4:∀ a b c d:Int,(strOfNums [a,b,c,d]).size=4:=fun _ _ _ _=>rfl
  have h1:=ih (i+1) k (by omega)
  rw [et,List.all_append,hf,Bool.true_and,tab_snoc,strOfNums_append] at h1
  rw [show k+(d+1)+1=(k+d+1)+1 by omega,celluloidlaw11_PixelTable.l0,if_pos (by omega),if_pos (by omega),if_pos (by omega),W1.out,haw]
  generalize rd_T89 l (i:Int)=c at h1 ⊢
  by_cases c1:c.f0 < 0
  ·rw [if_pos c1]
  by_cases c2:c.f1 < 0
  ·rw [if_neg c1,if_pos c2]
  by_cases c3:c.f2 < 0
  ·rw [if_neg c1,if_neg c2,if_pos c3]
  by_cases c4:c.f3 > 255
  ·rw [if_neg c1,if_neg c2,if_neg c3,if_pos c4]
  by_cases c5:c.f0 > c.f3
  ·rw [if_neg c1,if_neg c2,if_neg c3,if_neg c4,if_pos c5]
  by_cases c6:c.f1 > c.f3
  ·rw [if_neg c1,if_neg c2,if_neg c3,if_neg c4,if_neg c5,if_pos c6]
  by_cases c7:c.f2 > c.f3
  ·rw [if_neg c1,if_neg c2,if_neg c3,if_neg c4,if_neg c5,if_neg c6,if_pos c7]
  have hfc:([c]:List S89).all fb=true:=by
   show (fb c && true)=true
   unfold fb
   rw [decide_eq_true (by omega)]
   rfl
  rw [if_neg c1,if_neg c2,if_neg c3,if_neg c4,if_neg c5,if_neg c6,if_neg c7,Option.bind_some,z4,strOfNums_size,htl,if_pos (by omega)]
  exact h1 hfc hk
end
def SaidPixelTable:Prop:=∀ (a0:Int) (a1:Int) (a2:Int) (l3:List S89) (l4:List Int),(Lit.int .u16 a0).wf=true → (Lit.int .u8 a1).wf=true → (Lit.int .u8 a2).wf=true → l3.length≤maxLen∧(∀ x ∈ l3,G89 x) → l4.length≤maxLen∧(∀ x ∈ l4,GB x) → ∃ k,celluloidlaw11_PixelTable.f k a0 a1 a2 l3 l4=some true
theorem PixelTable:SaidPixelTable:=by
 intro id a1 a2 l q h0 h1 h2 hl hq
 have hid:=b16_rng id h0
 have r1:=b8_rng a1 h1
 have r2:=b8_rng a2 h2
 obtain ⟨K,hK⟩:∃ K:Nat,K=500000:=⟨_,rfl⟩
 have hj:∀ x y,celluloidlaw11_PixelTable.j0 (K+1) id l q x y true=some true:=fun x y=>by
  rw [celluloidlaw11_PixelTable.j0,if_pos rfl,again_awake K (by omega)];rfl
 refine ⟨K+1,?_⟩
 unfold celluloidlaw11_PixelTable.f
 by_cases c1:(l.length:Int)=0
 ·rw [if_pos c1];exact hj _ _
 by_cases c2:(l.length:Int) > 16
 ·rw [if_neg c1,if_pos c2];exact hj _ _
 by_cases c3:(q.length:Int)=0
 ·rw [if_neg c1,if_neg c2,if_pos c3];exact hj _ _
 rw [if_neg c1,if_neg c2,if_neg c3]
 by_cases c4:(q.length:Int) > 1000
 ·rw [decide_eq_true c4];exact hj _ _
 obtain ⟨w,hw⟩:∃ w:Nat,(w:Int)=1+a1 % 20:=⟨(1+a1 % 20).toNat,by omega⟩
 obtain ⟨h,hh⟩:∃ h:Nat,(h:Int)=1+a2 % 20:=⟨(1+a2 % 20).toNat,by omega⟩
 have e1:wrap64 (1+wrap64 (Int.tmod a1 20))=(w:Int):=by
  rw [Int.tmod_eq_emod_of_nonneg (by omega),wr (n:=a1 % 20) (by omega) (by omega),wr (by omega) (by omega),hw]
 have e2:wrap64 (1+wrap64 (Int.tmod a2 20))=(h:Int):=by
  rw [Int.tmod_eq_emod_of_nonneg (by omega),wr (n:=a2 % 20) (by omega) (by omega),wr (by omega) (by omega),hh]
 rw [decide_eq_false c4,e1,e2,celluloidlaw11_PixelTable.j0,if_neg (by decide)]
 have ht:=tab_cols id hid l (by omega) (by omega) q (by omega) (by omega) (fun z hz=>b8_rng z (hq.2 z hz)) w h ((w+3) / 4*4) (by omega) (by omega) (by omega) (by omega) rfl l.length 0 (K - l.length - 1) (by omega) rfl (by omega)
 rw [show K - l.length - 1+l.length+1=K by omega] at ht
 exact ht
end Go.Proofs.Ytpbhkdamkbopkaa.Pure
namespace Go.Proofs.Ytpbhkdamkbopkaa.Head
open Go
set_option maxRecDepth 100000
theorem order : Try.prog.initOrder = "harness a7c15820a2cb1018fe4759f7c25c13e6d005c23fb6069a0d0dcc8b91bc198833 cut at celluloid/celluloidlaw04.HuffCodes celluloid/celluloidlaw04.HuffReads celluloid/celluloidlaw04.HuffBack celluloid/celluloidlaw04.HuffFull celluloid/celluloidlaw04.HuffBits celluloid/celluloidlaw06.DeflateRuns celluloid/celluloidlaw06.DeflateFinds celluloid/celluloidlaw06.DeflatePlain celluloid/celluloidlaw06.DeflateRaw celluloid/celluloidlaw05.InflateRaw celluloid/celluloidlaw05.InflateOpens celluloid/celluloidlaw05.InflateStored celluloid/celluloidlaw05.InflateEnds celluloid/celluloidlaw05.InflateBlocks celluloid/celluloidlaw06.DeflateBack celluloid/celluloidlaw06.DeflateLong celluloid/celluloidlaw11.PixelPuts celluloid/celluloidlaw11.PixelTakes celluloid/celluloidlaw11.PixelAgain celluloid/celluloidlaw11.PixelPoints celluloid/celluloidlaw11.PixelTable celluloid/celluloidlaw11.PixelNames" := by kernel_rfl
/-- The signs behind the third word. -/
def rest:List Char:=['a','t',' ','c','e','l','l','u','l','o','i','d','/','c','e','l','l','u','l','o','i','d','l','a','w','0','4','.','H','u','f','f','C','o','d','e','s',' ','c','e','l','l','u','l','o','i','d','/','c','e','l','l','u','l','o','i','d','l','a','w','0','4','.','H','u','f','f','R','e','a','d','s',' ','c','e','l','l','u','l','o','i','d','/','c','e','l','l','u','l','o','i','d','l','a','w','0','4','.','H','u','f','f','B','a','c','k',' ','c','e','l','l','u','l','o','i','d','/','c','e','l','l','u','l','o','i','d','l','a','w','0','4','.','H','u','f','f','F','u','l','l',' ','c','e','l','l','u','l','o','i','d','/','c','e','l','l','u','l','o','i','d','l','a','w','0','4','.','H','u','f','f','B','i','t','s',' ','c','e','l','l','u','l','o','i','d','/','c','e','l','l','u','l','o','i','d','l','a','w','0','6','.','D','e','f','l','a','t','e','R','u','n','s',' ','c','e','l','l','u','l','o','i','d','/','c','e','l','l','u','l','o','i','d','l','a','w','0','6','.','D','e','f','l','a','t','e','F','i','n','d','s',' ','c','e','l','l','u','l','o','i','d','/','c','e','l','l','u','l','o','i','d','l','a','w','0','6','.','D','e','f','l','a','t','e','P','l','a','i','n',' ','c','e','l','l','u','l','o','i','d','/','c','e','l','l','u','l','o','i','d','l','a','w','0','6','.','D','e','f','l','a','t','e','R','a','w',' ','c','e','l','l','u','l','o','i','d','/','c','e','l','l','u','l','o','i','d','l','a','w','0','5','.','I','n','f','l','a','t','e','R','a','w',' ','c','e','l','l','u','l','o','i','d','/','c','e','l','l','u','l','o','i','d','l','a','w','0','5','.','I','n','f','l','a','t','e','O','p','e','n','s',' ','c','e','l','l','u','l','o','i','d','/','c','e','l','l','u','l','o','i','d','l','a','w','0','5','.','I','n','f','l','a','t','e','S','t','o','r','e','d',' ','c','e','l','l','u','l','o','i','d','/','c','e','l','l','u','l','o','i','d','l','a','w','0','5','.','I','n','f','l','a','t','e','E','n','d','s',' ','c','e','l','l','u','l','o','i','d','/','c','e','l','l','u','l','o','i','d','l','a','w','0','5','.','I','n','f','l','a','t','e','B','l','o','c','k','s',' ','c','e','l','l','u','l','o','i','d','/','c','e','l','l','u','l','o','i','d','l','a','w','0','6','.','D','e','f','l','a','t','e','B','a','c','k',' ','c','e','l','l','u','l','o','i','d','/','c','e','l','l','u','l','o','i','d','l','a','w','0','6','.','D','e','f','l','a','t','e','L','o','n','g',' ','c','e','l','l','u','l','o','i','d','/','c','e','l','l','u','l','o','i','d','l','a','w','1','1','.','P','i','x','e','l','P','u','t','s',' ','c','e','l','l','u','l','o','i','d','/','c','e','l','l','u','l','o','i','d','l','a','w','1','1','.','P','i','x','e','l','T','a','k','e','s',' ','c','e','l','l','u','l','o','i','d','/','c','e','l','l','u','l','o','i','d','l','a','w','1','1','.','P','i','x','e','l','A','g','a','i','n',' ','c','e','l','l','u','l','o','i','d','/','c','e','l','l','u','l','o','i','d','l','a','w','1','1','.','P','i','x','e','l','P','o','i','n','t','s',' ','c','e','l','l','u','l','o','i','d','/','c','e','l','l','u','l','o','i','d','l','a','w','1','1','.','P','i','x','e','l','T','a','b','l','e',' ','c','e','l','l','u','l','o','i','d','/','c','e','l','l','u','l','o','i','d','l','a','w','1','1','.','P','i','x','e','l','N','a','m','e','s']
theorem signs:Try.prog.initOrder.toList=['h','a','r','n','e','s','s'] ++ ' ' :: (['a','7','c','1','5','8','2','0','a','2','c','b','1','0','1','8','f','e','4','7','5','9','f','7','c','2','5','c','1','3','e','6','d','0','0','5','c','2','3','f','b','6','0','6','9','a','0','d','0','d','c','c','8','b','9','1','b','c','1','9','8','8','3','3'] ++ ' ' :: (['c','u','t'] ++ ' ' :: rest)):=by rw [order];exact String.toList_ofList
/-- The words: a word,and those behind its space. -/
theorem words_cut (r:List Char):∀ (w:List Char),(∀ c ∈ w,c ≠ ' ') → wordsSigns (w ++ ' ' :: r)=w :: wordsSigns r
 |[],_=>by simp [wordsSigns]
 |c :: w,h=>by
  have ih:=words_cut r w (fun x hx=>h x (List.mem_cons_of_mem _ hx))
  have hc:c ≠ ' ':=h c List.mem_cons_self
  rw [List.cons_append,wordsSigns.eq_3 _ _ hc,ih]
theorem words:behindMainWord (wordsSigns Try.prog.initOrder.toList)=['c','u','t'] :: wordsSigns rest:=by
 rw [signs,words_cut _ _ (by decide),words_cut _ _ (by decide),words_cut _ _ (by decide)]
 have h1 : ((['h', 'a', 'r', 'n', 'e', 's', 's'] == "harness".toList || ['h', 'a', 'r', 'n', 'e', 's', 's'] == "ownmain".toList) && isSumSigns ['a', '7', 'c', '1', '5', '8', '2', '0', 'a', '2', 'c', 'b', '1', '0', '1', '8', 'f', 'e', '4', '7', '5', '9', 'f', '7', 'c', '2', '5', 'c', '1', '3', 'e', '6', 'd', '0', '0', '5', 'c', '2', '3', 'f', 'b', '6', '0', '6', '9', 'a', '0', 'd', '0', 'd', 'c', 'c', '8', 'b', '9', '1', 'b', 'c', '1', '9', '8', '8', '3', '3']) = true := by decide +kernel
 unfold behindMainWord
 simp only [h1,if_true]
theorem g1 : (['c', 'u', 't'] == "gc".toList) = false := by decide +kernel
theorem g2 : (['c', 'u', 't'] == "spec".toList) = false := by decide +kernel
theorem g3 : (['c', 'u', 't'] == "cut".toList) = true := by decide +kernel
theorem g4 : (['c', 'u', 't'] == "carried".toList) = false := by decide +kernel
theorem lifts (rs:List (List Char)):stripLifts liftWords (['c','u','t'] :: rs)=([],['c','u','t'] :: rs):=by
 have h:liftWords.all (fun o=>!(['c','u','t'] == o.toList))=true:=by decide +kernel
 revert h
 generalize liftWords=os
 intro h
 induction os with
 |nil=>rfl
 |cons o os ih =>
  rw [List.all_cons,Bool.and_eq_true,Bool.not_eq_true'] at h
  rw [stripLifts.eq_3,if_neg (by rw [h.1];decide),ih h.2]
theorem make_of (P:Program) (rs:List (List Char)) (h:behindMainWord (wordsSigns P.initOrder.toList)=['c','u','t'] :: rs):P.make=some .cut:=by
 unfold Program.make
 rw [h]
 simp only [g1,g2,g3,Bool.false_or,Bool.true_or,if_true,Bool.false_eq_true,if_false]
theorem final_of (P:Program) (rs:List (List Char)) (h:behindMainWord (wordsSigns P.initOrder.toList)=['c','u','t'] :: rs):P.liftsFinal=false:=by
 unfold Program.liftsFinal Program.headLifts
 rw [h,lifts]
 rfl
theorem enters_of (P:Program) (rs:List (List Char)) (h:behindMainWord (wordsSigns P.initOrder.toList)=['c','u','t'] :: rs) (h1:P.laysLater=false) (h2:P.bearsReflect=false) (h3:P.doorFits []=true):P.mayEnter=true:=by
 unfold Program.mayEnter
 rw [h]
 dsimp only
 rw [lifts,h1,h2,h3]
 rfl
theorem make:Try.prog.make=some .cut:=make_of _ _ words
theorem final:Try.prog.liftsFinal=false:=final_of _ _ words
theorem later:Try.prog.laysLater=false:=by kernel_rfl
theorem reflect:Try.prog.bearsReflect=false:=by kernel_rfl
theorem door:Try.prog.doorFits []=true:=by kernel_rfl
theorem enters:Try.prog.mayEnter=true:=enters_of _ _ words later reflect door
end Go.Proofs.Ytpbhkdamkbopkaa.Head
