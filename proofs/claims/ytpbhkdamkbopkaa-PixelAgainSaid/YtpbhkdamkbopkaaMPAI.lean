/- Parts of the proof, glued by a program of this session (wip/tools/claimfit.py). -/
import Derived.Test.YtpbhkdamkbopkaaMPAH
namespace Go.Proofs.Ytpbhkdamkbopkaa.Px
set_option linter.unusedSimpArgs false
set_option linter.unusedVariables false
open Go.RowKit Go.Proofs.Ytpbhkdamkbopkaa.GPix Go.Proofs.Ytpbhkdamkbopkaa.GPixb Go.Proofs.Ytpbhkdamkbopkaa.PR Go.Proofs.YtpbhkdamkbopkaaW.PrintWords Go.Proofs.YtpbhkdamkbopkaaW.PrintLast Go.Proofs.YtpbhkdamkbopkaaW.PrintMore
open Go.Proofs.Ytpbhkdamkbopkaa.Pure (clo clo_size close_is packed packed_short back_open)
open Go.Proofs.Ytpbhkdamkbopkaa.GBack2 (deflate_Close.f inflate_Open.f inflate_Open.j0 adler_Sum.f)
open Go.Proofs.Ytpbhkdamkbopkaa.Inf (strOfNums_append bt_left bt_right bt_nums cut cut_bytes raw raw_is run0 run_aft)
open Go.Proofs.Ytpbhkdamkbopkaa.Wr2 (inflate_Raw.f)
/-- Something is told, and of it Q holds, by K rounds or more. -/
def Tot {α:Type} (Q:α → Prop) (K:Nat) (g:Nat → Option α):Prop:=∃ r,Q r∧∀ k,K≤k → g k=some r
section
variable {α β:Type} {Q:α → Prop} {Q1:β → Prop} {K K':Nat} {g f:Nat → Option α}
theorem Tot.now {r:α} (h:Q r):Tot Q K (fun _=>some r):=⟨r,h,fun _ _=>rfl⟩
theorem Tot.ite {c:Prop} [Decidable c] (ha:c → Tot Q K g) (hb:¬ c → Tot Q K f):Tot Q K (fun k=>if c then g k else f k):=by
 by_cases h:c
 ·obtain ⟨r,h1,h2⟩:=ha h;exact ⟨r,h1,fun k hk=>by show (if c then g k else f k)=_;rw [if_pos h];exact h2 k hk⟩
 ·obtain ⟨r,h1,h2⟩:=hb h;exact ⟨r,h1,fun k hk=>by show (if c then g k else f k)=_;rw [if_neg h];exact h2 k hk⟩
theorem Tot.bind {g:Nat → Option β} {f:Nat → β → Option α} (ha:Tot Q1 K g) (hb:∀ b,Q1 b → Tot Q K (fun k=>f k b)):Tot Q K (fun k=>(g k).bind (f k)):=by
 obtain ⟨b,h1,h2⟩:=ha
 obtain ⟨r,h3,h4⟩:=hb b h1
 exact ⟨r,h3,fun k hk=>by show (g k).bind (f k)=_;rw [h2 k hk];exact h4 k hk⟩
theorem Tot.step (h:∀ k,g (k+1)=f k) (t:Tot Q K f):Tot Q (K+1) g:=by
 obtain ⟨r,h1,h2⟩:=t
 refine ⟨r,h1,fun k hk=>?_⟩
 obtain ⟨k1,rfl⟩:∃ k1,k=k1+1:=⟨k - 1,by omega⟩
 rw [h];exact h2 k1 (by omega)
theorem Tot.mono (t:Tot Q K g) (h:K≤K'):Tot Q K' g:=by obtain ⟨r,h1,h2⟩:=t;exact ⟨r,h1,fun k hk=>h2 k (by omega)⟩
theorem Tot.congr (h:∀ k,g k=f k) (t:Tot Q K f):Tot Q K g:=by obtain ⟨r,h1,h2⟩:=t;exact ⟨r,h1,fun k hk=>(h k).trans (h2 k hk)⟩
end
theorem bt_ext (s:ByteArray) (a b:Nat) (j:Nat) (hj:a+j < b) (hb:b≤s.size):bt (s.extract a b) (j:Int)=bt s ((a+j:Nat):Int):=by
 have h:=cut_bytes (s:=s) (q:=a) (n:=b - a) (by omega)
 rw [show a+(b - a)=b by omega] at h
 rw [← rd_bytesOf,h]
 unfold rd cut
 rw [List.getD_eq_getElem?_getD,List.getElem?_map,Int.toNat_natCast,List.getElem?_range (by omega)]
 rfl
theorem raw_some (s:ByteArray) (hs:s.size≤1000000):∃ R,inflate_Raw.f s 262144=some R∧(R.2.2=0 → 0≤R.2.1∧R.2.1≤s.size∧R.1.size≤262144):=by
 refine ⟨raw s 262144,by unfold inflate_Raw.f;rw [if_pos (by omega)],fun he=>?_⟩
 rw [raw_is s 262144 (by decide)] at he ⊢
 have af:=run_aft s (by omega) 262144
 by_cases c:(run0 s 262144).e=0
 ·rw [if_pos c]
  have h1:=af.ok.p1
  have h0:=af.ok.p0
  have ho:=af.o (by decide)
  refine ⟨by show 0≤((run0 s 262144).p+7) / 8;omega,by show ((run0 s 262144).p+7) / 8≤_;omega,?_⟩
  show (strOfNums _).size≤_
  rw [strOfNums_size];omega
 ·rw [if_neg c] at he
  exact absurd he c
theorem open_total (s:ByteArray) (hs:s.size≤1000000):Tot (fun r:ByteArray × Int=>r.1.size≤262144) 262150 (fun k=>inflate_Open.f k s 262144):=by
 have z0:(⟨#[]⟩:ByteArray).size=0:=rfl
 refine Tot.congr (f:=fun k=>inflate_Open.j0 k s 262144 false) (fun k=>by unfold inflate_Open.f;rw [if_neg (by decide),decide_eq_false (by decide)]) ?_
 refine Tot.mono (K:=262148+1) (Tot.step (f:=fun k=>_) (fun k=>by rw [inflate_Open.j0]) ?_) (by decide)
 refine Tot.ite (fun h=>absurd h (by decide)) fun _=>Tot.ite (fun _=>Tot.now (by rw [z0];decide)) fun h2=>Tot.ite (fun _=>?_) fun h=>absurd (show (0:Int) < s.size by omega) h
 refine Tot.ite (fun _=>?_) fun _=>Tot.now (by rw [z0];decide)
 refine Tot.ite (fun _=>Tot.now (by rw [z0];decide)) fun _=>Tot.ite (fun _=>?_) fun h=>absurd (show (1:Int) < s.size by omega) h
 refine Tot.ite (fun _=>?_) fun _=>Tot.now (by rw [z0];decide)
 refine Tot.ite (fun _=>?_) fun _=>Tot.now (by rw [z0];decide)
 refine Tot.ite (fun _=>?_) fun h=>absurd (show (2:Int)≤s.size by omega) h
 have hz:(s.extract 2 s.size).size=s.size - 2:=by rw [ByteArray.size_extract,Nat.min_self]
 obtain ⟨R,hR,hR2⟩:=raw_some (s.extract 2 s.size) (by omega)
 obtain ⟨o,n,e⟩:=R
 refine Tot.bind (Q1:=fun b=>b=(o,n,e)) ⟨(o,n,e),rfl,fun _ _=>hR⟩ fun b hb=>?_
 subst hb
 simp only at hR2 ⊢
 refine Tot.ite (fun he=>?_) fun _=>Tot.now (by rw [z0];decide)
 obtain ⟨q1,q2,q3⟩:=hR2 he
 have hw:wrap64 (2+n)=2+n:=wr (by omega) (by omega)
 rw [hw]
 refine Tot.ite (fun _=>?_) fun h=>absurd (show 0≤2+n by omega) h
 refine Tot.ite (fun _=>?_) fun h=>absurd (show 2+n≤(s.size:Int) by omega) h
 generalize s.extract (2+n).toNat s.size=u
 refine Tot.ite (fun _=>Tot.now (by rw [z0];decide)) fun h4=>?_
 refine Tot.ite (fun _=>?_) fun h=>absurd (show (0:Int) < u.size by omega) h
 refine Tot.ite (fun _=>?_) fun h=>absurd (show (1:Int) < u.size by omega) h
 refine Tot.ite (fun _=>?_) fun h=>absurd (show (2:Int) < u.size by omega) h
 refine Tot.ite (fun _=>?_) fun h=>absurd (show (3:Int) < u.size by omega) h
 refine Tot.bind (Q1:=fun _=>True) ⟨Pure.sm o,trivial,fun k hk=>ASumB.sum_is o (by omega) k (by omega)⟩ fun t _=>?_
 refine Tot.ite (fun _=>?_) fun _=>Tot.now (by rw [z0];decide)
 exact Tot.ite (fun _=>Tot.now (by rw [z0];decide)) fun _=>Tot.now q3
theorem four_is (s:ByteArray) (h:4≤s.size):pixel_four.f s=some (bt s 0,bt s 1,bt s 2,bt s 3):=by
 have w:∀ j,wrap64 (bt s j)=bt s j:=fun j=>by have:=bt_range s j;exact wr (by omega) (by omega)
 unfold pixel_four.f
 rw [if_pos (by omega),if_pos (by omega),if_pos (by omega),if_pos (by omega),w,w,w,w]
/-- A pixel of four bytes from q on, its alpha first. -/
def pxa (s:ByteArray) (q:Nat):S89:=⟨bt s ((q+1:Nat):Int),bt s ((q+2:Nat):Int),bt s ((q+3:Nat):Int),bt s ((q:Nat):Int)⟩
def pxs (s:ByteArray) (n:Nat):List S89:=(List.range n).map fun i=>pxa s (4*i)
theorem pxs_len (s:ByteArray) (n:Nat):(pxs s n).length=n:=by simp [pxs]
theorem pxs_get (s:ByteArray) (n i:Nat) (h:i < (pxs s n).length):(pxs s n)[i]=pxa s (4*i):=by simp [pxs]
theorem pxs_succ (s:ByteArray) (n:Nat):pxs s (n+1)=pxs s n ++ [pxa s (4*n)]:=by simp [pxs,List.range_succ]
theorem plain_loop (s:ByteArray) (n:Nat) (hn:n≤100000) (hs:s.size=4*n) (d:Nat):∀ i k,i+d=n → pixel_plain.l0 (k+d+1) s (pxs s i) (n:Int) (i:Int)=some (pxs s n,true):=by
 induction d with
 |zero =>
  intro i k hi
  rw [pixel_plain.l0,if_neg (by omega),show i=n by omega]
 |succ d ih =>
  intro i k hi
  have h:=ih (i+1) k (by omega)
  have W1:Aside0 (wrap64 (4*(i:Int))=((4*i:Nat):Int)):=⟨by rw [wr (by omega) (by omega)];omega⟩
  have W2:Aside0 (wrap64 (((4*i:Nat):Int)+4)=((4*i+4:Nat):Int)):=⟨by rw [wr (by omega) (by omega)];omega⟩
  have W3:Aside0 (wrap64 ((i:Int)+1)=((i+1:Nat):Int)):=⟨by rw [wr (by omega) (by omega)];omega⟩
  have hz:(s.extract (4*i) (4*i+4)).size=4:=by rw [ByteArray.size_extract];omega
  have z1:((s.extract (4*i) (4*i+4)).extract 1 4).size=3:=by rw [ByteArray.size_extract,hz];rfl
  have z2:((s.extract (4*i) (4*i+4)).extract 0 1).size=1:=by rw [ByteArray.size_extract,hz];rfl
  have b:∀ j:Nat,j < 3 → bt ((s.extract (4*i) (4*i+4)).extract 1 4 ++ (s.extract (4*i) (4*i+4)).extract 0 1) (j:Int)=bt s ((4*i+(1+j):Nat):Int):=fun j hj=>by
   rw [bt_left _ _ _ (by omega) (by omega),bt_ext _ 1 4 j (by omega) (by omega),bt_ext s (4*i) (4*i+4) (1+j) (by omega) (by omega)]
  have b3:bt ((s.extract (4*i) (4*i+4)).extract 1 4 ++ (s.extract (4*i) (4*i+4)).extract 0 1) 3=bt s ((4*i:Nat):Int):=by
   rw [bt_right _ _ _ (by rw [z1];decide),z1,show (3:Int) - ((3:Nat):Int)=((0:Nat):Int) from rfl,bt_ext _ 0 1 0 (by omega) (by omega),show ((0+0:Nat):Int)=((0:Nat):Int) from rfl,bt_ext s (4*i) (4*i+4) 0 (by omega) (by omega)]
   rfl
  rw [show k+(d+1)+1=(k+d+1)+1 by omega,pixel_plain.l0,if_pos (by omega),W1.out,W2.out,if_pos (by omega),if_pos (by omega),if_pos (by omega),Int.toNat_natCast,Int.toNat_natCast,hz,if_pos (by decide),if_pos (by decide),z1,z2,if_pos (by decide),four_is _ (by rw [ByteArray.size_append,z1,z2];decide),Option.bind_some]
  simp only
  have e0:=b 0 (by decide)
  have e1:=b 1 (by decide)
  have e2:=b 2 (by decide)
  rw [if_pos (by rw [pxs_len];omega),W3.out]
  have hp:∀ P,P=pxa s (4*i) → pixel_plain.l0 (k+d+1) s (pxs s i ++ [P]) (n:Int) ((i+1:Nat):Int)=some (pxs s n,true):=fun P hP=>by rw [hP,← pxs_succ];exact h
  refine hp _ ?_
  unfold pxa
  exact congr (congr (congr (congrArg S89.mk e0) e1) e2) b3
theorem plain_is (s:ByteArray) (n:Nat) (hn:n≤100000) (k:Nat) (hk:n+1≤k):pixel_plain.f k s (n:Int)=some (if s.size=4*n then (pxs s n,true) else ([],false)):=by
 obtain ⟨k1,rfl⟩:∃ k1,k=k1+n+1:=⟨k - n - 1,by omega⟩
 unfold pixel_plain.f
 rw [wr (by omega) (by omega)]
 by_cases c:s.size=4*n
 ·rw [if_pos (by omega),if_pos c]
  exact plain_loop s n hn c n 0 k1 (by omega)
 ·rw [if_neg (by omega),if_neg c]
theorem px_get (l:List S89):∀ i,i < l.length → (px l).getD (4*i) 0=(rd_T89 l (i:Int)).f3 % 256∧(px l).getD (4*i+1) 0=(rd_T89 l (i:Int)).f0 % 256∧(px l).getD (4*i+2) 0=(rd_T89 l (i:Int)).f1 % 256∧(px l).getD (4*i+3) 0=(rd_T89 l (i:Int)).f2 % 256:=by
 induction l with
 |nil=>intro i h;exact absurd h (Nat.not_lt_zero _)
 |cons c l ih =>
  intro i h
  cases i with
  |zero=>exact ⟨rfl,rfl,rfl,rfl⟩
  |succ i =>
   have e:∀ j,(px (c :: l)).getD (4*(i+1)+j) 0=(px l).getD (4*i+j) 0:=fun j=>by
    rw [show 4*(i+1)+j=(4*i+j)+4 by omega];rfl
   have er:rd_T89 (c :: l) ((i+1:Nat):Int)=rd_T89 l (i:Int):=rfl
   have h2:=ih i (by simpa using h)
   rw [er]
   exact ⟨(e 0).trans h2.1,(e 1).trans h2.2.1,(e 2).trans h2.2.2.1,(e 3).trans h2.2.2.2⟩
theorem px_rng (l:List S89):∀ x ∈ px l,0≤x∧x≤255:=by
 intro x hx
 unfold px at hx
 obtain ⟨c,_,hc⟩:=List.mem_flatMap.1 hx
 simp only [List.mem_cons,List.not_mem_nil,or_false] at hc
 rcases hc with rfl | rfl | rfl | rfl <;> omega
/-- What is written of faint colours is read back. -/
theorem pxs_back (l:List S89) (h:l.all fb=true):pxs (strOfNums (px l)) l.length=l:=by
 refine List.ext_getElem (pxs_len _ _) fun i h1 h2=>?_
 have hl:=px_len l
 have hz:=px_get l i h2
 have hb:∀ j:Nat,j < 4 → bt (strOfNums (px l)) ((4*i+j:Nat):Int)=(px l).getD (4*i+j) 0:=fun j hj=>bt_nums (px l) (px_rng l) (4*i+j) (by omega)
 have er:rd_T89 l (i:Int)=l[i]:=by unfold rd_T89;rw [Int.toNat_natCast,List.getD_eq_getElem?_getD,List.getElem?_eq_getElem h2];rfl
 have hf:fb l[i]=true:=List.all_eq_true.1 h _ (List.getElem_mem h2)
 rw [er] at hz
 unfold fb at hf
 rw [decide_eq_true_eq] at hf
 have e0:bt (strOfNums (px l)) ((4*i:Nat):Int)=(px l).getD (4*i) 0:=hb 0 (by decide)
 rw [pxs_get]
 unfold pxa
 rw [hb 1 (by decide),hb 2 (by decide),hb 3 (by decide),e0,hz.1,hz.2.1,hz.2.2.1,hz.2.2.2]
 generalize l[i]=c at hf
 obtain ⟨f0,f1,f2,f3⟩:=c
 simp only at hf ⊢
 rw [Int.emod_eq_of_lt (by omega) (by omega),Int.emod_eq_of_lt (by omega) (by omega),Int.emod_eq_of_lt (by omega) (by omega),Int.emod_eq_of_lt (by omega) (by omega)]
/-- Pixels by numbers: whatever bytes, something is told. -/
theorem numbered_inner (s:ByteArray) (m w h:Nat) (hm:m≤256) (hw:w≤64) (hh:h≤64) (wide:Nat) (hwide:wide=(w+3) / 4*4) (hs:s.size=4*m+wide*h) (y d:Nat) (hy:y+(d+1)=h) (K:Nat)
  (hO:∀ out:List S89,out.length≤64*(y+1) → Tot (fun _=>True) K (fun k=>pixel_numbered.l0 k s (m:Int) (w:Int) (wide:Int) out (h:Int) ((y+1:Nat):Int))) (e:Nat) :
  ∀ (x:Nat) (out:List S89),x+e=w → out.length≤64*y+x → Tot (fun _=>True) (K+1+e) (fun k=>pixel_numbered.l1 k s (m:Int) (w:Int) (wide:Int) out (y:Int) (h:Int) (y:Int) (w:Int) (x:Int)):=by
 induction e with
 |zero =>
  intro x out hx ho
  refine Tot.step (f:=fun k=>_) (fun k=>by rw [pixel_numbered.l1]) ?_
  refine Tot.ite (fun c=>absurd c (by omega)) fun _=>?_
  have W1:Aside0 (wrap64 ((y:Int)+1)=((y+1:Nat):Int)):=⟨by rw [wr (by omega) (by omega)];omega⟩
  rw [W1.out]
  exact hO out (by omega)
 |succ e ih =>
  intro x out hx ho
  have hyw:wide*y+wide≤wide*h:=by
   have h1:wide*(y+1)≤wide*h:=Nat.mul_le_mul_left _ (by omega)
   rw [Nat.mul_add,Nat.mul_one] at h1
   exact h1
  have hwh:wide*h≤64*64:=Nat.mul_le_mul (by omega) hh
  have W1:Aside0 (wrap64 (4*(m:Int))=((4*m:Nat):Int)):=⟨by rw [wr (by omega) (by omega)];omega⟩
  have em:(y:Int)*(wide:Int)=((wide*y:Nat):Int):=by rw [Nat.mul_comm];omega
  have W2:Aside0 (wrap64 ((y:Int)*(wide:Int))=((wide*y:Nat):Int)):=⟨by rw [em];exact wr (by omega) (by omega)⟩
  have W3:Aside0 (wrap64 (((4*m:Nat):Int)+((wide*y:Nat):Int))=((4*m+wide*y:Nat):Int)):=⟨by rw [wr (by omega) (by omega)];omega⟩
  have W4:Aside0 (wrap64 (((4*m+wide*y:Nat):Int)+(x:Int))=((4*m+wide*y+x:Nat):Int)):=⟨by rw [wr (by omega) (by omega)];omega⟩
  have hb:=bt_range s ((4*m+wide*y+x:Nat):Int)
  refine Tot.mono (K:=(K+1+e)+1) (Tot.step (f:=fun k=>_) (fun k=>by rw [pixel_numbered.l1]) ?_) (by omega)
  rw [W1.out,W2.out,W3.out,W4.out]
  refine Tot.ite (fun _=>?_) fun c=>absurd (show (x:Int) < w by omega) c
  refine Tot.ite (fun _=>?_) fun c=>absurd (show (0:Int)≤((4*m+wide*y+x:Nat):Int) by omega) c
  refine Tot.ite (fun _=>?_) fun c=>absurd (show ((4*m+wide*y+x:Nat):Int) < s.size by omega) c
  obtain ⟨b,hbb⟩:∃ b:Nat,bt s ((4*m+wide*y+x:Nat):Int)=b:=⟨(bt s ((4*m+wide*y+x:Nat):Int)).toNat,by omega⟩
  have W5:Aside0 (wrap64 (b:Int)=b):=⟨wr (by omega) (by omega)⟩
  have W6:Aside0 (wrap64 (4*(b:Int))=((4*b:Nat):Int)):=⟨by rw [wr (by omega) (by omega)];omega⟩
  have W7:Aside0 (wrap64 (((4*b:Nat):Int)+4)=((4*b+4:Nat):Int)):=⟨by rw [wr (by omega) (by omega)];omega⟩
  have W8:Aside0 (wrap64 ((x:Int)+1)=((x+1:Nat):Int)):=⟨by rw [wr (by omega) (by omega)];omega⟩
  rw [hbb,W5.out,W6.out,W7.out,W8.out]
  refine Tot.ite (fun _=>Tot.now trivial) fun hbm=>?_
  refine Tot.ite (fun _=>?_) fun c=>absurd (show (0:Int)≤((4*b:Nat):Int) by omega) c
  refine Tot.ite (fun _=>?_) fun c=>absurd (show ((4*b:Nat):Int)≤((4*b+4:Nat):Int) by omega) c
  refine Tot.ite (fun _=>?_) fun c=>absurd (show ((4*b+4:Nat):Int)≤s.size by omega) c
  rw [Int.toNat_natCast,Int.toNat_natCast,four_is _ (by rw [ByteArray.size_extract];omega)]
  simp only [Option.bind_some]
  refine Tot.ite (fun _=>?_) fun c=>absurd (show out.length < 4398046511104 by omega) c
  exact ih (x+1) _ (by omega) (by rw [List.length_append,List.length_singleton];omega)
theorem numbered_outer (s:ByteArray) (m w h:Nat) (hm:m≤256) (hw:w≤64) (hh:h≤64) (wide:Nat) (hwide:wide=(w+3) / 4*4) (hs:s.size=4*m+wide*h) (d:Nat) :
  ∀ (y:Nat) (out:List S89),y+d=h → out.length≤64*y → Tot (fun _=>True) (d*70+1) (fun k=>pixel_numbered.l0 k s (m:Int) (w:Int) (wide:Int) out (h:Int) (y:Int)):=by
 induction d with
 |zero =>
  intro y out hy ho
  refine Tot.step (f:=fun k=>_) (fun k=>by rw [pixel_numbered.l0]) ?_
  exact Tot.ite (fun c=>absurd c (by omega)) fun _=>Tot.now trivial
 |succ d ih =>
  intro y out hy ho
  refine Tot.mono (K:=(d*70+1+1+w)+1) (Tot.step (f:=fun k=>_) (fun k=>by rw [pixel_numbered.l0]) ?_) (by omega)
  refine Tot.ite (fun _=>?_) fun c=>absurd (show (y:Int) < h by omega) c
  exact numbered_inner s m w h hm hw hh wide hwide hs y d hy (d*70+1) (fun o2 h2=>ih (y+1) o2 (by omega) h2) w 0 out (by omega) (by omega)
theorem numbered_total (s:ByteArray) (m w h:Nat) (hm:m≤256) (hw:w≤64) (hh:h≤64):Tot (fun _=>True) 5000 (fun k=>pixel_numbered.f k s (m:Int) (w:Int) (h:Int)):=by
 obtain ⟨wide,hwide⟩:∃ wide,wide=(w+3) / 4*4:=⟨_,rfl⟩
 have W1:Aside0 (wrap64 (4*(m:Int))=((4*m:Nat):Int)):=⟨by rw [wr (by omega) (by omega)];omega⟩
 have W2:Aside0 (wrap64 ((w:Int)+3)=((w+3:Nat):Int)):=⟨by rw [wr (by omega) (by omega)];omega⟩
 have W3:Aside0 (wrap64 (Int.tdiv ((w+3:Nat):Int) 4)=(((w+3) / 4:Nat):Int)):=⟨by rw [Int.tdiv_eq_ediv_of_nonneg (by omega),wr (by omega) (by omega)];omega⟩
 have W4:Aside0 (wrap64 ((((w+3) / 4:Nat):Int)*4)=(wide:Int)):=⟨by rw [wr (by omega) (by omega)];omega⟩
 have hwh:wide*h≤64*64:=Nat.mul_le_mul (by omega) hh
 have em:(wide:Int)*(h:Int)=((wide*h:Nat):Int):=by omega
 have W5:Aside0 (wrap64 ((wide:Int)*(h:Int))=((wide*h:Nat):Int)):=⟨by rw [em];exact wr (by omega) (by omega)⟩
 have W6:Aside0 (wrap64 (((4*m:Nat):Int)+((wide*h:Nat):Int))=((4*m+wide*h:Nat):Int)):=⟨by rw [wr (by omega) (by omega)];omega⟩
 refine Tot.congr (f:=fun k=>if (s.size:Int)=((4*m+wide*h:Nat):Int) then pixel_numbered.l0 k s (m:Int) (w:Int) (wide:Int) [] (h:Int) 0 else some ([],false)) (fun k=>by unfold pixel_numbered.f;rw [W1.out,W2.out,W3.out,W4.out,W5.out,W6.out]) ?_
 refine Tot.ite (fun c=>?_) fun _=>Tot.now trivial
 exact Tot.mono (numbered_outer s m w h hm hw hh wide hwide (by omega) h 0 [] (by omega) (by simp)) (by omega)
end Go.Proofs.Ytpbhkdamkbopkaa.Px
namespace Go.Proofs.Ytpbhkdamkbopkaa.Px
set_option linter.unusedSimpArgs false
set_option linter.unusedVariables false
open Go.RowKit Go.Proofs.Ytpbhkdamkbopkaa.GPix Go.Proofs.Ytpbhkdamkbopkaa.GPixb Go.Proofs.Ytpbhkdamkbopkaa.PR Go.Proofs.YtpbhkdamkbopkaaW.PrintWords Go.Proofs.YtpbhkdamkbopkaaW.PrintLast Go.Proofs.YtpbhkdamkbopkaaW.PrintMore
open Go.Proofs.Ytpbhkdamkbopkaa.Pure (clo clo_size close_is packed packed_short back_open)
open Go.Proofs.Ytpbhkdamkbopkaa.GBack2 (deflate_Close.f inflate_Open.f inflate_Open.j0 adler_Sum.f)
open Go.Proofs.Ytpbhkdamkbopkaa.Inf (strOfNums_append bt_left bt_right bt_nums cut cut_bytes raw raw_is run0 run_aft)
open Go.Proofs.Ytpbhkdamkbopkaa.Wr2 (inflate_Raw.f)
def lv (s:ByteArray) (q n:Nat):Int:=if n=1 then bt s (q:Int) else bt s ((q+1:Nat):Int)*256+bt s (q:Int)
theorem lv_rng (s:ByteArray) (q n:Nat):0≤lv s q n∧lv s q n≤65535:=by
 have h0:=bt_range s (q:Int)
 have h1:=bt_range s ((q+1:Nat):Int)
 unfold lv
 split <;> omega
theorem bytes_at (s:ByteArray) (q n:Nat) (p:Int) (hp:p=8*(q:Int)) (hq:q≤s.size) (hs:s.size≤1000000) (hn:n≤4) (k:Nat) :
  bits_Bytes.f (k+1) s p (n:Int)=some (if q+n≤s.size then (s.extract q (q+n),s,((8*(q+n):Nat):Int),0) else (⟨#[]⟩,⟨#[]⟩,0,2)):=by
 subst hp
 have W0:Aside0 (wrap64 (8*(s.size:Int))=8*(s.size:Int)):=⟨wr (by omega) (by omega)⟩
 have W1:Aside0 (wrap64 (8*(q:Int)+7)=8*(q:Int)+7):=⟨wr (by omega) (by omega)⟩
 have W2:Aside0 (wrap64 (Int.tdiv (8*(q:Int)+7) 8)=(q:Int)):=⟨by rw [Int.tdiv_eq_ediv_of_nonneg (by omega),wr (by omega) (by omega)];omega⟩
 have W3:Aside0 (wrap64 ((q:Int)*8)=8*(q:Int)):=⟨by rw [wr (by omega) (by omega)];omega⟩
 have W4:Aside0 (wrap64 (Int.tdiv (8*(q:Int)) 8)=(q:Int)):=⟨by rw [Int.tdiv_eq_ediv_of_nonneg (by omega),wr (by omega) (by omega)];omega⟩
 have W5:Aside0 (wrap64 ((s.size:Int) - (q:Int))=(s.size:Int) - (q:Int)):=⟨wr (by omega) (by omega)⟩
 have W6:Aside0 (wrap64 ((q:Int)+(n:Int))=((q+n:Nat):Int)):=⟨by rw [wr (by omega) (by omega)];omega⟩
 have W7:Aside0 (wrap64 (8*((q+n:Nat):Int))=((8*(q+n):Nat):Int)):=⟨by rw [wr (by omega) (by omega)];omega⟩
 have hr:bits_right.f s (8*(q:Int))=some true:=by
  unfold bits_right.f
  rw [if_pos (by omega),W0.out,decide_eq_true (by omega)]
 unfold bits_Bytes.f
 rw [hr,Option.bind_some,if_pos rfl,bits_Bytes.j0,decide_eq_false (by omega),if_neg (by decide)]
 unfold bits_Align.f
 rw [hr,Option.bind_some,if_pos rfl,Option.bind_some,W1.out,W2.out,W3.out]
 simp only
 rw [W4.out,W5.out,W6.out,W7.out]
 by_cases c:q+n≤s.size
 ·rw [if_pos c,if_neg (by omega),if_pos (by omega),if_pos (by omega),if_pos (by omega),Int.toNat_natCast,Int.toNat_natCast]
 ·rw [if_neg c,if_pos (by omega)]
theorem or_byte (v b:Int) (hv:0≤v∧v≤255) (hb:0≤b∧b≤255):Go.bits .or .i64 (v*256) b=v*256+b:=by
 have W:∀ n:Int,0≤n → n < 2 ^ 40 → IntKind.i64.wrap n=n:=fun n h0 h1=>by
  rw [IntKind.wrap_i64]
  have:(2:Int) ^ 40=1099511627776:=by decide
  omega
 exact Go.bits_join .i64 40 (by decide) W 8 (v*256) b (by omega) (by omega) (by omega) (by omega) (by omega) (by omega)
theorem little_step (k:Nat) (b:ByteArray) (e v:Int) (i:Nat) (s:ByteArray) (a:Int) (hi:i < b.size) (hb:b.size≤1000) (hv:0≤v∧v≤255) :
  bits_Little.l0 (k+1) b e v (i:Int) s a=bits_Little.l0 k b e (v*256+bt b (i:Int)) ((i:Int) - 1) s a:=by
 have hr:=bt_range b (i:Int)
 rw [bits_Little.l0,if_pos (by omega),if_pos (by omega),if_pos (by omega),wr (n:=v*256) (by omega) (by omega),wr (n:=bt b (i:Int)) (by omega) (by omega),wr (n:=(i:Int) - 1) (by omega) (by omega),or_byte v _ hv hr]
theorem little_at (s:ByteArray) (q n:Nat) (p:Int) (hp:p=8*(q:Int)) (hq:q≤s.size) (hs:s.size≤1000000) (hn:n=1 ∨ n=2) (k:Nat) :
  bits_Little.f (k+5) s p (n:Int)=some (if q+n≤s.size then (lv s q n,s,((8*(q+n):Nat):Int),0) else (0,⟨#[]⟩,0,2)):=by
 unfold bits_Little.f
 rw [if_neg (by omega),decide_eq_false (by omega),show k+5=(k+4)+1 from rfl,bits_Little.j0,if_neg (by decide),bytes_at s q n p hp hq hs (by omega) (k+3),Option.bind_some]
 by_cases c:q+n≤s.size
 ·rw [if_pos c,if_pos c]
  simp only
  have hz:(s.extract q (q+n)).size=n:=by rw [ByteArray.size_extract];omega
  have h0:=bt_ext s q (q+n) 0 (by omega) c
  have hr0:=bt_range s ((q+1:Nat):Int)
  rw [hz]
  rcases hn with rfl | rfl
  ·rw [show wrap64 (((1:Nat):Int) - 1)=((0:Nat):Int) from wr (by decide) (by decide),show k+4=(k+3)+1 from rfl,little_step _ _ _ 0 0 _ _ (by omega) (by omega) (by decide),show k+3=(k+2)+1 from rfl,bits_Little.l0,if_neg (by decide),h0]
   unfold lv
   rw [if_pos rfl]
   simp
  ·have h1:=bt_ext s q (q+2) 1 (by omega) c
   rw [show wrap64 (((2:Nat):Int) - 1)=((1:Nat):Int) from wr (by decide) (by decide),show k+4=(k+3)+1 from rfl,little_step _ _ _ 0 1 _ _ (by omega) (by omega) (by decide),show ((1:Nat):Int) - 1=((0:Nat):Int) from rfl,h1,show k+3=(k+2)+1 from rfl,show (0:Int)*256+bt s ((q+1:Nat):Int)=bt s ((q+1:Nat):Int) by omega,little_step _ _ _ _ 0 _ _ (by omega) (by omega) hr0,show k+2=(k+1)+1 from rfl,bits_Little.l0,if_neg (by decide),h0]
   unfold lv
   rw [if_neg (by decide)]
   rfl
 ·rw [if_neg c,if_neg c]
  simp only
  rw [show wrap64 (((⟨#[]⟩:ByteArray).size:Int) - 1)=-1 from wr (by decide) (by decide),show k+4=(k+3)+1 from rfl,bits_Little.l0,if_neg (by decide)]
abbrev HR:=Int × Int × Int × List S89 × Int × ByteArray × Int
/-- What the head tells. -/
def hdr (s:ByteArray):HR :=
 if s.size < 2 then (0,0,0,[],0,⟨#[]⟩,2)
 else if s.size < 3 then (lv s 0 2,0,0,[],0,⟨#[]⟩,2)
 else if lv s 2 1 ≠ 3∧lv s 2 1 ≠ 5 then (lv s 0 2,0,0,[],0,⟨#[]⟩,3)
 else if s.size < 5 then (lv s 0 2,0,0,[],0,⟨#[]⟩,2)
 else if s.size < 7 then (lv s 0 2,lv s 3 2,0,[],0,⟨#[]⟩,2)
 else if lv s 2 1=3 then
  (if s.size < 8 then (lv s 0 2,lv s 3 2,lv s 5 2,[],0,⟨#[]⟩,2)
  else if mn (lv s 3 2) (lv s 5 2) < 1 then (lv s 0 2,lv s 3 2,lv s 5 2,[],0,⟨#[]⟩,7)
  else if mx (lv s 3 2) (lv s 5 2) > 64 then (lv s 0 2,lv s 3 2,lv s 5 2,[],0,⟨#[]⟩,7)
  else (lv s 0 2,lv s 3 2,lv s 5 2,[],lv s 7 1+1,s.extract 8 s.size,0))
 else
  (if mn (lv s 3 2) (lv s 5 2) < 1 then (lv s 0 2,lv s 3 2,lv s 5 2,[],0,⟨#[]⟩,7)
  else if mx (lv s 3 2) (lv s 5 2) > 64 then (lv s 0 2,lv s 3 2,lv s 5 2,[],0,⟨#[]⟩,7)
  else (lv s 0 2,lv s 3 2,lv s 5 2,[],0,s.extract 7 s.size,0))
theorem head_rest (s:ByteArray) (hs:s.size≤1000000) (k:Nat) (f:Int) (b:Bool) (h3:3≤s.size) (hf:f=lv s 2 1) (hb:b=(f != 3 && f != 5)) :
  pixel_head.j0 (k+6) f 0 b s 24 (lv s 0 2) 0 0=some (hdr s):=by
 have L2:bits_Little.f (k+5) s 24 2=some (if 3+2≤s.size then (lv s 3 2,s,40,0) else (0,⟨#[]⟩,0,2)):=little_at s 3 2 24 rfl (by omega) hs (.inr rfl) k
 unfold hdr
 rw [if_neg (by omega),if_neg (by omega),show k+6=(k+5)+1 from rfl,pixel_head.j0,← hf]
 by_cases c:f ≠ 3∧f ≠ 5
 ·have hb1:b=true:=by rw [hb];simp [c.1,c.2]
  rw [if_pos hb1,if_pos c]
 ·have hb1:¬ b=true:=by
   rw [hb]
   intro h
   simp at h
   exact c h
  rw [if_neg hb1,if_neg c]
  rw [L2,Option.bind_some]
  by_cases c5:s.size < 5
  ·rw [if_neg (show ¬ 3+2≤s.size by omega),if_pos c5]
   simp only
   rw [if_neg (by decide)]
  ·have L3:bits_Little.f (k+5) s 40 2=some (if 5+2≤s.size then (lv s 5 2,s,56,0) else (0,⟨#[]⟩,0,2)):=little_at s 5 2 40 rfl (by omega) hs (.inr rfl) k
   rw [if_pos (show 3+2≤s.size by omega),if_neg c5]
   simp only
   rw [if_pos trivial,L3,Option.bind_some]
   by_cases c7:s.size < 7
   ·rw [if_neg (show ¬ 5+2≤s.size by omega),if_pos c7]
    simp only
    rw [if_neg (by decide)]
   ·rw [if_pos (show 5+2≤s.size by omega),if_neg c7]
    simp only
    rw [if_pos trivial]
    have W0:Aside0 (wrap64 (Int.tdiv 56 8)=((7:Nat):Int)):=⟨by rw [show Int.tdiv 56 8=7 from rfl];exact wr (by decide) (by decide)⟩
    by_cases c3:f=3
    ·have L4:bits_Little.f (k+5) s 56 1=some (if 7+1≤s.size then (lv s 7 1,s,64,0) else (0,⟨#[]⟩,0,2)):=little_at s 7 1 56 rfl (by omega) hs (.inl rfl) k
     rw [if_pos c3,if_pos c3,L4,Option.bind_some]
     by_cases c8:s.size < 8
     ·rw [if_neg (show ¬ 7+1≤s.size by omega),if_pos c8]
      simp only
      rw [if_neg (by decide)]
     ·have W1:Aside0 (wrap64 (Int.tdiv 64 8)=((8:Nat):Int)):=⟨by rw [show Int.tdiv 64 8=8 from rfl];exact wr (by decide) (by decide)⟩
      have hr:=lv_rng s 7 1
      have W2:Aside0 (wrap64 (lv s 7 1+1)=lv s 7 1+1):=⟨wr (by omega) (by omega)⟩
      rw [if_pos (show 7+1≤s.size by omega),if_neg c8]
      simp only
      rw [if_pos trivial,W1.out,W2.out]
      by_cases d1:mn (lv s 3 2) (lv s 5 2) < 1
      ·rw [if_pos d1,if_pos d1]
      ·by_cases d2:mx (lv s 3 2) (lv s 5 2) > 64
       ·rw [if_neg d1,if_neg d1,if_pos d2,if_pos d2]
       ·rw [if_neg d1,if_neg d1,if_neg d2,if_neg d2,if_pos (by omega),if_pos (by omega),Int.toNat_natCast]
    ·rw [if_neg c3,if_neg c3,W0.out]
     by_cases d1:mn (lv s 3 2) (lv s 5 2) < 1
     ·rw [if_pos d1,if_pos d1]
     ·by_cases d2:mx (lv s 3 2) (lv s 5 2) > 64
      ·rw [if_neg d1,if_neg d1,if_pos d2,if_pos d2]
      ·rw [if_neg d1,if_neg d1,if_neg d2,if_neg d2,if_pos (by omega),if_pos (by omega),Int.toNat_natCast]
theorem head_is (s:ByteArray) (hs:s.size≤1000000) (k:Nat):pixel_head.f (k+6) s 0=some (hdr s):=by
 have L0:bits_Little.f (k+1+5) s 0 2=some (if 0+2≤s.size then (lv s 0 2,s,16,0) else (0,⟨#[]⟩,0,2)):=little_at s 0 2 0 rfl (by omega) hs (.inr rfl) (k+1)
 unfold pixel_head.f
 rw [show k+6=k+1+5 from rfl,L0,Option.bind_some]
 by_cases c2:s.size < 2
 ·rw [if_neg (show ¬ 0+2≤s.size by omega)]
  simp only
  rw [if_neg (by decide)]
  unfold hdr
  rw [if_pos c2]
 ·have L1:bits_Little.f (k+1+5) s 16 1=some (if 2+1≤s.size then (lv s 2 1,s,24,0) else (0,⟨#[]⟩,0,2)):=little_at s 2 1 16 rfl (by omega) hs (.inl rfl) (k+1)
  rw [if_pos (show 0+2≤s.size by omega)]
  simp only
  rw [if_pos trivial,L1,Option.bind_some]
  by_cases c3:s.size < 3
  ·rw [if_neg (show ¬ 2+1≤s.size by omega)]
   simp only
   rw [if_neg (by decide)]
   unfold hdr
   rw [if_neg c2,if_pos c3]
  ·rw [if_pos (show 2+1≤s.size by omega)]
   simp only
   rw [if_pos trivial]
   by_cases cf:lv s 2 1=3
   ·rw [if_pos cf]
    exact head_rest s hs k _ false (by omega) rfl (by rw [cf];rfl)
   ·rw [if_neg cf]
    exact head_rest s hs k _ _ (by omega) rfl (by simp [cf])
end Go.Proofs.Ytpbhkdamkbopkaa.Px
namespace Go.Proofs.Ytpbhkdamkbopkaa.Pure
set_option linter.unusedSimpArgs false
set_option linter.unusedVariables false
open Go.RowKit Go.Proofs.Ytpbhkdamkbopkaa.GPix Go.Proofs.Ytpbhkdamkbopkaa.GPixb Go.Proofs.Ytpbhkdamkbopkaa.PR Go.Proofs.Ytpbhkdamkbopkaa.Px Go.Proofs.YtpbhkdamkbopkaaW.PrintWords Go.Proofs.YtpbhkdamkbopkaaW.PrintLast Go.Proofs.YtpbhkdamkbopkaaW.PrintMore
open Go.Proofs.Ytpbhkdamkbopkaa.Inf (strOfNums_append bt_left bt_nums)
open Go.Proofs.Ytpbhkdamkbopkaa.GBack2 (inflate_Open.f)
theorem again_awake (k:Nat) (h:300≤k):celluloidlaw11_awake.f k=some true:=by
 obtain ⟨d,rfl⟩:∃ d,k=300+d:=⟨k - 300,by omega⟩
 exact celluloidlaw11_awake.more _ _ celluloidlaw11_awake.at_ d
/-- Equal bitmaps are told as such. -/
theorem equal_l0 (id w h:Int) (l:List S89) (hl:l.length≤1000000) (d:Nat):∀ (i k:Nat),i+d=l.length → celluloidref11_Equal.l0 (k+d+1) (i:Int) id w h l id w h l=some true:=by
 induction d with
 |zero=>intro i k hi;rw [celluloidref11_Equal.l0,if_neg (by omega)]
 |succ d ih =>
  intro i k hi
  have h1:=ih (i+1) k (by omega)
  have e:wrap64 ((i:Int)+1)=((i+1:Nat):Int):=by rw [wr (by omega) (by omega)];omega
  rw [show k+(d+1)+1=(k+d+1)+1 by omega,celluloidref11_Equal.l0,if_pos (by omega),if_pos (by omega),if_pos (by omega),if_neg (by simp),e]
  exact h1
theorem equal_is (id w h:Int) (l:List S89) (hl:l.length≤1000000) (k:Nat) (hk:l.length+2≤k):celluloidref11_Equal.f k id w h l id w h l=some true:=by
 obtain ⟨k1,rfl⟩:∃ k1,k=k1+l.length+1+1:=⟨k - l.length - 2,by omega⟩
 unfold celluloidref11_Equal.f
 have e:((l.length:Int) != (l.length:Int))=false:=bne_self_eq_false _
 rw [if_pos rfl,if_pos rfl,if_pos rfl,e,celluloidref11_Equal.j0,if_neg (by decide)]
 exact equal_l0 id w h l hl l.length 0 k1 (by omega)
end Go.Proofs.Ytpbhkdamkbopkaa.Pure
namespace Go.Proofs.Ytpbhkdamkbopkaa.Pure
set_option linter.unusedSimpArgs false
set_option linter.unusedVariables false
open Go.RowKit Go.Proofs.Ytpbhkdamkbopkaa.GPix Go.Proofs.Ytpbhkdamkbopkaa.GPixb Go.Proofs.Ytpbhkdamkbopkaa.PR Go.Proofs.Ytpbhkdamkbopkaa.Px Go.Proofs.YtpbhkdamkbopkaaW.PrintWords Go.Proofs.YtpbhkdamkbopkaaW.PrintLast Go.Proofs.YtpbhkdamkbopkaaW.PrintMore
open Go.Proofs.Ytpbhkdamkbopkaa.Inf (strOfNums_append bt_left bt_nums)
open Go.Proofs.Ytpbhkdamkbopkaa.GBack2 (inflate_Open.f)
abbrev TR:=Int × Int × Int × List S89 × Int
/-- What is told of any bytes: an error and no bitmap, or a right one. -/
theorem hdr_good (s:ByteArray):(hdr s).2.2.2.2.2.2=0 → 1≤(hdr s).2.1∧(hdr s).2.1≤64∧1≤(hdr s).2.2.1∧(hdr s).2.2.1≤64∧0≤(hdr s).2.2.2.2.1∧(hdr s).2.2.2.2.1≤256∧(hdr s).2.2.2.2.2.1.size≤s.size:=by
 have hm:∀ a b:Int,¬ mn a b < 1 → ¬ mx a b > 64 → 1≤a∧a≤64∧1≤b∧b≤64:=fun a b h1 h2=>by
  unfold mn at h1;unfold mx at h2
  split at h1 <;> split at h2 <;> omega
 have hb:=bt_range s 7
 have h7:lv s 7 1=bt s 7:=by unfold lv;rw [if_pos rfl];rfl
 have hz:∀ a,(s.extract a s.size).size≤s.size:=fun a=>by rw [ByteArray.size_extract];omega
 unfold hdr
 (repeat' split) <;> intro he
 all_goals first
  |exact absurd he (show ¬ ((2:Int)=0) by decide)
  |exact absurd he (show ¬ ((3:Int)=0) by decide)
  |exact absurd he (show ¬ ((7:Int)=0) by decide)
  |(have q:=hm _ _ (by assumption) (by assumption);refine ⟨q.1,q.2.1,q.2.2.1,q.2.2.2,?_,?_,hz _⟩ <;> simp only [h7] <;> omega)
theorem take_total (s:ByteArray) (hs:s.size≤1000000):Tot (fun r:TR=>(r.2.2.2.2=0∧rb r.1 r.2.1 r.2.2.1 r.2.2.2.1=true) ∨ (r.2.2.2.2 ≠ 0∧r=(0,0,0,[],r.2.2.2.2))) 262150 (fun k=>pixel_Take.f k s):=by
 have hg:=hdr_good s
 have hh:∀ k,262150≤k → pixel_head.f k s 0=some (hdr s):=fun k hk=>by
  obtain ⟨k1,rfl⟩:∃ k1,k=k1+6:=⟨k - 6,by omega⟩
  exact head_is s hs k1
 refine Tot.congr (fun k=>by unfold pixel_Take.f;exact rfl) ?_
 refine Tot.bind (Q1:=fun b=>b=hdr s) ⟨hdr s,rfl,hh⟩ fun b hb=>?_
 subst hb
 generalize hdr s=H at hg ⊢
 obtain ⟨id,w,h,l,m,rest,e⟩:=H
 simp only at hg ⊢
 refine Tot.ite (fun he=>?_) fun he=>Tot.now (.inr ⟨he,rfl⟩)
 obtain ⟨g1,g2,g3,g4,g5,g6,g7⟩:=hg he
 obtain ⟨w,rfl⟩:=Int.eq_ofNat_of_zero_le (show 0≤w by omega)
 obtain ⟨h,rfl⟩:=Int.eq_ofNat_of_zero_le (show 0≤h by omega)
 obtain ⟨m,rfl⟩:=Int.eq_ofNat_of_zero_le g5
 refine Tot.bind (open_total rest (by omega)) fun b hb=>?_
 obtain ⟨out,e2⟩:=b
 simp only at hb ⊢
 refine Tot.ite (fun _=>?_) fun he2=>Tot.now (.inr ⟨he2,rfl⟩)
 have fin:∀ p:List S89,Tot (fun r:TR=>(r.2.2.2.2=0∧rb r.1 r.2.1 r.2.2.1 r.2.2.2.1=true) ∨ (r.2.2.2.2 ≠ 0∧r=(0,0,0,[],r.2.2.2.2))) 262150 (fun k=>(pixel_Right.f k id (w:Int) (h:Int) p).bind fun t=>(if t=true then (some (id,(w:Int),(h:Int),p,0)) else (some (0,0,0,([]:List S89),3)))):=fun p=>by
  refine Tot.bind (Q1:=fun t=>t=rb id (w:Int) (h:Int) p) ⟨_,rfl,fun k hk=>?_⟩ fun t ht=>?_
  ·obtain ⟨k1,rfl⟩:∃ k1,k=k1+5:=⟨k - 5,by omega⟩
   exact right_is k1 id w h p
  ·subst ht
   exact Tot.ite (fun c=>Tot.now (.inl ⟨rfl,c⟩)) fun _=>Tot.now (.inr ⟨by decide,rfl⟩)
 refine Tot.ite (fun _=>?_) fun _=>?_
 ·refine Tot.bind (Tot.mono (numbered_total out m w h (by omega) (by omega) (by omega)) (by decide)) fun b _=>?_
  obtain ⟨p,ok⟩:=b
  simp only
  exact Tot.ite (fun _=>fin p) fun _=>Tot.now (.inr ⟨by decide,rfl⟩)
 ·have hwh:w*h≤64*64:=Nat.mul_le_mul (by omega) (by omega)
  have em:wrap64 ((w:Int)*(h:Int))=((w*h:Nat):Int):=by
   rw [show (w:Int)*(h:Int)=((w*h:Nat):Int) by omega];exact wr (by omega) (by omega)
  rw [em]
  refine Tot.bind (Q1:=fun _=>True) ⟨_,trivial,fun k hk=>plain_is out (w*h) (by omega) k (by omega)⟩ fun b _=>?_
  obtain ⟨p,ok⟩:=b
  simp only
  exact Tot.ite (fun _=>fin p) fun _=>Tot.now (.inr ⟨by decide,rfl⟩)
/-- What is written is taken as it was. -/
theorem hd7_rng (id w h:Int):∀ x ∈ hd7 id w h,0≤x∧x≤255:=by
 intro x hx
 unfold hd7 two at hx
 simp only [List.mem_append,List.mem_cons,List.not_mem_nil,or_false] at hx
 rcases hx with (rfl | rfl) | rfl | (rfl | rfl) | rfl | rfl <;> omega
theorem hdr_bmp (id w h:Int) (l:List S89) (h0:0≤id) (h1:id < 65536) (w0:1≤w) (w1:w≤64) (g0:1≤h) (g1:h≤64):hdr (bmp id w h l)=(id,w,h,[],0,clo (strOfNums (px l)),0):=by
 have z7:(strOfNums (hd7 id w h)).size=7:=rfl
 have hz:(bmp id w h l).size=7+(clo (strOfNums (px l))).size:=by unfold bmp;rw [ByteArray.size_append,z7]
 have hb:∀ j:Nat,j < 7 → bt (bmp id w h l) (j:Int)=(hd7 id w h).getD j 0:=fun j hj=>by
  unfold bmp
  rw [bt_left _ _ _ (by omega) (by rw [z7];omega)]
  exact bt_nums _ (hd7_rng id w h) j hj
 have b0:bt (bmp id w h l) ((0:Nat):Int)=id % 256:=hb 0 (by decide)
 have b1:bt (bmp id w h l) ((0+1:Nat):Int)=id / 256 % 256:=hb 1 (by decide)
 have b2:bt (bmp id w h l) ((2:Nat):Int)=5:=hb 2 (by decide)
 have b3:bt (bmp id w h l) ((3:Nat):Int)=w % 256:=hb 3 (by decide)
 have b4:bt (bmp id w h l) ((3+1:Nat):Int)=w / 256 % 256:=hb 4 (by decide)
 have b5:bt (bmp id w h l) ((5:Nat):Int)=h % 256:=hb 5 (by decide)
 have b6:bt (bmp id w h l) ((5+1:Nat):Int)=h / 256 % 256:=hb 6 (by decide)
 have l0:lv (bmp id w h l) 0 2=id:=by unfold lv;rw [if_neg (by decide),b0,b1];omega
 have l2:lv (bmp id w h l) 2 1=5:=by unfold lv;rw [if_pos rfl,b2]
 have l3:lv (bmp id w h l) 3 2=w:=by unfold lv;rw [if_neg (by decide),b3,b4];omega
 have l5:lv (bmp id w h l) 5 2=h:=by unfold lv;rw [if_neg (by decide),b5,b6];omega
 have hx:(bmp id w h l).extract 7 (bmp id w h l).size=clo (strOfNums (px l)):=by
  rw [hz]
  unfold bmp
  exact ByteArray.extract_append_eq_right (by rw [z7]) (by rw [z7])
 have hm1:¬ mn w h < 1:=by unfold mn;split <;> omega
 have hm2:¬ mx w h > 64:=by unfold mx;split <;> omega
 unfold hdr
 rw [l0,l2,l3,l5,if_neg (by omega),if_neg (by omega),if_neg (fun q=>q.2 rfl),if_neg (by omega),if_neg (by omega),if_neg (by decide),if_neg hm1,if_neg hm2,hx]
theorem take_back (id w h:Int) (l:List S89) (c:rb id w h l=true) (k:Nat) (hk:300000≤k):pixel_Take.f k (bmp id w h l)=some (id,w,h,l,0):=by
 have c2:=c
 unfold rb at c2
 rw [Bool.and_eq_true,decide_eq_true_eq] at c2
 obtain ⟨⟨c1,c2,c3,c4,c5,c6,c7⟩,c8⟩:=c2
 have hm:=side_mul ⟨c3,c4⟩ ⟨c5,c6⟩
 have hl:=px_len l
 have hz:(strOfNums (px l)).size=4*l.length:=by rw [strOfNums_size,hl]
 have hp:=packed_short (strOfNums (px l))
 have hc:=clo_size (strOfNums (px l))
 have z7:(strOfNums (hd7 id w h)).size=7:=rfl
 have hbz:(bmp id w h l).size≤1000000:=by unfold bmp;rw [ByteArray.size_append,z7];omega
 obtain ⟨k1,rfl⟩:∃ k1,k=k1+6:=⟨k - 6,by omega⟩
 unfold pixel_Take.f
 rw [head_is _ hbz,hdr_bmp id w h l c1 c2 c3 c4 c5 c6,Option.bind_some]
 simp only
 rw [if_pos trivial,back_open (strOfNums (px l)) (by omega) _ (by omega),Option.bind_some]
 simp only
 have hpl:pixel_plain.f (k1+6) (strOfNums (px l)) ((l.length:Nat):Int)=some (l,true):=by
  rw [plain_is _ l.length (by omega) _ (by omega),if_pos hz,pxs_back l c8]
 rw [if_pos trivial,if_neg (by decide),wr (by omega) (by omega),← c7,hpl,Option.bind_some]
 simp only
 rw [if_pos trivial,show k1+6=(k1+1)+5 from rfl,right_is,Option.bind_some,if_pos c]
theorem PixelAgain:celluloidlaw11_PixelAgain.Pure:=by
 intro s hs
 obtain ⟨K,hK⟩:∃ K:Nat,K=400000:=⟨_,rfl⟩
 have hw:=again_awake K (by omega)
 refine ⟨K,?_⟩
 unfold celluloidlaw11_PixelAgain.f
 by_cases c0:(s.size:Int) > 1024
 ·rw [if_pos c0,hw];rfl
 rw [if_neg c0]
 obtain ⟨r,hr,ht⟩:=take_total s (by omega)
 have ht2:pixel_Take.f K s=some r:=ht K (by omega)
 rw [ht2,Option.bind_some]
 obtain ⟨id,w,h,l,e⟩:=r
 simp only at hr ⊢
 unfold Go.Proofs.Ytpbhkdamkbopkaa.GPixb.celluloidlaw11_ref.f
 rcases hr with ⟨rfl,c⟩ | ⟨he,hr⟩
 ·have c2:=c
  unfold rb at c2
  rw [Bool.and_eq_true,decide_eq_true_eq] at c2
  obtain ⟨⟨c1,c2,c3,c4,c5,c6,c7⟩,c8⟩:=c2
  have hm:=side_mul ⟨c3,c4⟩ ⟨c5,c6⟩
  have hri:pixel_Right.f K id w h l=some true:=by
   rw [show K=(K - 5)+5 by omega,right_is,c]
  rw [if_pos rfl,put_is id w h l K (by omega),Option.bind_some,if_pos c]
  simp only
  rw [take_back id w h l c K (by omega),Option.bind_some,hri,Option.bind_some,if_pos rfl,if_pos trivial]
  simp only
  rw [if_pos trivial,Option.bind_some,Option.bind_some]
  simp only
  rw [equal_is id w h l (by omega) K (by omega),Option.bind_some,if_pos rfl,hw]
  rfl
 ·rw [if_neg he]
  simp only [Prod.mk.injEq] at hr
  obtain ⟨rfl,rfl,rfl,rfl,_⟩:=hr
  rw [Option.bind_some]
  simp only
  rw [equal_is 0 0 0 [] (by simp) K (by show 0+2≤_;omega),Option.bind_some,if_pos rfl,hw]
  rfl
end Go.Proofs.Ytpbhkdamkbopkaa.Pure
namespace Go.Proofs.Ytpbhkdamkbopkaa.Head
open Go
set_option maxRecDepth 100000
theorem order : Try.prog.initOrder = "harness a7c15820a2cb1018fe4759f7c25c13e6d005c23fb6069a0d0dcc8b91bc198833 cut at celluloid/celluloidlaw04.HuffCodes celluloid/celluloidlaw04.HuffReads celluloid/celluloidlaw04.HuffBack celluloid/celluloidlaw04.HuffFull celluloid/celluloidlaw04.HuffBits celluloid/celluloidlaw06.DeflateRuns celluloid/celluloidlaw06.DeflateFinds celluloid/celluloidlaw06.DeflatePlain celluloid/celluloidlaw06.DeflateRaw celluloid/celluloidlaw05.InflateRaw celluloid/celluloidlaw05.InflateOpens celluloid/celluloidlaw05.InflateStored celluloid/celluloidlaw05.InflateEnds celluloid/celluloidlaw05.InflateBlocks celluloid/celluloidlaw06.DeflateBack celluloid/celluloidlaw06.DeflateLong celluloid/celluloidlaw11.PixelPuts celluloid/celluloidlaw11.PixelTakes celluloid/celluloidlaw11.PixelAgain celluloid/celluloidlaw11.PixelPoints celluloid/celluloidlaw11.PixelTable celluloid/celluloidlaw11.PixelNames" := by kernel_rfl
/-- The signs behind the third word. -/
def rest:List Char:=['a','t',' ','c','e','l','l','u','l','o','i','d','/','c','e','l','l','u','l','o','i','d','l','a','w','0','4','.','H','u','f','f','C','o','d','e','s',' ','c','e','l','l','u','l','o','i','d','/','c','e','l','l','u','l','o','i','d','l','a','w','0','4','.','H','u','f','f','R','e','a','d','s',' ','c','e','l','l','u','l','o','i','d','/','c','e','l','l','u','l','o','i','d','l','a','w','0','4','.','H','u','f','f','B','a','c','k',' ','c','e','l','l','u','l','o','i','d','/','c','e','l','l','u','l','o','i','d','l','a','w','0','4','.','H','u','f','f','F','u','l','l',' ','c','e','l','l','u','l','o','i','d','/','c','e','l','l','u','l','o','i','d','l','a','w','0','4','.','H','u','f','f','B','i','t','s',' ','c','e','l','l','u','l','o','i','d','/','c','e','l','l','u','l','o','i','d','l','a','w','0','6','.','D','e','f','l','a','t','e','R','u','n','s',' ','c','e','l','l','u','l','o','i','d','/','c','e','l','l','u','l','o','i','d','l','a','w','0','6','.','D','e','f','l','a','t','e','F','i','n','d','s',' ','c','e','l','l','u','l','o','i','d','/','c','e','l','l','u','l','o','i','d','l','a','w','0','6','.','D','e','f','l','a','t','e','P','l','a','i','n',' ','c','e','l','l','u','l','o','i','d','/','c','e','l','l','u','l','o','i','d','l','a','w','0','6','.','D','e','f','l','a','t','e','R','a','w',' ','c','e','l','l','u','l','o','i','d','/','c','e','l','l','u','l','o','i','d','l','a','w','0','5','.','I','n','f','l','a','t','e','R','a','w',' ','c','e','l','l','u','l','o','i','d','/','c','e','l','l','u','l','o','i','d','l','a','w','0','5','.','I','n','f','l','a','t','e','O','p','e','n','s',' ','c','e','l','l','u','l','o','i','d','/','c','e','l','l','u','l','o','i','d','l','a','w','0','5','.','I','n','f','l','a','t','e','S','t','o','r','e','d',' ','c','e','l','l','u','l','o','i','d','/','c','e','l','l','u','l','o','i','d','l','a','w','0','5','.','I','n','f','l','a','t','e','E','n','d','s',' ','c','e','l','l','u','l','o','i','d','/','c','e','l','l','u','l','o','i','d','l','a','w','0','5','.','I','n','f','l','a','t','e','B','l','o','c','k','s',' ','c','e','l','l','u','l','o','i','d','/','c','e','l','l','u','l','o','i','d','l','a','w','0','6','.','D','e','f','l','a','t','e','B','a','c','k',' ','c','e','l','l','u','l','o','i','d','/','c','e','l','l','u','l','o','i','d','l','a','w','0','6','.','D','e','f','l','a','t','e','L','o','n','g',' ','c','e','l','l','u','l','o','i','d','/','c','e','l','l','u','l','o','i','d','l','a','w','1','1','.','P','i','x','e','l','P','u','t','s',' ','c','e','l','l','u','l','o','i','d','/','c','e','l','l','u','l','o','i','d','l','a','w','1','1','.','P','i','x','e','l','T','a','k','e','s',' ','c','e','l','l','u','l','o','i','d','/','c','e','l','l','u','l','o','i','d','l','a','w','1','1','.','P','i','x','e','l','A','g','a','i','n',' ','c','e','l','l','u','l','o','i','d','/','c','e','l','l','u','l','o','i','d','l','a','w','1','1','.','P','i','x','e','l','P','o','i','n','t','s',' ','c','e','l','l','u','l','o','i','d','/','c','e','l','l','u','l','o','i','d','l','a','w','1','1','.','P','i','x','e','l','T','a','b','l','e',' ','c','e','l','l','u','l','o','i','d','/','c','e','l','l','u','l','o','i','d','l','a','w','1','1','.','P','i','x','e','l','N','a','m','e','s']
theorem signs:Try.prog.initOrder.toList=['h','a','r','n','e','s','s'] ++ ' ' :: (['a','7','c','1','5','8','2','0','a','2','c','b','1','0','1','8','f','e','4','7','5','9','f','7','c','2','5','c','1','3','e','6','d','0','0','5','c','2','3','f','b','6','0','6','9','a','0','d','0','d','c','c','8','b','9','1','b','c','1','9','8','8','3','3'] ++ ' ' :: (['c','u','t'] ++ ' ' :: rest)):=by rw [order];exact String.toList_ofList
/-- The words: a word, and those behind its space. -/
theorem words_cut (r:List Char):∀ (w:List Char),(∀ c ∈ w,c ≠ ' ') → wordsSigns (w ++ ' ' :: r)=w :: wordsSigns r
 |[],_=>by simp [wordsSigns]
 |c :: w,h=>by
  have ih:=words_cut r w (fun x hx=>h x (List.mem_cons_of_mem _ hx))
  have hc:c ≠ ' ':=h c List.mem_cons_self
  rw [List.cons_append,wordsSigns.eq_3 _ _ hc,ih]
theorem words:behindMainWord (wordsSigns Try.prog.initOrder.toList)=['c','u','t'] :: wordsSigns rest:=by
 rw [signs,words_cut _ _ (by decide),words_cut _ _ (by decide),words_cut _ _ (by decide)]
 have h1 : ((['h', 'a', 'r', 'n', 'e', 's', 's'] == "harness".toList || ['h', 'a', 'r', 'n', 'e', 's', 's'] == "ownmain".toList) && isSumSigns ['a', '7', 'c', '1', '5', '8', '2', '0', 'a', '2', 'c', 'b', '1', '0', '1', '8', 'f', 'e', '4', '7', '5', '9', 'f', '7', 'c', '2', '5', 'c', '1', '3', 'e', '6', 'd', '0', '0', '5', 'c', '2', '3', 'f', 'b', '6', '0', '6', '9', 'a', '0', 'd', '0', 'd', 'c', 'c', '8', 'b', '9', '1', 'b', 'c', '1', '9', '8', '8', '3', '3']) = true := by decide +kernel
 unfold behindMainWord
 simp only [h1,if_true]
theorem g1 : (['c', 'u', 't'] == "gc".toList) = false := by decide +kernel
theorem g2 : (['c', 'u', 't'] == "spec".toList) = false := by decide +kernel
theorem g3 : (['c', 'u', 't'] == "cut".toList) = true := by decide +kernel
theorem g4 : (['c', 'u', 't'] == "carried".toList) = false := by decide +kernel
theorem lifts (rs:List (List Char)):stripLifts liftWords (['c','u','t'] :: rs)=([],['c','u','t'] :: rs):=by
 have h:liftWords.all (fun o=>!(['c','u','t'] == o.toList))=true:=by decide +kernel
 revert h
 generalize liftWords=os
 intro h
 induction os with
 |nil=>rfl
 |cons o os ih =>
  rw [List.all_cons,Bool.and_eq_true,Bool.not_eq_true'] at h
  rw [stripLifts.eq_3,if_neg (by rw [h.1];decide),ih h.2]
theorem make_of (P:Program) (rs:List (List Char)) (h:behindMainWord (wordsSigns P.initOrder.toList)=['c','u','t'] :: rs):P.make=some .cut:=by
 unfold Program.make
 rw [h]
 simp only [g1,g2,g3,Bool.false_or,Bool.true_or,if_true,Bool.false_eq_true,if_false]
theorem final_of (P:Program) (rs:List (List Char)) (h:behindMainWord (wordsSigns P.initOrder.toList)=['c','u','t'] :: rs):P.liftsFinal=false:=by
 unfold Program.liftsFinal Program.headLifts
 rw [h,lifts]
 rfl
theorem enters_of (P:Program) (rs:List (List Char)) (h:behindMainWord (wordsSigns P.initOrder.toList)=['c','u','t'] :: rs) (h1:P.laysLater=false) (h2:P.bearsReflect=false) (h3:P.doorFits []=true):P.mayEnter=true:=by
 unfold Program.mayEnter
 rw [h]
 dsimp only
 rw [lifts,h1,h2,h3]
 rfl
theorem make:Try.prog.make=some .cut:=make_of _ _ words
theorem final:Try.prog.liftsFinal=false:=final_of _ _ words
theorem later:Try.prog.laysLater=false:=by kernel_rfl
theorem reflect:Try.prog.bearsReflect=false:=by kernel_rfl
theorem door:Try.prog.doorFits []=true:=by kernel_rfl
theorem enters:Try.prog.mayEnter=true:=enters_of _ _ words later reflect door
end Go.Proofs.Ytpbhkdamkbopkaa.Head
